/-
  The walk of TallyOnce.
-/
import Derived.Test.YthjkhoblafmibaaInts
import Derived.Lib.MinMax
import Derived.Lib.Hide
import Derived.Deep.QuietTactic
import Derived.BigQuiet
namespace Go.Proofs.Ythjkhoblafmibaa
open Go.RowKit
set_option linter.unusedVariables false

/-- After so many questions: none yet, or the list is made, once. -/
def Asked (w : World) (T : Nat) (x : Int) (k : Nat) : Prop :=
  (k = 0 ∧ LazyAt w (T + 1 + 1) 0 (mk16 ⟨T + 1, 0, none⟩ ⟨T, 0, none⟩) (.slice none 0 0) 0 ∧ w.cell? ⟨T + 1, 0, none⟩ = some (.int .i64 0) ∧ w.cell? ⟨T, 0, none⟩ = some (.int .i64 x) ∧ w.frozen? ⟨T + 1, 0, none⟩ = false) ∨
  (0 < k ∧ ∃ n, T + 1 + 1 < n ∧ LazyAt w (T + 1 + 1) 1 (mk16 ⟨T + 1, 0, none⟩ ⟨T, 0, none⟩) (.slice (some ⟨n, 0, none⟩) 2 2) 1 ∧ TwoAt w n x ⟨T + 1, 0, none⟩ ⟨T, 0, none⟩)

/-- What 'Get' answers and leaves, asked for whichever time. -/
def GetPost (T : Nat) (x : Int) (w : World) (e : Ending) (w' : World) : Prop :=
  ∃ n, T + 1 + 1 < n ∧ e = .returned (.slice (some ⟨n, 0, none⟩) 2 2) ∧ LazyAt w' (T + 1 + 1) 1 (mk16 ⟨T + 1, 0, none⟩ ⟨T, 0, none⟩) (.slice (some ⟨n, 0, none⟩) 2 2) 1 ∧ TwoAt w' n x ⟨T + 1, 0, none⟩ ⟨T, 0, none⟩ ∧ Below T w w'

theorem get_any (T : Nat) (x : Int) (k : Nat) (w : World) (h : Asked w T x k) : Calls Try.prog 18 #[.pointer (some ⟨T + 1 + 1, 0, none⟩)] w (GetPost T x w) := by
  rcases h with ⟨_, hl, hm, hx, hz⟩ | ⟨_, n, hn, hl, ht⟩
  · have hb := hl.lt
    refine (get_two (T + 1 + 1) ⟨T + 1, 0, none⟩ ⟨T, 0, none⟩ x w hl hm hx hz (by simp) (by simp) (by simp; omega)).mono ?_
    rintro e w' ⟨rfl, h1, h2, h3⟩
    exact ⟨_, by omega, rfl, h1, h2, h3.below (by omega) (fun k hk => by rcases hk with h | h <;> (try simp only at h) <;> omega)⟩
  · have hb := hl.lt
    refine (get_two_again (T + 1 + 1) _ .nilFunc n w hl).mono ?_
    rintro e w' ⟨rfl, h1, h2⟩
    exact ⟨n, hn, rfl, h1, ht.turned h2 (fun h => h) (fun h => h) (fun h => h), h2.below (by omega) (fun k hk => hk.elim)⟩

set_option maxHeartbeats 1000000 in
theorem once_any (x asks M N : Int) (w : World) (hM : max 0 asks = M) (hM0 : 0 ≤ M) (hM1 : M ≤ 9223372036854775807) (hN : M % 50 = N) (hN0 : 0 ≤ N) (hN1 : N < 50) :
    Calls Try.prog 6 #[.int .i64 x, .int .i64 asks] w fun e w' => e = .returned (.bool true) ∧ Below w.heap.size w w' := by
  have hmf : ∀ (fn : Fn) (first cap : Array Value) (w : World), (Instr.makeFunc fn first cap).run Try.prog w = .ok (.func fn first cap) w := fun _ _ _ _ => rfl
  go_enter Try.func6, Try.ntmps6
  go_wp2_with fail
  have hA : ((w.alloc (.cells #[.int .i64 x] 3)).alloc (.cells #[.int .i64 0] 3)).cell? ⟨w.heap.size, 0, none⟩ = some (.int .i64 x) := by
    rw [World.cell?_alloc_past _ _ _ (by simp)]; simp
  have hB : ((w.alloc (.cells #[.int .i64 x] 3)).alloc (.cells #[.int .i64 0] 3)).cell? ⟨w.heap.size + 1, 0, none⟩ = some (.int .i64 0) := by
    have hn := fun W1 : World => (show (W1.alloc (.cells #[.int .i64 0] 3)).cell? ⟨W1.heap.size, 0, none⟩ = some (.int .i64 0) by simp)
    have := hn (w.alloc (.cells #[.int .i64 x] 3))
    rwa [World.size_alloc] at this
  have hF : ((w.alloc (.cells #[.int .i64 x] 3)).alloc (.cells #[.int .i64 0] 3)).frozen? ⟨w.heap.size + 1, 0, none⟩ = false := by
    have hn := fun W1 : World => (show (W1.alloc (.cells #[.int .i64 0] 3)).frozen? ⟨W1.heap.size, 0, none⟩ = false by simp)
    have := hn (w.alloc (.cells #[.int .i64 x] 3))
    rwa [World.size_alloc] at this
  have BB : Below w.heap.size w ((w.alloc (.cells #[.int .i64 x] 3)).alloc (.cells #[.int .i64 0] 3)) := ((Below.refl _ _).alloc (Nat.le_refl _) _).alloc (by simp) _
  have hS : ((w.alloc (.cells #[.int .i64 x] 3)).alloc (.cells #[.int .i64 0] 3)).heap.size = w.heap.size + 1 + 1 := by simp
  generalize (w.alloc (.cells #[.int .i64 x] 3)).alloc (.cells #[.int .i64 0] 3) = w1 at hA hB hF BB hS ⊢
  obtain ⟨T, hTe⟩ : ∃ T, T = w.heap.size := ⟨_, rfl⟩
  rw [← hTe] at hA hB hF BB hS ⊢
  have hTw : w.heap.size ≤ T := by omega
  clear hTe
  refine (later_two ⟨T + 1, 0, none⟩ ⟨T, 0, none⟩ _).mono ?_
  rintro e w2 ⟨rfl, l2, B2, z2⟩
  rw [hS] at l2 B2 z2 ⊢
  have hA2 := (B2.cell (p := ⟨T, 0, none⟩) (by simp; omega)).trans hA
  have hB2 := (B2.cell (p := ⟨T + 1, 0, none⟩) (by simp)).trans hB
  have hF2 := (B2.frozen (p := ⟨T + 1, 0, none⟩) (by simp)).trans hF
  have BB2 := BB.trans (B2.mono (by omega))
  clear hA hB hF BB hS
  go_wp2_with fail
  refine (alive_any _).mono ?_
  rintro e w3 ⟨rfl, B3⟩
  have l3 := l2.below B3 (by omega)
  have hA3 := (B3.cell (p := ⟨T, 0, none⟩) (by simp; omega)).trans hA2
  have hB3 := (B3.cell (p := ⟨T + 1, 0, none⟩) (by simp; omega)).trans hB2
  have hF3 := (B3.frozen (p := ⟨T + 1, 0, none⟩) (by simp; omega)).trans hF2
  have BB3 := BB2.trans (B3.mono (by omega))
  clear l2 B2 z2 hA2 hB2 hF2 BB2 B3
  go_wp2_with fail
  refine (made_two _ _ _ _ _ _ l3).mono ?_
  rintro e w4 ⟨rfl, rfl⟩
  go_wp2_with fail
  have A0 : Asked w3 T x 0 := Or.inl ⟨rfl, l3, hB3, hA3, hF3⟩
  clear l3 hB3 hA3 hF3 hM hN
  go_loopw [29] (fun i wr => ∃ (k : Nat), i = .int .i64 k ∧ (k : Int) ≤ N ∧ Asked wr T x k ∧ Below T w wr) (fun i _ => (N - intOf i).toNat)
  case atStart => exact ⟨0, rfl, by omega, A0, BB3⟩
  case round =>
    obtain ⟨k, rfl, hk, A, BB⟩ := hrel
    have HA := Lib.hid A
    clear A
    by_cases hlt : (k : Int) < N
    · go_wp2_with fail
      refine (get_any T x k _ HA.out).mono ?_
      rintro e wA ⟨n, hn, rfl, lA, tA, BA⟩
      have c1 := tA.first
      have c2 := tA.second
      have c3 := tA.arg
      have BC := BB.trans BA
      go_wp2_with fail
      go_quiet (fail)
      have TA : Turned (fun _ => False) wA (wA.drewN nq) := ⟨rfl, rfl, rfl, Nat.le_refl _, fun _ _ _ => rfl⟩
      go_wp2_with fail
      exact ⟨⟨k + 1, by go_num, by omega, Or.inr ⟨by omega, n, hn, lA.turned TA (fun h => h), tA.turned TA (fun h => h) (fun h => h) (fun h => h)⟩, below_drewN BC _⟩, by simp [intOf]; omega⟩
    · rcases HA.out with ⟨h0, lA, hm, hx, hz⟩ | ⟨h0, n, hn, lA, tA⟩
      · have hN2 : (N == 0) = true := by simp; omega
        clear h0
        go_wp2_with fail
        refine (made_two _ _ _ _ _ _ lA).mono ?_
        rintro e w4 ⟨rfl, rfl⟩
        go_wp2_with fail
        go_ret
        exact ⟨rfl, BB.mono hTw⟩
      · have hN2 : (N == 0) = false := by simp; omega
        have c3 := tA.count
        go_wp2_with fail
        refine (made_two _ _ _ _ _ _ lA).mono ?_
        rintro e w4 ⟨rfl, rfl⟩
        go_wp2_with fail
        go_ret
        exact ⟨rfl, BB.mono hTw⟩
end Go.Proofs.Ythjkhoblafmibaa
