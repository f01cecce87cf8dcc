/-
  The walk of TallyFits.
-/
import Derived.Test.YthjkhoblafmibaaAlive
import Derived.Test.YthjkhoblafmibaaSlice
import Derived.Lib.MinMax
import Derived.Lib.Hide
namespace Go.Proofs.Ythjkhoblafmibaa
open Go.RowKit
set_option linter.unusedVariables false

/-- 'Spend' of whatever tally that counted so much: one answer, one count; the numbers are no longer looked into. -/
structure AnySpend (m c n E C : Int) : Prop where
  low : 0 ≤ C
  high : C ≤ m
  one : ∀ T w, TallyAt w T m c → Calls Try.prog 11 #[.pointer (some ⟨T, 0, none⟩), .int .i64 n] w fun e w' => e = .returned (.int .i64 E) ∧ TallyAt w' T m C ∧ Only T w w'
theorem anySpend (m c n : Int) (h0 : 0 ≤ c) (h1 : c ≤ m) (h2 : m ≤ 9223372036854775807) (hN : n ≤ 9223372036854775807) : ∃ E C, AnySpend m c n E C :=
  ⟨spendErr m c n, spendTo m c n, (spendTo_bd m c n h0 h1).1, (spendTo_bd m c n h0 h1).2, fun T w h => spend_is T m c n w h h0 h1 h2 hN⟩

set_option maxHeartbeats 400000 in
theorem fits_great (most M N : Int) (a1 : Option Addr) (len1 cap1 : Nat) (w : World) (hl : len1 ≤ cap1) (hc : cap1 ≤ maxLen) (hM : max 0 most = M) (hM0 : 0 ≤ M) (hM1 : M ≤ 9223372036854775807)
    (hN : M % 3000 = N) (hN0 : 0 ≤ N) (hN1 : N < 3000) (hgt : 200 < len1) :
    Calls Try.prog 5 #[.int .i64 most, .slice a1 len1 cap1] w fun e w' => e = .returned (.bool true) ∧ Below w.heap.size w w' := by
  unfold maxLen at hc
  go_enter Try.func5, Try.ntmps5
  go_wp2_with fail
  refine (new_made N hN0 _).mono ?_
  rintro e w1 ⟨rfl, t1, B1, z1⟩
  go_wp2_with fail
  refine (new_made N hN0 _).mono ?_
  rintro e w2 ⟨rfl, t2, B2, z2⟩
  have B2' := B1.trans (B2.mono (by omega))
  go_wp2_with fail
  refine (alive_any _).mono ?_
  rintro e w3 ⟨rfl, B3⟩
  have B3' := B2'.trans (B3.mono (by omega))
  go_wp2_with fail
  go_ret
  exact ⟨rfl, B3'⟩

set_option maxHeartbeats 1000000 in
theorem fits_any (most M N : Int) (a1 : Option Addr) (len1 cap1 : Nat) (zs : List Int) (w : World) (hl : len1 ≤ cap1) (hc : cap1 ≤ maxLen) (hM : max 0 most = M) (hM0 : 0 ≤ M) (hM1 : M ≤ 9223372036854775807)
    (hN : M % 3000 = N) (hN0 : 0 ≤ N) (hN1 : N < 3000) (hgt : len1 ≤ 200)
    (hcells : 0 < len1 → ∃ b off, a1 = some ⟨b, off, none⟩ ∧ ∀ i, i < len1 → w.cell? ⟨b, off + i, none⟩ = some (.int .u8 (zs.getD i 0))) (hz : ∀ i, 0 ≤ zs.getD i 0 ∧ zs.getD i 0 ≤ 255) :
    Calls Try.prog 5 #[.int .i64 most, .slice a1 len1 cap1] w fun e w' => e = .returned (.bool true) ∧ Below w.heap.size w w' := by
  unfold maxLen at hc
  have HC := Lib.hid hcells
  have HZ := Lib.hid hz
  clear hcells hz
  go_enter Try.func5, Try.ntmps5
  go_wp2_with fail
  refine (new_made N hN0 _).mono ?_
  rintro e w1 ⟨rfl, t1, B1, z1⟩
  go_wp2_with fail
  refine (new_made N hN0 _).mono ?_
  rintro e w2 ⟨rfl, t2, B2, z2⟩
  have t1' := t1.below B2 (by omega)
  have B2' := B1.trans (B2.mono (by omega))
  go_wp2_with fail
  refine (alive_any _).mono ?_
  rintro e w3 ⟨rfl, B3⟩
  have t1'' := t1'.below B3 (by omega)
  have t2'' := t2.below B3 (by omega)
  have B3' := B2'.trans (B3.mono (by omega))
  obtain ⟨T, hTe⟩ : ∃ T, T = w.heap.size := ⟨_, rfl⟩
  rw [z1] at t2''
  rw [← hTe] at t1'' t2'' B3' ⊢
  have hTw : w.heap.size ≤ T := by omega
  have hcellT : 0 < len1 → ∃ b off, a1 = some ⟨b, off, none⟩ ∧ b < T ∧ ∀ i, i < len1 → w.cell? ⟨b, off + i, none⟩ = some (.int .u8 (zs.getD i 0)) := fun h => by
    obtain ⟨b, off, e, h1⟩ := HC.out h
    exact ⟨b, off, e, by rw [hTe]; exact World.block_lt_of_cell? w ⟨b, off + 0, none⟩ (h1 0 h), h1⟩
  have HC' := Lib.hid hcellT
  clear hcellT HC hTe t1 B1 z1 t2 B2 z2 t1' B2' B3 hN hM
  go_wp2_with fail
  go_loopw [65] (fun i wr => ∃ (k : Nat) (c : Int), i = .int .i64 k ∧ k ≤ len1 ∧ 0 ≤ c ∧ c ≤ N ∧ TallyAt wr T N c ∧ TallyAt wr (T + 1) N c ∧ Below T w wr) (fun i _ => len1 - (intOf i).toNat)
  case atStart => exact ⟨0, 0, rfl, Nat.zero_le _, by omega, hN0, t1'', t2'', B3'⟩
  case round =>
    obtain ⟨k, c, rfl, hk, h0, h1, tA, tB, BB⟩ := hrel
    by_cases hlt : k < len1
    · obtain ⟨b, off, rfl, hbT, hcell⟩ := HC'.out (by omega)
      have hk1 : wr.cell? ⟨b, off + k, none⟩ = some (.int .u8 (zs.getD k 0)) := (BB.cell (p := ⟨b, off + k, none⟩) hbT).trans (hcell k (by omega))
      have hz1 := HZ.out k
      generalize zs.getD k 0 = n at hk1 hz1
      clear hcell
      obtain ⟨E, C, SS⟩ := anySpend N c n h0 h1 (by omega) (by omega)
      have C0 := SS.low
      have C1 := SS.high
      go_wp2_with fail
      refine (SS.one T _ tA).mono ?_
      rintro e wA ⟨rfl, tA2, oA⟩
      have tB2 := tB.only oA (by omega)
      go_wp2_with fail
      refine (SS.one (T + 1) _ tB2).mono ?_
      rintro e wB ⟨rfl, tB3, oB⟩
      have tA3 := tA2.only oB (by omega)
      go_wp2_with fail
      exact ⟨⟨k + 1, C, by go_num, by omega, C0, C1, tA3, tB3, (BB.trans (oA.below (Nat.le_refl _))).trans (oB.below (by omega))⟩, by simp [intOf]; omega⟩
    · clear HC' HZ
      go_wp2_with fail
      refine (left_is T N c _ tA h0 h1 (by omega)).mono ?_
      rintro e wA ⟨rfl, tA2, oA⟩
      have tB2 := tB.only oA (by omega)
      have BA := BB.trans (oA.below (Nat.le_refl _))
      go_wp2_with fail
      refine (spend_fits T N c (N - c) _ tA2 h0 h1 (by omega) (by omega) (by omega)).mono ?_
      rintro e wB ⟨rfl, tA3, oB⟩
      have tB3 := tB2.only oB (by omega)
      have BB2 := BA.trans (oB.below (Nat.le_refl _))
      have eN : c + (N - c) = N := by omega
      rw [eN] at tA3
      clear eN
      go_wp2_with fail
      refine (left_is T N N _ tA3 hN0 (Int.le_refl _) (by omega)).mono ?_
      rintro e wC ⟨rfl, tA4, oC⟩
      have tB4 := tB3.only oC (by omega)
      have BC := BB2.trans (oC.below (Nat.le_refl _))
      go_wp2_with fail
      clear tA tA2 tB tB2 tB3 oA oB oC BA BB BB2 tA3 t1'' t2'' B3' hgt hl hc hk hlt
      go_loopw [100] (fun i wr => ∃ (j : Nat), i = .int .i64 j ∧ (j : Int) ≤ N - c ∧ TallyAt wr T N N ∧ TallyAt wr (T + 1) N (c + j) ∧ Below T w wr) (fun i _ => (N - c - intOf i).toNat)
      case atStart => exact ⟨0, rfl, by omega, tA4, by simpa using tB4, BC⟩
      case round =>
        obtain ⟨j, rfl, hj, tA, tB, BB⟩ := hrel
        by_cases hlt : (j : Int) < N - c
        · go_wp2_with fail
          refine (spend_fits (T + 1) N (c + j) 1 _ tB (by omega) (by omega) (by omega) (by omega) (by omega)).mono ?_
          rintro e wA ⟨rfl, tB2, oA⟩
          have tA2 := tA.only oA (by omega)
          go_wp2_with fail
          exact ⟨⟨j + 1, by go_num, by omega, tA2, by rw [show c + ((j + 1 : Nat) : Int) = c + j + 1 from by omega]; exact tB2, BB.trans (oA.below (by omega))⟩, by simp [intOf]; omega⟩
        · have ej : c + (j : Int) = N := by omega
          rw [ej] at tB
          clear ej
          go_wp2_with fail
          refine (count_any T N N _ tA).mono ?_
          rintro e wA ⟨rfl, rfl⟩
          go_wp2_with fail
          refine (count_any (T + 1) N N _ tB).mono ?_
          rintro e wA ⟨rfl, rfl⟩
          go_wp2_with fail
          refine (spend_cap (T + 1) N N 1 _ tB hN0 (Int.le_refl _) (by omega) (by omega) (by omega) (by omega)).mono ?_
          rintro e wA ⟨rfl, rfl⟩
          go_wp2_with fail
          refine (spend_cap T N N 1 _ tA hN0 (Int.le_refl _) (by omega) (by omega) (by omega) (by omega)).mono ?_
          rintro e wA ⟨rfl, rfl⟩
          go_wp2_with fail
          go_ret
          exact ⟨rfl, BB.mono hTw⟩
end Go.Proofs.Ythjkhoblafmibaa
