/-
  The walk of TallyOrders.
-/
import Derived.Test.YthjkhoblafmibaaAlive
import Derived.Test.YthjkhoblafmibaaSlice
import Derived.Test.YthjkhoblafmibaaSums
import Derived.Lib.MinMax
import Derived.Lib.Hide
import Derived.Deep.Cut
import Derived.Deep.CutRange
namespace Go.Proofs.Ythjkhoblafmibaa
open Go.RowKit
set_option linter.unusedVariables false

set_option maxHeartbeats 400000 in
theorem orders_any (turn : Int) (a0 : Option Addr) (len0 cap0 L : Nat) (zs : List Int) (w : World) (hl : len0 ≤ cap0) (hc : cap0 ≤ maxLen) (hL : min (len0 : Int) 200 = (L : Int)) (hLl : L ≤ len0) (hL2 : L ≤ 200)
    (ht0 : -9223372036854775808 ≤ turn) (ht1 : turn ≤ 9223372036854775807)
    (hcells : 0 < len0 → ∃ b off, a0 = some ⟨b, off, none⟩ ∧ ∀ i, i < len0 → w.cell? ⟨b, off + i, none⟩ = some (.int .u8 (zs.getD i 0))) (hz : ∀ i, 0 ≤ zs.getD i 0 ∧ zs.getD i 0 ≤ 255) :
    Calls Try.prog 4 #[.slice a0 len0 cap0, .int .i64 turn] w fun e w' => e = .returned (.bool true) ∧ Below w.heap.size w w' := by
  unfold maxLen at hc
  have HC := Lib.hid hcells
  have HZ := Lib.hid hz
  clear hcells hz
  go_enter Try.func4, Try.ntmps4
  go_wp2_with fail
  go_loop [5, 22] (fun s i => ∃ k : Nat, k ≤ L ∧ i = .int .i64 k ∧ s = .int .i64 (sm zs k)) (fun _ i => L - (intOf i).toNat)
  case atStart => exact ⟨0, Nat.zero_le _, rfl, rfl⟩
  case round =>
    obtain ⟨k, hk, rfl, rfl⟩ := hrel
    have hs := sm_le zs HZ.out k
    by_cases hlt : k < L
    · obtain ⟨b, off, rfl, hcell⟩ := HC.out (by omega)
      have hk1 := hcell k (by omega)
      have hz1 := HZ.out k
      have HS := Lib.hid (sm_succ zs k)
      generalize zs.getD k 0 = n at hk1 hz1 HS
      clear hcell
      generalize hsk : sm zs k = s at hs HS
      go_wp2_with fail
      exact ⟨⟨k + 1, by omega, by go_num, by rw [HS.out]⟩, by simp [intOf]; omega⟩
    · obtain rfl : k = L := by omega
      have hS0 : 0 ≤ sm zs k := hs.1
      have hS1 : sm zs k ≤ 255 * k := hs.2
      have HT := Lib.hid hs
      clear hs hlt
      obtain ⟨S, hSe⟩ : ∃ S, S = sm zs k := ⟨_, rfl⟩
      rw [← hSe] at hS0 hS1 ⊢
      have HSe := Lib.hid hSe
      clear hSe
      go_wp2_with fail
      refine (new_made S hS0 _).mono ?_
      rintro e w1 ⟨rfl, t1, B1, z1⟩
      go_wp2_with fail
      refine (new_made S hS0 _).mono ?_
      rintro e w2 ⟨rfl, t2, B2, z2⟩
      have t1' := t1.below B2 (by omega)
      have B2' := B1.trans (B2.mono (by omega))
      go_wp2_with fail
      refine (alive_any _).mono ?_
      rintro e w3 ⟨rfl, B3⟩
      have t1'' := t1'.below B3 (by omega)
      have t2'' := t2.below B3 (by omega)
      have B3' := B2'.trans (B3.mono (by omega))
      obtain ⟨T, hTe⟩ : ∃ T, T = w.heap.size := ⟨_, rfl⟩
      rw [z1] at t2''
      rw [← hTe] at t1'' t2'' B3' ⊢
      have hTw : w.heap.size ≤ T := by omega
      have hcellT : 0 < len0 → ∃ b off, a0 = some ⟨b, off, none⟩ ∧ b < T ∧ ∀ i, i < len0 → w.cell? ⟨b, off + i, none⟩ = some (.int .u8 (zs.getD i 0)) := fun h => by
        obtain ⟨b, off, e, h1⟩ := HC.out h
        exact ⟨b, off, e, by rw [hTe]; exact World.block_lt_of_cell? w ⟨b, off + 0, none⟩ (h1 0 h), h1⟩
      have HC' := Lib.hid hcellT
      clear hcellT HC hTe t1 B1 z1 t2 B2 z2 t1' B2' B3
      have hu : ∃ u : Nat, IntKind.u64.wrap turn = (u : Int) ∧ u ≤ 18446744073709551615 := ⟨(IntKind.u64.wrap turn).toNat, by rw [IntKind.wrap_u64]; omega, by rw [IntKind.wrap_u64]; omega⟩
      obtain ⟨u, hu, hu1⟩ := hu
      have HU := Lib.hid hu
      clear hu
      obtain ⟨r, hr⟩ : ∃ r, r = u % k := ⟨_, rfl⟩
      have HR := Lib.hid hr
      clear hr
      have h00 := rv_zero zs k r
      have H00 := Lib.hid h00
      clear h00
      go_wp2_with fail
      go_loopw [61] (fun i wr => ∃ (j : Nat), i = .int .i64 j ∧ j ≤ k ∧ TallyAt wr T S (sm zs j) ∧ TallyAt wr (T + 1) S (rv zs k r j) ∧ Below T w wr) (fun i _ => k - (intOf i).toNat)
      case atStart => exact ⟨0, rfl, Nat.zero_le _, t1'', by rw [H00.out]; exact t2'', B3'⟩
      case round =>
        obtain ⟨j, rfl, hj, tA, tB, BB⟩ := hrel
        by_cases hlt : j < k
        · obtain ⟨b, off, rfl, hbT, hcell⟩ := HC'.out (by omega)
          have hk1 : wr.cell? ⟨b, off + j, none⟩ = some (.int .u8 (zs.getD j 0)) := (BB.cell (p := ⟨b, off + j, none⟩) hbT).trans (hcell j (by omega))
          have hz1 := HZ.out j
          have hu := HU.out
          have hcellw : ∀ i, i < len0 → wr.cell? ⟨b, off + i, none⟩ = some (.int .u8 (zs.getD i 0)) := fun i hi => (BB.cell (p := ⟨b, off + i, none⟩) hbT).trans (hcell i hi)
          clear hcell
          have hk0 : (0 : Int) < k := by omega
          have hr : (u : Int) % (k : Int) = (r : Int) := by rw [HR.out]; omega
          have hr1 : r < k := by rw [HR.out]; exact Nat.mod_lt _ (by omega)
          have hp0 : (0 : Int) ≤ (k : Int) - 1 - j + r := by omega
          obtain ⟨f, hf, hf1⟩ : ∃ f : Nat, ((k : Int) - 1 - j + r) % (k : Int) = (f : Int) ∧ f < k := ⟨(((k : Int) - 1 - j + r) % (k : Int)).toNat, by have := Int.emod_nonneg ((k : Int) - 1 - j + r) (show (k : Int) ≠ 0 by omega); omega, by have := Int.emod_lt_of_pos ((k : Int) - 1 - j + r) hk0; omega⟩
          have hf2 : ((k : Int) - 1 - j + r).tmod (k : Int) = (f : Int) := by rw [Int.tmod_eq_emod_of_nonneg hp0]; exact hf
          have hk2 := hcellw f (by omega)
          have hz2 := HZ.out f
          have ha1 := sm_le zs HZ.out j
          have ha2 := sm_up zs HZ.out (show j + 1 ≤ k by omega)
          have HA := Lib.hid (sm_succ zs j)
          have hb1 := rv_le zs HZ.out k r j hr1 (by omega)
          have hb2 := rv_le zs HZ.out k r (j + 1) hr1 (by omega)
          have HB := Lib.hid (rv_succ zs k r j f hr1 hlt hf)
          have hA2 : sm zs j + zs.getD j 0 ≤ S := by rw [HSe.out, ← HA.out]; exact ha2
          have hB2 : rv zs k r j + zs.getD f 0 ≤ S := by rw [HSe.out, ← HB.out]; exact hb2.2
          have hb3 : rv zs k r j ≤ S := by omega
          have ha3 : sm zs j ≤ S := by omega
          generalize zs.getD f 0 = n2 at hk2 hz2 HB hB2
          generalize zs.getD j 0 = n at hk1 hz1 HA hA2
          have ha0 := ha1.1
          have hb0 := hb1.1
          clear hcellw ha1 ha2 hb1 hb2
          go_upto_region 16 with (fail)
          clear hr hf hf2 hk1 hk2
          go_wp2_with fail
          refine (spend_fits T S (sm zs j) n _ tA ha0 ha3 (by omega) hz1.1 (by omega)).mono ?_
          rintro e wA ⟨rfl, tA2, oA⟩
          have tB2 := tB.only oA (by omega)
          go_wp2_with fail
          refine (spend_fits (T + 1) S (rv zs k r j) n2 _ tB2 hb0 hb3 (by omega) hz2.1 (by omega)).mono ?_
          rintro e wB ⟨rfl, tB3, oB⟩
          have tA3 := tA2.only oB (by omega)
          go_wp2_with fail
          exact ⟨⟨j + 1, by go_num, by omega, by rw [HA.out]; exact tA3, by rw [HB.out]; exact tB3, (BB.trans (oA.below (Nat.le_refl _))).trans (oB.below (by omega))⟩, by simp [intOf]; omega⟩
        · obtain rfl : j = k := by omega
          have hrv : rv zs j r j = S := by
            by_cases h0 : j = 0
            · subst h0; rw [H00.out, HSe.out]; rfl
            · rw [HSe.out]; exact rv_end zs j r (by rw [HR.out]; exact Nat.mod_lt _ (by omega))
          rw [hrv] at tB
          rw [← HSe.out] at tA
          clear hrv
          go_wp2_with fail
          refine (count_any T S S _ tA).mono ?_
          rintro e wA ⟨rfl, rfl⟩
          go_wp2_with fail
          refine (count_any (T + 1) S S _ tB).mono ?_
          rintro e wA ⟨rfl, rfl⟩
          go_wp2_with fail
          refine (left_is T S S _ tA hS0 (Int.le_refl _) (by omega)).mono ?_
          rintro e wA ⟨rfl, tA2, oA⟩
          have tB2 := tB.only oA (by omega)
          go_wp2_with fail
          refine (spend_cap T S S 1 _ tA2 hS0 (Int.le_refl _) (by omega) (by omega) (by omega) (by omega)).mono ?_
          rintro e wB ⟨rfl, rfl⟩
          go_wp2_with fail
          refine (spend_fits T S S 0 _ tA2 hS0 (Int.le_refl _) (by omega) (by omega) (by omega)).mono ?_
          rintro e wB ⟨rfl, tA3, oB⟩
          go_wp2_with fail
          refine (spend_arg (T + 1) (-1) _ (by omega)).mono ?_
          rintro e wC ⟨rfl, rfl⟩
          go_wp2_with fail
          go_ret
          exact ⟨rfl, ((BB.trans (oA.below (Nat.le_refl _))).trans (oB.below (Nat.le_refl _))).mono hTw⟩
end Go.Proofs.Ythjkhoblafmibaa
