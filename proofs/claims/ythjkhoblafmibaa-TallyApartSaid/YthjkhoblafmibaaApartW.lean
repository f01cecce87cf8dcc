/-
  The walk of TallyApart.
-/
import Derived.Test.YthjkhoblafmibaaStrs
import Derived.Test.YthjkhoblafmibaaSlice
import Derived.Test.YthjkhoblafmibaaSums
import Derived.Lib.MinMax
import Derived.Lib.Hide
import Derived.Lib.RabinKarpLaws
namespace Go.Proofs.Ythjkhoblafmibaa
open Go.RowKit
set_option linter.unusedVariables false

set_option maxHeartbeats 1000000 in
theorem apart_any (a0 : Option Addr) (len0 cap0 L : Nat) (zs : List Int) (w : World) (hl : len0 ≤ cap0) (hc : cap0 ≤ maxLen) (hL : min (len0 : Int) 100 = (L : Int)) (hLl : L ≤ len0) (hL2 : L ≤ 100)
    (hcells : 0 < len0 → ∃ b off, a0 = some ⟨b, off, none⟩ ∧ ∀ i, i < len0 → w.cell? ⟨b, off + i, none⟩ = some (.int .u8 (zs.getD i 0))) (hz : ∀ i, 0 ≤ zs.getD i 0 ∧ zs.getD i 0 ≤ 255) :
    Calls Try.prog 8 #[.slice a0 len0 cap0] w fun e w' => e = .returned (.bool true) ∧ Below w.heap.size w w' := by
  unfold maxLen at hc
  have HC := Lib.hid hcells
  have HZ := Lib.hid hz
  clear hcells hz
  go_enter Try.func8, Try.ntmps8
  go_wp2_with fail
  refine (new_made 1048576 (by omega) _).mono ?_
  rintro e w1 ⟨rfl, t1, B1, z1⟩
  go_wp2_with fail
  refine (new_made 1048576 (by omega) _).mono ?_
  rintro e w2 ⟨rfl, t2, B2, z2⟩
  have t1' := t1.below B2 (by omega)
  have B2' := B1.trans (B2.mono (by omega))
  go_wp2_with fail
  refine (later_str 25 _).mono ?_
  rintro e w3 ⟨rfl, l3, B3, z3⟩
  have t1'' := t1'.below B3 (by omega)
  have t2'' := t2.below B3 (by omega)
  have B3' := B2'.trans (B3.mono (by omega))
  go_wp2_with fail
  refine (later_str 26 _).mono ?_
  rintro e w4 ⟨rfl, m4, B4, z4⟩
  have t14 := t1''.below B4 (by omega)
  have t24 := t2''.below B4 (by omega)
  have l4 := l3.below B4 (by omega)
  have B4' := B3'.trans (B4.mono (by omega))
  go_wp2_with fail
  refine (alive_any _).mono ?_
  rintro e w5 ⟨rfl, B5⟩
  have t15 := t14.below B5 (by omega)
  have t25 := t24.below B5 (by omega)
  have l5 := l4.below B5 (by omega)
  have m5 := m4.below B5 (by omega)
  have B5' := B4'.trans (B5.mono (by omega))
  have z5 := B5.size
  rw [z1] at t25
  rw [z2, z1] at l5
  rw [z3, z2, z1] at m5
  have z6 : w.heap.size + 1 + 1 + 1 < w5.heap.size := by omega
  obtain ⟨T, hTe⟩ : ∃ T, T = w.heap.size := ⟨_, rfl⟩
  rw [← hTe] at t15 t25 l5 m5 B5' z6
  have hTw : w.heap.size ≤ T := by omega
  have hcellT : 0 < len0 → ∃ b off, a0 = some ⟨b, off, none⟩ ∧ b < T ∧ ∀ i, i < len0 → w.cell? ⟨b, off + i, none⟩ = some (.int .u8 (zs.getD i 0)) := fun h => by
    obtain ⟨b, off, e, h1⟩ := HC.out h
    exact ⟨b, off, e, by rw [hTe]; exact World.block_lt_of_cell? w ⟨b, off + 0, none⟩ (h1 0 h), h1⟩
  have HC' := Lib.hid hcellT
  clear hcellT HC t1 B1 t2 B2 t1' B2' l3 B3 t1'' t2'' B3' m4 B4 t14 t24 l4 B4' B5 z5
  go_wp2_with fail
  rw [← hTe]
  clear hTe z1 z2 z3 z4
  refine (get_str (T + 1 + 1) 25 ⟨#[120]⟩ _ l5 (fun w => by kernel_rfl) make25).mono ?_
  rintro e w6 ⟨rfl, l6, u6⟩
  have t16 := t15.below (u6.below (B := T + 1 + 1) (by omega) (fun k e => by omega)) (by omega)
  have t26 := t25.below (u6.below (B := T + 1 + 1) (by omega) (fun k e => by omega)) (by omega)
  have m6 := m5.turned u6 (by omega)
  have B6 := B5'.trans (u6.below (by omega) (fun k e => by omega))
  have z7 := u6.size
  go_wp2_with fail
  refine (made_str _ _ _ _ _ _ m6).mono ?_
  rintro e w7 ⟨rfl, rfl⟩
  have h00 : ev zs 0 = 0 := rfl
  have h01 : od zs 0 = 0 := rfl
  have t16' : TallyAt w6 T 1048576 (ev zs 0) := by rw [h00]; exact t16
  have t26' : TallyAt w6 (T + 1) 1048576 (od zs 0) := by rw [h01]; exact t26
  clear h00 h01 t15 t25 l5 m5 u6 B5' t16 t26
  have z8 : T + 1 + 1 + 1 < w6.heap.size := by omega
  clear z6 z7
  go_wp2_with fail
  go_loopw [9, 10, 66] (fun s o i wr => ∃ (k : Nat), i = .int .i64 k ∧ k ≤ L ∧ s = .int .i64 (ev zs k) ∧ o = .int .i64 (od zs k) ∧ TallyAt wr T 1048576 (ev zs k) ∧ TallyAt wr (T + 1) 1048576 (od zs k) ∧ LazyAt wr (T + 1 + 1) 1 (.func (.func 25) #[] #[]) (.string ⟨#[120]⟩) 1 ∧ LazyAt wr (T + 1 + 1 + 1) 0 (.func (.func 26) #[] #[]) (.string ByteArray.empty) 0 ∧ Below T w wr) (fun _ _ i _ => L - (intOf i).toNat)
  case atStart => exact ⟨0, rfl, Nat.zero_le _, rfl, rfl, t16', t26', l6, m6, B6⟩
  case round =>
    obtain ⟨k, rfl, hk, rfl, rfl, tA, tB, lA, lB, BB⟩ := hrel
    have he := ev_le zs HZ.out k
    have ho := od_le zs HZ.out k
    have he0 := he.1
    have he1 := he.2
    have ho0 := ho.1
    have ho1 := ho.2
    clear he ho
    by_cases hlt : k < L
    · obtain ⟨b, off, rfl, hbT, hcell⟩ := HC'.out (by omega)
      have hk1 : wr.cell? ⟨b, off + k, none⟩ = some (.int .u8 (zs.getD k 0)) := (BB.cell (p := ⟨b, off + k, none⟩) hbT).trans (hcell k (by omega))
      have hz1 := HZ.out k
      clear hcell
      by_cases hp : k % 2 = 1
      · have HE := Lib.hid (ev_odd zs k hp)
        have HO := Lib.hid (od_odd zs k hp)
        generalize zs.getD k 0 = n at hk1 hz1 HO
        have hand : (bits BinOp.and IntKind.i64 (k : Int) 1 == 1) = true := by rw [_root_.Go.Proofs.and_one k (by omega), hp]; rfl
        go_wp2_with fail
        refine (spend_fits (T + 1) 1048576 (od zs k) n _ tB ho0 (by omega) (by omega) hz1.1 (by omega)).mono ?_
        rintro e wA ⟨rfl, tB2, oA⟩
        have BA := BB.trans (oA.below (by omega))
        have uA : Turned (fun j => j = T + 1) wr wA := ⟨oA.os, oA.tape, oA.output, by rw [oA.size]; exact Nat.le_refl _, fun j _ hj => oA.block j hj⟩
        have tA2 := tA.only oA (by omega)
        have lA2 := lA.turned uA (by omega)
        have lB2 := lB.turned uA (by omega)
        go_wp2_with fail
        exact ⟨⟨k + 1, by go_num, by omega, by rw [HE.out], by rw [HO.out], by rw [HE.out]; exact tA2, by rw [HO.out]; exact tB2, lA2, lB2, BA⟩, by simp [intOf]; omega⟩
      · have HE := Lib.hid (ev_even zs k hp)
        have HO := Lib.hid (od_even zs k hp)
        generalize zs.getD k 0 = n at hk1 hz1 HE
        have hand : (bits BinOp.and IntKind.i64 (k : Int) 1 == 1) = false := by rw [_root_.Go.Proofs.and_one k (by omega), show k % 2 = 0 from by omega]; rfl
        go_wp2_with fail
        refine (spend_fits T 1048576 (ev zs k) n _ tA he0 (by omega) (by omega) hz1.1 (by omega)).mono ?_
        rintro e wA ⟨rfl, tA2, oA⟩
        have BA := BB.trans (oA.below (by omega))
        have uA : Turned (fun j => j = T) wr wA := ⟨oA.os, oA.tape, oA.output, by rw [oA.size]; exact Nat.le_refl _, fun j _ hj => oA.block j hj⟩
        have tB2 := tB.only oA (by omega)
        have lA2 := lA.turned uA (by omega)
        have lB2 := lB.turned uA (by omega)
        go_wp2_with fail
        exact ⟨⟨k + 1, by go_num, by omega, by rw [HE.out], by rw [HO.out], by rw [HE.out]; exact tA2, by rw [HO.out]; exact tB2, lA2, lB2, BA⟩, by simp [intOf]; omega⟩
    · obtain rfl : k = L := by omega
      go_wp2_with fail
      refine (count_any _ _ _ _ tA).mono ?_
      rintro e wA ⟨rfl, rfl⟩
      go_wp2_with fail
      refine (count_any _ _ _ _ tB).mono ?_
      rintro e wA ⟨rfl, rfl⟩
      go_wp2_with fail
      refine (get_str (T + 1 + 1 + 1) 26 ⟨#[121]⟩ _ lB (fun w => by kernel_rfl) make26).mono ?_
      rintro e wA ⟨rfl, lB2, uA⟩
      have lA2 := lA.turned uA (by omega)
      have BA := BB.trans (uA.below (by have := lA.lt; omega) (fun k e => by omega))
      go_wp2_with fail
      refine (get_str_again (T + 1 + 1) _ ⟨#[120]⟩ _ lA2).mono ?_
      rintro e wC ⟨rfl, lA3, uC⟩
      have BC := BA.trans (uC.below (by have := lA2.lt; omega) (fun k e => e.elim))
      go_wp2_with fail
      go_ret
      exact ⟨rfl, BC.mono hTw⟩
end Go.Proofs.Ythjkhoblafmibaa
