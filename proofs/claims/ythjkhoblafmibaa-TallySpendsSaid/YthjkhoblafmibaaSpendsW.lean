/-
  The walk of TallySpends.
-/
import Derived.Test.YthjkhoblafmibaaAlive
import Derived.Test.YthjkhoblafmibaaSlice
import Derived.Deep.RegionWith
import Derived.Deep.RegionHeld3
import Derived.Deep.LoopGhost
import Derived.Lib.MinMax
import Derived.Lib.Hide
namespace Go.Proofs.Ythjkhoblafmibaa
open Go.RowKit
set_option linter.unusedVariables false

/-- In a region that draws its order, from operation number k on all operations leave the world alone but for draws, and all before have come up: one walk, in the text's order. -/
theorem wpAny_quiet_from {P : Program} {ops : Array Oper} {Q : Exit → Act → World → Prop} (k : Nat) {l : List Oper} {fuel : Nat} {listed : Array Bool} {a : Act} {w : World}
    (hs : Region.noSelect ops = true) (hl : ops.toList.drop k = l) (hf : l.length = fuel) (hB : Region.lexFrom .any ops l.length k listed = true)
    (h : wpQuiet P ops (fun w' => ∃ n, w' = w.drewN n) (fun a' => ∀ w', (∃ n, w' = w.drewN n) → Q .normal a' w') l a) : wpAny P .any ops Q fuel listed a w := by
  subst hf
  refine wpAny_of_quiet (C := fun w' => ∃ n, w' = w.drewN n) (Q := fun a' => ∀ w', (∃ n, w' = w.drewN n) → Q .normal a' w') (fun _ w' hw' h => h w' hw') _ _ _ _ ⟨0, rfl⟩ ?_
  refine wpAnyQ_lex hs l k listed a (fun j => ?_) hB h
  subst hl
  rw [List.getElem?_drop, Array.getElem?_toList]

theorem spends_neg (a0 : Int) (a1 : Option Addr) (len1 cap1 L : Nat) (w : World) (hl : len1 ≤ cap1) (hc : cap1 ≤ maxLen) (hL : min (len1 : Int) 300 = (L : Int)) (hLl : L ≤ len1) (hneg : a0 < 0) :
    Calls Try.prog 3 #[.int .i64 a0, .slice a1 len1 cap1] w fun e w' => e = .returned (.bool true) ∧ Below w.heap.size w w' := by
  unfold maxLen at hc
  go_enter Try.func3, Try.ntmps3
  go_wp2_with fail
  refine (new_neg a0 hneg _).mono ?_
  rintro e w1 ⟨rfl, rfl⟩
  go_wp2_with fail
  refine (alive_any _).mono ?_
  rintro e w1 ⟨rfl, B1⟩
  go_wp2_with fail
  go_ret
  exact ⟨rfl, B1⟩

set_option maxHeartbeats 1000000 in
theorem spends_pos (a0 : Int) (a1 : Option Addr) (len1 cap1 L : Nat) (zs : List Int) (w : World) (hl : len1 ≤ cap1) (hc : cap1 ≤ maxLen) (hL : min (len1 : Int) 300 = (L : Int)) (hLl : L ≤ len1) (hpos : 0 ≤ a0) (hmax : a0 ≤ 9223372036854775807)
    (hcells : 0 < len1 → ∃ b off, a1 = some ⟨b, off, none⟩ ∧ ∀ i, i < len1 → w.cell? ⟨b, off + i, none⟩ = some (.int .i64 (zs.getD i 0))) (hz : ∀ i, zs.getD i 0 ≤ 9223372036854775807) :
    Calls Try.prog 3 #[.int .i64 a0, .slice a1 len1 cap1] w fun e w' => e = .returned (.bool true) ∧ Below w.heap.size w w' := by
  unfold maxLen at hc
  go_enter Try.func3, Try.ntmps3
  go_wp2_with fail
  refine (new_made a0 hpos _).mono ?_
  rintro e w1 ⟨rfl, t1, B1, z1⟩
  go_wp2_with fail
  refine (alive_any _).mono ?_
  rintro e w2 ⟨rfl, B2⟩
  have t2 := t1.below B2 (by omega)
  have B2' := B1.trans (B2.mono (by omega))
  go_wp2_with fail
  have r2 := RefAt.fresh w2 a0 0
  have z2 : w2.heap.size < (w2.alloc (Obj.cells #[Value.int IntKind.i64 a0, Value.int IntKind.i64 0] 30)).heap.size := by simp
  have z3 := B2.size
  have t3 := t2.below ((Below.refl w2.heap.size w2).alloc (Nat.le_refl _) (Obj.cells #[Value.int IntKind.i64 a0, Value.int IntKind.i64 0] 30)) (by omega)
  have B3 := B2'.alloc (by omega) (Obj.cells #[Value.int IntKind.i64 a0, Value.int IntKind.i64 0] 30)
  have hT : w.heap.size < w2.heap.size := by omega
  generalize w2.alloc (Obj.cells #[Value.int IntKind.i64 a0, Value.int IntKind.i64 0] 30) = w3 at r2 z2 t3 B3 ⊢
  generalize w2.heap.size = R at r2 z2 hT ⊢
  have hcellT : 0 < len1 → ∃ b off, a1 = some ⟨b, off, none⟩ ∧ b < w.heap.size ∧ ∀ i, i < len1 → w.cell? ⟨b, off + i, none⟩ = some (.int .i64 (zs.getD i 0)) := fun h => by
    obtain ⟨b, off, e, h1⟩ := hcells h
    exact ⟨b, off, e, World.block_lt_of_cell? w ⟨b, off + 0, none⟩ (h1 0 h), h1⟩
  clear hcells
  have HC := Lib.hid hcellT
  clear hcellT
  obtain ⟨T, hTe⟩ : ∃ T, T = w.heap.size := ⟨_, rfl⟩
  rw [← hTe] at t3 hT B3 HC ⊢
  have hTw : w.heap.size ≤ T := by omega
  clear hTe
  clear t1 B1 z1 B2 t2 B2' z3
  go_loopw [46] (fun i wr => ∃ (k : Nat) (c : Int), i = .int .i64 k ∧ k ≤ L ∧ 0 ≤ c ∧ c ≤ a0 ∧ TallyAt wr T a0 c ∧ RefAt wr R a0 c ∧ Below T w wr) (fun i _ => L - (intOf i).toNat)
  case atStart => exact ⟨0, 0, rfl, Nat.zero_le _, by omega, hpos, t3, r2, B3⟩
  case round =>
    obtain ⟨k, c, rfl, hk, h0, h1, t, r, B⟩ := hrel
    by_cases hlt : k < L
    · obtain ⟨b, off, rfl, hbT, hcell⟩ := HC.out (by omega)
      have hk1 : wr.cell? ⟨b, off + k, none⟩ = some (.int .i64 (zs.getD k 0)) := (B.cell (p := ⟨b, off + k, none⟩) hbT).trans (hcell k (by omega))
      have hnN := hz k
      generalize zs.getD k 0 = n at hk1 hnN
      clear hcell
      have hL0 : 0 < L - k := by omega
      have tD := t.drew
      have rD := r.drew
      obtain ⟨E, C, S⟩ := bothSpend T R a0 c n h0 h1 hmax hnN
      have C0 := S.low
      have C1 := S.high
      go_wp2_with fail
      refine wp_region_any (by kernel_rfl) ?_
      change wpAny _ _ _ _ _ _ _ (World.drew _)
      refine wpAny_take (i := 0) (v := .pointer (some ⟨T, 0, none⟩)) rfl (by kernel_rfl) (by kernel_rfl) (by kernel_rfl) (fun _ _ _ h => h) (Or.inl ⟨by rfl, fun w => rfl⟩) ?_
      refine wpAny_take (i := 1) (v := .int .i64 n) rfl (by kernel_rfl) (by kernel_rfl) (by kernel_rfl) (fun _ _ _ h => h) (Or.inl ⟨by rfl, fun w => rfl⟩) ?_
      refine wpAny_take (i := 3) (v := .pointer (some ⟨R, 0, none⟩)) rfl (by kernel_rfl) (by kernel_rfl) (by kernel_rfl) (fun _ _ _ h => h) (Or.inl ⟨by rfl, fun w => rfl⟩) ?_
      refine wpAny_take (i := 4) (v := .int .i64 n) rfl (by kernel_rfl) (by kernel_rfl) (by kernel_rfl) (fun _ _ _ h => h) (Or.inl ⟨by rfl, fun w => rfl⟩) ?_
      refine wpAny_ready (rs := [2]) (by kernel_rfl) (by simp) ?_
      refine AllReady.cons rfl (fun K hK => ?_) AllReady.nil
      go_simp
      refine (S.one _ tD).mono ?_
      rintro e wA ⟨rfl, tA, oA⟩
      refine hK _ _ ?_
      clear hK K
      refine wpAny_ready (rs := [5]) (by kernel_rfl) (by simp) ?_
      refine AllReady.cons rfl (fun K hK => ?_) AllReady.nil
      go_simp
      refine (S.two _ (rD.only oA (by omega))).mono ?_
      rintro e wB ⟨rfl, rB, oB⟩
      refine hK _ _ ?_
      clear hK K
      have rBc := rB.count
      have tB := tA.only oB (by omega)
      have hwr : IntKind.i64.wrap (a0 - C) = a0 - C := IntWalk.i64_in _ (by omega)
      refine wpAny_quiet_from 6 (by kernel_rfl) rfl (by kernel_rfl) (by kernel_rfl) ?_
      repeat (quiet_step ((first | (go_at_call 13; exact quiet_here (count_any T a0 C _ (tB.drewN _))) | (go_at_call 14; exact Calls.quiet_of (left_any T a0 C _ (tB.drewN _) C0 C1 hmax)))))
      refine wpQuiet_nil ?_
      intro _ hw'
      obtain ⟨nq, hw''⟩ := hw'
      subst hw''
      go_wp2_with fail
      clear hwr
      exact ⟨⟨k + 1, C, by go_num, by omega, C0, C1, tB.drewN _, rB.drewN _, below_drewN ((B.drew.trans (oA.below (Nat.le_refl _))).trans (oB.below (by omega))) _⟩, by simp [intOf]; omega⟩
    · go_wp2_with fail
      go_ret
      exact ⟨rfl, B.mono hTw⟩
end Go.Proofs.Ythjkhoblafmibaa
