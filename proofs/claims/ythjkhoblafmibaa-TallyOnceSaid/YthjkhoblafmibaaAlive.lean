/-
  The contracts of the tally's functions said of what stays in memory; the statements' common example 'alive' answers true; the reference's Spend.
-/
import Derived.Test.YthjkhoblafmibaaTally
import Derived.Below
import Derived.WalkSmall
namespace Go.Proofs.Ythjkhoblafmibaa
open Go.RowKit

/-- Nothing but block b has turned, and nothing is new. -/
structure Only (b : Nat) (w w' : World) : Prop where
  os : w'.os = w.os
  tape : w'.tape = w.tape
  output : w'.output = w.output
  size : w'.heap.size = w.heap.size
  block : ∀ k, k ≠ b → w'.heap[k]? = w.heap[k]?

theorem Only.refl (b : Nat) (w : World) : Only b w w := ⟨rfl, rfl, rfl, rfl, fun _ _ => rfl⟩
theorem Only.trans {b : Nat} {w w1 w2 : World} (h : Only b w w1) (k : Only b w1 w2) : Only b w w2 :=
  ⟨k.os.trans h.os, k.tape.trans h.tape, k.output.trans h.output, k.size.trans h.size, fun i hi => (k.block i hi).trans (h.block i hi)⟩
theorem Only.drewN (b : Nat) (w : World) (n : Nat) : Only b w (w.drewN n) := ⟨rfl, rfl, rfl, rfl, fun _ _ => rfl⟩
theorem Only.setCell (w : World) (a : Addr) (v : Value) : Only a.block w (w.setCell a v) :=
  ⟨rfl, rfl, rfl, by simp [World.setCell], fun k hk => Below.heap_setCell w a v k hk⟩
theorem Only.below {b B : Nat} {w w' : World} (h : Only b w w') (hB : B ≤ b) : Below B w w' :=
  ⟨h.os, h.tape, h.output, by have := h.size; omega, fun k hk => h.block k (by omega)⟩
theorem Only.cell {b : Nat} {w w' : World} (h : Only b w w') {p : Addr} (hp : p.block ≠ b) : w'.cell? p = w.cell? p := World.cell?_of_block (w := w) (h.block p.block hp)
theorem Only.frozen {b : Nat} {w w' : World} (h : Only b w w') {p : Addr} (hp : p.block ≠ b) : w'.frozen? p = w.frozen? p := World.frozen?_of_block (w := w) (h.block p.block hp)

theorem TallyAt.fresh (w : World) (m c : Int) : TallyAt (w.alloc (.cells #[.int .i64 m, .int .i64 c] 56)) w.heap.size m c :=
  ⟨by simp, by simp, by simp⟩
theorem TallyAt.spent {w : World} {b : Nat} {m c : Int} (h : TallyAt w b m c) (d : Int) : TallyAt (w.setCell ⟨b, 1, none⟩ (.int .i64 d)) b m d :=
  ⟨(World.cell?_setCell_other _ ⟨b, 1, none⟩ ⟨b, 0, none⟩ _ (by simp)).trans h.most, World.cell?_setCell_same _ _ _ h.count, by simpa using h.free⟩
theorem TallyAt.drewN {w : World} {b : Nat} {m c : Int} (h : TallyAt w b m c) (n : Nat) : TallyAt (w.drewN n) b m c :=
  ⟨by simpa using h.most, by simpa using h.count, by simpa using h.free⟩
theorem TallyAt.drew {w : World} {b : Nat} {m c : Int} (h : TallyAt w b m c) : TallyAt w.drew b m c :=
  ⟨by simpa using h.most, by simpa using h.count, by simpa using h.free⟩
/-- A tally in another block stays. -/
theorem TallyAt.only {w w' : World} {b k : Nat} {m c : Int} (h : TallyAt w b m c) (o : Only k w w') (hk : b ≠ k) : TallyAt w' b m c :=
  ⟨(o.cell hk).trans h.most, (o.cell hk).trans h.count, (o.frozen hk).trans h.free⟩
theorem TallyAt.below {w w' : World} {b B : Nat} {m c : Int} (h : TallyAt w b m c) (o : Below B w w') (hk : b < B) : TallyAt w' b m c :=
  ⟨(o.cell hk).trans h.most, (o.cell hk).trans h.count, (o.frozen hk).trans h.free⟩
theorem TallyAt.lt {w : World} {b : Nat} {m c : Int} (h : TallyAt w b m c) : b < w.heap.size := World.block_lt_of_cell? w ⟨b, 0, none⟩ h.most

/-- 'New' of a number that may be. -/
theorem new_made (m : Int) (hm : 0 ≤ m) (w : World) :
    Calls Try.prog 9 #[.int .i64 m] w fun e w' => e = .returned (.tuple #[.pointer (some ⟨w.heap.size, 0, none⟩), .int .i64 0]) ∧
      TallyAt w' w.heap.size m 0 ∧ Below w.heap.size w w' ∧ w'.heap.size = w.heap.size + 1 :=
  (new_ok m hm w).mono fun _ _ ⟨he, hw⟩ => by subst hw; exact ⟨he, TallyAt.fresh w m 0, (Below.refl _ _).alloc (Nat.le_refl _) _, by simp⟩

/-- 'Spend' of a number that fits. -/
theorem spend_fits (b : Nat) (m c n : Int) (w : World) (h : TallyAt w b m c) (h0 : 0 ≤ c) (h1 : c ≤ m) (h2 : m ≤ 9223372036854775807) (hn : 0 ≤ n) (hx : n ≤ m - c) :
    Calls Try.prog 11 #[.pointer (some ⟨b, 0, none⟩), .int .i64 n] w fun e w' => e = .returned (.int .i64 0) ∧ TallyAt w' b m (c + n) ∧ Only b w w' :=
  (spend_ok b m c n w h h0 h1 h2 hn hx).mono fun _ _ ⟨he, hw⟩ => by subst hw; exact ⟨he, h.spent _, Only.setCell w ⟨b, 1, none⟩ _⟩

/-- 'Left'. -/
theorem left_is (b : Nat) (m c : Int) (w : World) (h : TallyAt w b m c) (h0 : 0 ≤ c) (h1 : c ≤ m) (h2 : m ≤ 9223372036854775807) :
    Calls Try.prog 14 #[.pointer (some ⟨b, 0, none⟩)] w fun e w' => e = .returned (.int .i64 (m - c)) ∧ TallyAt w' b m c ∧ Only b w w' :=
  (left_any b m c w h h0 h1 h2).mono fun _ _ ⟨he, n, hw⟩ => by subst hw; exact ⟨he, h.drewN n, Only.drewN b w n⟩

theorem alive_any (w : World) : Calls Try.prog 10 #[] w fun e w' => e = .returned (.bool true) ∧ Below w.heap.size w w' := by
  go_enter Try.func10, Try.ntmps10
  go_wp2_with fail
  refine (new_made 5 (by omega) _).mono ?_
  rintro e w1 ⟨rfl, t1, B1, _⟩
  go_wp2_with fail
  refine (spend_fits _ 5 0 3 _ t1 (by omega) (by omega) (by omega) (by omega) (by omega)).mono ?_
  rintro e w2 ⟨rfl, t2, o2⟩
  have B2 := B1.trans (o2.below (Nat.le_refl _))
  go_wp2_with fail
  refine (spend_cap _ 5 (0 + 3) 3 _ t2 (by omega) (by omega) (by omega) (by omega) (by omega) (by omega)).mono ?_
  rintro e w3 ⟨rfl, rfl⟩
  go_wp2_with fail
  refine (count_any _ 5 (0 + 3) _ t2).mono ?_
  rintro e w3 ⟨rfl, rfl⟩
  go_wp2_with fail
  refine (spend_fits _ 5 (0 + 3) 2 _ t2 (by omega) (by omega) (by omega) (by omega) (by omega)).mono ?_
  rintro e w4 ⟨rfl, t4, o4⟩
  have B4 := B2.trans (o4.below (Nat.le_refl _))
  go_wp2_with fail
  refine (left_is _ 5 (0 + 3 + 2) _ t4 (by omega) (by omega) (by omega)).mono ?_
  rintro e w5 ⟨rfl, t5, o5⟩
  have B5 := B4.trans (o5.below (Nat.le_refl _))
  go_wp2_with fail
  go_ret
  exact ⟨rfl, B5⟩

/-- The reference's tally. -/
structure RefAt (w : World) (b : Nat) (m c : Int) : Prop where
  most : w.cell? ⟨b, 0, none⟩ = some (.int .i64 m)
  count : w.cell? ⟨b, 1, none⟩ = some (.int .i64 c)
  free : w.frozen? ⟨b, 1, none⟩ = false
theorem RefAt.fresh (w : World) (m c : Int) : RefAt (w.alloc (.cells #[.int .i64 m, .int .i64 c] 30)) w.heap.size m c :=
  ⟨by simp, by simp, by simp⟩
theorem RefAt.drew {w : World} {b : Nat} {m c : Int} (h : RefAt w b m c) : RefAt w.drew b m c :=
  ⟨by simpa using h.most, by simpa using h.count, by simpa using h.free⟩
theorem RefAt.drewN {w : World} {b : Nat} {m c : Int} (h : RefAt w b m c) (n : Nat) : RefAt (w.drewN n) b m c :=
  ⟨by simpa using h.most, by simpa using h.count, by simpa using h.free⟩
theorem RefAt.spent {w : World} {b : Nat} {m c : Int} (h : RefAt w b m c) (d : Int) : RefAt (w.setCell ⟨b, 1, none⟩ (.int .i64 d)) b m d :=
  ⟨(World.cell?_setCell_other _ ⟨b, 1, none⟩ ⟨b, 0, none⟩ _ (by simp)).trans h.most, World.cell?_setCell_same _ _ _ h.count, by simpa using h.free⟩
theorem RefAt.only {w w' : World} {b k : Nat} {m c : Int} (h : RefAt w b m c) (o : Only k w w') (hk : b ≠ k) : RefAt w' b m c :=
  ⟨(o.cell hk).trans h.most, (o.cell hk).trans h.count, (o.frozen hk).trans h.free⟩

/-- What 'Spend' answers, and what is counted then. -/
def spendErr (m c n : Int) : Int := if n < 0 then 2 else if m - c < n then 12 else 0
def spendTo (m c n : Int) : Int := if n < 0 then c else if m - c < n then c else c + n

theorem ref_spend (b : Nat) (m c n : Int) (w : World) (h : RefAt w b m c) (h0 : 0 ≤ c) (h1 : c ≤ m) (h2 : m ≤ 9223372036854775807) (hN : n ≤ 9223372036854775807) :
    Calls Try.prog 12 #[.pointer (some ⟨b, 0, none⟩), .int .i64 n] w fun e w' => e = .returned (.int .i64 (spendErr m c n)) ∧ RefAt w' b m (spendTo m c n) ∧ Only b w w' := by
  have hm := h.most
  have hc := h.count
  have hz := h.free
  by_cases hn : n < 0
  · have e1 : spendErr m c n = 2 := by simp [spendErr, hn]
    have e2 : spendTo m c n = c := by simp [spendTo, hn]
    rw [e1, e2]
    clear e1 e2
    go_enter Try.func12, Try.ntmps12
    go_wp2
    go_ret
    exact ⟨rfl, h, Only.refl _ _⟩
  · by_cases hx : m - c < n
    · have e1 : spendErr m c n = 12 := by simp [spendErr, hn, hx]
      have e2 : spendTo m c n = c := by simp [spendTo, hn, hx]
      rw [e1, e2]
      clear e1 e2
      go_enter Try.func12, Try.ntmps12
      go_wp2
      go_quiet (fail)
      go_wp2
      go_ret
      exact ⟨rfl, h.drewN _, Only.drewN _ _ _⟩
    · have e1 : spendErr m c n = 0 := by simp [spendErr, hn, hx]
      have e2 : spendTo m c n = c + n := by simp [spendTo, hn, hx]
      rw [e1, e2]
      clear e1 e2
      go_enter Try.func12, Try.ntmps12
      go_wp2
      go_quiet (fail)
      go_wp2
      go_ret
      exact ⟨rfl, (h.drewN _).spent _, (Only.drewN _ _ _).trans (Only.setCell _ ⟨b, 1, none⟩ _)⟩

/-- 'Spend', of any number. -/
theorem spend_is (b : Nat) (m c n : Int) (w : World) (h : TallyAt w b m c) (h0 : 0 ≤ c) (h1 : c ≤ m) (h2 : m ≤ 9223372036854775807) (hN : n ≤ 9223372036854775807) :
    Calls Try.prog 11 #[.pointer (some ⟨b, 0, none⟩), .int .i64 n] w fun e w' => e = .returned (.int .i64 (spendErr m c n)) ∧ TallyAt w' b m (spendTo m c n) ∧ Only b w w' := by
  by_cases hn : n < 0
  · have e1 : spendErr m c n = 2 := by simp [spendErr, hn]
    have e2 : spendTo m c n = c := by simp [spendTo, hn]
    rw [e1, e2]
    exact (spend_arg b n w hn).mono fun _ _ ⟨he, hw⟩ => by subst hw; exact ⟨he, h, Only.refl _ _⟩
  · by_cases hx : m - c < n
    · have e1 : spendErr m c n = 12 := by simp [spendErr, hn, hx]
      have e2 : spendTo m c n = c := by simp [spendTo, hn, hx]
      rw [e1, e2]
      exact (spend_cap b m c n w h h0 h1 h2 (by omega) hx hN).mono fun _ _ ⟨he, hw⟩ => by subst hw; exact ⟨he, h, Only.refl _ _⟩
    · have e1 : spendErr m c n = 0 := by simp [spendErr, hn, hx]
      have e2 : spendTo m c n = c + n := by simp [spendTo, hn, hx]
      rw [e1, e2]
      exact spend_fits b m c n w h h0 h1 h2 (by omega) (by omega)

theorem spendTo_bd (m c n : Int) (h0 : 0 ≤ c) (h1 : c ≤ m) : 0 ≤ spendTo m c n ∧ spendTo m c n ≤ m := by
  unfold spendTo; split
  · exact ⟨h0, h1⟩
  · split
    · exact ⟨h0, h1⟩
    · omega

/-- 'Spend' of the tally and of the reference, side by side: one answer, one count. The numbers are no longer looked into. -/
structure BothSpend (T R : Nat) (m c n E C : Int) : Prop where
  low : 0 ≤ C
  high : C ≤ m
  one : ∀ w, TallyAt w T m c → Calls Try.prog 11 #[.pointer (some ⟨T, 0, none⟩), .int .i64 n] w fun e w' => e = .returned (.int .i64 E) ∧ TallyAt w' T m C ∧ Only T w w'
  two : ∀ w, RefAt w R m c → Calls Try.prog 12 #[.pointer (some ⟨R, 0, none⟩), .int .i64 n] w fun e w' => e = .returned (.int .i64 E) ∧ RefAt w' R m C ∧ Only R w w'
theorem bothSpend (T R : Nat) (m c n : Int) (h0 : 0 ≤ c) (h1 : c ≤ m) (h2 : m ≤ 9223372036854775807) (hN : n ≤ 9223372036854775807) : ∃ E C, BothSpend T R m c n E C :=
  ⟨spendErr m c n, spendTo m c n, (spendTo_bd m c n h0 h1).1, (spendTo_bd m c n h0 h1).2, fun w h => spend_is T m c n w h h0 h1 h2 hN, fun w h => ref_spend R m c n w h h0 h1 h2 hN⟩
end Go.Proofs.Ythjkhoblafmibaa
