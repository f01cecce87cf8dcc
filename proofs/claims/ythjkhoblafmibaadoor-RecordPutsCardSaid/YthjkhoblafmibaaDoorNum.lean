/-
  The cursor over bytes, as a record's head uses it; the reference's number of two bytes.
-/
import Derived.Test.YthjkhoblafmibaaDoorLim
import Derived.Laws.Bits64b
namespace Go.Proofs.YthjkhoblafmibaaDoor
open Go.RowKit
set_option linter.unusedVariables false

/-- Nothing but block b has turned, and nothing is new. -/
structure Only (b : Nat) (w w' : World) : Prop where
  os : w'.os = w.os
  tape : w'.tape = w.tape
  output : w'.output = w.output
  size : w'.heap.size = w.heap.size
  block : ∀ k, k ≠ b → w'.heap[k]? = w.heap[k]?

theorem Only.refl (b : Nat) (w : World) : Only b w w := ⟨rfl, rfl, rfl, rfl, fun _ _ => rfl⟩
theorem Only.trans {b : Nat} {w w1 w2 : World} (h : Only b w w1) (k : Only b w1 w2) : Only b w w2 :=
  ⟨k.os.trans h.os, k.tape.trans h.tape, k.output.trans h.output, k.size.trans h.size, fun i hi => (k.block i hi).trans (h.block i hi)⟩
theorem Only.drewN (b : Nat) (w : World) (n : Nat) : Only b w (w.drewN n) := ⟨rfl, rfl, rfl, rfl, fun _ _ => rfl⟩
theorem Only.setCell (w : World) (a : Addr) (v : Value) : Only a.block w (w.setCell a v) :=
  ⟨rfl, rfl, rfl, by simp [World.setCell], fun k hk => Below.heap_setCell w a v k hk⟩
theorem Only.below {b B : Nat} {w w' : World} (h : Only b w w') (hB : B ≤ b) : Below B w w' :=
  ⟨h.os, h.tape, h.output, by have := h.size; omega, fun k hk => h.block k (by omega)⟩
theorem Only.cell {b : Nat} {w w' : World} (h : Only b w w') {p : Addr} (hp : p.block ≠ b) : w'.cell? p = w.cell? p := World.cell?_of_block (w := w) (h.block p.block hp)
theorem Only.frozen {b : Nat} {w w' : World} (h : Only b w w') {p : Addr} (hp : p.block ≠ b) : w'.frozen? p = w.frozen? p := World.frozen?_of_block (w := w) (h.block p.block hp)

/-- A cursor lies at block c: what is ahead of it, and its place. -/
structure CurAt (w : World) (c : Nat) (v : Value) (at_ : Int) : Prop where
  ahead : w.cell? ⟨c, 0, none⟩ = some v
  place : w.cell? ⟨c, 1, none⟩ = some (.int .i64 at_)
  free0 : w.frozen? ⟨c, 0, none⟩ = false
  free1 : w.frozen? ⟨c, 1, none⟩ = false

theorem cur_new (v : Value) (a : Option Addr) (len cap : Nat) (w : World) :
    Calls Tryd.prog 16 #[.slice a len cap, .int .i64 0] w fun e w' => e = .returned (.pointer (some ⟨w.heap.size, 0, none⟩)) ∧ w.alloc (.cells #[.slice a len cap, .int .i64 0] 58) = w' := by
  go_enter Tryd.func16, Tryd.ntmps16
  go_wp2
  go_ret
  exact ⟨rfl, rfl⟩

theorem cur_at (c : Nat) (v : Value) (n : Int) (w : World) (h : w.cell? ⟨c, 1, none⟩ = some (.int .i64 n)) :
    Calls Tryd.prog 18 #[.pointer (some ⟨c, 0, none⟩)] w fun e w' => e = .returned (.int .i64 n) ∧ w = w' := by
  go_enter Tryd.func18, Tryd.ntmps18
  go_wp2
  go_ret
  exact ⟨rfl, rfl⟩

theorem CurAt.moved {w : World} {c : Nat} {v : Value} {p : Int} (h : CurAt w c v p) (v' : Value) (q : Int) : CurAt ((w.setCell ⟨c, 0, none⟩ v').setCell ⟨c, 1, none⟩ (.int .i64 q)) c v' q :=
  ⟨(World.cell?_setCell_other _ ⟨c, 1, none⟩ ⟨c, 0, none⟩ _ (by simp)).trans (World.cell?_setCell_same _ _ _ h.ahead),
   World.cell?_setCell_same _ _ _ ((World.cell?_setCell_other _ ⟨c, 0, none⟩ ⟨c, 1, none⟩ _ (by simp)).trans h.place), by simpa using h.free0, by simpa using h.free1⟩
theorem Only.moved (w : World) (c : Nat) (v v' : Value) : Only c w ((w.setCell ⟨c, 0, none⟩ v).setCell ⟨c, 1, none⟩ v') :=
  (Only.setCell w ⟨c, 0, none⟩ v).trans (Only.setCell _ ⟨c, 1, none⟩ v')

/-- What a step of the cursor leaves. -/
def Moved (c b off len cap n : Nat) (p : Int) (w w' : World) : Prop :=
  ∃ v, (n < cap → v = .slice (some ⟨b, off + n, none⟩) (len - n) (cap - n)) ∧ CurAt w' c v (p + n) ∧ Only c w w'

set_option maxHeartbeats 400000 in
theorem next_any (c b off len cap n : Nat) (p : Int) (w : World) (h : CurAt w c (.slice (some ⟨b, off, none⟩) len cap) p) (hn : n ≤ len) (hc : len ≤ cap) (hm : cap ≤ 9223372036854775807) (hp : 0 ≤ p ∧ p ≤ 5) (hn1 : 1 ≤ n) (hn5 : n ≤ 2) :
    Calls Tryd.prog 23 #[.pointer (some ⟨c, 0, none⟩), .int .i64 n] w fun e w' => e = .returned (.tuple #[.slice (some ⟨b, off, none⟩) n n, .int .i64 0]) ∧ Moved c b off len cap n p w w' := by
  have h0 := h.ahead
  have h1 := h.place
  have f0 := h.free0
  have f1 := h.free1
  have HC := Lib.hid h
  clear h
  by_cases hcn : cap = n
  · go_enter Tryd.func23, Tryd.ntmps23
    go_wp2
    go_ret2
    exact ⟨rfl, _, fun h => by omega, HC.out.moved _ _, Only.moved w c _ _⟩
  · go_enter Tryd.func23, Tryd.ntmps23
    go_wp2
    go_ret2
    exact ⟨rfl, _, fun _ => rfl, HC.out.moved _ _, Only.moved w c _ _⟩

theorem or_byte (x y : Int) (hx : 0 ≤ x ∧ x ≤ 255) (hy : 0 ≤ y ∧ y ≤ 255) : bits BinOp.or IntKind.u64 (x * 256) y = x * 256 + y := by
  obtain ⟨a, rfl⟩ := Int.eq_ofNat_of_zero_le hx.1
  obtain ⟨b, rfl⟩ := Int.eq_ofNat_of_zero_le hy.1
  have h := bits_or_u64_nat (a * 256) b (by omega) (by omega)
  have e : (((a * 256 : Nat) : Int)) = (a : Int) * 256 := by omega
  rw [e] at h
  rw [h]
  have h2 : a * 256 ||| b = a * 256 + b := by
    have := Nat.shiftLeft_add_eq_or_of_lt (b := b) (i := 8) (by omega) a
    rw [Nat.shiftLeft_eq, show (2 : Nat) ^ 8 = 256 from rfl] at this
    exact this.symm
  rw [h2, Int.natCast_add, e]

theorem or_zero (y : Int) (hy : 0 ≤ y ∧ y ≤ 255) : bits BinOp.or IntKind.u64 0 y = y := by
  have h := or_byte 0 y (by omega) hy
  rw [Int.zero_mul, Int.zero_add] at h
  exact h

set_option maxHeartbeats 400000 in
/-- 'Number' of one byte. -/
theorem number_one (c b off len cap : Nat) (p x : Int) (w : World) (h : CurAt w c (.slice (some ⟨b, off, none⟩) len cap) p) (hn : 1 ≤ len) (hc : len ≤ cap) (hm : cap ≤ 9223372036854775807) (hp : 0 ≤ p ∧ p ≤ 5)
    (hx : w.cell? ⟨b, off, none⟩ = some (.int .u8 x)) (hx1 : 0 ≤ x ∧ x ≤ 255) (hbc : b ≠ c) :
    Calls Tryd.prog 17 #[.pointer (some ⟨c, 0, none⟩), .int .i64 1] w fun e w' => e = .returned (.tuple #[.int .u64 x, .int .i64 0]) ∧ Moved c b off len cap 1 p w w' := by
  have HN := Lib.hid (next_any c b off len cap 1 p w h hn hc hm hp (by omega) (by omega))
  have hoz := or_zero x hx1
  go_enter Tryd.func17, Tryd.ntmps17
  go_wp2_with fail
  refine HN.out.mono ?_
  rintro e w' ⟨rfl, hM⟩
  have hx2 : w'.cell? ⟨b, off, none⟩ = some (.int .u8 x) := by
    obtain ⟨v, _, _, o⟩ := hM
    exact (o.cell (p := ⟨b, off, none⟩) hbc).trans hx
  clear h hx
  go_wp2_with fail
  refine wp_loop_rounds 2 ?_
  rw [rounds_succ]
  go_wp2_with fail
  rw [rounds_succ]
  go_wp2_with fail
  go_ret2
  exact ⟨rfl, hM⟩

set_option maxHeartbeats 400000 in
/-- 'Number' of two bytes. -/
theorem number_two (c b off len cap : Nat) (p x y : Int) (w : World) (h : CurAt w c (.slice (some ⟨b, off, none⟩) len cap) p) (hn : 2 ≤ len) (hc : len ≤ cap) (hm : cap ≤ 9223372036854775807) (hp : 0 ≤ p ∧ p ≤ 5)
    (hx : w.cell? ⟨b, off, none⟩ = some (.int .u8 x)) (hy : w.cell? ⟨b, off + 1, none⟩ = some (.int .u8 y)) (hx1 : 0 ≤ x ∧ x ≤ 255) (hy1 : 0 ≤ y ∧ y ≤ 255) (hbc : b ≠ c) :
    Calls Tryd.prog 17 #[.pointer (some ⟨c, 0, none⟩), .int .i64 2] w fun e w' => e = .returned (.tuple #[.int .u64 (x * 256 + y), .int .i64 0]) ∧ Moved c b off len cap 2 p w w' := by
  have HN := Lib.hid (next_any c b off len cap 2 p w h hn hc hm hp (by omega) (by omega))
  have ho := or_byte x y hx1 hy1
  have hoz := or_zero x hx1
  go_enter Tryd.func17, Tryd.ntmps17
  go_wp2_with fail
  refine HN.out.mono ?_
  rintro e w' ⟨rfl, hM⟩
  have hx2 : w'.cell? ⟨b, off, none⟩ = some (.int .u8 x) := by
    obtain ⟨v, _, _, o⟩ := hM
    exact (o.cell (p := ⟨b, off, none⟩) hbc).trans hx
  have hy2 : w'.cell? ⟨b, off + 1, none⟩ = some (.int .u8 y) := by
    obtain ⟨v, _, _, o⟩ := hM
    exact (o.cell (p := ⟨b, off + 1, none⟩) hbc).trans hy
  clear h hx hy
  go_wp2_with fail
  refine wp_loop_rounds 3 ?_
  rw [rounds_succ]
  go_wp2_with fail
  rw [rounds_succ]
  go_wp2_with fail
  rw [rounds_succ]
  go_wp2_with fail
  go_ret2
  exact ⟨rfl, hM⟩

set_option maxHeartbeats 400000 in
/-- The reference's number of two bytes. -/
theorem ref_number_two (b off cap : Nat) (x y : Int) (w : World) (hx : w.cell? ⟨b, off, none⟩ = some (.int .u8 x)) (hy : w.cell? ⟨b, off + 1, none⟩ = some (.int .u8 y)) (hx1 : 0 ≤ x ∧ x ≤ 255) (hy1 : 0 ≤ y ∧ y ≤ 255) :
    Calls Tryd.prog 20 #[.slice (some ⟨b, off, none⟩) 2 cap] w fun e w' => e = .returned (.int .u64 (x * 256 + y)) ∧ w = w' := by
  go_enter Tryd.func20, Tryd.ntmps20
  go_wp2_with fail
  refine wp_loop_rounds 3 ?_
  rw [rounds_succ]
  go_wp2_with fail
  rw [rounds_succ]
  go_wp2_with fail
  rw [rounds_succ]
  go_wp2_with fail
  go_ret
  exact ⟨rfl, rfl⟩
end Go.Proofs.YthjkhoblafmibaaDoor
