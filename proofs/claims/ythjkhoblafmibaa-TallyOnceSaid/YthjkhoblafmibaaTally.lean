/-
  The contracts of the tally's functions: New, Spend, Count, Left, the reference's Spend, and the statements' common example 'alive'.
-/
import Derived.Test.YthjkhoblafmibaaRows
import Derived.WalkKit
import Derived.WalkSpells
import Derived.WalkLawsBesides
import Derived.Laws.LoneSync
import Derived.Deep.QuietTactic
import Derived.BigQuiet
namespace Go.Proofs.Ythjkhoblafmibaa
open Go.RowKit

/-- A tally lies at 'a': the most it may count, and what it counted. -/
structure TallyAt (w : World) (b : Nat) (m c : Int) : Prop where
  most : w.cell? ⟨b, 0, none⟩ = some (.int .i64 m)
  count : w.cell? ⟨b, 1, none⟩ = some (.int .i64 c)
  free : w.frozen? ⟨b, 1, none⟩ = false

theorem load_any (a : Addr) (c : Int) (w : World) (hc : w.cell? a = some (.int .i64 c)) :
    Calls Try.prog 27 #[.pointer (some a)] w fun e w' => e = .returned (.int .i64 c) ∧ w = w' := by
  have hl := run_call_load (P := Try.prog) Try.func35 (by kernel_rfl) (by kernel_rfl) (by kernel_rfl) .i64 (by kernel_rfl) hc
  go_enter Try.func27, Try.ntmps27
  go_wp2
  go_ret
  exact ⟨rfl, rfl⟩

theorem cas_hit (a : Addr) (c d : Int) (w : World) (hc : w.cell? a = some (.int .i64 c)) (hz : w.frozen? a = false) :
    Calls Try.prog 28 #[.pointer (some a), .int .i64 c, .int .i64 d] w fun e w' => e = .returned (.bool true) ∧ w.setCell a (.int .i64 d) = w' := by
  have hl := run_call_cas_hit (P := Try.prog) Try.func36 (by kernel_rfl) (by kernel_rfl) (by kernel_rfl) .i64 (by kernel_rfl) (y := d) hc hz
  go_enter Try.func28, Try.ntmps28
  go_wp2
  go_ret
  exact ⟨rfl, rfl⟩

theorem new_neg (m : Int) (hm : m < 0) (w : World) :
    Calls Try.prog 9 #[.int .i64 m] w fun e w' => e = .returned (.tuple #[.pointer none, .int .i64 3]) ∧ w = w' := by
  go_enter Try.func9, Try.ntmps9
  go_wp2
  go_ret2
  exact ⟨rfl, rfl⟩

theorem new_ok (m : Int) (hm : 0 ≤ m) (w : World) :
    Calls Try.prog 9 #[.int .i64 m] w fun e w' => e = .returned (.tuple #[.pointer (some ⟨w.heap.size, 0, none⟩), .int .i64 0]) ∧ w.alloc (.cells #[.int .i64 m, .int .i64 0] 56) = w' := by
  go_enter Try.func9, Try.ntmps9
  go_wp2
  go_ret2
  exact ⟨rfl, rfl⟩

theorem count_any (b : Nat) (m c : Int) (w : World) (h : TallyAt w b m c) :
    Calls Try.prog 13 #[.pointer (some ⟨b, 0, none⟩)] w fun e w' => e = .returned (.int .i64 c) ∧ w = w' := by
  have h0 := h.count
  clear h
  go_enter Try.func13, Try.ntmps13
  go_wp2_with (go_at_call 27; refine (load_any _ c _ h0).mono ?_; rintro e w' ⟨rfl, rfl⟩)
  go_ret
  exact ⟨rfl, rfl⟩

/-- A callee that leaves the world alone, met in a region that only reads. -/
theorem quiet_here {P : Program} {f : FuncId} {args : Array Value} {w : World} {n : Nat} {v : Value}
    (h : Calls P f args (w.drewN n) fun e w' => e = .returned v ∧ w.drewN n = w') : Calls P f args (w.drewN n) fun e w'' => e = .returned v ∧ ∃ m, w'' = w.drewN m :=
  h.mono fun _ _ ⟨he, hm⟩ => ⟨he, n, hm.symm⟩

/-- 'Left', behind the draws of its one statement. -/
theorem left_any (b : Nat) (m c : Int) (w : World) (h : TallyAt w b m c) (h0 : 0 ≤ c) (h1 : c ≤ m) (h2 : m ≤ 9223372036854775807) :
    Calls Try.prog 14 #[.pointer (some ⟨b, 0, none⟩)] w fun e w' => e = .returned (.int .i64 (m - c)) ∧ ∃ n, w' = w.drewN n := by
  have hm := h.most
  have hc := h.count
  clear h
  go_enter Try.func14, Try.ntmps14
  go_wp2_with fail
  go_quiet ((go_at_call 27; exact quiet_here (load_any _ c _ (by simpa using hc))))
  go_wp2
  go_ret
  exact ⟨rfl, _, rfl⟩

theorem spend_arg (b : Nat) (n : Int) (w : World) (hn : n < 0) :
    Calls Try.prog 11 #[.pointer (some ⟨b, 0, none⟩), .int .i64 n] w fun e w' => e = .returned (.int .i64 2) ∧ w = w' := by
  go_enter Try.func11, Try.ntmps11
  go_wp2
  go_ret
  exact ⟨rfl, rfl⟩

theorem spend_cap (b : Nat) (m c n : Int) (w : World) (h : TallyAt w b m c) (h0 : 0 ≤ c) (h1 : c ≤ m) (h2 : m ≤ 9223372036854775807) (hn : 0 ≤ n) (hx : m - c < n) (hN : n ≤ 9223372036854775807) :
    Calls Try.prog 11 #[.pointer (some ⟨b, 0, none⟩), .int .i64 n] w fun e w' => e = .returned (.int .i64 12) ∧ w = w' := by
  have hm := h.most
  have hc := h.count
  clear h
  go_enter Try.func11, Try.ntmps11
  go_wp2_with fail
  refine wp_loop_rounds 1 ?_
  rw [rounds_succ]
  go_wp2_with (go_at_call 27; refine (load_any _ c _ hc).mono ?_; rintro e w' ⟨rfl, rfl⟩)
  go_ret
  exact ⟨rfl, rfl⟩

theorem spend_ok (b : Nat) (m c n : Int) (w : World) (h : TallyAt w b m c) (h0 : 0 ≤ c) (h1 : c ≤ m) (h2 : m ≤ 9223372036854775807) (hn : 0 ≤ n) (hx : n ≤ m - c) :
    Calls Try.prog 11 #[.pointer (some ⟨b, 0, none⟩), .int .i64 n] w fun e w' => e = .returned (.int .i64 0) ∧ w.setCell ⟨b, 1, none⟩ (.int .i64 (c + n)) = w' := by
  have hm := h.most
  have hc := h.count
  have hz := h.free
  clear h
  go_enter Try.func11, Try.ntmps11
  go_wp2_with fail
  refine wp_loop_rounds 1 ?_
  rw [rounds_succ]
  go_wp2_with (first | (go_at_call 27; refine (load_any _ c _ hc).mono ?_; rintro e w' ⟨rfl, rfl⟩) | (go_at_call 28; refine (cas_hit _ c _ _ hc hz).mono ?_; rintro e w' ⟨rfl, rfl⟩))
  go_ret
  exact ⟨rfl, rfl⟩
end Go.Proofs.Ythjkhoblafmibaa
