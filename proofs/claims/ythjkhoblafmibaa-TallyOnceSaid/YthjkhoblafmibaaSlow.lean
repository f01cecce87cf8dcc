/-
  sync.Once's 'Do', whatever function is handed to it.
-/
import Derived.Test.YthjkhoblafmibaaOnce
namespace Go.Proofs.Ythjkhoblafmibaa
open Go.RowKit
set_option linter.unusedVariables false

/-- What the function that is handed to 'Do' is promised of, where the lock is held: it answers, and the once's own two cells are as they were. -/
structure Locked (b : Nat) (w : World) : Prop where
  done : w.cell? ⟨b, 0, none⟩ = some (.int .u32 0)
  lock : w.cell? ⟨b, 1, none⟩ = some (.int .i32 1)
  free0 : w.frozen? ⟨b, 0, none⟩ = false
  free1 : w.frozen? ⟨b, 1, none⟩ = false

/-- The world behind 'Do', where the function left the world wm. -/
def behindDo (b : Nat) (wm : World) : World := (wm.drew.setCell ⟨b, 0, none⟩ (.int .u32 1)).setCell ⟨b, 1, none⟩ (.int .i32 0)

/-- What 'doSlow' leaves. -/
def SlowPost (b : Nat) (Q : World → Prop) (e : Ending) (w' : World) : Prop := e = .returned (.tuple #[]) ∧ ∃ wm, Q wm ∧ w' = behindDo b wm

set_option maxRecDepth 100000 in
set_option maxHeartbeats 1600000 in
theorem slow_any (b K : Nat) (pl : Addr) (Q : World → Prop) (w : World)
    (h0 : w.cell? ⟨b, 0, none⟩ = some (.int .u32 0)) (h1 : w.cell? ⟨b, 1, none⟩ = some (.int .i32 0))
    (f0 : w.frozen? ⟨b, 0, none⟩ = false) (f1 : w.frozen? ⟨b, 1, none⟩ = false)
    (hent : ∀ w, (callFunc K #[.pointer (some pl)]).run Try.prog w = .ok (.enter K #[.pointer (some pl)]) w)
    (hf : Calls Try.prog K #[.pointer (some pl)] (w.setCell ⟨b, 1, none⟩ (.int .i32 1)) fun e w' => e = .returned (.tuple #[]) ∧ Q w' ∧ Locked b w') :
    Calls Try.prog 38 #[.pointer (some ⟨b, 0, none⟩), .func (.func K) #[] #[.pointer (some pl)]] w (SlowPost b Q) := by
  have hl0 : (w.setCell ⟨b, 1, none⟩ (.int .i32 1)).cell? ⟨b, 0, none⟩ = some (.int .u32 0) := (World.cell?_setCell_other _ ⟨b, 1, none⟩ ⟨b, 0, none⟩ _ (by simp)).trans h0
  have hnot : ∀ (x : Bool) (w : World), (Op.unary .not (.bool x)).run Try.prog w = .ok (.bool (!x)) w := fun _ _ => rfl
  have HF := Lib.hid hf
  clear hf
  go_enter_defers Try.func38, Try.ntmps38
  go_wp2_with fail
  refine (lock_free ⟨b, 1, none⟩ _ h1 f1).mono ?_
  rintro e w' ⟨rfl, rfl⟩
  go_wp2_with fail
  refine (load_bool ⟨b, 0, none⟩ 0 _ hl0).mono ?_
  rintro e w' ⟨rfl, rfl⟩
  go_wp2_with fail
  refine HF.out.mono ?_
  rintro e w' ⟨rfl, hq, hL⟩
  go_wp2_with fail
  -- the door: two deferred calls, the last laid first
  refine leaves_cons (f := 32) (args := #[.pointer (some ⟨b, 0, none⟩), .bool true]) (by simp) (by simp [go_sem]) ?_
  refine (store_deferred ⟨b, 0, none⟩ (.int .u32 0) .returning _ hL.done hL.free0).mono ?_
  rintro e u' w'' ⟨rfl, rfl, rfl⟩
  refine leaves_cons (f := 42) (args := #[.pointer (some ⟨b, 1, none⟩)]) (by simp [settle]) (by simp [go_sem]) ?_
  refine (unlock_deferred ⟨b, 1, none⟩ _ _ ?_ (by simp [hL.free1])).mono ?_
  · refine (World.cell?_setCell_other _ ⟨b, 0, none⟩ ⟨b, 1, none⟩ _ (by simp)).trans ?_
    rw [World.cell?_drew]
    exact hL.lock
  rintro e u' w'' ⟨rfl, rfl, rfl⟩
  exact ⟨_, results_none rfl _ _ _, rfl, w', hq, rfl⟩

set_option maxRecDepth 100000 in
set_option maxHeartbeats 400000 in
/-- 'Do', the first time, the lock free. -/
theorem do_first (b K : Nat) (pl : Addr) (Q : World → Prop) (w : World)
    (h0 : w.cell? ⟨b, 0, none⟩ = some (.int .u32 0)) (h1 : w.cell? ⟨b, 1, none⟩ = some (.int .i32 0))
    (f0 : w.frozen? ⟨b, 0, none⟩ = false) (f1 : w.frozen? ⟨b, 1, none⟩ = false)
    (hent : ∀ w, (callFunc K #[.pointer (some pl)]).run Try.prog w = .ok (.enter K #[.pointer (some pl)]) w)
    (hf : Calls Try.prog K #[.pointer (some pl)] (w.setCell ⟨b, 1, none⟩ (.int .i32 1)) fun e w' => e = .returned (.tuple #[]) ∧ Q w' ∧ Locked b w') :
    Calls Try.prog 30 #[.pointer (some ⟨b, 0, none⟩), .func (.func K) #[] #[.pointer (some pl)]] w (SlowPost b Q) := by
  have HS := Lib.hid (slow_any b K pl Q w h0 h1 f0 f1 hent hf)
  have HL := Lib.hid (load_bool ⟨b, 0, none⟩ 0 w h0)
  clear h0 h1 f0 f1 hent hf
  have hnot : ∀ (x : Bool) (w : World), (Op.unary .not (.bool x)).run Try.prog w = .ok (.bool (!x)) w := fun _ _ => rfl
  go_enter Try.func30, Try.ntmps30
  go_wp2_with fail
  refine HL.out.mono ?_
  rintro e w' ⟨rfl, rfl⟩
  go_wp2_with fail
  refine HS.out.mono ?_
  rintro e w' ⟨rfl, hq⟩
  go_wp2_with fail
  go_end0
  exact ⟨rfl, hq⟩

set_option maxRecDepth 100000 in
/-- 'Do', done already: the function is not called. -/
theorem do_done (a : Addr) (fv : Value) (w : World) (h0 : w.cell? a = some (.int .u32 1)) :
    Calls Try.prog 30 #[.pointer (some a), fv] w fun e w' => e = .returned (.tuple #[]) ∧ w = w' := by
  have HL := Lib.hid (load_bool a 1 w h0)
  clear h0
  have hnot : ∀ (x : Bool) (w : World), (Op.unary .not (.bool x)).run Try.prog w = .ok (.bool (!x)) w := fun _ _ => rfl
  go_enter Try.func30, Try.ntmps30
  go_wp2_with fail
  refine HL.out.mono ?_
  rintro e w' ⟨rfl, rfl⟩
  go_wp2_with fail
  go_end0
  exact ⟨rfl, rfl⟩
end Go.Proofs.Ythjkhoblafmibaa
