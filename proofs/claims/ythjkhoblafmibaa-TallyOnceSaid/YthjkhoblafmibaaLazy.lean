/-
  A lazy thing in memory, and what stays beside it.
-/
import Derived.Test.YthjkhoblafmibaaSlow
namespace Go.Proofs.Ythjkhoblafmibaa
open Go.RowKit
set_option linter.unusedVariables false

/-- A lazy thing lies at block b: whether it is done, its lock free, what makes it, what it holds, whether it was made. -/
structure LazyAt (w : World) (b : Nat) (d : Int) (f x : Value) (m : Int) : Prop where
  done : w.cell? ⟨b, 0, none⟩ = some (.int .u32 d)
  lock : w.cell? ⟨b, 1, none⟩ = some (.int .i32 0)
  make : w.cell? ⟨b, 3, none⟩ = some f
  value : w.cell? ⟨b, 4, none⟩ = some x
  made : w.cell? ⟨b, 5, none⟩ = some (.int .u32 m)
  free0 : w.frozen? ⟨b, 0, none⟩ = false
  free1 : w.frozen? ⟨b, 1, none⟩ = false
  free4 : w.frozen? ⟨b, 4, none⟩ = false
  free5 : w.frozen? ⟨b, 5, none⟩ = false

/-- Of the blocks that were there, none outside S has turned. -/
structure Turned (S : Nat → Prop) (w w' : World) : Prop where
  os : w'.os = w.os
  tape : w'.tape = w.tape
  output : w'.output = w.output
  size : w.heap.size ≤ w'.heap.size
  block : ∀ k, k < w.heap.size → ¬ S k → w'.heap[k]? = w.heap[k]?

theorem Turned.refl (S : Nat → Prop) (w : World) : Turned S w w := ⟨rfl, rfl, rfl, Nat.le_refl _, fun _ _ _ => rfl⟩
theorem Turned.trans {S : Nat → Prop} {w w1 w2 : World} (h : Turned S w w1) (k : Turned S w1 w2) : Turned S w w2 :=
  ⟨k.os.trans h.os, k.tape.trans h.tape, k.output.trans h.output, Nat.le_trans h.size k.size, fun i hi hS => (k.block i (Nat.lt_of_lt_of_le hi h.size) hS).trans (h.block i hi hS)⟩
theorem Turned.alloc (S : Nat → Prop) (w : World) (o : Obj) : Turned S w (w.alloc o) := ⟨rfl, rfl, rfl, by simp, fun k hk _ => Below.heap_alloc w o k hk⟩
theorem Turned.drew (S : Nat → Prop) (w : World) : Turned S w w.drew := ⟨rfl, rfl, rfl, Nat.le_refl _, fun _ _ _ => rfl⟩
theorem Turned.setCell (S : Nat → Prop) (w : World) (a : Addr) (v : Value) (h : S a.block) : Turned S w (w.setCell a v) :=
  ⟨rfl, rfl, rfl, by simp [World.setCell], fun k _ hS => Below.heap_setCell w a v k (fun e => hS (e ▸ h))⟩
theorem Turned.mono {S S' : Nat → Prop} {w w' : World} (h : Turned S w w') (hS : ∀ k, k < w.heap.size → S k → S' k) : Turned S' w w' :=
  ⟨h.os, h.tape, h.output, h.size, fun k hk hn => h.block k hk (fun hk' => hn (hS k hk hk'))⟩
theorem Turned.below {S : Nat → Prop} {B : Nat} {w w' : World} (h : Turned S w w') (hB : B ≤ w.heap.size) (hS : ∀ k, S k → B ≤ k) : Below B w w' :=
  ⟨h.os, h.tape, h.output, h.size, fun k hk => h.block k (by omega) (fun hk' => by have := hS k hk'; omega)⟩
theorem Turned.cell {S : Nat → Prop} {w w' : World} (h : Turned S w w') {p : Addr} (hl : p.block < w.heap.size) (hp : ¬ S p.block) : w'.cell? p = w.cell? p := World.cell?_of_block (w := w) (h.block p.block hl hp)
theorem Turned.frozen {S : Nat → Prop} {w w' : World} (h : Turned S w w') {p : Addr} (hl : p.block < w.heap.size) (hp : ¬ S p.block) : w'.frozen? p = w.frozen? p := World.frozen?_of_block (w := w) (h.block p.block hl hp)

theorem LazyAt.lt {w : World} {b : Nat} {d : Int} {f x : Value} {m : Int} (h : LazyAt w b d f x m) : b < w.heap.size := World.block_lt_of_cell? w ⟨b, 0, none⟩ h.done
/-- One that is elsewhere stays. -/
theorem LazyAt.turned {S : Nat → Prop} {w w' : World} {b : Nat} {d : Int} {f x : Value} {m : Int} (h : LazyAt w b d f x m) (o : Turned S w w') (hb : ¬ S b) : LazyAt w' b d f x m :=
  ⟨(o.cell h.lt hb).trans h.done, (o.cell h.lt hb).trans h.lock, (o.cell h.lt hb).trans h.make, (o.cell h.lt hb).trans h.value, (o.cell h.lt hb).trans h.made,
   (o.frozen h.lt hb).trans h.free0, (o.frozen h.lt hb).trans h.free1, (o.frozen h.lt hb).trans h.free4, (o.frozen h.lt hb).trans h.free5⟩
theorem LazyAt.below {B : Nat} {w w' : World} {b : Nat} {d : Int} {f x : Value} {m : Int} (h : LazyAt w b d f x m) (o : Below B w w') (hb : b < B) : LazyAt w' b d f x m :=
  ⟨(o.cell hb).trans h.done, (o.cell hb).trans h.lock, (o.cell hb).trans h.make, (o.cell hb).trans h.value, (o.cell hb).trans h.made,
   (o.frozen hb).trans h.free0, (o.frozen hb).trans h.free1, (o.frozen hb).trans h.free4, (o.frozen hb).trans h.free5⟩
theorem LazyAt.fresh (w : World) (f x : Value) (t : TypeId) : LazyAt (w.alloc (.cells #[.int .u32 0, .int .i32 0, .int .u32 0, f, x, .int .u32 0] t)) w.heap.size 0 f x 0 :=
  ⟨by simp, by simp, by simp, by simp, by simp, by simp, by simp, by simp, by simp⟩

/-- The same while the once's lock is held. -/
structure MidAt (w : World) (b : Nat) (f x : Value) (m : Int) : Prop where
  done : w.cell? ⟨b, 0, none⟩ = some (.int .u32 0)
  lock : w.cell? ⟨b, 1, none⟩ = some (.int .i32 1)
  make : w.cell? ⟨b, 3, none⟩ = some f
  value : w.cell? ⟨b, 4, none⟩ = some x
  made : w.cell? ⟨b, 5, none⟩ = some (.int .u32 m)
  free0 : w.frozen? ⟨b, 0, none⟩ = false
  free1 : w.frozen? ⟨b, 1, none⟩ = false
  free4 : w.frozen? ⟨b, 4, none⟩ = false
  free5 : w.frozen? ⟨b, 5, none⟩ = false

theorem MidAt.lt {w : World} {b : Nat} {f x : Value} {m : Int} (h : MidAt w b f x m) : b < w.heap.size := World.block_lt_of_cell? w ⟨b, 0, none⟩ h.done
theorem MidAt.locked {w : World} {b : Nat} {f x : Value} {m : Int} (h : MidAt w b f x m) : Locked b w := ⟨h.done, h.lock, h.free0, h.free1⟩
theorem MidAt.turned {S : Nat → Prop} {w w' : World} {b : Nat} {f x : Value} {m : Int} (h : MidAt w b f x m) (o : Turned S w w') (hb : ¬ S b) : MidAt w' b f x m :=
  ⟨(o.cell h.lt hb).trans h.done, (o.cell h.lt hb).trans h.lock, (o.cell h.lt hb).trans h.make, (o.cell h.lt hb).trans h.value, (o.cell h.lt hb).trans h.made,
   (o.frozen h.lt hb).trans h.free0, (o.frozen h.lt hb).trans h.free1, (o.frozen h.lt hb).trans h.free4, (o.frozen h.lt hb).trans h.free5⟩
theorem MidAt.drew {w : World} {b : Nat} {f x : Value} {m : Int} (h : MidAt w b f x m) : MidAt w.drew b f x m :=
  ⟨by simpa using h.done, by simpa using h.lock, by simpa using h.make, by simpa using h.value, by simpa using h.made, by simpa using h.free0, by simpa using h.free1, by simpa using h.free4, by simpa using h.free5⟩
theorem LazyAt.held {w : World} {b : Nat} {f x : Value} {m : Int} (h : LazyAt w b 0 f x m) : MidAt (w.setCell ⟨b, 1, none⟩ (.int .i32 1)) b f x m :=
  ⟨(World.cell?_setCell_other _ ⟨b, 1, none⟩ ⟨b, 0, none⟩ _ (by simp)).trans h.done, World.cell?_setCell_same _ _ _ h.lock,
   (World.cell?_setCell_other _ ⟨b, 1, none⟩ ⟨b, 3, none⟩ _ (by simp)).trans h.make, (World.cell?_setCell_other _ ⟨b, 1, none⟩ ⟨b, 4, none⟩ _ (by simp)).trans h.value,
   (World.cell?_setCell_other _ ⟨b, 1, none⟩ ⟨b, 5, none⟩ _ (by simp)).trans h.made, by simpa using h.free0, by simpa using h.free1, by simpa using h.free4, by simpa using h.free5⟩
theorem MidAt.laid {w : World} {b : Nat} {f x : Value} {m : Int} (h : MidAt w b f x m) (y : Value) : MidAt (w.setCell ⟨b, 4, none⟩ y) b f y m :=
  ⟨(World.cell?_setCell_other _ ⟨b, 4, none⟩ ⟨b, 0, none⟩ _ (by simp)).trans h.done, (World.cell?_setCell_other _ ⟨b, 4, none⟩ ⟨b, 1, none⟩ _ (by simp)).trans h.lock,
   (World.cell?_setCell_other _ ⟨b, 4, none⟩ ⟨b, 3, none⟩ _ (by simp)).trans h.make, World.cell?_setCell_same _ _ _ h.value,
   (World.cell?_setCell_other _ ⟨b, 4, none⟩ ⟨b, 5, none⟩ _ (by simp)).trans h.made, by simpa using h.free0, by simpa using h.free1, by simpa using h.free4, by simpa using h.free5⟩
theorem MidAt.told {w : World} {b : Nat} {f x : Value} {m : Int} (h : MidAt w b f x m) (n : Int) : MidAt (w.setCell ⟨b, 5, none⟩ (.int .u32 n)) b f x n :=
  ⟨(World.cell?_setCell_other _ ⟨b, 5, none⟩ ⟨b, 0, none⟩ _ (by simp)).trans h.done, (World.cell?_setCell_other _ ⟨b, 5, none⟩ ⟨b, 1, none⟩ _ (by simp)).trans h.lock,
   (World.cell?_setCell_other _ ⟨b, 5, none⟩ ⟨b, 3, none⟩ _ (by simp)).trans h.make, (World.cell?_setCell_other _ ⟨b, 5, none⟩ ⟨b, 4, none⟩ _ (by simp)).trans h.value,
   World.cell?_setCell_same _ _ _ h.made, by simpa using h.free0, by simpa using h.free1, by simpa using h.free4, by simpa using h.free5⟩
theorem MidAt.behind {w : World} {b : Nat} {f x : Value} {m : Int} (h0 : MidAt w b f x m) : LazyAt (behindDo b w) b 1 f x m := by
  have h := h0.drew
  unfold behindDo
  exact ⟨(World.cell?_setCell_other _ ⟨b, 1, none⟩ ⟨b, 0, none⟩ _ (by simp)).trans (World.cell?_setCell_same _ _ _ h.done),
    World.cell?_setCell_same _ _ _ ((World.cell?_setCell_other _ ⟨b, 0, none⟩ ⟨b, 1, none⟩ _ (by simp)).trans h.lock),
    (World.cell?_setCell_other _ ⟨b, 1, none⟩ ⟨b, 3, none⟩ _ (by simp)).trans ((World.cell?_setCell_other _ ⟨b, 0, none⟩ ⟨b, 3, none⟩ _ (by simp)).trans h.make),
    (World.cell?_setCell_other _ ⟨b, 1, none⟩ ⟨b, 4, none⟩ _ (by simp)).trans ((World.cell?_setCell_other _ ⟨b, 0, none⟩ ⟨b, 4, none⟩ _ (by simp)).trans h.value),
    (World.cell?_setCell_other _ ⟨b, 1, none⟩ ⟨b, 5, none⟩ _ (by simp)).trans ((World.cell?_setCell_other _ ⟨b, 0, none⟩ ⟨b, 5, none⟩ _ (by simp)).trans h.made),
    by simpa using h.free0, by simpa using h.free1, by simpa using h.free4, by simpa using h.free5⟩
theorem Turned.behind {S : Nat → Prop} {b : Nat} (h : S b) (w : World) : Turned S w (behindDo b w) :=
  ((Turned.drew S w).trans (Turned.setCell S _ ⟨b, 0, none⟩ _ h)).trans (Turned.setCell S _ ⟨b, 1, none⟩ _ h)

/-- 'Do', the first time: what is made is laid, and told to be made. -/
theorem do_made (b K : Nat) (pl : Addr) (S : Nat → Prop) (hS : S b) (f x y : Value) (w : World) (h : LazyAt w b 0 f x 0)
    (hent : ∀ w, (callFunc K #[.pointer (some pl)]).run Try.prog w = .ok (.enter K #[.pointer (some pl)]) w)
    (hf : ∀ W, MidAt W b f x 0 → Turned (fun k => k = b) w W → Calls Try.prog K #[.pointer (some pl)] W fun e w' => e = .returned (.tuple #[]) ∧ MidAt w' b f y 1 ∧ Turned S W w') :
    Calls Try.prog 30 #[.pointer (some ⟨b, 0, none⟩), .func (.func K) #[] #[.pointer (some pl)]] w fun e w' => e = .returned (.tuple #[]) ∧ LazyAt w' b 1 f y 1 ∧ Turned S w w' := by
  have T1 : Turned (fun k => k = b) w (w.setCell ⟨b, 1, none⟩ (.int .i32 1)) := Turned.setCell _ w ⟨b, 1, none⟩ _ rfl
  refine (do_first b K pl (fun wm => MidAt wm b f y 1 ∧ Turned S w wm) w h.done h.lock h.free0 h.free1 hent ?_).mono ?_
  · refine (hf _ h.held T1).mono ?_
    rintro e w' ⟨rfl, hm, ht⟩
    exact ⟨rfl, ⟨hm, (T1.mono (fun k _ e => by subst e; exact hS)).trans ht⟩, hm.locked⟩
  · rintro e w' ⟨rfl, wm, ⟨hm, ht⟩, rfl⟩
    exact ⟨rfl, hm.behind, ht.trans (Turned.behind hS wm)⟩

theorem create34 (b : Nat) (pl : Addr) (W : World) (hp : W.cell? pl = some (.pointer (some ⟨b, 0, none⟩))) (x : Value) (h : MidAt W b .nilFunc x 0) :
    Calls Try.prog 34 #[.pointer (some pl)] W fun e w' => e = .returned (.tuple #[]) ∧ MidAt w' b .nilFunc x 1 ∧ Turned (fun k => k = b) W w' := by
  have HS := Lib.hid (store_made ⟨b, 5, none⟩ _ W h.made h.free5)
  have hm := h.make
  have hq : ∀ w, (binOp .neq 33 .nilFunc .nilFunc).run Try.prog w = .ok (.bool false) w := fun w => by kernel_rfl
  go_enter Try.func34, Try.ntmps34
  go_wp2_with fail
  refine HS.out.mono ?_
  rintro e w' ⟨rfl, rfl⟩
  go_wp2_with fail
  go_end0
  exact ⟨rfl, h.drew.told 1, (Turned.drew _ W).trans (Turned.setCell _ _ ⟨b, 5, none⟩ _ rfl)⟩

set_option maxHeartbeats 400000 in
/-- 'Get' of an int that there is no way to make: the zero value is made. -/
theorem get_none (b : Nat) (w : World) (h : LazyAt w b 0 .nilFunc (.int .i64 0) 0) :
    Calls Try.prog 23 #[.pointer (some ⟨b, 0, none⟩)] w fun e w' => e = .returned (.int .i64 0) ∧ LazyAt w' b 1 .nilFunc (.int .i64 0) 1 ∧ Turned (fun k => k = b) w w' := by
  have hb := h.lt
  have T0 : Turned (fun k => k = b) w (w.alloc (.cells #[.pointer (some ⟨b, 0, none⟩)] 45)) := Turned.alloc _ w _
  have h1 : LazyAt (w.alloc (.cells #[.pointer (some ⟨b, 0, none⟩)] 45)) b 0 .nilFunc (.int .i64 0) 0 := h.turned (Turned.alloc (fun _ => False) w _) (fun h => h)
  have hp : (w.alloc (.cells #[.pointer (some ⟨b, 0, none⟩)] 45)).cell? ⟨w.heap.size, 0, none⟩ = some (.pointer (some ⟨b, 0, none⟩)) := by simp
  have hsz : w.heap.size < (w.alloc (.cells #[.pointer (some ⟨b, 0, none⟩)] 45)).heap.size := by simp
  have HD := Lib.hid (do_made b 34 ⟨w.heap.size, 0, none⟩ (fun k => k = b) rfl .nilFunc (.int .i64 0) (.int .i64 0) _ h1 (fun w => by kernel_rfl)
    (fun W hm ht => create34 b ⟨w.heap.size, 0, none⟩ W ((ht.cell (p := ⟨w.heap.size, 0, none⟩) hsz (by simp; omega)).trans hp) _ hm))
  have hmf : ∀ (fn : Fn) (first cap : Array Value) (w : World), (Instr.makeFunc fn first cap).run Try.prog w = .ok (.func fn first cap) w := fun _ _ _ _ => rfl
  clear h1 hp hsz
  go_enter Try.func23, Try.ntmps23
  go_wp2_with fail
  refine HD.out.mono ?_
  rintro e w2 ⟨rfl, h2, t2⟩
  have hp2 : w2.cell? ⟨w.heap.size, 0, none⟩ = some (.pointer (some ⟨b, 0, none⟩)) := (t2.cell (p := ⟨w.heap.size, 0, none⟩) (by simp) (by simp; omega)).trans (by simp)
  have hv := h2.value
  go_wp2_with fail
  go_ret
  exact ⟨rfl, h2, T0.trans t2⟩
end Go.Proofs.Ythjkhoblafmibaa
