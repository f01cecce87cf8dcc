/-
  A lazy string: 'Get', the first time and again, 'Made', 'Later'.
-/
import Derived.Test.YthjkhoblafmibaaLazy
import Derived.Deep.RegionHeld3
namespace Go.Proofs.Ythjkhoblafmibaa
open Go.RowKit
set_option linter.unusedVariables false

theorem make25 (w : World) : Calls Try.prog 25 #[] w fun e w' => e = .returned (.string ⟨#[120]⟩) ∧ w = w' := by
  go_enter Try.func25, Try.ntmps25
  go_wp2
  go_ret
  exact ⟨rfl, rfl⟩
theorem make26 (w : World) : Calls Try.prog 26 #[] w fun e w' => e = .returned (.string ⟨#[121]⟩) ∧ w = w' := by
  go_enter Try.func26, Try.ntmps26
  go_wp2
  go_ret
  exact ⟨rfl, rfl⟩

set_option maxHeartbeats 400000 in
theorem create33 (b K : Nat) (pl : Addr) (s : ByteArray) (W : World) (hp : W.cell? pl = some (.pointer (some ⟨b, 0, none⟩))) (x : Value) (h : MidAt W b (.func (.func K) #[] #[]) x 0)
    (hent : ∀ w, (callFunc K #[]).run Try.prog w = .ok (.enter K #[]) w) (hK : ∀ w, Calls Try.prog K #[] w fun e w' => e = .returned (.string s) ∧ w = w')
    (hpb : pl.block ≠ b) :
    Calls Try.prog 33 #[.pointer (some pl)] W fun e w' => e = .returned (.tuple #[]) ∧ MidAt w' b (.func (.func K) #[] #[]) (.string s) 1 ∧ Turned (fun k => k = b) W w' := by
  have hm := h.make
  have hv := h.value
  have hz := h.free4
  have hq : ∀ w, (binOp .neq 44 (.func (.func K) #[] #[]) .nilFunc).run Try.prog w = .ok (.bool true) w := fun w => by kernel_rfl
  have k1 : (W.setCell ⟨b, 4, none⟩ (.string s)).drew.cell? pl = some (.pointer (some ⟨b, 0, none⟩)) := by
    rw [World.cell?_drew]
    exact (World.cell?_setCell_other _ ⟨b, 4, none⟩ pl _ (fun e => hpb (by rw [← e]))).trans hp
  have k2 : (W.setCell ⟨b, 4, none⟩ (.string s)).drew.cell? ⟨b, 3, none⟩ = some (.func (.func K) #[] #[]) := by
    rw [World.cell?_drew]
    exact (World.cell?_setCell_other _ ⟨b, 4, none⟩ ⟨b, 3, none⟩ _ (by simp)).trans hm
  have HK := Lib.hid hK
  clear hK
  go_enter Try.func33, Try.ntmps33
  go_wp2_with fail
  go_region_held3 (fun w' => w'.cell? pl = some (.pointer (some ⟨b, 0, none⟩)) ∧ w'.cell? ⟨b, 3, none⟩ = some (.func (.func K) #[] #[])) (first | exact ⟨k1, k2⟩ | go_keep)
    ((with_reducible refine (HK.out _).mono ?_; rintro e w' ⟨rfl, rfl⟩))
  have h2 : MidAt (W.setCell ⟨b, 4, none⟩ (.string s)).drew b (.func (.func K) #[] #[]) (.string s) 0 := (h.laid _).drew
  have HS := Lib.hid (store_made ⟨b, 5, none⟩ _ _ h2.made h2.free5)
  clear hv hz
  go_wp2_with fail
  refine HS.out.mono ?_
  rintro e w' ⟨rfl, rfl⟩
  go_wp2_with fail
  go_end0
  exact ⟨rfl, h2.drew.told 1, (((Turned.setCell (fun k => k = b) W ⟨b, 4, none⟩ _ rfl).trans (Turned.drew _ _)).trans (Turned.drew _ _)).trans (Turned.setCell _ _ ⟨b, 5, none⟩ _ rfl)⟩

set_option maxHeartbeats 400000 in
/-- 'Get' of a lazy string, the first time. -/
theorem get_str (b K : Nat) (s : ByteArray) (w : World) (h : LazyAt w b 0 (.func (.func K) #[] #[]) (.string ByteArray.empty) 0)
    (hent : ∀ w, (callFunc K #[]).run Try.prog w = .ok (.enter K #[]) w) (hK : ∀ w, Calls Try.prog K #[] w fun e w' => e = .returned (.string s) ∧ w = w') :
    Calls Try.prog 19 #[.pointer (some ⟨b, 0, none⟩)] w fun e w' => e = .returned (.string s) ∧ LazyAt w' b 1 (.func (.func K) #[] #[]) (.string s) 1 ∧ Turned (fun k => k = b) w w' := by
  have hb := h.lt
  have T0 : Turned (fun k => k = b) w (w.alloc (.cells #[.pointer (some ⟨b, 0, none⟩)] 43)) := Turned.alloc _ w _
  have h1 : LazyAt (w.alloc (.cells #[.pointer (some ⟨b, 0, none⟩)] 43)) b 0 (.func (.func K) #[] #[]) (.string ByteArray.empty) 0 := h.turned (Turned.alloc (fun _ => False) w _) (fun h => h)
  have hp : (w.alloc (.cells #[.pointer (some ⟨b, 0, none⟩)] 43)).cell? ⟨w.heap.size, 0, none⟩ = some (.pointer (some ⟨b, 0, none⟩)) := by simp
  have hsz : w.heap.size < (w.alloc (.cells #[.pointer (some ⟨b, 0, none⟩)] 43)).heap.size := by simp
  have HD := Lib.hid (do_made b 33 ⟨w.heap.size, 0, none⟩ (fun k => k = b) rfl (.func (.func K) #[] #[]) (.string ByteArray.empty) (.string s) _ h1 (fun w => by kernel_rfl)
    (fun W hm ht => create33 b K ⟨w.heap.size, 0, none⟩ s W ((ht.cell (p := ⟨w.heap.size, 0, none⟩) hsz (by simp; omega)).trans hp) _ hm hent hK (by simp; omega)))
  have hmf : ∀ (fn : Fn) (first cap : Array Value) (w : World), (Instr.makeFunc fn first cap).run Try.prog w = .ok (.func fn first cap) w := fun _ _ _ _ => rfl
  clear h1 hp hsz hent hK
  go_enter Try.func19, Try.ntmps19
  go_wp2_with fail
  refine HD.out.mono ?_
  rintro e w2 ⟨rfl, h2, t2⟩
  have hp2 : w2.cell? ⟨w.heap.size, 0, none⟩ = some (.pointer (some ⟨b, 0, none⟩)) := (t2.cell (p := ⟨w.heap.size, 0, none⟩) (by simp) (by simp; omega)).trans (by simp)
  have hv := h2.value
  go_wp2_with fail
  go_ret
  exact ⟨rfl, h2, T0.trans t2⟩

set_option maxHeartbeats 400000 in
/-- 'Get' of a lazy string that is made. -/
theorem get_str_again (b : Nat) (f : Value) (s : ByteArray) (w : World) (h : LazyAt w b 1 f (.string s) 1) :
    Calls Try.prog 19 #[.pointer (some ⟨b, 0, none⟩)] w fun e w' => e = .returned (.string s) ∧ LazyAt w' b 1 f (.string s) 1 ∧ Turned (fun _ => False) w w' := by
  have hb := h.lt
  have T0 : Turned (fun _ => False) w (w.alloc (.cells #[.pointer (some ⟨b, 0, none⟩)] 43)) := Turned.alloc _ w _
  have h1 : LazyAt (w.alloc (.cells #[.pointer (some ⟨b, 0, none⟩)] 43)) b 1 f (.string s) 1 := h.turned (Turned.alloc (fun _ => False) w _) (fun h => h)
  have HD := Lib.hid (do_done ⟨b, 0, none⟩ (.func (.func 33) #[] #[.pointer (some ⟨w.heap.size, 0, none⟩)]) _ h1.done)
  have hmf : ∀ (fn : Fn) (first cap : Array Value) (w : World), (Instr.makeFunc fn first cap).run Try.prog w = .ok (.func fn first cap) w := fun _ _ _ _ => rfl
  have hv := h1.value
  go_enter Try.func19, Try.ntmps19
  go_wp2_with fail
  refine HD.out.mono ?_
  rintro e w2 ⟨rfl, rfl⟩
  go_wp2_with fail
  go_ret
  exact ⟨rfl, h1, T0⟩

theorem made_str (b : Nat) (d m : Int) (f x : Value) (w : World) (h : LazyAt w b d f x m) : Calls Try.prog 20 #[.pointer (some ⟨b, 0, none⟩)] w fun e w' => e = .returned (.bool (m != 0)) ∧ w = w' := by
  have HL := Lib.hid (load_bool ⟨b, 5, none⟩ m w h.made)
  clear h
  go_enter Try.func20, Try.ntmps20
  go_wp2_with fail
  refine HL.out.mono ?_
  rintro e w' ⟨rfl, rfl⟩
  go_wp2_with fail
  go_ret
  exact ⟨rfl, rfl⟩

theorem later_str (K : Nat) (w : World) : Calls Try.prog 24 #[.func (.func K) #[] #[]] w fun e w' => e = .returned (.pointer (some ⟨w.heap.size, 0, none⟩)) ∧ LazyAt w' w.heap.size 0 (.func (.func K) #[] #[]) (.string ByteArray.empty) 0 ∧ Below w.heap.size w w' ∧ w'.heap.size = w.heap.size + 1 := by
  go_enter Try.func24, Try.ntmps24
  go_wp2
  go_ret
  exact ⟨rfl, LazyAt.fresh w _ _ _, (Below.refl _ _).alloc (Nat.le_refl _) _, by simp⟩
end Go.Proofs.Ythjkhoblafmibaa
