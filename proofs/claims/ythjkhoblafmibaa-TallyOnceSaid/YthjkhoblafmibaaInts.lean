/-
  A lazy list of two numbers, made by a function that counts how often it was called: 'Get', the first time and again, 'Made', 'Later'.
-/
import Derived.Test.YthjkhoblafmibaaLazy
import Derived.Deep.RegionHeld3
namespace Go.Proofs.Ythjkhoblafmibaa
open Go.RowKit
set_option linter.unusedVariables false

theorem make16 (pm px : Addr) (c x : Int) (W : World) (hm : W.cell? pm = some (.int .i64 c)) (hx : W.cell? px = some (.int .i64 x)) (hz : W.frozen? pm = false) (hne : pm.block ≠ px.block) (h0 : 0 ≤ c) (h1 : c ≤ 1) :
    Calls Try.prog 16 #[.pointer (some pm), .pointer (some px)] W fun e w' => e = .returned (.slice (some ⟨W.heap.size, 0, none⟩) 2 2) ∧ (W.setCell pm (.int .i64 (c + 1))).alloc (.cells #[.int .i64 x, .int .i64 (c + 1)] 3) = w' := by
  have hx2 : (W.setCell pm (.int .i64 (c + 1))).cell? px = some (.int .i64 x) := (World.cell?_setCell_other _ pm px _ (fun e => hne (by rw [e]))).trans hx
  have hm2 : (W.setCell pm (.int .i64 (c + 1))).cell? pm = some (.int .i64 (c + 1)) := World.cell?_setCell_same _ _ _ hm
  go_enter Try.func16, Try.ntmps16
  go_wp2
  go_ret
  exact ⟨rfl, rfl⟩

/-- What makes it: the function, and the two variables that it captured. -/
def mk16 (pm px : Addr) : Value := .func (.func 16) #[] #[.pointer (some pm), .pointer (some px)]

/-- What stands in memory once the list is made: its two numbers, and the count of calls. -/
structure TwoAt (w : World) (n : Nat) (x : Int) (pm px : Addr) : Prop where
  first : w.cell? ⟨n, 0, none⟩ = some (.int .i64 x)
  second : w.cell? ⟨n, 1, none⟩ = some (.int .i64 1)
  count : w.cell? pm = some (.int .i64 1)
  arg : w.cell? px = some (.int .i64 x)

theorem TwoAt.lt {w : World} {n : Nat} {x : Int} {pm px : Addr} (h : TwoAt w n x pm px) : n < w.heap.size := World.block_lt_of_cell? w ⟨n, 0, none⟩ h.first
theorem TwoAt.turned {S : Nat → Prop} {w w' : World} {n : Nat} {x : Int} {pm px : Addr} (h : TwoAt w n x pm px) (o : Turned S w w') (hn : ¬ S n) (hm : ¬ S pm.block) (hx : ¬ S px.block) : TwoAt w' n x pm px :=
  ⟨(o.cell h.lt hn).trans h.first, (o.cell h.lt hn).trans h.second, (o.cell (World.block_lt_of_cell? w pm h.count) hm).trans h.count, (o.cell (World.block_lt_of_cell? w px h.arg) hx).trans h.arg⟩

/-- The function, called for the first time: of what was there nothing turns but its count. -/
theorem make16_first (pm px : Addr) (x : Int) (W : World) (hm : W.cell? pm = some (.int .i64 0)) (hx : W.cell? px = some (.int .i64 x)) (hz : W.frozen? pm = false) (hne : pm.block ≠ px.block) :
    Calls Try.prog 16 #[.pointer (some pm), .pointer (some px)] W fun e w' => e = .returned (.slice (some ⟨W.heap.size, 0, none⟩) 2 2) ∧ TwoAt w' W.heap.size x pm px ∧ Turned (fun k => k = pm.block) W w' := by
  refine (make16 pm px 0 x W hm hx hz hne (by omega) (by omega)).mono ?_
  rintro e w' ⟨rfl, rfl⟩
  have hml : pm.block < W.heap.size := World.block_lt_of_cell? W pm hm
  have hxl : px.block < W.heap.size := World.block_lt_of_cell? W px hx
  have t1 : Turned (fun k => k = pm.block) W (W.setCell pm (.int .i64 (0 + 1))) := Turned.setCell _ W pm _ rfl
  have hs : (W.setCell pm (.int .i64 (0 + 1))).heap.size = W.heap.size := by simp [World.setCell]
  have t2 : Turned (fun _ => False) (W.setCell pm (.int .i64 (0 + 1))) ((W.setCell pm (.int .i64 (0 + 1))).alloc (.cells #[.int .i64 x, .int .i64 (0 + 1)] 3)) := Turned.alloc _ _ _
  refine ⟨rfl, ⟨?_, ?_, ?_, ?_⟩, t1.trans (t2.mono (fun _ _ h => h.elim))⟩
  · have hn := fun W1 : World => (show (W1.alloc (.cells #[.int .i64 x, .int .i64 (0 + 1)] 3)).cell? ⟨W1.heap.size, 0, none⟩ = some (.int .i64 x) by simp)
    have := hn (W.setCell pm (.int .i64 (0 + 1)))
    rwa [hs] at this
  · have hn := fun W1 : World => (show (W1.alloc (.cells #[.int .i64 x, .int .i64 (0 + 1)] 3)).cell? ⟨W1.heap.size, 1, none⟩ = some (.int .i64 1) by simp)
    have := hn (W.setCell pm (.int .i64 (0 + 1)))
    rwa [hs] at this
  · exact (t2.cell (by rw [hs]; exact hml) (fun h => h)).trans (World.cell?_setCell_same _ _ _ hm)
  · exact (t2.cell (by rw [hs]; exact hxl) (fun h => h)).trans ((World.cell?_setCell_other _ pm px _ (fun e => hne (by rw [e]))).trans hx)

set_option maxHeartbeats 1000000 in
theorem create31 (b : Nat) (pl pm px : Addr) (x : Int) (y : Value) (W : World) (hp : W.cell? pl = some (.pointer (some ⟨b, 0, none⟩))) (h : MidAt W b (mk16 pm px) y 0)
    (hm : W.cell? pm = some (.int .i64 0)) (hx : W.cell? px = some (.int .i64 x)) (hz : W.frozen? pm = false) (hne : pm.block ≠ px.block)
    (hpb : pl.block ≠ b) (hplm : pl.block ≠ pm.block) (hbm : b ≠ pm.block) (hbx : b ≠ px.block) :
    Calls Try.prog 31 #[.pointer (some pl)] W fun e w' => e = .returned (.tuple #[]) ∧ MidAt w' b (mk16 pm px) (.slice (some ⟨W.heap.size, 0, none⟩) 2 2) 1 ∧ TwoAt w' W.heap.size x pm px ∧ Turned (fun k => k = b ∨ k = pm.block) W w' := by
  have hpl : pl.block < W.heap.size := World.block_lt_of_cell? W pl hp
  have hbl := h.lt
  have hmk := h.make
  have hv := h.value
  have hz4 := h.free4
  have HK := Lib.hid (make16_first pm px x W.drew (by simpa using hm) (by simpa using hx) (by simpa using hz) hne)
  unfold mk16 at hmk
  have hq : ∀ w, (binOp .neq 41 (.func (.func 16) #[] #[.pointer (some pm), .pointer (some px)]) .nilFunc).run Try.prog w = .ok (.bool true) w := fun w => by kernel_rfl
  clear hm hx hz hne
  go_enter Try.func31, Try.ntmps31
  go_wp2_with fail
  go_region_held3 (fun w' => w'.cell? pl = some (.pointer (some ⟨b, 0, none⟩)) ∧ w'.cell? ⟨b, 3, none⟩ = some (.func (.func 16) #[] #[.pointer (some pm), .pointer (some px)])) (first | exact ⟨kC1, kC2⟩ | exact ⟨kA1, kA2⟩ | go_keep)
    ((go_at_call 16; refine HK.out.mono ?_; rintro e wA ⟨rfl, tw, tA⟩; have mA := h.drew.turned tA hbm; have kA1 : wA.cell? pl = some (.pointer (some ⟨b, 0, none⟩)) := (tA.cell (p := pl) hpl hplm).trans hp; have kA2 : wA.cell? ⟨b, 3, none⟩ = some (.func (.func 16) #[] #[.pointer (some pm), .pointer (some px)]) := mA.make; have vA := mA.value; have fA := mA.free4; have kC1 : (wA.setCell ⟨b, 4, none⟩ (.slice (some ⟨W.heap.size, 0, none⟩) 2 2)).cell? pl = some (.pointer (some ⟨b, 0, none⟩)) := (World.cell?_setCell_other _ ⟨b, 4, none⟩ pl _ (fun e => hpb (by rw [← e]))).trans kA1; have kC2 : (wA.setCell ⟨b, 4, none⟩ (.slice (some ⟨W.heap.size, 0, none⟩) 2 2)).cell? ⟨b, 3, none⟩ = some (.func (.func 16) #[] #[.pointer (some pm), .pointer (some px)]) := (World.cell?_setCell_other _ ⟨b, 4, none⟩ ⟨b, 3, none⟩ _ (by simp)).trans kA2))
  have h2 : MidAt (wA.setCell ⟨b, 4, none⟩ (.slice (some ⟨W.heap.size, 0, none⟩) 2 2)) b (mk16 pm px) (.slice (some ⟨W.heap.size, 0, none⟩) 2 2) 0 := mA.laid _
  have HS := Lib.hid (store_made ⟨b, 5, none⟩ _ _ h2.made h2.free5)
  have hbW : ¬ (W.heap.size = b) := by omega
  have tw2 : TwoAt (wA.setCell ⟨b, 4, none⟩ (.slice (some ⟨W.heap.size, 0, none⟩) 2 2)) W.heap.size x pm px := tw.turned (Turned.setCell (fun k => k = b) wA ⟨b, 4, none⟩ _ rfl) hbW (fun e => hbm e.symm) (fun e => hbx e.symm)
  have tT : Turned (fun k => k = b ∨ k = pm.block) W (wA.setCell ⟨b, 4, none⟩ (.slice (some ⟨W.heap.size, 0, none⟩) 2 2)) :=
    ((Turned.drew _ W).trans (tA.mono (fun k _ e => Or.inr e))).trans (Turned.setCell _ wA ⟨b, 4, none⟩ _ (Or.inl rfl))
  clear hv hz4 vA fA kC1 kC2 mA tw tA
  go_wp2_with fail
  refine HS.out.mono ?_
  rintro e w' ⟨rfl, rfl⟩
  go_wp2_with fail
  go_end0
  have tE : Turned (fun k => k = b) (wA.setCell ⟨b, 4, none⟩ (.slice (some ⟨W.heap.size, 0, none⟩) 2 2)) ((wA.setCell ⟨b, 4, none⟩ (.slice (some ⟨W.heap.size, 0, none⟩) 2 2)).drew.setCell ⟨b, 5, none⟩ (.int .u32 1)) :=
    (Turned.drew _ _).trans (Turned.setCell _ _ ⟨b, 5, none⟩ _ rfl)
  exact ⟨rfl, h2.drew.told 1, tw2.turned tE hbW (fun e => hbm e.symm) (fun e => hbx e.symm), tT.trans (tE.mono (fun k _ e => Or.inl e))⟩

/-- 'Do', the first time, with one fact more on what the function leaves. -/
theorem do_made_with (b K : Nat) (pl : Addr) (S : Nat → Prop) (hS : S b) (f x y : Value) (Q : World → Prop) (w : World) (h : LazyAt w b 0 f x 0)
    (hent : ∀ w, (callFunc K #[.pointer (some pl)]).run Try.prog w = .ok (.enter K #[.pointer (some pl)]) w)
    (hQ : ∀ w' w'', Q w' → Turned (fun k => k = b) w' w'' → Q w'')
    (hf : ∀ W, MidAt W b f x 0 → Turned (fun k => k = b) w W → W.heap.size = w.heap.size → Calls Try.prog K #[.pointer (some pl)] W fun e w' => e = .returned (.tuple #[]) ∧ MidAt w' b f y 1 ∧ Turned S W w' ∧ Q w') :
    Calls Try.prog 30 #[.pointer (some ⟨b, 0, none⟩), .func (.func K) #[] #[.pointer (some pl)]] w fun e w' => e = .returned (.tuple #[]) ∧ LazyAt w' b 1 f y 1 ∧ Turned S w w' ∧ Q w' := by
  have T1 : Turned (fun k => k = b) w (w.setCell ⟨b, 1, none⟩ (.int .i32 1)) := Turned.setCell _ w ⟨b, 1, none⟩ _ rfl
  refine (do_first b K pl (fun wm => MidAt wm b f y 1 ∧ Turned S w wm ∧ Q wm) w h.done h.lock h.free0 h.free1 hent ?_).mono ?_
  · refine (hf _ h.held T1 (by simp [World.setCell])).mono ?_
    rintro e w' ⟨rfl, hm, ht, hq⟩
    exact ⟨rfl, ⟨hm, (T1.mono (fun k _ e => by subst e; exact hS)).trans ht, hq⟩, hm.locked⟩
  · rintro e w' ⟨rfl, wm, ⟨hm, ht, hq⟩, rfl⟩
    exact ⟨rfl, hm.behind, ht.trans (Turned.behind hS wm), hQ _ _ hq (Turned.behind (S := fun k => k = b) rfl wm)⟩

set_option maxHeartbeats 400000 in
/-- 'Get' of the list, the first time. -/
theorem get_two (b : Nat) (pm px : Addr) (x : Int) (w : World) (h : LazyAt w b 0 (mk16 pm px) (.slice none 0 0) 0)
    (hm : w.cell? pm = some (.int .i64 0)) (hx : w.cell? px = some (.int .i64 x)) (hz : w.frozen? pm = false) (hne : pm.block ≠ px.block) (hbm : b ≠ pm.block) (hbx : b ≠ px.block) :
    Calls Try.prog 18 #[.pointer (some ⟨b, 0, none⟩)] w fun e w' => e = .returned (.slice (some ⟨w.heap.size + 1, 0, none⟩) 2 2) ∧ LazyAt w' b 1 (mk16 pm px) (.slice (some ⟨w.heap.size + 1, 0, none⟩) 2 2) 1 ∧
      TwoAt w' (w.heap.size + 1) x pm px ∧ Turned (fun k => k = b ∨ k = pm.block) w w' := by
  have hb := h.lt
  have hml : pm.block < w.heap.size := World.block_lt_of_cell? w pm hm
  have hxl : px.block < w.heap.size := World.block_lt_of_cell? w px hx
  have T0 : Turned (fun _ => False) w (w.alloc (.cells #[.pointer (some ⟨b, 0, none⟩)] 39)) := Turned.alloc _ w _
  have h1 : LazyAt (w.alloc (.cells #[.pointer (some ⟨b, 0, none⟩)] 39)) b 0 (mk16 pm px) (.slice none 0 0) 0 := h.turned T0 (fun h => h)
  have hp : (w.alloc (.cells #[.pointer (some ⟨b, 0, none⟩)] 39)).cell? ⟨w.heap.size, 0, none⟩ = some (.pointer (some ⟨b, 0, none⟩)) := by simp
  have hsz : (w.alloc (.cells #[.pointer (some ⟨b, 0, none⟩)] 39)).heap.size = w.heap.size + 1 := by simp
  have HD := Lib.hid (do_made_with b 31 ⟨w.heap.size, 0, none⟩ (fun k => k = b ∨ k = pm.block) (Or.inl rfl) (mk16 pm px) (.slice none 0 0) (.slice (some ⟨w.heap.size + 1, 0, none⟩) 2 2)
    (fun w' => TwoAt w' (w.heap.size + 1) x pm px) _ h1 (fun w => by kernel_rfl)
    (fun w' w'' hq ht => hq.turned ht (by omega) (fun e => hbm e.symm) (fun e => hbx e.symm))
    (fun W hM ht hs => by
      rw [hsz] at hs
      have c := create31 b ⟨w.heap.size, 0, none⟩ pm px x (.slice none 0 0) W ((ht.cell (p := ⟨w.heap.size, 0, none⟩) (by rw [hsz]; simp) (by simp; omega)).trans hp) hM
        (((ht.cell (p := pm) (by rw [hsz]; omega) (fun e => hbm e.symm)).trans (T0.cell hml (fun h => h))).trans hm)
        (((ht.cell (p := px) (by rw [hsz]; omega) (fun e => hbx e.symm)).trans (T0.cell hxl (fun h => h))).trans hx)
        (((ht.frozen (p := pm) (by rw [hsz]; omega) (fun e => hbm e.symm)).trans (T0.frozen hml (fun h => h))).trans hz)
        hne (by simp; omega) (by simp; omega) hbm hbx
      rw [hs] at c
      exact c.mono fun e w' ⟨he, m1, tw, tt⟩ => ⟨he, m1, tt, tw⟩))
  have hmf : ∀ (fn : Fn) (first cap : Array Value) (w : World), (Instr.makeFunc fn first cap).run Try.prog w = .ok (.func fn first cap) w := fun _ _ _ _ => rfl
  clear h1 hp hm hx hz
  go_enter Try.func18, Try.ntmps18
  go_wp2_with fail
  refine HD.out.mono ?_
  rintro e w2 ⟨rfl, h2, t2, tw2⟩
  have hp2 : w2.cell? ⟨w.heap.size, 0, none⟩ = some (.pointer (some ⟨b, 0, none⟩)) := (t2.cell (p := ⟨w.heap.size, 0, none⟩) (by simp) (by simp; omega)).trans (by simp)
  have hv := h2.value
  go_wp2_with fail
  go_ret
  exact ⟨rfl, h2, tw2, (T0.mono (fun _ _ h => h.elim)).trans t2⟩

set_option maxHeartbeats 400000 in
/-- 'Get' of the list that is made. -/
theorem get_two_again (b : Nat) (f v : Value) (n : Nat) (w : World) (h : LazyAt w b 1 f (.slice (some ⟨n, 0, none⟩) 2 2) 1) :
    Calls Try.prog 18 #[.pointer (some ⟨b, 0, none⟩)] w fun e w' => e = .returned (.slice (some ⟨n, 0, none⟩) 2 2) ∧ LazyAt w' b 1 f (.slice (some ⟨n, 0, none⟩) 2 2) 1 ∧ Turned (fun _ => False) w w' := by
  have hb := h.lt
  have T0 : Turned (fun _ => False) w (w.alloc (.cells #[.pointer (some ⟨b, 0, none⟩)] 39)) := Turned.alloc _ w _
  have h1 : LazyAt (w.alloc (.cells #[.pointer (some ⟨b, 0, none⟩)] 39)) b 1 f (.slice (some ⟨n, 0, none⟩) 2 2) 1 := h.turned T0 (fun h => h)
  have HD := Lib.hid (do_done ⟨b, 0, none⟩ (.func (.func 31) #[] #[.pointer (some ⟨w.heap.size, 0, none⟩)]) _ h1.done)
  have hmf : ∀ (fn : Fn) (first cap : Array Value) (w : World), (Instr.makeFunc fn first cap).run Try.prog w = .ok (.func fn first cap) w := fun _ _ _ _ => rfl
  have hv := h1.value
  go_enter Try.func18, Try.ntmps18
  go_wp2_with fail
  refine HD.out.mono ?_
  rintro e w2 ⟨rfl, rfl⟩
  go_wp2_with fail
  go_ret
  exact ⟨rfl, h1, T0⟩

theorem made_two (b : Nat) (d m : Int) (f x : Value) (w : World) (h : LazyAt w b d f x m) : Calls Try.prog 17 #[.pointer (some ⟨b, 0, none⟩)] w fun e w' => e = .returned (.bool (m != 0)) ∧ w = w' := by
  have HL := Lib.hid (load_bool ⟨b, 5, none⟩ m w h.made)
  clear h
  go_enter Try.func17, Try.ntmps17
  go_wp2_with fail
  refine HL.out.mono ?_
  rintro e w' ⟨rfl, rfl⟩
  go_wp2_with fail
  go_ret
  exact ⟨rfl, rfl⟩

theorem later_two (pm px : Addr) (w : World) : Calls Try.prog 15 #[.func (.func 16) #[] #[.pointer (some pm), .pointer (some px)]] w fun e w' => e = .returned (.pointer (some ⟨w.heap.size, 0, none⟩)) ∧ LazyAt w' w.heap.size 0 (mk16 pm px) (.slice none 0 0) 0 ∧ Below w.heap.size w w' ∧ w'.heap.size = w.heap.size + 1 := by
  go_enter Try.func15, Try.ntmps15
  go_wp2
  go_ret
  exact ⟨rfl, LazyAt.fresh w _ _ _, (Below.refl _ _).alloc (Nat.le_refl _) _, by simp⟩
end Go.Proofs.Ythjkhoblafmibaa
