/-
  The program's 'Body' and the reference's.
-/
import Derived.Test.YthjkhoblafmibaaDoorAlive
import Derived.Test.YthjkhoblafmibaaDoorSlice
import Derived.Laws.BytesArg
namespace Go.Proofs.YthjkhoblafmibaaDoor
open Go.RowKit
set_option linter.unusedVariables false

/-- What is wrong with a body; 0 where nothing is. -/
def bodyErr (t l : Int) (len : Nat) (x : Int) : Int := if limOk t = true then (if (len : Int) = l then (if t = 20 then (if len = 1 ∧ x = 1 then 0 else 3) else 0) else 5) else 18

set_option maxRecDepth 100000 in
set_option maxHeartbeats 1000000 in
theorem body_any (t v l : Int) (a1 : Option Addr) (len1 cap1 : Nat) (zs : List Int) (w : World) (L : Lim w) (hr : IsRow .u8 w a1 len1 cap1 zs) :
    Calls Tryd.prog 13 #[recV t v l, .slice a1 len1 cap1] w fun e w' => e = .returned (.tuple #[.int .i64 0, .int .i64 (bodyErr t l len1 (zs.getD 0 0))]) ∧ Below w.heap.size w w' := by
  have B0 : Below w.heap.size w (w.alloc (.cells #[.int .i64 t, .int .i64 v, .int .i64 l] 24)) := (Below.refl _ _).alloc (Nat.le_refl _) _
  have L0 := lim_alloc w (.cells #[.int .i64 t, .int .i64 v, .int .i64 l] 24) L
  have r0 := RecAt.fresh w t v l
  have z0 : w.heap.size < (w.alloc (.cells #[.int .i64 t, .int .i64 v, .int .i64 l] 24)).heap.size := by simp
  have HR := Lib.hid hr
  clear hr
  have HL := L.lt
  go_enter Tryd.func13, Tryd.ntmps13
  go_wp2_with fail
  refine (limits_any t _ L0).mono ?_
  rintro e w2 ⟨rfl, B2⟩
  have r2 := r0.below B2 z0
  have B2' := B0.trans (B2.mono (by omega))
  clear B0 L0 r0 B2 z0
  have q0 := r2.c0
  have q1 := r2.c1
  have q2 := r2.c2
  clear r2
  cases hok : limOk t
  · have e1 : bodyErr t l len1 (zs.getD 0 0) = 18 := by unfold bodyErr; rw [hok]; rfl
    have E1 := Lib.hid e1
    clear hok e1
    go_wp2_with fail
    go_ret2
    exact ⟨by rw [E1.out]; rfl, B2'⟩
  · by_cases hlen : (len1 : Int) = l
    · have hb0 : ((len1 : Int) == l) = true := by simp [hlen]
      have hb0' : ((len1 : Int) != l) = false := by simp [hlen]
      by_cases ht : t = 20
      · have hb1 : (t == 20) = true := by simp [ht]
        by_cases h1 : len1 = 1
        · have e2 : bodyErr t l len1 (zs.getD 0 0) = if zs.getD 0 0 = 1 then 0 else 3 := by unfold bodyErr; rw [hok, if_pos rfl, if_pos hlen, if_pos ht]; simp [h1]
          obtain ⟨b, off, rfl, hcell⟩ := HR.out.cells (by omega)
          have p0 := (B2'.cell (p := ⟨b, off, none⟩) (World.block_lt_of_cell? w _ (hcell 0 (by omega)))).trans (hcell 0 (by omega))
          obtain ⟨hs, hc⟩ := HR.out.small
          have hm : cap1 ≤ 9223372036854775807 := by unfold maxLen at hc; omega
          have h0 : 0 < len1 := by omega
          have hb2 : ((len1 : Int) == 1) = true := by simp; omega
          have hb2' : ((len1 : Int) != 1) = false := by simp; omega
          clear hcell hc
          obtain ⟨x, hx0⟩ : ∃ x, x = zs.getD 0 0 := ⟨_, rfl⟩
          have E2 := Lib.hid (p := bodyErr t l len1 (zs.getD 0 0) = if x = 1 then 0 else 3) (by rw [e2, hx0])
          rw [← hx0] at p0
          clear HR e2 h1 ht hlen hok hx0
          by_cases hx : x = 1
          · have E1 := Lib.hid (E2.out.trans (if_pos hx))
            have hb : (x == 1) = true := by simp [hx]
            have hb' : (x != 1) = false := by simp [hx]
            clear E2 hx
            go_wp2_with fail
            go_ret2
            exact ⟨by rw [E1.out]; rfl, B2'⟩
          · have E1 := Lib.hid (E2.out.trans (if_neg hx))
            have hb : (x == 1) = false := by simp [hx]
            have hb' : (x != 1) = true := by simp [hx]
            clear E2 hx
            go_wp2_with fail
            go_ret2
            exact ⟨by rw [E1.out]; rfl, B2'⟩
        · have e1 : bodyErr t l len1 (zs.getD 0 0) = 3 := by unfold bodyErr; rw [hok, if_pos rfl, if_pos hlen, if_pos ht, if_neg (fun h => h1 h.1)]
          have E1 := Lib.hid e1
          have hb : (((len1 : Int)) == 1) = false := by simp; omega
          have hb' : (((len1 : Int)) != 1) = true := by simp; omega
          clear hok e1 h1 ht hlen
          go_wp2_with fail
          go_ret2
          exact ⟨by rw [E1.out]; rfl, B2'⟩
      · have e1 : bodyErr t l len1 (zs.getD 0 0) = 0 := by unfold bodyErr; simp [hok, hlen, ht]
        have E1 := Lib.hid e1
        have hb : (t == 20) = false := by simp [ht]
        clear hok e1 ht hlen
        go_wp2_with fail
        go_ret2
        exact ⟨by rw [E1.out]; rfl, B2'⟩
    · have e1 : bodyErr t l len1 (zs.getD 0 0) = 5 := by unfold bodyErr; simp [hok, hlen]
      have E1 := Lib.hid e1
      have hb : ((len1 : Int) == l) = false := by simp [hlen]
      have hb' : ((len1 : Int) != l) = true := by simp [hlen]
      clear hok e1 hlen
      go_wp2_with fail
      go_ret2
      exact ⟨by rw [E1.out]; rfl, B2'⟩
end Go.Proofs.YthjkhoblafmibaaDoor
