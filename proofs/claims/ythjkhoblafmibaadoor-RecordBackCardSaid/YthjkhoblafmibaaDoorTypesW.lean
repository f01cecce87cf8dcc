/-
  The walk of RecordTypes.
-/
import Derived.Test.YthjkhoblafmibaaDoorAlive
namespace Go.Proofs.YthjkhoblafmibaaDoor
open Go.RowKit
set_option linter.unusedVariables false

/-- How many of the first k bytes begin a record. -/
def kinds (k : Nat) : Int := if k ≤ 20 then 0 else if k ≤ 23 then (k : Int) - 20 else 4
theorem kinds_ok (k : Nat) (h : limOk k = true) : kinds (k + 1) = kinds k + 1 := by
  unfold limOk at h
  simp only [Bool.and_eq_true, decide_eq_true_eq] at h
  unfold kinds
  by_cases h1 : k + 1 ≤ 20
  · omega
  · rw [if_neg h1]
    by_cases h2 : k + 1 ≤ 23
    · rw [if_pos h2]
      by_cases h3 : k ≤ 20
      · rw [if_pos h3]; omega
      · rw [if_neg h3, if_pos (by omega)]; omega
    · rw [if_neg h2, if_neg (by omega), if_pos (by omega)]; omega
theorem kinds_no (k : Nat) (h : limOk k = false) : kinds (k + 1) = kinds k := by
  have h' : ¬ ((20 : Int) ≤ k ∧ (k : Int) ≤ 23) := by
    intro h2; unfold limOk at h; simp only [h2.1, h2.2, decide_true, Bool.and_self] at h; cases h
  unfold kinds
  by_cases h1 : k + 1 ≤ 20
  · rw [if_pos h1, if_pos (by omega)]
  · rw [if_neg h1, if_neg (by omega), if_neg (by omega), if_neg (by omega)]
theorem kinds_le (k : Nat) : 0 ≤ kinds k ∧ kinds k ≤ 4 := by
  unfold kinds; split
  · omega
  · split <;> omega

theorem two_bytes (v : Int) : v / 256 * 256 + v % 256 = v := by omega
theorem bytes_of (k v l : Int) (hk : 0 ≤ k ∧ k ≤ 255) (hv : 0 ≤ v ∧ v ≤ 65535) (hl : 0 ≤ l ∧ l ≤ 65535) : Bytes5 k (v / 256) (v % 256) (l / 256) (l % 256) :=
  ⟨hk, by omega, by omega, by omega, by omega⟩
theorem head_no (k v l : Int) (h : limOk k = false) : headRec k (v / 256) (v % 256) (l / 256) (l % 256) = recV 0 0 0 ∧ headAt k (l / 256) (l % 256) = 0 ∧ headErr k (l / 256) (l % 256) = 18 := by
  have e : headErr k (l / 256) (l % 256) = 18 := by unfold headErr; rw [h]; rfl
  refine ⟨?_, ?_, e⟩
  · unfold headRec; rw [e]; rfl
  · unfold headAt; rw [h]; rfl
theorem head_fits (k v l : Int) (h : limOk k = true) (he : lenErr (limLo k) (limHi k) l = 0) : headRec k (v / 256) (v % 256) (l / 256) (l % 256) = recV k v l ∧ headAt k (l / 256) (l % 256) = 5 ∧ headErr k (l / 256) (l % 256) = 0 := by
  have e : headErr k (l / 256) (l % 256) = 0 := by unfold headErr; rw [h, if_pos rfl, two_bytes]; exact he
  refine ⟨?_, ?_, e⟩
  · unfold headRec; rw [e, if_pos rfl, two_bytes, two_bytes]
  · unfold headAt; rw [h, if_pos rfl, two_bytes, if_pos he]
theorem head_not (k v l er : Int) (h : limOk k = true) (he : lenErr (limLo k) (limHi k) l = er) (hne : er ≠ 0) : headRec k (v / 256) (v % 256) (l / 256) (l % 256) = recV 0 0 0 ∧ headAt k (l / 256) (l % 256) = 3 ∧ headErr k (l / 256) (l % 256) = er := by
  have e : headErr k (l / 256) (l % 256) = er := by unfold headErr; rw [h, if_pos rfl, two_bytes]; exact he
  refine ⟨?_, ?_, e⟩
  · unfold headRec; rw [e, if_neg hne]
  · unfold headAt; rw [h, if_pos rfl, two_bytes, he, if_neg hne]
theorem lenErr_zero (lo hi n : Int) : lenErr lo hi n = 0 ↔ lo ≤ n ∧ n ≤ hi := by
  unfold lenErr
  by_cases h1 : hi < n
  · rw [if_pos h1]; omega
  · rw [if_neg h1]
    by_cases h2 : lo ≤ n
    · rw [if_pos h2]; omega
    · rw [if_neg h2]
      by_cases h3 : n = 0
      · rw [if_pos h3]; omega
      · rw [if_neg h3]; omega

set_option maxRecDepth 100000 in
set_option maxHeartbeats 1000000 in
theorem types_any (v l : Int) (w : World) (L : Lim w) (hv : 0 ≤ v ∧ v ≤ 65535) (hl : 0 ≤ l ∧ l ≤ 65535) :
    Calls Tryd.prog 4 #[.int .u16 v, .int .u16 l] w fun e w' => e = .returned (.bool true) ∧ Below w.heap.size w w' := by
  have HL := L.lt
  go_enter Tryd.func4, Tryd.ntmps4
  go_wp2_with fail
  refine (alive_any w L).mono ?_
  rintro e w1 ⟨rfl, B1⟩
  have L1 := L.below B1 HL
  go_wp2_with fail
  go_loopw [5, 16] (fun n i wr => ∃ k : Nat, i = .int .i64 k ∧ k ≤ 256 ∧ n = .int .i64 (kinds k) ∧ Lim wr ∧ Below w.heap.size w wr) (fun _ i _ => 256 - (intOf i).toNat)
  case atStart => exact ⟨0, rfl, by omega, rfl, L1, B1⟩
  case round =>
    obtain ⟨k, rfl, hk, rfl, Lr, Br⟩ := hrel
    have hkn := kinds_le k
    by_cases hlt : k < 256
    · have hkl : (0 : Int) ≤ k ∧ (k : Int) ≤ 255 := by omega
      go_wp2_with fail
      refine (head_made k (v / 256) (v % 256) (l / 256) (l % 256) wr _ rfl Lr (bytes_of k v l hkl hv hl)).mono ?_
      rintro e w2 ⟨rfl, B2, z2, L2⟩
      have B2' := Br.trans (B2.mono Br.size)
      clear B2
      cases hok : limOk k
      · obtain ⟨a1, a2, a3⟩ := head_no k v l hok
        rw [a1, a2, a3]
        have HK := Lib.hid (kinds_no k hok)
        clear a1 a2 a3
        have B3 : Below w.heap.size w (w2.alloc (.cells #[.int .i64 0, .int .i64 0, .int .i64 0] 24)) := B2'.alloc B2'.size _
        have L3 := lim_alloc w2 (.cells #[.int .i64 0, .int .i64 0, .int .i64 0] 24) L2
        have z3 : w2.heap.size < (w2.alloc (.cells #[.int .i64 0, .int .i64 0, .int .i64 0] 24)).heap.size := by simp
        have HLim := Lib.hid (limits_any k _ L3)
        have hlim : Hid (limOk (k : Int) = false) := hok
        clear hok
        go_wp2_with fail
        refine HLim.out.mono ?_
        rintro e w4 ⟨rfl, B4⟩
        have B4' := B3.trans (B4.mono B3.size)
        have L4 := L3.below B4 (by omega)
        rw [hlim.out]
        generalize limLo (k : Int) = lo
        generalize limHi (k : Int) = hi
        go_wp2_with fail
        exact ⟨⟨k + 1, by go_num, by omega, by rw [HK.out], L4, B4'⟩, by simp [intOf]; omega⟩
      · have HK := Lib.hid (kinds_ok k hok)
        have hlim : Hid (limOk (k : Int) = true) := hok
        by_cases hle : lenErr (limLo (k : Int)) (limHi (k : Int)) l = 0
        · obtain ⟨a1, a2, a3⟩ := head_fits k v l hok hle
          rw [a1, a2, a3]
          have hr := (lenErr_zero _ _ _).1 hle
          have HR := Lib.hid hr
          clear a1 a2 a3 hle hr
          have B3 : Below w.heap.size w (w2.alloc (.cells #[.int .i64 (k : Int), .int .i64 v, .int .i64 l] 24)) := B2'.alloc B2'.size _
          have L3 := lim_alloc w2 (.cells #[.int .i64 (k : Int), .int .i64 v, .int .i64 l] 24) L2
          have z3 : w2.heap.size < (w2.alloc (.cells #[.int .i64 (k : Int), .int .i64 v, .int .i64 l] 24)).heap.size := by simp
          have r3 := RecAt.fresh w2 (k : Int) v l
          have HLim := Lib.hid (limits_any k _ L3)
          clear hok
          go_wp2_with fail
          refine HLim.out.mono ?_
          rintro e w4 ⟨rfl, B4⟩
          have B4' := B3.trans (B4.mono B3.size)
          have L4 := L3.below B4 (by omega)
          have r4 := r3.below B4 z3
          rw [hlim.out]
          have hr := HR.out
          generalize limLo (k : Int) = lo at hr HLim ⊢
          generalize limHi (k : Int) = hi at hr HLim ⊢
          have q0 := r4.c0
          have q1 := r4.c1
          have q2 := r4.c2
          clear HLim HR B3 B4 L3 z3 r3 r4
          have d1 := hr.1
          have d2 := hr.2
          clear hr
          go_wp2_with fail
          exact ⟨⟨k + 1, by go_num, by omega, by rw [HK.out], L4, B4'⟩, by simp [intOf]; omega⟩
        · obtain ⟨a1, a2, a3⟩ := head_not k v l _ hok rfl hle
          rw [a1, a2, a3]
          have hr := fun h => hle ((lenErr_zero _ _ _).2 h)
          have HR := Lib.hid hr
          generalize lenErr (limLo (k : Int)) (limHi (k : Int)) l = er at hle ⊢
          have hbe : (er == 0) = false := by simp [hle]
          clear a1 a2 a3 hle hr
          have B3 : Below w.heap.size w (w2.alloc (.cells #[.int .i64 0, .int .i64 0, .int .i64 0] 24)) := B2'.alloc B2'.size _
          have L3 := lim_alloc w2 (.cells #[.int .i64 0, .int .i64 0, .int .i64 0] 24) L2
          have z3 : w2.heap.size < (w2.alloc (.cells #[.int .i64 0, .int .i64 0, .int .i64 0] 24)).heap.size := by simp
          have r3 := RecAt.fresh w2 0 0 0
          have HLim := Lib.hid (limits_any k _ L3)
          clear hok
          go_wp2_with fail
          refine HLim.out.mono ?_
          rintro e w4 ⟨rfl, B4⟩
          have B4' := B3.trans (B4.mono B3.size)
          have L4 := L3.below B4 (by omega)
          have r4 := r3.below B4 z3
          rw [hlim.out]
          have hr := HR.out
          generalize limLo (k : Int) = lo at hr HLim ⊢
          generalize limHi (k : Int) = hi at hr HLim ⊢
          have q0 := r4.c0
          have q1 := r4.c1
          have q2 := r4.c2
          clear HLim HR B3 B4 L3 z3 r3 r4
          by_cases d1 : lo ≤ l
          · have d2 : ¬ l ≤ hi := fun h => hr ⟨d1, h⟩
            have d3 : hi < l := by omega
            clear hr d2
            go_wp2_with fail
            exact ⟨⟨k + 1, by go_num, by omega, by rw [HK.out], L4, B4'⟩, by simp [intOf]; omega⟩
          · have d3 : l < lo := by omega
            clear hr d1
            go_wp2_with fail
            exact ⟨⟨k + 1, by go_num, by omega, by rw [HK.out], L4, B4'⟩, by simp [intOf]; omega⟩
    · obtain rfl : k = 256 := by omega
      have h4 : kinds 256 = 4 := rfl
      rw [h4]
      clear h4 hkn
      go_wp2_with fail
      go_ret
      exact ⟨rfl, Br⟩
end Go.Proofs.YthjkhoblafmibaaDoor
