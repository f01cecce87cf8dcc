/-
  The reference's 'Body'.
-/
import Derived.Test.YthjkhoblafmibaaDoorBody
namespace Go.Proofs.YthjkhoblafmibaaDoor
open Go.RowKit
set_option linter.unusedVariables false

/-- A row of bytes as a string: how long it is. -/
theorem conv_row (a1 : Option Addr) (len1 cap1 : Nat) (zs : List Int) (W : World) (hr : IsRow .u8 W a1 len1 cap1 zs) :
    ∃ str : ByteArray, (convert 22 9 (.slice a1 len1 cap1)).run Tryd.prog W = .ok (.string str) W ∧ str.size = len1 := by
  rcases Nat.eq_zero_or_pos len1 with h0 | h0
  · subst h0
    refine ⟨ByteArray.empty, ?_, rfl⟩
    cases a1 with
    | none => exact run_convert_bytes_nil W 22 5 Tryd.underlying22 Tryd.underlying5 0 cap1 9 Tryd.underlying9
    | some x =>
      rw [run_convert_bytes_string W 22 9 5 _ 0 cap1 Tryd.underlying22 Tryd.underlying5 Tryd.underlying9]
      rw [run_bytesToString W x 0 cap1 [] (by simp [loadCells, loadCellsFrom])]
      rfl
  · obtain ⟨b, off, rfl, hcell⟩ := hr.cells h0
    have hl := hr.small.1
    have hzl : len1 ≤ zs.length := by
      rcases hr with ⟨h, _⟩ | ⟨x, _, h1, _, h2, _⟩
      · cases h
      · omega
    refine ⟨strOfNums (zs.take len1), ?_, by rw [strOfNums_size]; simp; omega⟩
    refine run_convert_bytes_arg W 22 5 Tryd.underlying22 Tryd.underlying5 b off len1 cap1 (zs.take len1) (by simp; omega) (fun i hi => ?_) 9 Tryd.underlying9
    rw [hcell i hi]
    congr 2
    simp [List.getD, hi]

theorem IsRow.below {w W : World} {a1 : Option Addr} {len1 cap1 : Nat} {zs : List Int} (hr : IsRow .u8 w a1 len1 cap1 zs) (B : Below w.heap.size w W) : IsRow .u8 W a1 len1 cap1 zs := by
  rcases hr with ⟨rfl, rfl, rfl, rfl⟩ | ⟨x, rfl, hl, hc, hz, hcell, hw⟩
  · exact .inl ⟨rfl, rfl, rfl, rfl⟩
  · exact .inr ⟨x, rfl, hl, hc, hz, fun i hi => (B.cell (p := x.add i) (World.block_lt_of_cell? w _ (hcell i hi))).trans (hcell i hi), hw⟩

/-- One byte as a string. -/
theorem one_byte (x : Int) (hx : 0 ≤ x ∧ x ≤ 255) (h : x ≠ 1) : (strOfNums [x]).toList ≠ [1] := by
  intro h2
  rw [ByteArray.toList_eq] at h2
  have h3 : UInt8.ofNat x.toNat = 1 := by simpa [strOfNums] using h2
  have h4 := congrArg UInt8.toNat h3
  rw [UInt8.toNat_ofNat_of_lt' (by show x.toNat < 256; omega)] at h4
  simp at h4
  omega

theorem conv_one (b off cap : Nat) (x : Int) (W : World) (h : W.cell? ⟨b, off, none⟩ = some (.int .u8 x)) : (convert 22 9 (.slice (some ⟨b, off, none⟩) 1 cap)).run Tryd.prog W = .ok (.string (strOfNums [x])) W := by
  refine run_convert_bytes_arg W 22 5 Tryd.underlying22 Tryd.underlying5 b off 1 cap [x] rfl (fun i hi => ?_) 9 Tryd.underlying9
  obtain rfl : i = 0 := by omega
  exact h

set_option maxRecDepth 100000 in
set_option maxHeartbeats 1000000 in
theorem ref_body_any (t v l : Int) (a1 : Option Addr) (len1 cap1 : Nat) (zs : List Int) (w : World) (hr : IsRow .u8 w a1 len1 cap1 zs) (hz : ∀ i, 0 ≤ zs.getD i 0 ∧ zs.getD i 0 ≤ 255) :
    Calls Tryd.prog 15 #[recV t v l, .slice a1 len1 cap1] w fun e w' => e = .returned (.int .i64 (bodyErr t l len1 (zs.getD 0 0))) ∧ Below w.heap.size w w' := by
  have B0 : Below w.heap.size w (w.alloc (.cells #[.int .i64 t, .int .i64 v, .int .i64 l] 24)) := (Below.refl _ _).alloc (Nat.le_refl _) _
  have r0 := RecAt.fresh w t v l
  have HR := Lib.hid (hr.below B0)
  have HZ := Lib.hid (hz 0)
  clear hr hz
  go_enter Tryd.func15, Tryd.ntmps15
  go_wp2_with fail
  generalize w.alloc (.cells #[.int .i64 t, .int .i64 v, .int .i64 l] 24) = w1 at B0 r0 HR ⊢
  refine (ref_limits t w1).mono ?_
  rintro e w2 ⟨rfl, rfl⟩
  have q0 := r0.c0
  have q1 := r0.c1
  have q2 := r0.c2
  clear r0
  cases hok : limOk t
  · have e1 : bodyErr t l len1 (zs.getD 0 0) = 18 := by unfold bodyErr; rw [hok]; rfl
    have E1 := Lib.hid e1
    clear hok e1
    go_wp2_with fail
    go_ret
    exact ⟨by rw [E1.out]; rfl, B0⟩
  · by_cases hlen : (len1 : Int) = l
    · have hb0 : ((len1 : Int) == l) = true := by simp [hlen]
      have hb0' : ((len1 : Int) != l) = false := by simp [hlen]
      by_cases ht : t = 20
      · have hb1 : (t == 20) = true := by simp [ht]
        by_cases h1 : len1 = 1
        · have e2 : bodyErr t l len1 (zs.getD 0 0) = if zs.getD 0 0 = 1 then 0 else 3 := by unfold bodyErr; rw [hok, if_pos rfl, if_pos hlen, if_pos ht]; simp [h1]
          have E2 := Lib.hid e2
          have hlen' := Lib.hid hlen
          clear e2 ht hlen hok
          obtain ⟨b, off, rfl, hcell⟩ := HR.out.cells (by omega)
          have p0 := hcell 0 (by omega)
          obtain ⟨x, hx0⟩ : ∃ x, x = zs.getD 0 0 := ⟨_, rfl⟩
          rw [← hx0] at p0
          have hc1 := conv_one b off cap1 x w1 p0
          rw [← h1] at hc1
          have HX := HZ.out
          rw [← hx0] at HX
          have hx1 := Lib.hid hx0
          clear hx0 hcell p0 HR h1
          by_cases hx : x = 1
          · have E1 := Lib.hid (E2.out.trans (if_pos (hx1.out ▸ hx)))
            have es : strOfNums [x] = ⟨#[1]⟩ := by rw [hx]; rfl
            rw [es] at hc1
            clear E2 hx es HX
            go_wp2_with fail
            go_ret
            exact ⟨by rw [E1.out]; rfl, B0⟩
          · have E1 := Lib.hid (E2.out.trans (if_neg (hx1.out ▸ hx)))
            have es := one_byte x HX hx
            generalize strOfNums [x] = str at es hc1
            have hb : (str.toList == [1]) = false := by simp [es]
            clear E2 hx es HX
            go_wp2_with fail
            go_ret
            exact ⟨by rw [E1.out]; rfl, B0⟩
        · have e1 : bodyErr t l len1 (zs.getD 0 0) = 3 := by unfold bodyErr; rw [hok, if_pos rfl, if_pos hlen, if_pos ht, if_neg (fun h => h1 h.1)]
          have E1 := Lib.hid e1
          obtain ⟨str, hc1, hsz⟩ := conv_row a1 len1 cap1 zs w1 HR.out
          have es : str.toList ≠ [1] := by
            intro h2
            rw [ByteArray.toList_eq] at h2
            have h3 := congrArg List.length h2
            rw [Array.length_toList] at h3
            exact h1 (hsz.symm.trans h3)
          have hb : (str.toList == [1]) = false := by simp [es]
          clear hok e1 h1 ht hlen es hsz
          go_wp2_with fail
          go_ret
          exact ⟨by rw [E1.out]; rfl, B0⟩
      · have e1 : bodyErr t l len1 (zs.getD 0 0) = 0 := by unfold bodyErr; simp [hok, hlen, ht]
        have E1 := Lib.hid e1
        have hb : (t == 20) = false := by simp [ht]
        clear hok e1 ht hlen
        go_wp2_with fail
        go_ret
        exact ⟨by rw [E1.out]; rfl, B0⟩
    · have e1 : bodyErr t l len1 (zs.getD 0 0) = 5 := by unfold bodyErr; simp [hok, hlen]
      have E1 := Lib.hid e1
      have hb : ((len1 : Int) == l) = false := by simp [hlen]
      have hb' : ((len1 : Int) != l) = true := by simp [hlen]
      clear hok e1 hlen
      go_wp2_with fail
      go_ret
      exact ⟨by rw [E1.out]; rfl, B0⟩
end Go.Proofs.YthjkhoblafmibaaDoor
