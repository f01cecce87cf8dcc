/-
  The walk of RecordPuts.
-/
import Derived.Test.YthjkhoblafmibaaDoorRefPut
import Derived.Test.YthjkhoblafmibaaDoorRefBody
namespace Go.Proofs.YthjkhoblafmibaaDoor
open Go.RowKit
set_option linter.unusedVariables false

/-- A slice of bytes as a string, now and later. -/
def Spells (w : World) (v : Value) (s : ByteArray) : Prop := ∀ W, Below w.heap.size w W → (convert 22 9 v).run Tryd.prog W = .ok (.string s) W
theorem Spells.below {w w' : World} {v : Value} {s : ByteArray} (h : Spells w v s) (B : Below w.heap.size w w') : Spells w' v s := fun W hW => h W (B.trans (hW.mono B.size))
theorem spells_nil (w : World) : Spells w (.slice none 0 0) ByteArray.empty := fun W _ => run_convert_bytes_nil W 22 5 Tryd.underlying22 Tryd.underlying5 0 0 9 Tryd.underlying9
theorem spells_five {w : World} {b cap : Nat} {x0 x1 x2 x3 x4 : Int} (F : Five w b 0 x0 x1 x2 x3 x4) : Spells w (.slice (some ⟨b, 0, none⟩) 5 cap) (strOfNums [x0, x1, x2, x3, x4]) := fun W hW => by
  have G := F.below hW F.lt
  refine run_convert_bytes_arg W 22 5 Tryd.underlying22 Tryd.underlying5 b 0 5 cap [x0, x1, x2, x3, x4] rfl (fun i hi => ?_) 9 Tryd.underlying9
  match i, hi with
  | 0, _ => exact G.c0
  | 1, _ => exact G.c1
  | 2, _ => exact G.c2
  | 3, _ => exact G.c3
  | 4, _ => exact G.c4

/-- The bytes of a record, as a string. -/
def putStr (t v l : Int) : ByteArray := if putErr t v l = 0 then strOfNums [t, v / 256, v % 256, l / 256, l % 256] else ByteArray.empty

/-- What either 'Put' tells. -/
def PutTold (t v l : Int) (w : World) (e : Ending) (w' : World) : Prop :=
  ∃ vb, e = .returned (.tuple #[vb, .int .i64 (putErr t v l)]) ∧ Below w.heap.size w w' ∧ Spells w' vb (putStr t v l)

theorem put_told (t v l : Int) (w : World) (L : Lim w) (hv : -9223372036854775808 ≤ v ∧ v ≤ 9223372036854775807) : Calls Tryd.prog 11 #[recV t v l] w (PutTold t v l w) := by
  by_cases h : putErr t v l = 0
  · refine (put_ok t v l w L h).mono ?_
    rintro e w' ⟨w1, B1, z1, rfl, rfl⟩
    refine ⟨_, by rw [h], B1.alloc (by omega) _, ?_⟩
    unfold putStr
    rw [if_pos h]
    exact spells_five (five_made w1 _ _ _ _ _)
  · refine (put_not t v l w L hv h).mono ?_
    rintro e w' ⟨rfl, B1⟩
    refine ⟨_, rfl, B1, ?_⟩
    unfold putStr
    rw [if_neg h]
    exact spells_nil _

theorem ref_put_told (t v l : Int) (w : World) (hv : -9223372036854775808 ≤ v ∧ v ≤ 9223372036854775807) : Calls Tryd.prog 12 #[recV t v l] w (PutTold t v l w) := by
  by_cases h : putErr t v l = 0
  · refine (ref_put_ok t v l w h).mono ?_
    rintro e w' ⟨g, cap, rfl, B1, F⟩
    refine ⟨_, by rw [h], B1, ?_⟩
    unfold putStr
    rw [if_pos h]
    exact spells_five F
  · refine (ref_put_not t v l w hv h).mono ?_
    rintro e w' ⟨rfl, B1⟩
    refine ⟨_, rfl, B1, ?_⟩
    unfold putStr
    rw [if_neg h]
    exact spells_nil _

set_option maxRecDepth 100000 in
set_option maxHeartbeats 1000000 in
theorem puts_any (t v l : Int) (a1 : Option Addr) (len1 cap1 : Nat) (zs : List Int) (w : World) (L : Lim w) (hv : -9223372036854775808 ≤ v ∧ v ≤ 9223372036854775807) (hr : IsRow .u8 w a1 len1 cap1 zs)
    (hz : ∀ i, 0 ≤ zs.getD i 0 ∧ zs.getD i 0 ≤ 255) :
    Calls Tryd.prog 6 #[recV t v l, .slice a1 len1 cap1] w fun e w' => e = .returned (.bool true) ∧ Below w.heap.size w w' := by
  have HL := L.lt
  have B0 : Below w.heap.size w (w.alloc (.cells #[.int .i64 t, .int .i64 v, .int .i64 l] 24)) := (Below.refl _ _).alloc (Nat.le_refl _) _
  have HR1 := Lib.hid (hr.below B0)
  have r0 := RecAt.fresh w t v l
  have L0 := lim_alloc w (.cells #[.int .i64 t, .int .i64 v, .int .i64 l] 24) L
  have z0 : (w.alloc (.cells #[.int .i64 t, .int .i64 v, .int .i64 l] 24)).heap.size = w.heap.size + 1 := by simp
  obtain ⟨N, hN⟩ : ∃ N, N = w.heap.size := ⟨_, rfl⟩
  have hNw : w.heap.size ≤ N := by omega
  have HZ := Lib.hid hz
  have HV := Lib.hid hv
  rw [← hN] at r0 z0
  go_enter Tryd.func6, Tryd.ntmps6
  go_wp2_with fail
  rw [← hN]
  clear hr L hz hv
  generalize w.alloc (.cells #[.int .i64 t, .int .i64 v, .int .i64 l] 24) = w1 at B0 r0 z0 L0 HR1 ⊢
  have hN1 : N < w1.heap.size := by omega
  clear hN z0
  refine (put_told t v l w1 L0 HV.out).mono ?_
  rintro e w2 ⟨vb, rfl, B2, S2⟩
  have L2 := L0.below B2 L0.lt
  have r2 := r0.below B2 hN1
  have HR2 := Lib.hid (HR1.out.below B2)
  have z2 := B2.size
  have HB2 := Lib.hid (B0.trans (B2.mono B0.size))
  have HS2 := Lib.hid S2
  have q0 := r2.c0
  have q1 := r2.c1
  have q2 := r2.c2
  have hN2 : N < w2.heap.size := by omega
  clear B0 r0 L0 HR1 hN1 B2 z2 S2
  go_wp2_with fail
  refine (ref_put_told t v l w2 HV.out).mono ?_
  rintro e w3 ⟨vc, rfl, B3, S3⟩
  have L3 := L2.below B3 L2.lt
  have r3 := r2.below B3 hN2
  have HR3 := Lib.hid (HR2.out.below B3)
  have z3 := B3.size
  have HB3 := Lib.hid (HB2.out.trans (B3.mono HB2.out.size))
  have HS3 := Lib.hid (And.intro (HS2.out.below B3) S3)
  have hN3 : N < w3.heap.size := by omega
  clear q0 q1 q2 L2 r2 HR2 B3 HB2 z3 HS2 S3 hN2
  have q0 := r3.c0
  have q1 := r3.c1
  have q2 := r3.c2
  go_wp2_with fail
  obtain ⟨be, hbe⟩ : ∃ be, be = bodyErr t l len1 (zs.getD 0 0) := ⟨_, rfl⟩
  have hcb := body_any t v l a1 len1 cap1 zs w3 L3 HR3.out
  rw [← hbe] at hcb
  have HBE := Lib.hid hbe
  clear hbe
  refine hcb.mono ?_
  clear hcb
  rintro e w4 ⟨rfl, B4⟩
  have L4 := L3.below B4 L3.lt
  have r4 := r3.below B4 hN3
  have HR4 := Lib.hid (HR3.out.below B4)
  have z4 := B4.size
  have HB4 := Lib.hid (HB3.out.trans (B4.mono HB3.out.size))
  have HS4 := Lib.hid (And.intro (HS3.out.1.below B4) (HS3.out.2.below B4))
  have hN4 : N < w4.heap.size := by omega
  clear q0 q1 q2 L3 r3 HR3 B4 HB3 z4 HS3 hN3
  have q0 := r4.c0
  have q1 := r4.c1
  have q2 := r4.c2
  go_wp2_with fail
  refine (limits_any t w4 L4).mono ?_
  rintro e w5 ⟨rfl, B5⟩
  have L5 := L4.below B5 L4.lt
  have r5 := r4.below B5 hN4
  have HR5 := Lib.hid (HR4.out.below B5)
  have z5 := B5.size
  have HB5 := Lib.hid (HB4.out.trans (B5.mono HB4.out.size))
  have HS5 := Lib.hid (And.intro (HS4.out.1.below B5) (HS4.out.2.below B5))
  have hN5 : N < w5.heap.size := by omega
  clear q0 q1 q2 L4 r4 HR4 B5 HB4 z5 HS4 hN4
  have q0 := r5.c0
  have q1 := r5.c1
  have q2 := r5.c2
  go_wp2_with fail
  refine (ref_limits t w5).mono ?_
  rintro e w6 ⟨rfl, rfl⟩
  clear q0 q1 q2
  generalize limLo t = lo
  generalize limHi t = hi
  generalize limOk t = ok
  generalize putErr t v l = er
  go_wp2_with fail
  refine (alive_any w5 L5).mono ?_
  rintro e w6 ⟨rfl, B6⟩
  have r6 := r5.below B6 hN5
  have q0 := r6.c0
  have q1 := r6.c1
  have q2 := r6.c2
  have HR6 := Lib.hid (HR5.out.below B6)
  have s1 : (convert 22 9 vb).run Tryd.prog w6 = .ok (.string (putStr t v l)) w6 := HS5.out.1 _ B6
  have s2 : (convert 22 9 vc).run Tryd.prog w6 = .ok (.string (putStr t v l)) w6 := HS5.out.2 _ B6
  have HB6 := Lib.hid (HB5.out.trans (B6.mono HB5.out.size))
  clear L5 r5 HR5 HS5 B6 HB5 r6 hN5
  have hcd := ref_body_any t v l a1 len1 cap1 zs w6 HR6.out HZ.out
  rw [← HBE.out] at hcd
  have HBD := Lib.hid hcd
  clear hcd HBE
  generalize putStr t v l = str at s1 s2
  go_wp2_with fail
  refine HBD.out.mono ?_
  rintro e w7 ⟨rfl, B7⟩
  clear q0 q1 q2 s1 s2
  have BE := (HB6.out.trans (B7.mono HB6.out.size))
  go_wp2_with fail
  go_ret
  exact ⟨rfl, BE⟩
end Go.Proofs.YthjkhoblafmibaaDoor
