/-
  'Head': the record that five bytes tell, or where they are wrong.
-/
import Derived.Test.YthjkhoblafmibaaDoorNum
import Derived.Deep.RegionHeld3
namespace Go.Proofs.YthjkhoblafmibaaDoor
open Go.RowKit
set_option linter.unusedVariables false

/-- A record as a value. -/
abbrev recV (t v l : Int) : Value := .agg #[.int .i64 t, .int .i64 v, .int .i64 l]

/-- Five bytes lie from ⟨b, off⟩ on. -/
structure Five (w : World) (b off : Nat) (x0 x1 x2 x3 x4 : Int) : Prop where
  c0 : w.cell? ⟨b, off, none⟩ = some (.int .u8 x0)
  c1 : w.cell? ⟨b, off + 1, none⟩ = some (.int .u8 x1)
  c2 : w.cell? ⟨b, off + 1 + 1, none⟩ = some (.int .u8 x2)
  c3 : w.cell? ⟨b, off + 1 + 2, none⟩ = some (.int .u8 x3)
  c4 : w.cell? ⟨b, off + 1 + 2 + 1, none⟩ = some (.int .u8 x4)
structure Bytes5 (x0 x1 x2 x3 x4 : Int) : Prop where
  b0 : 0 ≤ x0 ∧ x0 ≤ 255
  b1 : 0 ≤ x1 ∧ x1 ≤ 255
  b2 : 0 ≤ x2 ∧ x2 ≤ 255
  b3 : 0 ≤ x3 ∧ x3 ≤ 255
  b4 : 0 ≤ x4 ∧ x4 ≤ 255
theorem Five.lt {w : World} {b off : Nat} {x0 x1 x2 x3 x4 : Int} (h : Five w b off x0 x1 x2 x3 x4) : b < w.heap.size := World.block_lt_of_cell? w ⟨b, off, none⟩ h.c0
theorem Five.only {w w' : World} {b off c : Nat} {x0 x1 x2 x3 x4 : Int} (h : Five w b off x0 x1 x2 x3 x4) (o : Only c w w') (hb : b ≠ c) : Five w' b off x0 x1 x2 x3 x4 :=
  ⟨(o.cell hb).trans h.c0, (o.cell hb).trans h.c1, (o.cell hb).trans h.c2, (o.cell hb).trans h.c3, (o.cell hb).trans h.c4⟩
theorem Five.below {w w' : World} {b off B : Nat} {x0 x1 x2 x3 x4 : Int} (h : Five w b off x0 x1 x2 x3 x4) (o : Below B w w') (hb : b < B) : Five w' b off x0 x1 x2 x3 x4 :=
  ⟨(o.cell hb).trans h.c0, (o.cell hb).trans h.c1, (o.cell hb).trans h.c2, (o.cell hb).trans h.c3, (o.cell hb).trans h.c4⟩

/-- What 'Head' answers of five bytes. -/
def headErr (x0 x3 x4 : Int) : Int := if limOk x0 = true then lenErr (limLo x0) (limHi x0) (x3 * 256 + x4) else 18
def headAt (x0 x3 x4 : Int) : Int := if limOk x0 = true then (if lenErr (limLo x0) (limHi x0) (x3 * 256 + x4) = 0 then 5 else 3) else 0
def headRec (x0 x1 x2 x3 x4 : Int) : Value := if headErr x0 x3 x4 = 0 then recV x0 (x1 * 256 + x2) (x3 * 256 + x4) else recV 0 0 0

theorem head_short (a : Option Addr) (len cap : Nat) (w : World) (hl : len < 5) :
    Calls Tryd.prog 7 #[.slice a len cap] w fun e w' => e = .returned (.tuple #[recV 0 0 0, .int .i64 len, .int .i64 4]) ∧ Below w.heap.size w w' := by
  go_enter Tryd.func7, Tryd.ntmps7
  go_wp2
  refine bodyPost_ret (v := .tuple #[recV 0 0 0, .int .i64 len, .int .i64 4]) (by simp [results, Tryd.results7, go_sem]) rfl ⟨rfl, ?_⟩
  exact (Below.refl _ _).alloc (Nat.le_refl _) _

/-- A record lies at block c. -/
structure RecAt (w : World) (c : Nat) (t v l : Int) : Prop where
  c0 : w.cell? ⟨c, 0, none⟩ = some (.int .i64 t)
  c1 : w.cell? ⟨c, 1, none⟩ = some (.int .i64 v)
  c2 : w.cell? ⟨c, 2, none⟩ = some (.int .i64 l)
  f0 : w.frozen? ⟨c, 0, none⟩ = false
  f1 : w.frozen? ⟨c, 1, none⟩ = false
  f2 : w.frozen? ⟨c, 2, none⟩ = false
theorem RecAt.fresh (w : World) (t v l : Int) : RecAt (w.alloc (.cells #[.int .i64 t, .int .i64 v, .int .i64 l] 24)) w.heap.size t v l := ⟨by simp, by simp, by simp, by simp, by simp, by simp⟩
theorem RecAt.lt {w : World} {c : Nat} {t v l : Int} (h : RecAt w c t v l) : c < w.heap.size := World.block_lt_of_cell? w ⟨c, 0, none⟩ h.c0
theorem RecAt.only {w w' : World} {b c : Nat} {t v l : Int} (h : RecAt w b t v l) (o : Only c w w') (hb : b ≠ c) : RecAt w' b t v l :=
  ⟨(o.cell hb).trans h.c0, (o.cell hb).trans h.c1, (o.cell hb).trans h.c2, (o.frozen hb).trans h.f0, (o.frozen hb).trans h.f1, (o.frozen hb).trans h.f2⟩
theorem RecAt.below {w w' : World} {b B : Nat} {t v l : Int} (h : RecAt w b t v l) (o : Below B w w') (hb : b < B) : RecAt w' b t v l :=
  ⟨(o.cell hb).trans h.c0, (o.cell hb).trans h.c1, (o.cell hb).trans h.c2, (o.frozen hb).trans h.f0, (o.frozen hb).trans h.f1, (o.frozen hb).trans h.f2⟩
theorem CurAt.fresh (w : World) (v : Value) (n : Int) : CurAt (w.alloc (.cells #[v, .int .i64 n] 58)) w.heap.size v n := ⟨by simp, by simp, by simp, by simp⟩
theorem CurAt.below {w w' : World} {b B : Nat} {v : Value} {n : Int} (h : CurAt w b v n) (o : Below B w w') (hb : b < B) : CurAt w' b v n :=
  ⟨(o.cell hb).trans h.ahead, (o.cell hb).trans h.place, (o.frozen hb).trans h.free0, (o.frozen hb).trans h.free1⟩
theorem Lim.only {w w' : World} {c : Nat} (h : Lim w) (o : Only c w w') (hc : 0 ≠ c) : Lim w' :=
  ⟨(o.cell hc).trans h.c0, (o.cell hc).trans h.c1, (o.cell hc).trans h.c2, (o.cell hc).trans h.c3, (o.cell hc).trans h.c4, (o.cell hc).trans h.c5, (o.cell hc).trans h.c6, (o.cell hc).trans h.c7⟩

set_option maxHeartbeats 1000000 in
theorem head_five (b off len cap : Nat) (x0 x1 x2 x3 x4 : Int) (w : World) (L : Lim w) (hl : 5 ≤ len) (hc : len ≤ cap) (hm : cap ≤ 9223372036854775807) (F : Five w b off x0 x1 x2 x3 x4) (X : Bytes5 x0 x1 x2 x3 x4) :
    Calls Tryd.prog 7 #[.slice (some ⟨b, off, none⟩) len cap] w fun e w' => e = .returned (.tuple #[headRec x0 x1 x2 x3 x4, .int .i64 (headAt x0 x3 x4), .int .i64 (headErr x0 x3 x4)]) ∧ Below w.heap.size w w' := by
  obtain ⟨N, hN⟩ : ∃ N, N = w.heap.size := ⟨_, rfl⟩
  have hb : b < N := by rw [hN]; exact F.lt
  have hl0 : 0 < N := by rw [hN]; exact L.lt
  have B0 : Below N w (w.alloc (.cells #[.int .i64 0, .int .i64 0, .int .i64 0] 24)) := (Below.refl _ _).alloc (by omega) _
  have r0 := RecAt.fresh w 0 0 0
  have z0 : (w.alloc (.cells #[.int .i64 0, .int .i64 0, .int .i64 0] 24)).heap.size = N + 1 := by simp [hN]
  have F0 := F.below B0 hb
  have L0 := L.below B0 hl0
  rw [← hN] at r0
  go_enter Tryd.func7, Tryd.ntmps7
  go_wp2_with fail
  rw [← hN]
  have hNw : w.heap.size ≤ N := by omega
  clear hN L F
  generalize w.alloc (.cells #[.int .i64 0, .int .i64 0, .int .i64 0] 24) = w1 at B0 r0 z0 F0 L0 ⊢
  refine (cur_new .nilFunc (some ⟨b, off, none⟩) len cap w1).mono ?_
  rintro e w2 ⟨rfl, rfl⟩
  have K1 := CurAt.fresh w1 (.slice (some ⟨b, off, none⟩) len cap) 0
  have B1' : Below (N + 1) w1 (w1.alloc (.cells #[.slice (some ⟨b, off, none⟩) len cap, .int .i64 0] 58)) := (Below.refl _ _).alloc (by omega) _
  have z1 : (w1.alloc (.cells #[.slice (some ⟨b, off, none⟩) len cap, .int .i64 0] 58)).heap.size = N + 1 + 1 := by simp [z0]
  have F1 := F0.below B1' (by omega)
  have L1 := L0.below B1' (by omega)
  have r1 := r0.below B1' (by omega)
  have B1 := B0.trans (B1'.mono (by omega))
  rw [z0] at K1 ⊢
  generalize w1.alloc (.cells #[.slice (some ⟨b, off, none⟩) len cap, .int .i64 0] 58) = w2 at K1 z1 F1 L1 r1 B1 ⊢
  clear B1' B0 r0 F0 L0 z0
  go_wp2_with fail
  refine (number_one (N + 1) b off len cap 0 x0 w2 K1 (by omega) hc hm (by omega) F1.c0 X.b0 (by omega)).mono ?_
  rintro e w3 ⟨rfl, v3, hv3, K3, o3⟩
  obtain rfl := hv3 (by omega)
  have z3 := o3.size.trans z1
  have F3 := F1.only o3 (by omega)
  have L3 := L1.only o3 (by omega)
  have r3 := r1.only o3 (by omega)
  have B3 := B1.trans (o3.below (by omega))
  clear z1 F1 L1 r1 B1 K1 o3 hv3
  go_wp2_with fail
  refine (number_two (N + 1) b (off + 1) (len - 1) (cap - 1) (0 + (1 : Nat)) x1 x2 w3 K3 (by omega) (by omega) (by omega) (by omega) F3.c1 F3.c2 X.b1 X.b2 (by omega)).mono ?_
  rintro e w4 ⟨rfl, v4, hv4, K4, o4⟩
  obtain rfl := hv4 (by omega)
  have z4 := o4.size.trans z3
  have F4 := F3.only o4 (by omega)
  have L4 := L3.only o4 (by omega)
  have r4 := r3.only o4 (by omega)
  have B4 := B3.trans (o4.below (by omega))
  clear z3 F3 L3 r3 B3 K3 o4 hv4
  go_wp2_with fail
  refine (cur_at (N + 1) .nilFunc 3 w4 (by simpa using K4.place)).mono ?_
  rintro e w5 ⟨rfl, rfl⟩
  go_wp2_with fail
  refine (number_two (N + 1) b (off + 1 + 2) (len - 1 - 2) (cap - 1 - 2) (0 + (1 : Nat) + (2 : Nat)) x3 x4 w4 K4 (by omega) (by omega) (by omega) (by omega) F4.c3 F4.c4 X.b3 X.b4 (by omega)).mono ?_
  rintro e w5 ⟨rfl, v5, hv5, K5, o5⟩
  have z5 := o5.size.trans z4
  have L5 := L4.only o5 (by omega)
  have r5 := r4.only o5 (by omega)
  have B5 := B4.trans (o5.below (by omega))
  have k5 : w5.cell? ⟨N + 1, 1, none⟩ = some (.int .i64 5) := by simpa using K5.place
  clear z4 F4 L4 r4 B4 K4 o5 hv5 K5
  have hx1 := X.b1
  have hx2 := X.b2
  have hx3 := X.b3
  have hx4 := X.b4
  have hx0 := X.b0
  clear X
  go_wp2_with fail
  have r6 := RecAt.fresh w5 x0 (x1 * 256 + x2) (x3 * 256 + x4)
  have B6' : Below (N + 1 + 1) w5 (w5.alloc (.cells #[.int .i64 x0, .int .i64 (x1 * 256 + x2), .int .i64 (x3 * 256 + x4)] 24)) := (Below.refl _ _).alloc (by omega) _
  have z6 : (w5.alloc (.cells #[.int .i64 x0, .int .i64 (x1 * 256 + x2), .int .i64 (x3 * 256 + x4)] 24)).heap.size = N + 1 + 1 + 1 := by simp [z5]
  have L6 := L5.below B6' (by omega)
  have q6 := r5.below B6' (by omega)
  have B6 := B5.trans (B6'.mono (by omega))
  have k6 := (B6'.cell (p := ⟨N + 1, 1, none⟩) (by simp)).trans k5
  rw [z5] at r6
  generalize w5.alloc (.cells #[.int .i64 x0, .int .i64 (x1 * 256 + x2), .int .i64 (x3 * 256 + x4)] 24) = w6 at r6 z6 L6 q6 B6 k6 ⊢
  clear z5 L5 r5 B5 k5 B6'
  refine (limits_any x0 w6 L6).mono ?_
  rintro e w7 ⟨rfl, B7'⟩
  have r7 := r6.below B7' (by omega)
  have q7 := q6.below B7' (by omega)
  have L7 := L6.below B7' (by omega)
  have B7 := B6.trans (B7'.mono (by omega))
  have k7 := (B7'.cell (p := ⟨N + 1, 1, none⟩) (by simp; omega)).trans k6
  have z7 := B7'.size
  clear L6 q6 B6 k6 B7' r6
  have g0 := q7.c0
  have g1 := q7.c1
  have g2 := q7.c2
  have e0 := q7.f0
  have e1 := q7.f1
  have e2 := q7.f2
  cases hok : limOk x0
  · have E1 : Hid (headErr x0 x3 x4 = 18) := by unfold headErr; rw [hok]; rfl
    have E2 : Hid (headAt x0 x3 x4 = 0) := by unfold headAt; rw [hok]; rfl
    have E3 : Hid (headRec x0 x1 x2 x3 x4 = recV 0 0 0) := by unfold headRec; rw [E1.out]; rfl
    clear hok
    go_wp2_with fail
    refine bodyPost_ret (v := .tuple #[recV 0 0 0, .int .i64 0, .int .i64 18]) (by simp [results, Tryd.results7, go_sem, g0, g1, g2]) rfl ⟨by rw [E1.out, E2.out, E3.out], ?_⟩
    exact (((B7.setCell (p := ⟨N, 0, none⟩) (Nat.le_refl _) _).setCell (p := ⟨N, 1, none⟩) (Nat.le_refl _) _).setCell (p := ⟨N, 2, none⟩) (Nat.le_refl _) _).mono hNw
  · have E0 : Hid (limOk x0 = true) := hok
    clear hok
    have h0 := r7.c0
    have h1 := r7.c1
    have h2 := r7.c2
    go_wp2_with fail
    refine (check_any x0 (x1 * 256 + x2) (x3 * 256 + x4) w7 L7).mono ?_
    rintro e w8 ⟨rfl, B8'⟩
    have r8 := r7.below B8' (by omega)
    have q8 := q7.below B8' (by omega)
    have k8 := (B8'.cell (p := ⟨N + 1, 1, none⟩) (by simp; omega)).trans k7
    have B8 := B7.trans (B8'.mono (by omega))
    clear g0 g1 g2 e0 e1 e2 r7 q7 L7 k7 B7 B8' h0 h1 h2
    have g0 := q8.c0
    have g1 := q8.c1
    have g2 := q8.c2
    have e0 := q8.f0
    have e1 := q8.f1
    have e2 := q8.f2
    by_cases hle : lenErr (limLo x0) (limHi x0) (x3 * 256 + x4) = 0
    · have E1 : Hid (headErr x0 x3 x4 = 0) := by unfold headErr; rw [E0.out, if_pos rfl]; exact hle
      have E2 : Hid (headAt x0 x3 x4 = 5) := by unfold headAt; rw [E0.out, if_pos rfl, if_pos hle]; exact rfl
      have E3 : Hid (headRec x0 x1 x2 x3 x4 = recV x0 (x1 * 256 + x2) (x3 * 256 + x4)) := by unfold headRec; rw [E1.out, if_pos rfl]; exact rfl
      rw [hle]
      clear hle
      go_wp2_with fail
      have h0 := r8.c0
      have h1 := r8.c1
      have h2 := r8.c2
      have oN : Only N w8 ((((w8.setCell ⟨N, 0, none⟩ (.int .i64 x0)).setCell ⟨N, 1, none⟩ (.int .i64 (x1 * 256 + x2))).setCell ⟨N, 2, none⟩ (.int .i64 (x3 * 256 + x4))).drew) :=
        (((Only.setCell w8 ⟨N, 0, none⟩ _).trans (Only.setCell _ ⟨N, 1, none⟩ _)).trans (Only.setCell _ ⟨N, 2, none⟩ _)).trans ⟨rfl, rfl, rfl, rfl, fun _ _ => rfl⟩
      have m0 := (oN.cell (p := ⟨N + 1 + 1, 0, none⟩) (by simp; try omega)).trans h0
      have m1 := (oN.cell (p := ⟨N + 1 + 1, 1, none⟩) (by simp; try omega)).trans h1
      have m2 := (oN.cell (p := ⟨N + 1 + 1, 2, none⟩) (by simp; try omega)).trans h2
      have m3 := (oN.cell (p := ⟨N + 1, 1, none⟩) (by simp; try omega)).trans k8
      have BE := (B8.trans (oN.below (Nat.le_refl _))).mono hNw
      clear r8 q8 oN
      go_region_held3 (fun w' => w'.cell? ⟨N + 1 + 1, 0, none⟩ = some (.int .i64 x0) ∧ w'.cell? ⟨N + 1 + 1, 1, none⟩ = some (.int .i64 (x1 * 256 + x2)) ∧ w'.cell? ⟨N + 1 + 1, 2, none⟩ = some (.int .i64 (x3 * 256 + x4)) ∧ w'.cell? ⟨N + 1, 1, none⟩ = some (.int .i64 5)) (first | exact ⟨m0, m1, m2, m3⟩ | go_keep)
        ((go_at_call 18; refine (cur_at (N + 1) .nilFunc 5 _ ?_).mono ?_; (simp [*]); rintro e w9 ⟨rfl, rfl⟩))
      clear m0 m1 m2 m3
      go_wp2_with fail
      refine bodyPost_ret (v := .tuple #[recV x0 (x1 * 256 + x2) (x3 * 256 + x4), .int .i64 5, .int .i64 0]) (by simp [results, Tryd.results7, go_sem, g0, g1, g2]) rfl ⟨by rw [E1.out, E2.out, E3.out], ?_⟩
      exact BE
    · have E1 : Hid (headErr x0 x3 x4 = lenErr (limLo x0) (limHi x0) (x3 * 256 + x4)) := by unfold headErr; rw [E0.out, if_pos rfl]; exact rfl
      have E2 : Hid (headAt x0 x3 x4 = 3) := by unfold headAt; rw [E0.out, if_pos rfl, if_neg hle]; exact rfl
      have E3 : Hid (headRec x0 x1 x2 x3 x4 = recV 0 0 0) := by unfold headRec; rw [E1.out, if_neg hle]; exact rfl
      generalize lenErr (limLo x0) (limHi x0) (x3 * 256 + x4) = er at hle E1 ⊢
      have hb' : (er != 0) = true := by simp [hle]
      clear hle
      go_wp2_with fail
      refine bodyPost_ret (v := .tuple #[recV 0 0 0, .int .i64 3, .int .i64 er]) (by simp [results, Tryd.results7, go_sem, g0, g1, g2]) rfl ⟨by rw [E1.out, E2.out, E3.out], ?_⟩
      exact (((B8.setCell (p := ⟨N, 0, none⟩) (Nat.le_refl _) _).setCell (p := ⟨N, 1, none⟩) (Nat.le_refl _) _).setCell (p := ⟨N, 2, none⟩) (Nat.le_refl _) _).mono hNw
end Go.Proofs.YthjkhoblafmibaaDoor
