/-
  The walk of RecordBack.
-/
import Derived.Test.YthjkhoblafmibaaDoorPut
import Derived.Test.YthjkhoblafmibaaDoorSlice
import Derived.Deep.Cut
import Derived.Deep.RegionWith
import Derived.Laws.AppendOwn
import Derived.Laws.BytesArg
import Derived.Laws.StructEq
import Derived.OwnWalk
import Derived.Test.YthjkhoblafmibaaDoorApp
import Derived.Test.YthjkhoblafmibaaDoorTypesW
namespace Go.Proofs.YthjkhoblafmibaaDoor
open Go.RowKit
set_option linter.unusedVariables false

/-- 'Put' of any record: an error, or five bytes in a block of their own. -/
def PutAny (t v l : Int) (w : World) (e : Ending) (w' : World) : Prop :=
  ∃ (vb : Value) (er : Int), e = .returned (.tuple #[vb, .int .i64 er]) ∧ Below w.heap.size w w' ∧ Lim w' ∧ er = putErr t v l ∧ (er ≠ 0 → vb = .slice none 0 0) ∧
    (er = 0 → ∃ n, w.heap.size < n ∧ n < w'.heap.size ∧ vb = .slice (some ⟨n, 0, none⟩) 5 5 ∧ w'.heap[n]? = some (putCells t v l))

theorem put_any (t v l : Int) (w : World) (L : Lim w) (hv : -9223372036854775808 ≤ v ∧ v ≤ 9223372036854775807) : Calls Tryd.prog 11 #[recV t v l] w (PutAny t v l w) := by
  have hl := L.lt
  by_cases h : putErr t v l = 0
  · refine (put_ok t v l w L h).mono ?_
    rintro e w' ⟨w1, B1, z1, rfl, rfl⟩
    have B2 : Below w.heap.size w (w1.alloc (putCells t v l)) := B1.alloc (by omega) _
    refine ⟨_, _, rfl, B2, L.below B2 hl, h.symm, fun h => (h rfl).elim, fun _ => ⟨w1.heap.size, z1, by simp, rfl, ?_⟩⟩
    show (w1.heap.push _)[w1.heap.size]? = _
    simp
  · refine (put_not t v l w L hv h).mono ?_
    rintro e w' ⟨rfl, B1⟩
    exact ⟨_, _, rfl, B1, L.below B1 hl, rfl, fun _ => rfl, fun h' => (h h').elim⟩

/-- In a region that draws its order, from operation number k on all operations leave the world alone but for draws, and all before have come up: one walk, in the text's order. -/
theorem wpAny_quiet_from {P : Program} {ops : Array Oper} {Q : Exit → Act → World → Prop} (k : Nat) {l : List Oper} {fuel : Nat} {listed : Array Bool} {a : Act} {w : World}
    (hs : Region.noSelect ops = true) (hl : ops.toList.drop k = l) (hf : l.length = fuel) (hB : Region.lexFrom .any ops l.length k listed = true)
    (h : wpQuiet P ops (fun w' => ∃ n, w' = w.drewN n) (fun a' => ∀ w', (∃ n, w' = w.drewN n) → Q .normal a' w') l a) : wpAny P .any ops Q fuel listed a w := by
  subst hf
  refine wpAny_of_quiet (C := fun w' => ∃ n, w' = w.drewN n) (Q := fun a' => ∀ w', (∃ n, w' = w.drewN n) → Q .normal a' w') (fun _ w' hw' h => h w' hw') _ _ _ _ ⟨0, rfl⟩ ?_
  refine wpAnyQ_lex hs l k listed a (fun j => ?_) hB h
  subst hl
  rw [List.getElem?_drop, Array.getElem?_toList]

/-- A record that was read is put. -/
theorem head_put (x0 x1 x2 x3 x4 : Int) (X : Bytes5 x0 x1 x2 x3 x4) (h : headErr x0 x3 x4 = 0) : putErr x0 (x1 * 256 + x2) (x3 * 256 + x4) = 0 := by
  unfold headErr at h
  cases hok : limOk x0
  · rw [hok] at h; simp at h
  · rw [hok, if_pos rfl] at h
    have h1 := X.b1
    have h2 := X.b2
    have h3 := X.b3
    have h4 := X.b4
    unfold putErr
    rw [hok, if_pos rfl, if_neg (by omega)]
    exact h

/-- Five bytes as a string. -/
theorem conv_five (b off cap : Nat) (x0 x1 x2 x3 x4 : Int) (W : World) (F : Five W b off x0 x1 x2 x3 x4) :
    (convert 22 9 (.slice (some ⟨b, off, none⟩) 5 cap)).run Tryd.prog W = .ok (.string (strOfNums [x0, x1, x2, x3, x4])) W := by
  refine run_convert_bytes_arg W 22 5 Tryd.underlying22 Tryd.underlying5 b off 5 cap [x0, x1, x2, x3, x4] rfl (fun i hi => ?_) 9 Tryd.underlying9
  match i, hi with
  | 0, _ => exact F.c0
  | 1, _ => exact F.c1
  | 2, _ => exact F.c2
  | 3, _ => exact F.c3
  | 4, _ => exact F.c4

theorem Five.drewN {w : World} {b off : Nat} {x0 x1 x2 x3 x4 : Int} (h : Five w b off x0 x1 x2 x3 x4) (n : Nat) : Five (w.drewN n) b off x0 x1 x2 x3 x4 :=
  ⟨by simpa using h.c0, by simpa using h.c1, by simpa using h.c2, by simpa using h.c3, by simpa using h.c4⟩

set_option maxRecDepth 100000 in
set_option maxHeartbeats 1000000 in
theorem back_any (t v l : Int) (a1 : Option Addr) (len1 cap1 : Nat) (zs : List Int) (w : World) (L : Lim w) (hv : -9223372036854775808 ≤ v ∧ v ≤ 9223372036854775807) (hr : IsRow .u8 w a1 len1 cap1 zs)
    (hreach : cap1 ≤ 140737488351232) (hz : ∀ i, 0 ≤ zs.getD i 0 ∧ zs.getD i 0 ≤ 255) :
    Calls Tryd.prog 5 #[recV t v l, .slice a1 len1 cap1] w fun e w' => e = .returned (.bool true) ∧ Below w.heap.size w w' := by
  obtain ⟨hl1, hc1⟩ := hr.small
  have HR := Lib.hid hr
  have HZ := Lib.hid hz
  have hl := L.lt
  obtain ⟨N, hN⟩ : ∃ N, N = w.heap.size := ⟨_, rfl⟩
  have hl0 : 0 < N := by omega
  have B0 : Below N w (w.alloc (.cells #[.int .i64 t, .int .i64 v, .int .i64 l] 24)) := (Below.refl _ _).alloc (by omega) _
  have r0 := RecAt.fresh w t v l
  have L0 := lim_alloc w (.cells #[.int .i64 t, .int .i64 v, .int .i64 l] 24) L
  have z0 : (w.alloc (.cells #[.int .i64 t, .int .i64 v, .int .i64 l] 24)).heap.size = N + 1 := by simp [hN]
  rw [← hN] at r0
  clear hr hz hc1
  go_enter Tryd.func5, Tryd.ntmps5
  go_wp2_with fail
  rw [← hN]
  have hNw : w.heap.size ≤ N := by omega
  have hNw2 : N ≤ w.heap.size := by omega
  clear hN hl
  generalize w.alloc (.cells #[.int .i64 t, .int .i64 v, .int .i64 l] 24) = w1 at B0 r0 z0 L0 ⊢
  refine (put_any t v l w1 L0 hv).mono ?_
  rintro e w2 ⟨vb, er, rfl, B2, L2, her, hnil, hok⟩
  have HER := Lib.hid her
  have HNIL := Lib.hid hnil
  have HOK := Lib.hid hok
  have r2 := r0.below B2 (by omega)
  have z2 := B2.size
  have B2' := B0.trans (B2.mono (by omega))
  clear her hnil hok B2 B0 r0 L0
  go_upto_if 25 with (fail)
  go_cut [] from 19 (fun wc => Lim wc ∧ Below N w wc)
  case first =>
    by_cases he : er = 0
    · subst he
      obtain ⟨n, hn1, hn2, rfl, hblk⟩ := HOK.out rfl
      obtain ⟨hok, ht, hv', hl', hle⟩ := putErr_ok HER.out.symm
      have HF := Lib.hid (head_fits t v l hok hle)
      have HX := Lib.hid (bytes_of t v l ⟨by omega, by omega⟩ hv' ⟨by omega, by omega⟩)
      have HBLK := Lib.hid hblk
      clear HOK HNIL HER hok ht hv' hl' hle hblk hv
      have HL1 := Lib.hid hl1
      have HC1 := Lib.hid hreach
      clear hl1 hreach
      go_wp2_with fail
      go_loopw [31] (fun i wr => ∃ k : Nat, i = .int .i64 k ∧ k ≤ 5 ∧ Lim wr ∧ Below w2.heap.size w2 wr) (fun i _ => 5 - (intOf i).toNat)
      case atStart => exact ⟨0, rfl, by omega, L2, Below.refl _ _⟩
      case round =>
        obtain ⟨k, rfl, hk, Lr, Br⟩ := hrel
        by_cases hlt : k < 5
        · have hki : (k : Int) ≤ 5 := by omega
          go_wp2_with fail
          refine (head_short (some ⟨n, 0, none⟩) k 5 wr hlt).mono ?_
          rintro e w3 ⟨rfl, B3⟩
          have B3' := Br.trans (B3.mono Br.size)
          have B4 : Below w2.heap.size w2 (w3.alloc (.cells #[.int .i64 0, .int .i64 0, .int .i64 0] 24)) := B3'.alloc B3'.size _
          have L4 := lim_alloc w3 (.cells #[.int .i64 0, .int .i64 0, .int .i64 0] 24) (Lr.below B3 Lr.lt)
          go_wp2_with fail
          constructor
          · exact ⟨_, _, _, _, _, _, _, _, _, _, _, _, _, _, _, _, _, _, _, _, _, _, _, _, ⟨k + 1, by go_num, by omega, L4, B4⟩, rfl⟩
          · simp [intOf]; omega
        · obtain rfl : k = 5 := by omega
          have HBw : Hid (Below w.heap.size w wr) := (B2'.trans (Br.mono (by omega))).mono hNw
          have hblk := (Br.block n hn2).trans HBLK.out
          have HBLK2 := Lib.hid hblk
          have rr := r2.below Br (by omega)
          have zr := Br.size
          have Brn := B2'.trans (Br.mono (by omega))
          clear hlt hk hblk HBLK Br r2 B2' L2
          go_wp2_with (at_builtin; refine wpList_append_five rfl _ _ rfl w (N + 1) n t v l a1 len1 cap1 zs rfl rfl (by omega) HBLK2.out HR.out HBw.out HC1.out ?_)
          intro g cap w5 hg hgl F5 B5 hc5 hm5
          have L5 := Lr.below B5 (by omega)
          have r5 := rr.below B5 (by omega)
          have z5 := B5.size
          have B5' := Brn.trans (B5.mono (by omega))
          clear HBLK2 HBw rr Brn B5 Lr
          go_wp2_with fail
          refine (head_five g 0 (5 + len1) cap t (v / 256) (v % 256) (l / 256) (l % 256) w5 L5 (by omega) hc5 hm5 F5 HX.out).mono ?_
          rintro e w6 ⟨rfl, B6⟩
          obtain ⟨f1, f2, f3⟩ := HF.out
          rw [f1, f2, f3]
          have z6 := B6.size
          have L6 := L5.below B6 L5.lt
          have r6 := r5.below B6 (by omega)
          have B6' := B5'.trans (B6.mono (by omega))
          clear f1 f2 f3 F5 L5 r5 B5' B6
          have B7 : Below N w (w6.alloc (.cells #[.int .i64 t, .int .i64 v, .int .i64 l] 24)) := B6'.alloc (by omega) _
          have L7 := lim_alloc w6 (.cells #[.int .i64 t, .int .i64 v, .int .i64 l] 24) L6
          have r7 := r6.below ((Below.refl w6.heap.size w6).alloc (Nat.le_refl _) (.cells #[.int .i64 t, .int .i64 v, .int .i64 l] 24)) (by omega)
          have q7 := RecAt.fresh w6 t v l
          have p0 := r7.c0
          have p1 := r7.c1
          have p2 := r7.c2
          have q0 := q7.c0
          have q1 := q7.c1
          have q2 := q7.c2
          clear r6 L6 B6'
          go_wp2_with fail
          go_meet
          case rel => exact ⟨L7, B7⟩
    · have hb : (er == 0) = false := by simp [he]
      clear he
      go_wp2_with fail
      go_meet
      case rel => exact ⟨L2, B2'⟩
  case rest =>
    obtain ⟨Lc, Bc⟩ := hcut
    clear HER HNIL HOK r2 z2 B2' L2 z0
    go_wp2_with fail
    by_cases h5 : len1 < 5
    · refine (head_short a1 len1 cap1 wc h5).mono ?_
      rintro e w3 ⟨rfl, B3⟩
      have z3 := B3.size
      have B3' := Bc.trans (B3.mono (by have := Bc.size; omega))
      have B4 : Below N w (w3.alloc (.cells #[.int .i64 0, .int .i64 0, .int .i64 0] 24)) := B3'.alloc (by have := Bc.size; omega) _
      have r4 := RecAt.fresh w3 0 0 0
      have L4 := lim_alloc w3 (.cells #[.int .i64 0, .int .i64 0, .int .i64 0] 24) (Lc.below B3 Lc.lt)
      have z4 : (w3.alloc (.cells #[.int .i64 0, .int .i64 0, .int .i64 0] 24)).heap.size = w3.heap.size + 1 := by simp
      go_wp2_with fail
      obtain ⟨M, hM⟩ : ∃ M, M = w3.heap.size := ⟨_, rfl⟩
      rw [← hM] at r4 z4 ⊢
      generalize w3.alloc (.cells #[.int .i64 0, .int .i64 0, .int .i64 0] 24) = w4 at B4 r4 L4 z4 ⊢
      have hMN : N ≤ w4.heap.size := by have := Bc.size; omega
      clear hM B3 B3'
      refine (alive_any w4 L4).mono ?_
      rintro e w5 ⟨rfl, B5⟩
      have r5 := r4.below B5 (by omega)
      have p0 := r5.c0
      have p1 := r5.c1
      have p2 := r5.c2
      have B6 := B4.trans (B5.mono hMN)
      go_wp2_with fail
      go_ret
      exact ⟨rfl, B6.mono hNw⟩
    · obtain ⟨b, off, rfl, hcell⟩ := HR.out.cells (by omega)
      have F : Five w b off (zs.getD 0 0) (zs.getD 1 0) (zs.getD 2 0) (zs.getD 3 0) (zs.getD 4 0) := ⟨hcell 0 (by omega), hcell 1 (by omega), hcell 2 (by omega), hcell 3 (by omega), hcell 4 (by omega)⟩
      have X : Bytes5 (zs.getD 0 0) (zs.getD 1 0) (zs.getD 2 0) (zs.getD 3 0) (zs.getD 4 0) := ⟨HZ.out 0, HZ.out 1, HZ.out 2, HZ.out 3, HZ.out 4⟩
      generalize zs.getD 0 0 = x0 at F X
      generalize zs.getD 1 0 = x1 at F X
      generalize zs.getD 2 0 = x2 at F X
      generalize zs.getD 3 0 = x3 at F X
      generalize zs.getD 4 0 = x4 at F X
      have hbN : b < N := by have := F.lt; omega
      have Fc := F.below Bc hbN
      clear hcell HR HZ F
      refine (head_five b off len1 cap1 x0 x1 x2 x3 x4 wc Lc (by omega) hl1 (by omega) Fc X).mono ?_
      rintro e w3 ⟨rfl, B3⟩
      have zc := Bc.size
      have z3 := B3.size
      have F3 := Fc.below B3 (by omega)
      have L3 := Lc.below B3 Lc.lt
      have B3' := Bc.trans (B3.mono (by omega))
      clear B3 Lc Bc Fc
      by_cases he : headErr x0 x3 x4 = 0
      · have e1 : headRec x0 x1 x2 x3 x4 = recV x0 (x1 * 256 + x2) (x3 * 256 + x4) := by unfold headRec; rw [if_pos he]
        rw [e1, he]
        have hput := head_put x0 x1 x2 x3 x4 X he
        have y1 : (x1 * 256 + x2) / 256 = x1 := by have := X.b1; have := X.b2; omega
        have y2 : (x1 * 256 + x2) % 256 = x2 := by have := X.b1; have := X.b2; omega
        have y3 : (x3 * 256 + x4) / 256 = x3 := by have := X.b3; have := X.b4; omega
        have y4 : (x3 * 256 + x4) % 256 = x4 := by have := X.b3; have := X.b4; omega
        clear e1 he
        generalize headAt x0 x3 x4 = at2
        have B4 : Below N w (w3.alloc (.cells #[.int .i64 x0, .int .i64 (x1 * 256 + x2), .int .i64 (x3 * 256 + x4)] 24)) := B3'.alloc (by omega) _
        have r4 := RecAt.fresh w3 x0 (x1 * 256 + x2) (x3 * 256 + x4)
        have L4 := lim_alloc w3 (.cells #[.int .i64 x0, .int .i64 (x1 * 256 + x2), .int .i64 (x3 * 256 + x4)] 24) L3
        have F4 := F3.below ((Below.refl w3.heap.size w3).alloc (Nat.le_refl _) (.cells #[.int .i64 x0, .int .i64 (x1 * 256 + x2), .int .i64 (x3 * 256 + x4)] 24)) (by omega)
        have z4 : (w3.alloc (.cells #[.int .i64 x0, .int .i64 (x1 * 256 + x2), .int .i64 (x3 * 256 + x4)] 24)).heap.size = w3.heap.size + 1 := by simp
        have HY := Lib.hid (And.intro y1 (And.intro y2 (And.intro y3 y4)))
        clear y1 y2 y3 y4
        go_wp2_with fail
        generalize w3.alloc (.cells #[.int .i64 x0, .int .i64 (x1 * 256 + x2), .int .i64 (x3 * 256 + x4)] 24) = w4 at B4 r4 L4 F4 z4 ⊢
        refine (put_ok x0 (x1 * 256 + x2) (x3 * 256 + x4) w4 L4 hput).mono ?_
        rintro e w5 ⟨w6, B6, z6, rfl, rfl⟩
        obtain ⟨y1, y2, y3, y4⟩ := HY.out
        have B7' : Below w4.heap.size w4 (w6.alloc (putCells x0 (x1 * 256 + x2) (x3 * 256 + x4))) := B6.alloc (by omega) _
        have B7 := B4.trans (B7'.mono (by omega))
        have L7 := L4.below B7' L4.lt
        have F7 := F4.below B7' (by omega)
        have G7 : Five (w6.alloc (putCells x0 (x1 * 256 + x2) (x3 * 256 + x4))) w6.heap.size 0 x0 ((x1 * 256 + x2) / 256) ((x1 * 256 + x2) % 256) ((x3 * 256 + x4) / 256) ((x3 * 256 + x4) % 256) := five_made w6 _ _ _ _ _
        rw [y1, y2, y3, y4] at G7
        have z7 : (w6.alloc (putCells x0 (x1 * 256 + x2) (x3 * 256 + x4))).heap.size = w6.heap.size + 1 := by simp
        clear y1 y2 y3 y4 B7' B6 hput B4 r4 L4 F4 B3' L3 F3
        obtain ⟨P, hP⟩ : ∃ P, P = w6.heap.size := ⟨_, rfl⟩
        rw [← hP] at G7 z7 z6 ⊢
        generalize w6.alloc (putCells x0 (x1 * 256 + x2) (x3 * 256 + x4)) = w7 at B7 L7 F7 G7 z7 ⊢
        clear hP
        go_wp2_with fail
        refine wp_region_any (by kernel_rfl) ?_
        change wpAny _ _ _ _ _ _ _ (World.drew _)
        refine wpAny_ready (rs := [0]) (by kernel_rfl) (by simp) ?_
        refine AllReady.cons rfl (fun K hK => ?_) AllReady.nil
        go_simp
        have Bd : Below w7.heap.size w7 w7.drew := (Below.refl _ _).drew
        refine (alive_any w7.drew (L7.below Bd L7.lt)).mono ?_
        rintro e w8 ⟨rfl, B8⟩
        have B8' : Below w7.heap.size w7 w8 := Bd.trans (B8.mono (by simp))
        have F8 := F7.below B8' (by omega)
        have G8 := G7.below B8' (by omega)
        have BE := B7.trans (B8'.mono (by omega))
        have q1 : ∀ n, (convert 22 9 (.slice (some ⟨P, 0, none⟩) 5 5)).run Tryd.prog (w8.drewN n) = .ok (.string (strOfNums [x0, x1, x2, x3, x4])) (w8.drewN n) := fun n => conv_five P 0 5 _ _ _ _ _ _ (G8.drewN n)
        have q2 : ∀ n, (convert 22 9 (.slice (some ⟨b, off, none⟩) 5 cap1)).run Tryd.prog (w8.drewN n) = .ok (.string (strOfNums [x0, x1, x2, x3, x4])) (w8.drewN n) := fun n => conv_five b off cap1 _ _ _ _ _ _ (F8.drewN n)
        generalize strOfNums [x0, x1, x2, x3, x4] = str at q1 q2
        have i5 : (5 : Int) ≤ (cap1 : Int) := by omega
        have n5 : 5 ≤ cap1 := by omega
        have k5 : ¬ cap1 < 5 := by omega
        clear B8 B8' F8 G8 F7 G7 Bd
        refine hK _ _ ?_
        clear hK K
        refine wpAny_quiet_from 1 (by kernel_rfl) rfl (by kernel_rfl) (by kernel_rfl) ?_
        repeat (quiet_step (fail))
        refine wpQuiet_nil ?_
        intro _ hw'
        obtain ⟨nq, hw''⟩ := hw'
        subst hw''
        go_wp2_with fail
        go_ret
        exact ⟨rfl, below_drewN (BE.mono hNw) _⟩
      · have e1 : headRec x0 x1 x2 x3 x4 = recV 0 0 0 := by unfold headRec; rw [if_neg he]
        rw [e1]
        clear e1
        generalize headErr x0 x3 x4 = er2 at he ⊢
        have hb2 : (er2 != 0) = true := by simp [he]
        clear he
        generalize headAt x0 x3 x4 = at2
        have B4 : Below N w (w3.alloc (.cells #[.int .i64 0, .int .i64 0, .int .i64 0] 24)) := B3'.alloc (by omega) _
        have r4 := RecAt.fresh w3 0 0 0
        have L4 := lim_alloc w3 (.cells #[.int .i64 0, .int .i64 0, .int .i64 0] 24) L3
        have z4 : (w3.alloc (.cells #[.int .i64 0, .int .i64 0, .int .i64 0] 24)).heap.size = w3.heap.size + 1 := by simp
        go_wp2_with fail
        obtain ⟨M, hM⟩ : ∃ M, M = w3.heap.size := ⟨_, rfl⟩
        rw [← hM] at r4 z4 ⊢
        generalize w3.alloc (.cells #[.int .i64 0, .int .i64 0, .int .i64 0] 24) = w4 at B4 r4 L4 z4 ⊢
        have hMN : N ≤ w4.heap.size := by omega
        clear hM B3' L3 F3
        refine (alive_any w4 L4).mono ?_
        rintro e w5 ⟨rfl, B5⟩
        have r5 := r4.below B5 (by omega)
        have p0 := r5.c0
        have p1 := r5.c1
        have p2 := r5.c2
        have B6 := B4.trans (B5.mono hMN)
        go_wp2_with fail
        go_ret
        exact ⟨rfl, B6.mono hNw⟩
end Go.Proofs.YthjkhoblafmibaaDoor
