/-
  The reference's 'Put'.
-/
import Derived.Test.YthjkhoblafmibaaDoorBytes
import Derived.Deep.Cut
import Derived.Deep.AppendLies
import Derived.Deep.RegionLaw
namespace Go.Proofs.YthjkhoblafmibaaDoor
open Go.RowKit
set_option linter.unusedVariables false

set_option maxRecDepth 100000 in
set_option maxHeartbeats 1000000 in
/-- Where a record isn't put: no bytes, and the error. -/
theorem ref_put_not (t v l : Int) (w : World) (hv : -9223372036854775808 ≤ v ∧ v ≤ 9223372036854775807) (h : putErr t v l ≠ 0) :
    Calls Tryd.prog 12 #[recV t v l] w fun e w' => e = .returned (.tuple #[.slice none 0 0, .int .i64 (putErr t v l)]) ∧ Below w.heap.size w w' := by
  have B0 : Below w.heap.size w (w.alloc (.cells #[.int .i64 t, .int .i64 v, .int .i64 l] 24)) := (Below.refl _ _).alloc (Nat.le_refl _) _
  have r0 := RecAt.fresh w t v l
  go_enter Tryd.func12, Tryd.ntmps12
  go_wp2_with fail
  generalize w.alloc (.cells #[.int .i64 t, .int .i64 v, .int .i64 l] 24) = w1 at B0 r0 ⊢
  refine (ref_limits t w1).mono ?_
  rintro e w2 ⟨rfl, rfl⟩
  have q0 := r0.c0
  have q1 := r0.c1
  have q2 := r0.c2
  cases hok : limOk t
  · have E1 : Hid (putErr t v l = 18) := by unfold putErr; rw [hok]; rfl
    clear hok h
    go_wp2_with fail
    go_ret2
    exact ⟨by rw [E1.out]; rfl, B0⟩
  · by_cases h3 : v < 0 ∨ 65535 < v ∨ l < 0
    · have E1 : Hid (putErr t v l = 3) := by unfold putErr; rw [hok, if_pos rfl, if_pos h3]; exact rfl
      clear hok h
      by_cases a1 : v < 0
      · clear h3
        go_wp2_with fail
        go_ret2
        exact ⟨by rw [E1.out]; rfl, B0⟩
      · by_cases a2 : 65535 < v
        · clear h3
          go_wp2_with fail
          go_ret2
          exact ⟨by rw [E1.out]; rfl, B0⟩
        · have a3 : l < 0 := by omega
          have a4 : ¬ v < 0 := a1
          clear h3
          go_wp2_with fail
          go_ret2
          exact ⟨by rw [E1.out]; rfl, B0⟩
    · have e1 : putErr t v l = lenErr (limLo t) (limHi t) l := by unfold putErr; rw [hok, if_pos rfl, if_neg h3]
      have HC := Lib.hid (ref_length t l w1)
      have E1 := Lib.hid e1
      rw [e1] at h
      clear e1
      generalize lenErr (limLo t) (limHi t) l = er at h HC E1
      have hb : (er != 0) = true := by simp [h]
      have a1 : ¬ v < 0 := by omega
      have a2 : ¬ 65535 < v := by omega
      have a3 : ¬ l < 0 := by omega
      clear hok h h3
      go_wp2_with fail
      refine HC.out.mono ?_
      rintro e w3 ⟨rfl, rfl⟩
      go_wp2_with fail
      go_ret2
      exact ⟨by rw [E1.out]; rfl, B0⟩

/-- A row of one, and two more behind it, as a step of a region that draws. -/
theorem step_append_three {ops : Array Oper} {o : Oper} {a : Act} {w : World} {K : Act → World → Prop} {Q : Exit → Act → World → Prop} {E : Prop} (hgd : o.guard = none) (s x : Operand)
    (ho : o.op = .call { callee := .builtin .append, args := #[s, x], argTypes := #[22, 22] }) (N b g c : Nat) (t y z : Int)
    (hs : a.eval s = .slice (some ⟨b, 0, none⟩) 1 1) (hx : a.eval x = .slice (some ⟨g, 0, none⟩) 2 c)
    (hb : w.heap[b]? = some (.cells #[.int .u8 t] 5)) (hN : N ≤ b) (T : Two w g y z)
    (h : ∀ g' cap w', w'.ownsRow N 5 1 (.slice (some ⟨g', 0, none⟩) 3 cap) 3 [.int .u8 t, .int .u8 y, .int .u8 z] → Below N w w' → g' < w'.heap.size → K (a.put o.dst (.slice (some ⟨g', 0, none⟩) 3 cap)) w') :
    if Region.wanted o (yielded ops a.tmps) = true then Oper.wp Tryd.prog o a w K Q else E := by
  have hn := (Array.getElem?_eq_some_iff.1 hb).1
  have hmx : maxLen = 9223372036854775807 := rfl
  obtain ⟨i0, hi, hz0, hz1, hz2⟩ := info_parts info5
  have hown : w.ownsRow N 5 1 (.slice (some ⟨b, 0, none⟩) 1 1) 1 [.int .u8 t] := ⟨rfl, .inr ⟨b, 1, _, rfl, hN, hb, Nat.le_refl _, by omega, rfl, rfl⟩⟩
  refine step_append_lies w hgd s x 22 ho N 5 i0 (.int .u8 0) 1 1 Tryd.underlying22 hi hz0 hz1 hz2 rfl (by decide) _ 1 _ hs hown ⟨g, 0, none⟩ 2 c [.int .u8 y, .int .u8 z] hx rfl ?_ ?_ (by omega) (by omega) (by omega) (by omega) _ rfl ?_
  · intro j u hu
    have e : Addr.add ⟨g, 0, none⟩ j = ⟨g, 0 + j, none⟩ := by
      unfold Addr.add; split
      · simp_all
      · rfl
    rw [e]
    match j, hu with
    | 0, hu => cases hu; exact T.c0
    | 1, hu => cases hu; exact T.c1
  · intro u hu
    simp only [List.mem_cons, List.not_mem_nil, or_false] at hu
    rcases hu with rfl | rfl <;> rfl
  · intro g' cap w' hown' hgrow hat hlt
    exact h g' cap w' hown' ((Below.refl N w).grown hgrow (by omega) (by intro k hk; simp [Value.ownBlock] at hk; omega)) hlt

/-- A row of three, and two more behind it. -/
theorem wpList_append_two {ops : Array Oper} {rest : List Oper} {o : Oper} {a : Act} {w : World} {Q : Exit → Act → World → Prop} (hgd : o.guard = none) (s x : Operand)
    (ho : o.op = .call { callee := .builtin .append, args := #[s, x], argTypes := #[22, 22] }) (N b cb g c : Nat) (t y z y' z' : Int)
    (hs : a.eval s = .slice (some ⟨b, 0, none⟩) 3 cb) (hx : a.eval x = .slice (some ⟨g, 0, none⟩) 2 c)
    (hown : w.ownsRow N 5 1 (.slice (some ⟨b, 0, none⟩) 3 cb) 3 [.int .u8 t, .int .u8 y, .int .u8 z]) (T : Two w g y' z') (hN : N ≤ w.heap.size)
    (h : ∀ g' cap w', Five w' g' 0 t y z y' z' → Below N w w' → wpList Tryd.prog ops Q rest (a.put o.dst (.slice (some ⟨g', 0, none⟩) 5 cap)) w') :
    wpList Tryd.prog ops Q (o :: rest) a w := by
  have hmx : maxLen = 9223372036854775807 := rfl
  obtain ⟨i0, hi, hz0, hz1, hz2⟩ := info_parts info5
  refine wpList_append_lies w hgd s x 22 ho N 5 i0 (.int .u8 0) 1 1 Tryd.underlying22 hi hz0 hz1 hz2 rfl (by decide) _ 3 _ hs hown ⟨g, 0, none⟩ 2 c [.int .u8 y', .int .u8 z'] hx rfl ?_ ?_ (by omega) (by omega) (by omega) hN _ rfl ?_
  · intro j u hu
    have e : Addr.add ⟨g, 0, none⟩ j = ⟨g, 0 + j, none⟩ := by
      unfold Addr.add; split
      · simp_all
      · rfl
    rw [e]
    match j, hu with
    | 0, hu => cases hu; exact T.c0
    | 1, hu => cases hu; exact T.c1
  · intro u hu
    simp only [List.mem_cons, List.not_mem_nil, or_false] at hu
    rcases hu with rfl | rfl <;> rfl
  · intro g' cap w' hown' hgrow hat hlt
    exact h g' cap w' (owns_five (news := []) hown' rfl) ((Below.refl N w).grown hgrow hN (fun k hk => (hown.lt k hk).1))

set_option maxRecDepth 100000 in
set_option maxHeartbeats 1000000 in
theorem ref_put_ok (t v l : Int) (w : World) (h : putErr t v l = 0) : Calls Tryd.prog 12 #[recV t v l] w fun e w' =>
    ∃ g cap, e = .returned (.tuple #[.slice (some ⟨g, 0, none⟩) 5 cap, .int .i64 0]) ∧ Below w.heap.size w w' ∧ Five w' g 0 t (v / 256) (v % 256) (l / 256) (l % 256) := by
  obtain ⟨hok, ht, hv, hl, hle⟩ := putErr_ok h
  clear h
  have B0 : Below w.heap.size w (w.alloc (.cells #[.int .i64 t, .int .i64 v, .int .i64 l] 24)) := (Below.refl _ _).alloc (Nat.le_refl _) _
  have r0 := RecAt.fresh w t v l
  have z0 : (w.alloc (.cells #[.int .i64 t, .int .i64 v, .int .i64 l] 24)).heap.size = w.heap.size + 1 := by simp
  obtain ⟨N, hN⟩ : ∃ N, N = w.heap.size := ⟨_, rfl⟩
  have hNw : w.heap.size ≤ N := by omega
  go_enter Tryd.func12, Tryd.ntmps12
  go_wp2_with fail
  rw [← hN] at r0 z0 ⊢
  generalize w.alloc (.cells #[.int .i64 t, .int .i64 v, .int .i64 l] 24) = w1 at B0 r0 z0 ⊢
  clear hN
  refine (ref_limits t w1).mono ?_
  rintro e w2 ⟨rfl, rfl⟩
  have HC := Lib.hid (ref_length t l w1)
  rw [hok]
  rw [hle] at HC
  clear hok hle
  have q0 := r0.c0
  have q1 := r0.c1
  have q2 := r0.c2
  have a1 : ¬ v < 0 := by omega
  have a2 : ¬ 65535 < v := by omega
  have a3 : ¬ l < 0 := by omega
  go_wp2_with fail
  refine HC.out.mono ?_
  rintro e w3 ⟨rfl, rfl⟩
  clear a1 a2 a3 HC
  go_wp2_with fail
  have z1 : w1.drew.heap.size = N + 1 := z0
  have ev : IntKind.u64.wrap v = v := by simp [IntKind.wrap, IntKind.bits, IntKind.signed]; omega
  have el : IntKind.u64.wrap l = l := by simp [IntKind.wrap, IntKind.bits, IntKind.signed]; omega
  have et : IntKind.u8.wrap t = t := by simp [IntKind.wrap, IntKind.bits, IntKind.signed]; omega
  go_cut [8] from 9 (fun v8 wc => ∃ g cap, v8 = .slice (some ⟨g, 0, none⟩) 3 cap ∧ wc.ownsRow (N + 1) 5 1 (.slice (some ⟨g, 0, none⟩) 3 cap) 3 [.int .u8 t, .int .u8 (v / 256), .int .u8 (v % 256)] ∧ g < wc.heap.size ∧ Below (N + 1) w1 wc)
  case first =>
    go_region_law (first
      | ((refine step_append_three rfl (.tmp 42) (.tmp 46) rfl (N + 1) _ _ _ t (v / 256) (v % 256) rfl rfl ?hb ?hN ?T ?h); (case hb => (first | assumption | exact heap_alloc_new _ _)); (case hN => (first | assumption | omega)); (case T => (first | assumption | exact Tb.below ((Below.refl _ _).alloc (Nat.le_refl _) _) hg2)); (intro g3 cap3 w3 hown3 B3 hlt3); (have BF : Below (N + 1) w1 w3 := (by first | exact BB.trans B3 | exact (BB.alloc (by omega) _).trans B3)))
      | ((go_simp); (go_at_call 22); (refine (bytes_two v _ hv).mono ?_); (rintro e wb ⟨gb, rfl, hg1, hg2, Bb, Tb⟩); (have BB : Below (N + 1) w1 wb := (by first | exact (Below.refl _ _).drew.trans (Bb.mono (by simp [z0] <;> omega)) | exact ((Below.refl _ _).alloc (by simp [z0]) _).drew.trans (Bb.mono (by simp [z0] <;> omega)))); (have q0b := r0.below BB (by omega)); (have q0c := q0b.c0); (have zb := BB.size); (try have hbb : wb.heap[N + 1]? = some (.cells #[.int .u8 t] 5) := (by rw [Bb.block (N + 1) (by simp [z0])]; have := heap_alloc_new w1 (.cells #[.int .u8 t] 5); rw [z0] at this; exact this))))
    all_goals (go_wp2_with fail)
    all_goals go_meet
    all_goals exact ⟨g3, cap3, rfl, hown3, hlt3, BF⟩
  case rest =>
    obtain ⟨g, cap, rfl, hown, hg, Bc⟩ := hcut
    have rc := r0.below Bc (by omega)
    have q2c := rc.c2
    have zc := Bc.size
    have hl' : 0 ≤ l ∧ l ≤ 65535 := by omega
    have Bc' := B0.trans (Bc.mono (by omega))
    clear q0 q1 q2 B0 r0 Bc rc et ev
    go_wp2_with fail
    refine (bytes_two l wc hl').mono ?_
    rintro e wb ⟨gb, rfl, hg1, hg2, Bb, Tb⟩
    have zb := Bb.size
    have hown' : wb.ownsRow (N + 1) 5 1 (.slice (some ⟨g, 0, none⟩) 3 cap) 3 [.int .u8 t, .int .u8 (v / 256), .int .u8 (v % 256)] :=
      hown.kept (row := none) ⟨Bb.os, Bb.tape, Bb.output, Bb.size, fun k hk _ => Bb.block k hk⟩ (by simp [Value.ownBlock])
    have hNb : N + 1 ≤ wb.heap.size := by omega
    have Bc'' := Bc'.trans (Bb.mono (by omega))
    clear hown Bb Bc' q2c hg1 hg2 hg
    go_wp2_with (at_builtin; refine wpList_append_two rfl _ _ rfl (N + 1) g cap gb _ t (v / 256) (v % 256) (l / 256) (l % 256) rfl rfl hown' Tb hNb ?_)
    intro g5 cap5 w5 F5 B5
    have BE := Bc''.trans (B5.mono (by omega))
    go_wp2_with fail
    go_ret2
    exact ⟨g5, cap5, rfl, BE, F5⟩
end Go.Proofs.YthjkhoblafmibaaDoor
