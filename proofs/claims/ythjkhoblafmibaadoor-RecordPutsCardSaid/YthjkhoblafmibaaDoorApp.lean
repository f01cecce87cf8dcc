/-
  'append' of a row that came in onto the five bytes of a record.
-/
import Derived.Test.YthjkhoblafmibaaDoorPut
import Derived.Test.YthjkhoblafmibaaDoorSlice
import Derived.Laws.AppendOwn
import Derived.Laws.AppendOwnNone
import Derived.OwnWalk
namespace Go.Proofs.YthjkhoblafmibaaDoor
open Go.RowKit
set_option linter.unusedVariables false

theorem info5 : (Tryd.prog.info? 5).map (fun i => (i.zero, i.size, i.bytes)) = some (some (.int .u8 0), 1, 1) := by kernel_rfl

theorem five_owns {w : World} {N n : Nat} {t v l : Int} (hb : N ≤ n) (hown : w.heap[n]? = some (putCells t v l)) :
    w.ownsRow N 5 1 (.slice (some ⟨n, 0, none⟩) 5 5) 5 [.int .u8 t, .int .u8 (v / 256), .int .u8 (v % 256), .int .u8 (l / 256), .int .u8 (l % 256)] :=
  ⟨rfl, .inr ⟨n, 5, _, rfl, hb, hown, Nat.le_refl _, by simp [maxLen], rfl, rfl⟩⟩

theorem owns_five {w : World} {N len g : Nat} {v : Value} {t x1 x2 x3 x4 : Int} {news : List Value}
    (h : w.ownsRow N 5 1 v len ([.int .u8 t, .int .u8 x1, .int .u8 x2, .int .u8 x3, .int .u8 x4] ++ news)) (hg : v.ownBlock = some g) : Five w g 0 t x1 x2 x3 x4 := by
  have hc := h.cells hg
  have e : ∀ j, Addr.add ⟨g, 0, none⟩ j = ⟨g, 0 + j, none⟩ := by
    intro j; unfold Addr.add; split
    · simp_all
    · rfl
  have h0 := hc 0 _ rfl
  have h1 := hc 1 _ rfl
  have h2 := hc 2 _ rfl
  have h3 := hc 3 _ rfl
  have h4 := hc 4 _ rfl
  rw [e] at h0 h1 h2 h3 h4
  exact ⟨h0, h1, h2, h3, h4⟩

/-- 'append(b, rest...)': b the five bytes, in a block of the call's own; rest a row that came in. -/
theorem wpList_append_five {ops : Array Oper} {rest : List Oper} {o : Oper} {a : Act} {Q : Exit → Act → World → Prop} {w : World} (hgd : o.guard = none) (s x : Operand)
    (ho : o.op = .call { callee := .builtin .append, args := #[s, x], argTypes := #[22, 22] }) (w0 : World) (N n : Nat) (t v l : Int) (a1 : Option Addr) (len1 cap1 : Nat) (zs : List Int)
    (hs : a.eval s = .slice (some ⟨n, 0, none⟩) 5 5) (hx : a.eval x = .slice a1 len1 cap1) (hb : N ≤ n) (hown : w.heap[n]? = some (putCells t v l)) (HR : IsRow .u8 w0 a1 len1 cap1 zs) (B : Below w0.heap.size w0 w)
    (hreach : cap1 ≤ 140737488351232)
    (h : ∀ g cap w', N ≤ g → g < w'.heap.size → Five w' g 0 t (v / 256) (v % 256) (l / 256) (l % 256) → Below N w w' → 5 + len1 ≤ cap → cap ≤ 9223372036854775807 → wpList Tryd.prog ops Q rest (a.put o.dst (.slice (some ⟨g, 0, none⟩) (5 + len1) cap)) w') :
    wpList Tryd.prog ops Q (o :: rest) a w := by
  have hn := (Array.getElem?_eq_some_iff.1 hown).1
  have ho5 := five_owns hb hown
  have hmx : maxLen = 9223372036854775807 := rfl
  obtain ⟨i0, hi, hz0, hz1, hz2⟩ := info_parts info5
  rcases HR with ⟨rfl, rfl, rfl, rfl⟩ | ⟨p, rfl, hl, hc, hz, hcell, _⟩
  · refine wpList_append_own_none hgd s x 22 ho N 5 i0 1 Tryd.underlying22 hi _ 5 _ hs ho5 hx ?_
    exact h n 5 w hb hn (owns_five (news := []) (by simpa using ho5) rfl) (Below.refl _ _) (by omega) (by omega)
  · refine wpList_append_own (w := w) hgd s x 22 ho N 5 i0 (.int .u8 0) 1 1 Tryd.underlying22 hi hz0 hz1 hz2 rfl (by decide) _ 5 _ hs ho5 p len1 cap1 ((List.range len1).map (fun i => .int .u8 (zs.getD i 0))) hx (by simp) ?_ ?_ (by omega) (by omega) (by omega) ?_
    · intro j u hu
      rw [List.getElem?_map] at hu
      by_cases hj : j < len1
      · rw [List.getElem?_range hj] at hu
        have := hcell j (by omega)
        have hlt := World.block_lt_of_cell? w0 _ this
        rw [← (B.cell (p := p.add j) hlt)] at this
        rw [this]
        simpa using hu
      · rw [List.getElem?_eq_none (by simp; omega)] at hu
        cases hu
    · intro u hu
      obtain ⟨j, _, rfl⟩ := List.mem_map.1 hu
      rfl
    · intro v' w' hown' hgrow hnil
      rcases hown'.2 with ⟨_, h0⟩ | ⟨g, cap, cur, rfl, hbg, hg, hnc, hcm, _, _⟩
      · omega
      · exact h g cap w' hbg (Array.getElem?_eq_some_iff.1 hg).1 (owns_five hown' rfl) ((Below.refl N w).grown hgrow (by omega) (by intro k hk; simp [Value.ownBlock] at hk; omega)) hnc (by omega)
end Go.Proofs.YthjkhoblafmibaaDoor
