/-
  Plain sums, without Go and memory: the sum of the first numbers of a list, and of as many of them gone through from one on backwards, round the list's end.
-/
import Derived.Test.YthjkhoblafmibaaRows
namespace Go.Proofs.Ythjkhoblafmibaa

/-- The sum of the first k numbers. -/
def sm (zs : List Int) : Nat → Int
  | 0 => 0
  | k + 1 => sm zs k + zs.getD k 0
theorem sm_zero (zs : List Int) : sm zs 0 = 0 := rfl
theorem sm_succ (zs : List Int) (k : Nat) : sm zs (k + 1) = sm zs k + zs.getD k 0 := rfl
theorem sm_le (zs : List Int) (h : ∀ i, 0 ≤ zs.getD i 0 ∧ zs.getD i 0 ≤ 255) : ∀ k, 0 ≤ sm zs k ∧ sm zs k ≤ 255 * k
  | 0 => by simp [sm]
  | k + 1 => by have := sm_le zs h k; have := h k; rw [sm_succ]; omega
theorem sm_mono (zs : List Int) (h : ∀ i, 0 ≤ zs.getD i 0 ∧ zs.getD i 0 ≤ 255) (a : Nat) : ∀ d, sm zs a ≤ sm zs (a + d)
  | 0 => Int.le_refl _
  | d + 1 => by have := sm_mono zs h a d; have := h (a + d); rw [← Nat.add_assoc, sm_succ]; omega
theorem sm_up (zs : List Int) (h : ∀ i, 0 ≤ zs.getD i 0 ∧ zs.getD i 0 ≤ 255) {a b : Nat} (hab : a ≤ b) : sm zs a ≤ sm zs b := by
  have := sm_mono zs h a (b - a)
  rwa [Nat.add_sub_cancel' hab] at this

/-- The sum of j numbers, gone through from number r - 1 back to the first, then from number L - 1 back. -/
def rv (zs : List Int) (L r j : Nat) : Int := if j ≤ r then sm zs r - sm zs (r - j) else sm zs r + sm zs L - sm zs (L + r - j)

theorem rv_zero (zs : List Int) (L r : Nat) : rv zs L r 0 = 0 := by
  unfold rv; rw [if_pos (Nat.zero_le _)]; simp

theorem rv_succ (zs : List Int) (L r j f : Nat) (hr : r < L) (hj : j < L) (hf : ((L : Int) - 1 - j + r) % (L : Int) = (f : Int)) : rv zs L r (j + 1) = rv zs L r j + zs.getD f 0 := by
  unfold rv
  by_cases h : j < r
  · have e : f = r - j - 1 := by
      have h1 : ((L : Int) - 1 - j + r) = ((r - j - 1 : Nat) : Int) + (L : Int) := by omega
      rw [h1, Int.add_emod_right, Int.emod_eq_of_lt (by omega) (by omega)] at hf
      omega
    rw [if_pos (by omega), if_pos (by omega)]
    have h2 : r - j = (r - (j + 1)) + 1 := by omega
    rw [h2, sm_succ, e, show r - j - 1 = r - (j + 1) from by omega]
    omega
  · have e : f = L + r - j - 1 := by
      rw [Int.emod_eq_of_lt (by omega) (by omega)] at hf
      omega
    rw [if_neg (by omega)]
    have h2 : L + r - j = (L + r - (j + 1)) + 1 := by omega
    have h3 : sm zs (L + r - j) = sm zs (L + r - (j + 1)) + zs.getD f 0 := by rw [h2, sm_succ, e, show L + r - j - 1 = L + r - (j + 1) from by omega]
    by_cases hjr : j = r
    · subst hjr
      rw [if_pos (Nat.le_refl _)]
      simp only [Nat.sub_self, sm_zero]
      rw [show L + j - j = L from by omega] at h3
      omega
    · rw [if_neg (by omega)]
      omega

theorem rv_end (zs : List Int) (L r : Nat) (hr : r < L) : rv zs L r L = sm zs L := by
  unfold rv
  rw [if_neg (by omega), show L + r - L = r from by omega]
  omega

theorem rv_le (zs : List Int) (h : ∀ i, 0 ≤ zs.getD i 0 ∧ zs.getD i 0 ≤ 255) (L r j : Nat) (hr : r < L) (hj : j ≤ L) : 0 ≤ rv zs L r j ∧ rv zs L r j ≤ sm zs L := by
  unfold rv
  split
  · have h1 := sm_up zs h (show r - j ≤ r by omega)
    have h2 := sm_up zs h (show r ≤ L by omega)
    have h3 := (sm_le zs h (r - j)).1
    omega
  · have h1 := sm_up zs h (show r ≤ L + r - j by omega)
    have h2 := sm_up zs h (show L + r - j ≤ L by omega)
    have h3 := (sm_le zs h r).1
    omega

/-- The sum of those of the first k numbers that stand at even places, and of those at odd ones. -/
def ev (zs : List Int) : Nat → Int
  | 0 => 0
  | k + 1 => if k % 2 = 1 then ev zs k else ev zs k + zs.getD k 0
def od (zs : List Int) : Nat → Int
  | 0 => 0
  | k + 1 => if k % 2 = 1 then od zs k + zs.getD k 0 else od zs k
theorem ev_even (zs : List Int) (k : Nat) (h : ¬ k % 2 = 1) : ev zs (k + 1) = ev zs k + zs.getD k 0 := by show (if k % 2 = 1 then _ else _) = _; rw [if_neg h]
theorem ev_odd (zs : List Int) (k : Nat) (h : k % 2 = 1) : ev zs (k + 1) = ev zs k := by show (if k % 2 = 1 then _ else _) = _; rw [if_pos h]
theorem od_even (zs : List Int) (k : Nat) (h : ¬ k % 2 = 1) : od zs (k + 1) = od zs k := by show (if k % 2 = 1 then _ else _) = _; rw [if_neg h]
theorem od_odd (zs : List Int) (k : Nat) (h : k % 2 = 1) : od zs (k + 1) = od zs k + zs.getD k 0 := by show (if k % 2 = 1 then _ else _) = _; rw [if_pos h]
theorem ev_le (zs : List Int) (h : ∀ i, 0 ≤ zs.getD i 0 ∧ zs.getD i 0 ≤ 255) : ∀ k, 0 ≤ ev zs k ∧ ev zs k ≤ 255 * k
  | 0 => by simp [ev]
  | k + 1 => by
    have h1 := ev_le zs h k
    have h2 := h k
    by_cases hp : k % 2 = 1
    · rw [ev_odd zs k hp]; omega
    · rw [ev_even zs k hp]; omega
theorem od_le (zs : List Int) (h : ∀ i, 0 ≤ zs.getD i 0 ∧ zs.getD i 0 ≤ 255) : ∀ k, 0 ≤ od zs k ∧ od zs k ≤ 255 * k
  | 0 => by simp [od]
  | k + 1 => by
    have h1 := od_le zs h k
    have h2 := h k
    by_cases hp : k % 2 = 1
    · rw [od_odd zs k hp]; omega
    · rw [od_even zs k hp]; omega
end Go.Proofs.Ythjkhoblafmibaa
