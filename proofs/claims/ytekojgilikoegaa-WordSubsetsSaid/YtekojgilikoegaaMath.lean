/- Plain laws on binomial coefficients and on the rows of Pascal's triangle as lists of integers: no program in sight. No condition. -/
import Derived.Test.YtekojgilikoegaaWWords
namespace Go.Proofs.Ytekojgilikoegaa.Math
open Go.RowKit Go.Proofs.YtekojgilikoegaaW.PrintWords

/-- Binomial coefficients, by Pascal's rule. -/
def C : Nat → Nat → Nat
  | _, 0 => 1
  | 0, _ + 1 => 0
  | n + 1, k + 1 => C n k + C n (k + 1)

@[simp] theorem C_zero (n : Nat) : C n 0 = 1 := by cases n <;> rfl
theorem C_succ (n k : Nat) : C (n + 1) (k + 1) = C n k + C n (k + 1) := rfl
theorem C_gt : ∀ (n k : Nat), n < k → C n k = 0
  | 0, 0, h => by omega
  | 0, k + 1, _ => rfl
  | n + 1, 0, h => by omega
  | n + 1, k + 1, h => by rw [C_succ, C_gt n k (by omega), C_gt n (k + 1) (by omega)]
theorem C_self : ∀ n : Nat, C n n = 1
  | 0 => rfl
  | n + 1 => by rw [C_succ, C_self n, C_gt n (n + 1) (by omega)]
theorem C_pair : ∀ n k : Nat, C (n + 2) k + C (n + 2) (k + 1) + 1 ≤ 2 ^ (n + 2)
  | 0, 0 => by decide
  | 0, 1 => by decide
  | 0, 2 => by decide
  | 0, k + 3 => by rw [C_gt 2 (k + 3) (by omega), C_gt 2 (k + 3 + 1) (by omega)]; decide
  | n + 1, 0 => by
    have h := C_pair n 0
    have e : n + 1 + 2 = (n + 2) + 1 := by omega
    rw [e, C_succ, C_zero, C_zero]; rw [C_zero] at h; rw [Nat.pow_succ]
    omega
  | n + 1, k + 1 => by
    have h1 := C_pair n k
    have h2 := C_pair n (k + 1)
    have e : n + 1 + 2 = (n + 2) + 1 := by omega
    rw [e, C_succ (n + 2) k, C_succ (n + 2) (k + 1), Nat.pow_succ]; omega
theorem C_le (n k : Nat) : C (n + 3) k + 1 ≤ 2 ^ (n + 2) := by
  cases k with
  | zero =>
    rw [C_zero]; have : 2 ^ 2 ≤ 2 ^ (n + 2) := Nat.pow_le_pow_right (by omega) (by omega)
    omega
  | succ k => exact C_pair n k
theorem C_bound (n k : Nat) (h : n ≤ 64) : C n k ≤ 9223372036854775807 := by
  match n, h with
  | 0, _ => cases k with
    | zero => simp
    | succ k => simp [C]
  | 1, _ => match k with
    | 0 => simp
    | 1 => decide
    | k + 2 => rw [C_gt 1 (k + 2) (by omega)]; omega
  | 2, _ => match k with
    | 0 => simp
    | 1 => decide
    | 2 => decide
    | k + 3 => rw [C_gt 2 (k + 3) (by omega)]; omega
  | n + 3, h =>
    have h1 := C_le n k
    have h2 : 2 ^ (n + 2) ≤ 2 ^ 63 := Nat.pow_le_pow_right (by omega) (by omega)
    have h3 : (2 : Nat) ^ 63 = 9223372036854775808 := by decide
    omega

/-- The state of the row while row i is made out of row i - 1: above j it is new. -/
def M (n i j : Nat) : List Int := (List.range (n + 1)).map fun t => if t ≤ j then (C (i - 1) t : Int) else (C i t : Int)
/-- Row i. -/
def R (n i : Nat) : List Int := (List.range (n + 1)).map fun t => (C i t : Int)
theorem M_length (n i j : Nat) : (M n i j).length = n + 1 := by simp [M]
theorem R_length (n i : Nat) : (R n i).length = n + 1 := by simp [R]
theorem M_top (n i : Nat) : M n (i + 1) (i + 1) = R n i := by
  unfold M R
  apply List.map_congr_left
  intro t _
  by_cases h : t ≤ i + 1
  · rw [if_pos h]; rfl
  · rw [if_neg h, C_gt (i + 1) t (by omega), C_gt i t (by omega)]
theorem M_zero (n i : Nat) : M n i 0 = R n i := by
  unfold M R
  apply List.map_congr_left
  intro t _
  by_cases h : t ≤ 0
  · have : t = 0 := by omega
    subst this; simp
  · rw [if_neg h]
theorem rd_M (n i j t : Nat) (h : t ≤ n) : rd (M n i j) (t : Int) = if t ≤ j then (C (i - 1) t : Int) else (C i t : Int) := by
  unfold rd M
  rw [List.getD_eq_getElem?_getD, List.getElem?_map]
  simp only [Int.toNat_natCast]
  rw [List.getElem?_range (by omega)]; simp
theorem rd_R (n i t : Nat) (h : t ≤ n) : rd (R n i) (t : Int) = (C i t : Int) := by
  unfold rd R
  rw [List.getD_eq_getElem?_getD, List.getElem?_map]
  simp only [Int.toNat_natCast]
  rw [List.getElem?_range (by omega)]; simp
theorem M_step (n i j : Nat) (hj : j + 1 ≤ n) : (M n (i + 1) (j + 1)).set (j + 1) ((C i (j + 1) : Int) + (C i j : Int)) = M n (i + 1) j := by
  apply List.ext_getElem?
  intro t
  by_cases ht : t ≤ n
  · by_cases e : t = j + 1
    · subst e
      rw [List.getElem?_set_self (by rw [M_length]; omega)]
      unfold M; rw [List.getElem?_map, List.getElem?_range (by omega)]
      simp only [Option.map_some]
      rw [if_neg (by omega), C_succ]; congr 1; omega
    · rw [List.getElem?_set_ne (by omega)]
      unfold M; rw [List.getElem?_map, List.getElem?_map, List.getElem?_range (by omega)]
      simp only [Option.map_some]
      congr 1
      by_cases h1 : t ≤ j
      · rw [if_pos (by omega), if_pos h1]
      · rw [if_neg (by omega), if_neg h1]
  · rw [List.getElem?_eq_none (by simp [M_length]; omega), List.getElem?_eq_none (by rw [M_length]; omega)]
theorem R_zero (n : Nat) : (List.replicate (n + 1) (0 : Int)).set 0 1 = R n 0 := by
  apply List.ext_getElem?
  intro t
  cases t with
  | zero => rw [List.getElem?_set_self (by simp)]; unfold R; rw [List.getElem?_map, List.getElem?_range (by omega)]; simp
  | succ t =>
    rw [List.getElem?_set_ne (by omega), List.getElem?_replicate]
    unfold R; rw [List.getElem?_map]
    by_cases h : t + 1 < n + 1
    · rw [if_pos h, List.getElem?_range h]; simp [C]
    · rw [if_neg h, List.getElem?_eq_none (by simp; omega)]; rfl
theorem wrap_C (n k : Nat) (h : n ≤ 64) : wrap64 (C n k : Int) = C n k := by
  have := C_bound n k h; unfold wrap64; omega
theorem w64_id {i : Int} (h0 : -9223372036854775808 ≤ i) (h1 : i ≤ 9223372036854775807) : wrap64 i = i := by
  unfold wrap64; omega
theorem wf_bounds {a : Int} (h : (Lit.int .i64 a).wf = true) : -9223372036854775808 ≤ a ∧ a ≤ 9223372036854775807 := by
  have h1 := h; simp [Lit.wf] at h1; exact ⟨by have := h1.1; simpa [IntKind.min, IntKind.bits, IntKind.signed] using this, h1.2⟩
end Go.Proofs.Ytekojgilikoegaa.Math
