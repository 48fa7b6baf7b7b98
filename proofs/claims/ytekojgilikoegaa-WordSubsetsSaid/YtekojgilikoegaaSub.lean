/- Ranks of ascending lists of integers: the sum that counts the lesser subsets, the list of a rank, and that each undoes the other. Plain laws, no program in sight. Condition: n is from 0 to 64, where it is named. -/
import Derived.Test.YtekojgilikoegaaMath
namespace Go.Proofs.Ytekojgilikoegaa.Sub
open Go.RowKit Go.Proofs.YtekojgilikoegaaW.PrintWords Go.Proofs.Ytekojgilikoegaa.Math

/-- The binomial coefficient as the program's choose tells it. -/
def Bc (n k : Int) : Int := if k < 0 then 0 else (C n.toNat k.toNat : Int)
/-- Is it a strictly ascending list of integers from lo to n - 1? -/
def V (n : Int) : Int → List Int → Bool
  | _, [] => true
  | lo, x :: s => decide (lo ≤ x) && decide (x < n) && V n (x + 1) s
/-- The sum over the next c integers from y on. -/
def sm (n : Int) (len : Nat) : Nat → Int → Int
  | 0, _ => 0
  | c + 1, y => Bc (n - 1 - y) len + sm n len c (y + 1)
/-- The rank of a list among those of its length from lo on. -/
def rkL (n : Int) : Int → List Int → Int
  | _, [] => 0
  | lo, x :: s => sm n s.length (x - lo).toNat lo + rkL n (x + 1) s
/-- The list of k integers from lo on, m being left, with the rank r. -/
def un : Nat → Int → Nat → Int → List Int
  | _, _, 0, _ => []
  | 0, _, _ + 1, _ => []
  | m + 1, lo, k + 1, r => if r < (C m k : Int) then lo :: un m (lo + 1) k r else un m (lo + 1) (k + 1) (r - (C m k : Int))
theorem Bc_nat (m k : Nat) (n y : Int) (h : n - 1 - y = m) : Bc (n - 1 - y) (k : Int) = (C m k : Int) := by
  unfold Bc; rw [if_neg (by omega), h]; simp
theorem V_cons {n lo x : Int} {s : List Int} : V n lo (x :: s) = true ↔ lo ≤ x ∧ x < n ∧ V n (x + 1) s = true := by
  simp [V, and_assoc]
theorem V_lower {n lo lo' : Int} {s : List Int} (h : V n lo s = true) (hl : lo' ≤ lo) : V n lo' s = true := by
  cases s with
  | nil => rfl
  | cons x s => rw [V_cons] at h ⊢; exact ⟨by omega, h.2.1, h.2.2⟩
/-- Each rank's list is one of them, and has that rank. -/
theorem un_rank (n : Int) : ∀ (m : Nat) (lo : Int) (k : Nat) (r : Int), lo + m = n → 0 ≤ r → r < (C m k : Int) →
    V n lo (un m lo k r) = true ∧ (un m lo k r).length = k ∧ rkL n lo (un m lo k r) = r
  | m, lo, 0, r, _, h0, h1 => by
    have : r = 0 := by rw [C_zero] at h1; omega
    subst this
    cases m <;> exact ⟨rfl, rfl, rfl⟩
  | 0, lo, k + 1, r, _, h0, h1 => by
    have : C 0 (k + 1) = 0 := rfl
    rw [this] at h1; omega
  | m + 1, lo, k + 1, r, hn, h0, h1 => by
    by_cases hr : r < (C m k : Int)
    · obtain ⟨i1, i2, i3⟩ := un_rank n m (lo + 1) k r (by omega) h0 hr
      simp only [un]; rw [if_pos hr]
      refine ⟨V_cons.2 ⟨by omega, by omega, i1⟩, by simp [i2], ?_⟩
      simp only [rkL]
      have e : (lo - lo).toNat = 0 := by omega
      rw [e, i3]; simp [sm]
    · obtain ⟨i1, i2, i3⟩ := un_rank n m (lo + 1) (k + 1) (r - C m k) (by omega) (by omega) (by rw [C_succ] at h1; omega)
      simp only [un]; rw [if_neg hr]
      refine ⟨V_lower i1 (by omega), i2, ?_⟩
      match hs : un m (lo + 1) (k + 1) (r - C m k), i1, i2, i3 with
      | [], _, i2, _ => simp at i2
      | x :: s, i1, i2, i3 =>
        rw [V_cons] at i1
        simp only [rkL] at i3 ⊢
        have hl : s.length = k := by simpa using i2
        have e : (x - lo).toNat = (x - (lo + 1)).toNat + 1 := by omega
        rw [e]; simp only [sm]
        rw [Bc_nat m s.length n lo (by omega), hl] 
        rw [hl] at i3
        omega
/-- Each list's rank is one, and leads back to it. -/
theorem rank_un (n : Int) : ∀ (m : Nat) (lo : Int) (s : List Int), lo + m = n → V n lo s = true →
    0 ≤ rkL n lo s ∧ rkL n lo s < (C m s.length : Int) ∧ un m lo s.length (rkL n lo s) = s
  | m, lo, [], _, _ => by
    simp only [rkL, List.length_nil]; rw [C_zero]
    refine ⟨by omega, by omega, ?_⟩
    cases m <;> rfl
  | 0, lo, x :: s, hn, hv => by rw [V_cons] at hv; omega
  | m + 1, lo, x :: s, hn, hv => by
    have hv' := V_cons.1 hv
    by_cases hx : x = lo
    · subst hx
      obtain ⟨i1, i2, i3⟩ := rank_un n m (x + 1) s (by omega) hv'.2.2
      simp only [rkL, List.length_cons]
      have e : (x - x).toNat = 0 := by omega
      rw [e]; simp only [sm]
      rw [C_succ, Int.zero_add]
      refine ⟨i1, by omega, ?_⟩
      simp only [un]; rw [if_pos i2, i3]
    · have hlt : lo + 1 ≤ x := by omega
      obtain ⟨i1, i2, i3⟩ := rank_un n m (lo + 1) (x :: s) (by omega) (V_cons.2 ⟨hlt, hv'.2.1, hv'.2.2⟩)
      simp only [rkL, List.length_cons] at i1 i2 i3 ⊢
      have e : (x - lo).toNat = (x - (lo + 1)).toNat + 1 := by omega
      rw [e]; simp only [sm]
      rw [Bc_nat m s.length n lo (by omega), C_succ]
      refine ⟨by omega, by omega, ?_⟩
      simp only [un]; rw [if_neg (by omega)]
      have e2 : (C m s.length : Int) + sm n s.length (x - (lo + 1)).toNat (lo + 1) + rkL n (x + 1) s - (C m s.length : Int) = sm n s.length (x - (lo + 1)).toNat (lo + 1) + rkL n (x + 1) s := by omega
      rw [e2, i3]
theorem wrap_add (a b : Int) : wrap64 (wrap64 a + b) = wrap64 (a + b) := by unfold wrap64; omega
end Go.Proofs.Ytekojgilikoegaa.Sub
