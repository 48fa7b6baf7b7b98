/- The next ascending list of a length: it leads from the list of each rank to that of the next rank. Plain laws, no program in sight. No condition but those named. -/
import Derived.Test.YtekojgilikoegaaSub
namespace Go.Proofs.Ytekojgilikoegaa.Nxt
open Go.RowKit Go.Proofs.YtekojgilikoegaaW.PrintWords Go.Proofs.Ytekojgilikoegaa.Math Go.Proofs.Ytekojgilikoegaa.Sub

/-- len integers from a on. -/
def run : Int → Nat → List Int
  | _, 0 => []
  | a, len + 1 => a :: run (a + 1) len
def nxt (n : Int) : List Int → Option (List Int)
  | [] => none
  | x :: t => match nxt n t with
    | some t' => some (x :: t')
    | none => if x = n - ((t.length : Int) + 1) then none else some (run (x + 1) (t.length + 1))
theorem run_length : ∀ (len : Nat) (a : Int), (run a len).length = len
  | 0, _ => rfl
  | len + 1, a => by simp [run, run_length len]
theorem C_pos : ∀ (m k : Nat), k ≤ m → 0 < C m k
  | _, 0, _ => by rw [C_zero]; omega
  | 0, k + 1, h => by omega
  | m + 1, k + 1, h => by rw [C_succ]; have := C_pos m k (by omega); omega
theorem un_zero : ∀ (m : Nat) (lo : Int) (k : Nat), k ≤ m → un m lo k 0 = run lo k
  | m, _, 0, _ => by cases m <;> rfl
  | 0, _, k + 1, h => by omega
  | m + 1, lo, k + 1, h => by
    have := C_pos m k (by omega)
    simp only [un, run]; rw [if_pos (by omega), un_zero m (lo + 1) k (by omega)]
theorem nxt_un (n : Int) : ∀ (m : Nat) (lo : Int) (k : Nat) (r : Int), lo + m = n → 0 ≤ r → r < (C m k : Int) →
    nxt n (un m lo k r) = if r + 1 < (C m k : Int) then some (un m lo k (r + 1)) else none
  | m, lo, 0, r, _, h0, h1 => by
    have e : ∀ q, un m lo 0 q = [] := fun q => by cases m <;> rfl
    rw [e, e]; rw [C_zero] at h1 ⊢; rw [if_neg (by omega)]; rfl
  | 0, lo, k + 1, r, _, h0, h1 => by
    have : C 0 (k + 1) = 0 := rfl
    rw [this] at h1; omega
  | m + 1, lo, k + 1, r, hn, h0, h1 => by
    by_cases hr : r < (C m k : Int)
    · have ih := nxt_un n m (lo + 1) k r (by omega) h0 hr
      have hl := (un_rank n m (lo + 1) k r (by omega) h0 hr).2.1
      have eu : un (m + 1) lo (k + 1) r = lo :: un m (lo + 1) k r := by simp only [un]; rw [if_pos hr]
      rw [eu]; simp only [nxt]; rw [ih, hl]
      have hC : (C (m + 1) (k + 1) : Int) = (C m k : Int) + (C m (k + 1) : Int) := by rw [C_succ]; omega
      by_cases h2 : r + 1 < (C m k : Int)
      · have q1 : r + 1 < (C (m + 1) (k + 1) : Int) := by omega
        have eu2 : un (m + 1) lo (k + 1) (r + 1) = lo :: un m (lo + 1) k (r + 1) := by simp only [un]; rw [if_pos h2]
        rw [if_pos h2, if_pos q1, eu2]
      · rw [if_neg h2]
        have hkm : k ≤ m := by
          rcases Nat.lt_or_ge m k with h | h
          · rw [C_gt m k h] at hr; omega
          · exact h
        by_cases hk : k = m
        · subst hk
          have hz : (C k (k + 1) : Int) = 0 := by rw [C_gt k (k + 1) (by omega)]; rfl
          have q1 : ¬ r + 1 < (C (k + 1) (k + 1) : Int) := by omega
          have q2 : lo = n - ((k : Int) + 1) := by omega
          rw [if_neg q1]; simp only []; rw [if_pos q2]
        · have hp := C_pos m (k + 1) (by omega)
          have q1 : r + 1 < (C (m + 1) (k + 1) : Int) := by omega
          have q2 : ¬ lo = n - ((k : Int) + 1) := by omega
          have eu2 : un (m + 1) lo (k + 1) (r + 1) = un m (lo + 1) (k + 1) 0 := by
            simp only [un]; rw [if_neg h2]
            have : r + 1 - (C m k : Int) = 0 := by omega
            rw [this]
          rw [if_pos q1]; simp only []; rw [if_neg q2, eu2, un_zero m (lo + 1) (k + 1) (by omega)]
    · have ih := nxt_un n m (lo + 1) (k + 1) (r - C m k) (by omega) (by omega) (by rw [C_succ] at h1; omega)
      have eu : un (m + 1) lo (k + 1) r = un m (lo + 1) (k + 1) (r - C m k) := by simp only [un]; rw [if_neg hr]
      have eu2 : un (m + 1) lo (k + 1) (r + 1) = un m (lo + 1) (k + 1) (r - C m k + 1) := by
        simp only [un]; rw [if_neg (by omega)]
        have : r + 1 - (C m k : Int) = r - (C m k : Int) + 1 := by omega
        rw [this]
      rw [eu, eu2, ih, C_succ]
      by_cases h2 : r - (C m k : Int) + 1 < (C m (k + 1) : Int)
      · rw [if_pos h2, if_pos (by omega)]
      · rw [if_neg h2, if_neg (by omega)]
theorem nxt_append (n : Int) : ∀ (p t t' : List Int), nxt n t = some t' → nxt n (p ++ t) = some (p ++ t')
  | [], _, _, h => h
  | x :: p, t, t', h => by
    have ih := nxt_append n p t t' h
    show nxt n (x :: (p ++ t)) = some (x :: (p ++ t'))
    simp only [nxt]; rw [ih]
theorem rd_lt (s : List Int) (i : Nat) (h : i < s.length) : s[i] = rd s i := by
  unfold rd; rw [List.getD_eq_getElem?_getD]; simp only [Int.toNat_natCast]; rw [List.getElem?_eq_getElem h]; rfl
theorem drop_rd (s : List Int) (i : Nat) (h : i < s.length) : s.drop i = rd s i :: s.drop (i + 1) := by
  rw [List.drop_eq_getElem_cons h, rd_lt]
/-- All entries lie from lo to n - 1. -/
theorem V_bounds {n : Int} : ∀ (s : List Int) (lo : Int), V n lo s = true → ∀ x ∈ s, lo ≤ x ∧ x < n
  | [], _, _, x, hx => by simp at hx
  | y :: s, lo, h, x, hx => by
    rw [V_cons] at h
    rcases List.mem_cons.1 hx with rfl | hx
    · exact ⟨h.1, h.2.1⟩
    · have := V_bounds s (y + 1) h.2.2 x hx; omega
theorem V_rd {n : Int} {s : List Int} (h : V n 0 s = true) (i : Nat) (hi : i < s.length) : 0 ≤ rd s i ∧ rd s i < n := by
  have := V_bounds s 0 h s[i] (List.getElem_mem _)
  rwa [rd_lt] at this
/-- The last step of s[j] = s[j-1] + 1 for all j from j on. -/
def fill (s : List Int) (j : Nat) : List Int := s.take j ++ run (rd s ((j : Int) - 1) + 1) (s.length - j)
theorem fill_length (s : List Int) (j : Nat) (h : j ≤ s.length) : (fill s j).length = s.length := by
  unfold fill; rw [List.length_append, List.length_take, run_length]; omega
theorem fill_end (s : List Int) (j : Nat) (h : s.length ≤ j) : fill s j = s := by
  unfold fill; rw [List.take_of_length_le h]
  have : s.length - j = 0 := by omega
  rw [this]; simp [run]
theorem fill_step (s : List Int) (j : Nat) (h : j < s.length) : fill (s.set j (rd s ((j : Int) - 1) + 1)) (j + 1) = fill s j := by
  unfold fill
  have e1 : ((j + 1 : Nat) : Int) - 1 = (j : Int) := by omega
  have e2 : rd (s.set j (rd s ((j : Int) - 1) + 1)) (j : Int) = rd s ((j : Int) - 1) + 1 := by
    rw [← rd_lt _ j (by simpa using h)]; simp
  rw [e1, e2, List.length_set]
  have e3 : (s.set j (rd s ((j : Int) - 1) + 1)).take (j + 1) = s.take j ++ [rd s ((j : Int) - 1) + 1] := by
    rw [List.take_succ_eq_append_getElem (by simpa using h), List.take_set_of_le (by omega)]; simp
  have e4 : s.length - j = (s.length - (j + 1)) + 1 := by omega
  rw [e3, e4, List.append_assoc]; simp [run]
end Go.Proofs.Ytekojgilikoegaa.Nxt
