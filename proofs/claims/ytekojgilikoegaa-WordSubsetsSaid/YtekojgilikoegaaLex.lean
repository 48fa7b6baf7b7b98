/- The lexicographic order of lists of integers is a total order: plain laws, no program in sight. No condition. -/
import Derived.Test.YtekojgilikoegaaWWords
namespace Go.Proofs.Ytekojgilikoegaa.Lex
open Go.RowKit Go.Proofs.YtekojgilikoegaaW.PrintWords

def lex : List Int → List Int → Int
  | [], [] => 0
  | [], _ :: _ => -1
  | _ :: _, [] => 1
  | a :: as, b :: bs => if a < b then -1 else if a > b then 1 else lex as bs
theorem lex_self : ∀ a, lex a a = 0
  | [] => rfl
  | a :: as => by simp only [lex]; rw [if_neg (by omega), if_neg (by omega), lex_self as]
theorem lex_range : ∀ a b, lex a b = -1 ∨ lex a b = 0 ∨ lex a b = 1
  | [], [] => by simp [lex]
  | [], _ :: _ => by simp [lex]
  | _ :: _, [] => by simp [lex]
  | a :: as, b :: bs => by
    simp only [lex]
    split
    · simp
    · split
      · simp
      · exact lex_range as bs
theorem lex_swap : ∀ a b, lex b a = - lex a b
  | [], [] => rfl
  | [], _ :: _ => rfl
  | _ :: _, [] => rfl
  | a :: as, b :: bs => by
    simp only [lex]
    by_cases h1 : a < b
    · rw [if_pos h1, if_neg (by omega), if_pos (by omega)]; rfl
    · by_cases h2 : b < a
      · rw [if_pos h2, if_neg h1, if_pos h2]
      · have e1 : ¬ b > a := h1
        have e2 : ¬ a > b := h2
        rw [if_neg h2, if_neg e1, if_neg h1, if_neg e2]; exact lex_swap as bs
theorem lex_eq : ∀ a b, lex a b = 0 → a = b
  | [], [], _ => rfl
  | [], _ :: _, h => by simp [lex] at h
  | _ :: _, [], h => by simp [lex] at h
  | a :: as, b :: bs, h => by
    simp only [lex] at h
    by_cases h1 : a < b
    · rw [if_pos h1] at h; omega
    · by_cases h2 : a > b
      · rw [if_neg h1, if_pos h2] at h; omega
      · rw [if_neg h1, if_neg h2] at h
        have : a = b := by omega
        rw [this, lex_eq as bs h]
theorem lex_trans : ∀ a b c, lex a b ≤ 0 → lex b c ≤ 0 → lex a c ≤ 0
  | [], _, [], _, _ => by simp [lex]
  | [], _, _ :: _, _, _ => by simp [lex]
  | _ :: _, [], _, h, _ => by simp [lex] at h
  | _ :: _, _ :: _, [], _, h => by simp [lex] at h
  | a :: as, b :: bs, c :: cs, h, k => by
    simp only [lex] at h k ⊢
    by_cases h1 : a < b
    · by_cases k1 : b < c
      · rw [if_pos (by omega)]; omega
      · by_cases k2 : b > c
        · rw [if_neg k1, if_pos k2] at k; omega
        · rw [if_pos (by omega)]; omega
    · by_cases h2 : a > b
      · rw [if_neg h1, if_pos h2] at h; omega
      · rw [if_neg h1, if_neg h2] at h
        by_cases k1 : b < c
        · rw [if_pos (by omega)]; omega
        · by_cases k2 : b > c
          · rw [if_neg k1, if_pos k2] at k; omega
          · rw [if_neg k1, if_neg k2] at k
            rw [if_neg (by omega), if_neg (by omega)]; exact lex_trans as bs cs h k
theorem rd_at (xs : List Int) (i : Nat) (h : i < xs.length) : rd xs (i : Int) = xs[i] := by
  unfold rd; rw [List.getD_eq_getElem?_getD]; simp only [Int.toNat_natCast]; rw [List.getElem?_eq_getElem h]; rfl
theorem lex_drop (a b : List Int) (i : Nat) (ha : i < a.length) (hb : i < b.length) :
    lex (a.drop i) (b.drop i) = if rd a i < rd b i then -1 else if rd a i > rd b i then 1 else lex (a.drop (i + 1)) (b.drop (i + 1)) := by
  rw [List.drop_eq_getElem_cons ha, List.drop_eq_getElem_cons hb, rd_at a i ha, rd_at b i hb]; rfl
end Go.Proofs.Ytekojgilikoegaa.Lex
