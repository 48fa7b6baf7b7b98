/- What the printed Compare functions of this law compute: the lexicographic order of lists of integers. Condition: the first list has fewer than 2^62 elements. -/
import Derived.Test.YtekojgilikoegaaLex
import Derived.Test.YtekojgilikoegaaQx7
namespace Go.Proofs.Ytekojgilikoegaa.CmQ
open Go.RowKit Go.Proofs.Ytekojgilikoegaa.Q Go.Proofs.YtekojgilikoegaaW.PrintWords Go.Proofs.YtekojgilikoegaaW.PrintLast Go.Proofs.Ytekojgilikoegaa.Lex

theorem rf_loop (a b : List Int) (hl : a.length < 4611686018427387904) : ∀ d i : Nat, i + d = a.length → i ≤ b.length →
    Ev (fun k => codewrightref11_Compare.l0 k a b (i : Int)) (lex (a.drop i) (b.drop i))
  | 0, i, h, hib => by
    refine Ev.step (f := fun k => codewrightref11_Compare.j1 k a b (i : Int) false) (fun k => ?_) (Ev.step (f := fun _ => some (lex (a.drop i) (b.drop i))) (fun k => ?_) (Ev.now _))
    · simp only [codewrightref11_Compare.l0]; rw [if_neg (by omega)]
    · simp only [codewrightref11_Compare.j1]
      rw [if_neg (by simp), List.drop_of_length_le (l := a) (by omega)]
      by_cases hb : (a.length : Int) < (b.length : Int)
      · rw [if_pos hb, List.drop_eq_getElem_cons (l := b) (by omega)]; rfl
      · rw [if_neg hb, List.drop_of_length_le (l := b) (by omega), if_neg (by omega)]; rfl
  | d + 1, i, h, hib => by
    have hia : i < a.length := by omega
    by_cases hb : i < b.length
    · have ih := rf_loop a b hl d (i + 1) (by omega) (by omega)
      refine Ev.step (f := fun k => codewrightref11_Compare.j1 k a b (i : Int) true) (fun k => ?_) ?_
      · simp only [codewrightref11_Compare.l0]; rw [if_pos (by omega), decide_eq_true (by omega)]
      by_cases hlt : rd a i < rd b i
      · refine Ev.step (f := fun _ => some (lex (a.drop i) (b.drop i))) (fun k => ?_) (Ev.now _)
        simp only [codewrightref11_Compare.j1]
        rw [if_pos trivial, if_pos (by omega), if_pos (by omega), if_pos (by omega), if_pos hlt, lex_drop a b i hia hb, if_pos hlt]
      · by_cases hgt : rd a i > rd b i
        · refine Ev.step (f := fun _ => some (lex (a.drop i) (b.drop i))) (fun k => ?_) (Ev.now _)
          simp only [codewrightref11_Compare.j1]
          rw [if_pos trivial, if_pos (by omega), if_pos (by omega), if_pos (by omega), if_neg hlt, if_pos hgt, lex_drop a b i hia hb, if_neg hlt, if_pos hgt]
        · rw [lex_drop a b i hia hb, if_neg hlt, if_neg hgt]
          refine Ev.step (fun k => ?_) ih
          have e : wrap64 ((i : Int) + 1) = ((i + 1 : Nat) : Int) := by unfold wrap64; omega
          simp only [codewrightref11_Compare.j1]
          rw [if_pos trivial, if_pos (by omega), if_pos (by omega), if_pos (by omega), if_neg hlt, if_neg hgt, e]
    · refine Ev.step (f := fun k => codewrightref11_Compare.j1 k a b (i : Int) false) (fun k => ?_) (Ev.step (f := fun _ => some (lex (a.drop i) (b.drop i))) (fun k => ?_) (Ev.now _))
      · simp only [codewrightref11_Compare.l0]; rw [if_pos (by omega), decide_eq_false (by omega)]
      · simp only [codewrightref11_Compare.j1]
        rw [if_neg (by simp), if_neg (by omega), if_pos (by omega), List.drop_eq_getElem_cons (l := a) hia, List.drop_of_length_le (l := b) (by omega)]; rfl
theorem refcompare_ev (a b : List Int) (hl : a.length < 4611686018427387904) : Ev (fun k => codewrightref11_Compare.f k a b) (lex a b) := by
  have h := rf_loop a b hl a.length 0 (by omega) (by omega)
  exact Ev.congr (fun k => rfl) h

end Go.Proofs.Ytekojgilikoegaa.CmQ
