import Derived.Test.YthgaihhlbgccoaaZCl
import Derived.Test.YthgaihhlbgccoaaZQk
/- What the printed Compare functions of this law compute: the lexicographic order of lists of integers. Condition: the first list has fewer than 2^62 elements. -/
namespace Go.Proofs.Ythgaihhlbgccoaa.CmP
open Go.RowKit Go.Proofs.Ythgaihhlbgccoaa.Q Go.Proofs.YthgaihhlbgccoaaW.PrintWords Go.Proofs.YthgaihhlbgccoaaW.PrintLast Go.Proofs.Ythgaihhlbgccoaa.Lex

theorem cmp_int (a b : Int) : cmp_Compare_int.f a b = some (if a < b then -1 else if a > b then 1 else 0) := by
  unfold cmp_Compare_int.f cmp_isNaN_int.f
  simp only [Option.bind_some, bne_self_eq_false]
  rw [if_neg (by simp), if_neg (by simp)]
  split
  · rfl
  · split <;> rfl
theorem sl_loop (a b : List Int) (hl : a.length < 4611686018427387904) : ∀ d i : Nat, i + d = a.length →
    Ev (fun k => slices_Compare_int_int.l0 k a b a (a.length : Int) (i : Int)) (lex (a.drop i) (b.drop i))
  | 0, i, h => by
    refine Ev.step (f := fun _ => some (lex (a.drop i) (b.drop i))) (fun k => ?_) (Ev.now _)
    simp only [slices_Compare_int_int.l0]
    rw [if_neg (by omega), List.drop_of_length_le (l := a) (by omega)]
    by_cases hb : (a.length : Int) < (b.length : Int)
    · rw [if_pos hb, List.drop_eq_getElem_cons (l := b) (by omega)]; rfl
    · rw [if_neg hb, List.drop_of_length_le (l := b) (by omega)]; rfl
  | d + 1, i, h => by
    have hia : i < a.length := by omega
    have ih := sl_loop a b hl d (i + 1) (by omega)
    by_cases hb : i < b.length
    · by_cases hlt : rd a i < rd b i
      · refine Ev.step (f := fun _ => some (lex (a.drop i) (b.drop i))) (fun k => ?_) (Ev.now _)
        simp only [slices_Compare_int_int.l0]
        rw [if_pos (by omega), if_pos (by omega), if_pos (by omega), if_neg (by omega), if_pos (by omega), cmp_int, if_pos hlt, lex_drop a b i hia hb, if_pos hlt]
        simp
      · by_cases hgt : rd a i > rd b i
        · refine Ev.step (f := fun _ => some (lex (a.drop i) (b.drop i))) (fun k => ?_) (Ev.now _)
          simp only [slices_Compare_int_int.l0]
          rw [if_pos (by omega), if_pos (by omega), if_pos (by omega), if_neg (by omega), if_pos (by omega), cmp_int, if_neg hlt, if_pos hgt, lex_drop a b i hia hb, if_neg hlt, if_pos hgt]
          simp
        · rw [lex_drop a b i hia hb, if_neg hlt, if_neg hgt]
          refine Ev.step (fun k => ?_) ih
          simp only [slices_Compare_int_int.l0]
          have e : wrap64 ((i : Int) + 1) = ((i + 1 : Nat) : Int) := by unfold wrap64; omega
          rw [if_pos (by omega), if_pos (by omega), if_pos (by omega), if_neg (by omega), if_pos (by omega), cmp_int, if_neg hlt, if_neg hgt]
          simp only [Option.bind_some]
          rw [if_pos trivial, e]
    · refine Ev.step (f := fun _ => some (lex (a.drop i) (b.drop i))) (fun k => ?_) (Ev.now _)
      simp only [slices_Compare_int_int.l0]
      rw [if_pos (by omega), if_pos (by omega), if_pos (by omega), if_pos (by omega), List.drop_eq_getElem_cons (l := a) hia, List.drop_of_length_le (l := b) (by omega)]; rfl
theorem compare_ev (a b : List Int) (hl : a.length < 4611686018427387904) : Ev (fun k => word_Compare.f k a b) (lex a b) := by
  refine Ev.congr (f := fun k => (slices_Compare_int_int.f k a b).bind fun t => some t) (fun k => rfl) (Ev.bind (a := lex a b) ?_ (Ev.now _))
  have h := sl_loop a b hl a.length 0 (by omega)
  exact Ev.congr (fun k => rfl) h

end Go.Proofs.Ythgaihhlbgccoaa.CmP
