-- Joined by pack.py, a program of this work: Lex CmQ Cl
import Derived.Test.YthgaihhlbgccoaaZW0
import Derived.Test.YthgaihhlbgccoaaZQd
import Derived.Test.YthgaihhlbgccoaaZF2
import Derived.Test.YthgaihhlbgccoaaZQa
import Derived.Test.YthgaihhlbgccoaaZQb
/- The lexicographic order of lists of integers is a total order: plain laws, no program in sight. No condition. -/
namespace Go.Proofs.Ythgaihhlbgccoaa.Lex
open Go.RowKit Go.Proofs.YthgaihhlbgccoaaW.PrintWords

def lex : List Int → List Int → Int
 | [], [] => 0
 | [], _ :: _ => -1
 | _ :: _, [] => 1
 | a :: us, b :: vs => if a < b then -1 else if a > b then 1 else lex us vs
theorem lex_self : ∀ a, lex a a = 0
 | [] => rfl
 | a :: us => by simp only [lex]; rw [if_neg (by omega), if_neg (by omega), lex_self us]
theorem lex_eq : ∀ a b, lex a b = 0 → a = b
 | [], [], _ => rfl
 | [], _ :: _, h => by simp [lex] at h
 | _ :: _, [], h => by simp [lex] at h
 | a :: us, b :: vs, h => by
  simp only [lex] at h
  by_cases h1 : a < b
  ·rw [if_pos h1] at h; omega
  ·by_cases h2 : a > b
   ·rw [if_neg h1, if_pos h2] at h; omega
   ·rw [if_neg h1, if_neg h2] at h
    have : a = b := by omega
    rw [this, lex_eq us vs h]
theorem rd_at (xs : List Int) (i : Nat) (h : i < xs.length) : rd xs (i : Int) = xs[i] := by
 unfold rd; rw [List.getD_eq_getElem?_getD]; simp only [Int.toNat_natCast]; rw [List.getElem?_eq_getElem h]; rfl
theorem lex_drop (a b : List Int) (i : Nat) (ha : i < a.length) (hb : i < b.length) :
  lex (a.drop i) (b.drop i) = if rd a i < rd b i then -1 else if rd a i > rd b i then 1 else lex (a.drop (i + 1)) (b.drop (i + 1)) := by
 rw [List.drop_eq_getElem_cons ha, List.drop_eq_getElem_cons hb, rd_at a i ha, rd_at b i hb]; rfl
end Go.Proofs.Ythgaihhlbgccoaa.Lex
/- What the printed Compare functions of this law compute: the lexicographic order of lists of integers. Condition: the first list has fewer than 2^62 elements. -/
namespace Go.Proofs.Ythgaihhlbgccoaa.CmQ
open Go.RowKit Go.Proofs.Ythgaihhlbgccoaa.Q Go.Proofs.YthgaihhlbgccoaaW.PrintWords Go.Proofs.YthgaihhlbgccoaaW.PrintLast Go.Proofs.Ythgaihhlbgccoaa.Lex

theorem rf_loop (a b : List Int) (hl : a.length < 4611686018427387904) : ∀ d i : Nat, i + d = a.length → i ≤ b.length →
  Ev (fun k => crB_Compare.l0 k a b (i : Int)) (lex (a.drop i) (b.drop i))
 | 0, i, h, hib => by
  refine Ev.step (f := fun k => crB_Compare.j1 k a b (i : Int) false) (fun k => ?_) (Ev.step (f := fun _ => some (lex (a.drop i) (b.drop i))) (fun k => ?_) (Ev.now _))
  ·simp only [crB_Compare.l0]; rw [if_neg (by omega)]
  ·simp only [crB_Compare.j1]
   rw [if_neg (by simp), List.drop_of_length_le (l := a) (by omega)]
   by_cases hb : (a.length : Int) < (b.length : Int)
   ·rw [if_pos hb, List.drop_eq_getElem_cons (l := b) (by omega)]; rfl
   ·rw [if_neg hb, List.drop_of_length_le (l := b) (by omega), if_neg (by omega)]; rfl
 | d + 1, i, h, hib => by
  have hia : i < a.length := by omega
  by_cases hb : i < b.length
  ·have ih := rf_loop a b hl d (i + 1) (by omega) (by omega)
   refine Ev.step (f := fun k => crB_Compare.j1 k a b (i : Int) true) (fun k => ?_) ?_
   ·simp only [crB_Compare.l0]; rw [if_pos (by omega), decide_eq_true (by omega)]
   by_cases hlt : rd a i < rd b i
   ·refine Ev.step (f := fun _ => some (lex (a.drop i) (b.drop i))) (fun k => ?_) (Ev.now _)
    simp only [crB_Compare.j1]
    rw [if_pos trivial, if_pos (by omega), if_pos (by omega), if_pos (by omega), if_pos hlt, lex_drop a b i hia hb, if_pos hlt]
   ·by_cases hgt : rd a i > rd b i
    ·refine Ev.step (f := fun _ => some (lex (a.drop i) (b.drop i))) (fun k => ?_) (Ev.now _)
     simp only [crB_Compare.j1]
     rw [if_pos trivial, if_pos (by omega), if_pos (by omega), if_pos (by omega), if_neg hlt, if_pos hgt, lex_drop a b i hia hb, if_neg hlt, if_pos hgt]
    ·rw [lex_drop a b i hia hb, if_neg hlt, if_neg hgt]
     refine Ev.step (fun k => ?_) ih
     have e : wrap64 ((i : Int) + 1) = ((i + 1 : Nat) : Int) := by unfold wrap64; omega
     simp only [crB_Compare.j1]
     rw [if_pos trivial, if_pos (by omega), if_pos (by omega), if_pos (by omega), if_neg hlt, if_neg hgt, e]
  ·refine Ev.step (f := fun k => crB_Compare.j1 k a b (i : Int) false) (fun k => ?_) (Ev.step (f := fun _ => some (lex (a.drop i) (b.drop i))) (fun k => ?_) (Ev.now _))
   ·simp only [crB_Compare.l0]; rw [if_pos (by omega), decide_eq_false (by omega)]
   ·simp only [crB_Compare.j1]
    rw [if_neg (by simp), if_neg (by omega), if_pos (by omega), List.drop_eq_getElem_cons (l := a) hia, List.drop_of_length_le (l := b) (by omega)]; rfl
theorem refcompare_ev (a b : List Int) (hl : a.length < 4611686018427387904) : Ev (fun k => crB_Compare.f k a b) (lex a b) := by
 have h := rf_loop a b hl a.length 0 (by omega) (by omega)
 exact Ev.congr (fun k => rfl) h

end Go.Proofs.Ythgaihhlbgccoaa.CmQ
/- What the printed Clean, Support, Weight and Same compute. -/
namespace Go.Proofs.Ythgaihhlbgccoaa.Cl
open Go.RowKit Go.Proofs.Ythgaihhlbgccoaa.Q Go.Proofs.YthgaihhlbgccoaaW.PrintWords Go.Proofs.YthgaihhlbgccoaaW.PrintLast Go.Proofs.Ythgaihhlbgccoaa.Fv Go.Proofs.Ythgaihhlbgccoaa.Fo Go.Proofs.Ythgaihhlbgccoaa.Lex Go.Proofs.Ythgaihhlbgccoaa.CmQ

/-- x if it is an element, 0 otherwise. -/
def c (q x : Int) : Int := if 0 ≤ x ∧ x < q then x else 0
/-- The clean list. -/
def cl (q : Int) (l : List Int) : List Int := L l.length (fun i => c q (rd l (i : Int)))
section
variable {P m q : Int} {Mod E G : List Int}
/-- The places of the nonzero values below n. -/
def supp : Nat → (Nat → Int) → List Int
 | 0, _ => []
 | n + 1, f => if f n = 0 then supp n f else supp n f ++ [(n : Int)]
end
theorem same_ev (a b : List Int) (h : a.length < 4611686018427387904) : Ev (fun k => crB_Same.f k a b) (decide (a = b)) := by
 refine Ev.congr (f := fun k => (crB_Compare.f k a b).bind fun t => some (t == 0)) (fun k => rfl) ((refcompare_ev a b h).bind ?_)
 have e : (lex a b == 0) = decide (a = b) := by
  by_cases hab : a = b
  ·subst hab; rw [lex_self, decide_eq_true rfl]; rfl
  ·rw [decide_eq_false hab, beq_eq_false_iff_ne]; exact fun h => hab (lex_eq a b h)
 rw [e]; exact Ev.now _
theorem same_self (a : List Int) (h : a.length < 4611686018427387904) : Ev (fun k => crB_Same.f k a a) true := by
 have := same_ev a a h
 rwa [decide_eq_true rfl] at this
end Go.Proofs.Ythgaihhlbgccoaa.Cl
