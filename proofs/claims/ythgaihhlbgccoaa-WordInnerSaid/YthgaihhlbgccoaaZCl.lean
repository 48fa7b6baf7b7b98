-- Joined by pack.py, a program of this work: Lex CmQ Cl
import Derived.Test.YthgaihhlbgccoaaZW0
import Derived.Test.YthgaihhlbgccoaaZQa
import Derived.Test.YthgaihhlbgccoaaZF2
import Derived.Test.YthgaihhlbgccoaaZQb
import Derived.Test.YthgaihhlbgccoaaZQd
/- The lexicographic order of lists of integers is a total order: plain laws, no program in sight. No condition. -/
namespace Go.Proofs.Ythgaihhlbgccoaa.Lex
open Go.RowKit Go.Proofs.YthgaihhlbgccoaaW.PrintWords

def lex : List Int → List Int → Int
 | [], [] => 0
 | [], _ :: _ => -1
 | _ :: _, [] => 1
 | a :: us, b :: vs => if a < b then -1 else if a > b then 1 else lex us vs
end Go.Proofs.Ythgaihhlbgccoaa.Lex
/- What the printed Compare functions of this law compute: the lexicographic order of lists of integers. Condition: the first list has fewer than 2^62 elements. -/
namespace Go.Proofs.Ythgaihhlbgccoaa.CmQ
open Go.RowKit Go.Proofs.Ythgaihhlbgccoaa.Q Go.Proofs.YthgaihhlbgccoaaW.PrintWords Go.Proofs.YthgaihhlbgccoaaW.PrintLast Go.Proofs.Ythgaihhlbgccoaa.Lex

end Go.Proofs.Ythgaihhlbgccoaa.CmQ
/- What the printed Clean, Support, Weight and Same compute. -/
namespace Go.Proofs.Ythgaihhlbgccoaa.Cl
open Go.RowKit Go.Proofs.Ythgaihhlbgccoaa.Q Go.Proofs.YthgaihhlbgccoaaW.PrintWords Go.Proofs.YthgaihhlbgccoaaW.PrintLast Go.Proofs.Ythgaihhlbgccoaa.Fv Go.Proofs.Ythgaihhlbgccoaa.Fo Go.Proofs.Ythgaihhlbgccoaa.Lex Go.Proofs.Ythgaihhlbgccoaa.CmQ

/-- x if it is an element, 0 otherwise. -/
def c (q x : Int) : Int := if 0 ≤ x ∧ x < q then x else 0
theorem c_range {q : Int} (hq : 0 < q) (x : Int) : 0 ≤ c q x ∧ c q x < q := by
 unfold c; split <;> omega
theorem c_id {q x : Int} (h0 : 0 ≤ x) (h1 : x < q) : c q x = x := by unfold c; rw [if_pos ⟨h0, h1⟩]
theorem c_c {q : Int} (hq : 0 < q) (x : Int) : c q (c q x) = c q x := c_id (c_range hq x).1 (c_range hq x).2
/-- The clean list. -/
def cl (q : Int) (l : List Int) : List Int := L l.length (fun i => c q (rd l (i : Int)))
theorem cl_length (q : Int) (l : List Int) : (cl q l).length = l.length := L_length _ _
theorem rd_cl (q : Int) (l : List Int) (i : Nat) (h : i < l.length) : rd (cl q l) (i : Int) = c q (rd l (i : Int)) := rd_L _ _ i h
theorem is_ev (P m q x : Int) (Mod E G : List Int) : field_GF_Is.f P m Mod q E G x = some (decide (0 ≤ x ∧ x < q), P, m, q) := by
 unfold field_GF_Is.f
 by_cases h : x ≥ 0
 ·rw [if_pos h]
  congr 2
  by_cases h2 : x < q
  ·rw [decide_eq_true h2, decide_eq_true ⟨h, h2⟩]
  ·rw [decide_eq_false h2, decide_eq_false (fun hh => h2 hh.2)]
 ·rw [if_neg h, decide_eq_false (fun hh => h hh.1)]
section
variable {P m q : Int} {Mod E G : List Int}
theorem clean_l0 (l : List Int) (hn : l.length ≤ 35184372088832) : ∀ d i : Nat, i + d = l.length →
  Ev (fun k => word_Clean.l0 k (L l.length (fun t => if t < i then c q (rd l (t : Int)) else 0)) l (l.length : Int) (i : Int) P m Mod q E G) (cl q l, P, m, q)
 | 0, i, h => by
  refine Ev.step (f := fun _ => some (cl q l, P, m, q)) (fun k => ?_) (Ev.now _)
  simp only [word_Clean.l0]
  rw [if_neg (by omega)]
  congr 2
  exact L_congr _ _ _ (fun t ht => by rw [if_pos (by omega)])
 | d + 1, i, h => by
  refine Ev.step (fun k => ?_) (clean_l0 l hn d (i + 1) (by omega))
  simp only [word_Clean.l0, is_ev, Option.bind_some]
  rw [if_pos (by omega), if_pos (by omega), if_pos (by omega), w64_id (by omega) (by omega)]
  by_cases hx : 0 ≤ rd l (i : Int) ∧ rd l (i : Int) < q
  ·rw [decide_eq_true hx, if_pos rfl, L_length, if_pos (by omega), L_set, Int.toNat_natCast]
   congr 1
   refine L_congr _ _ _ (fun t ht => ?_)
   by_cases e : t = i
   ·subst e; rw [if_pos rfl, if_pos (by omega), c_id hx.1 hx.2]
   ·rw [if_neg e]
    by_cases e2 : t < i
    ·rw [if_pos e2, if_pos (by omega)]
    ·rw [if_neg e2, if_neg (by omega)]
  ·rw [decide_eq_false hx, if_neg (by decide)]
   congr 1
   refine L_congr _ _ _ (fun t ht => ?_)
   by_cases e : t = i
   ·subst e; rw [if_neg (by omega), if_pos (by omega)]; unfold c; rw [if_neg hx]
   ·by_cases e2 : t < i
    ·rw [if_pos e2, if_pos (by omega)]
    ·rw [if_neg e2, if_neg (by omega)]
theorem clean_ev (l : List Int) (hn : l.length ≤ 35184372088832) : Ev (fun k => word_Clean.f k P m Mod q E G l) (cl q l, P, m, q) := by
 refine Ev.congr (fun k => ?_) (clean_l0 (P := P) (m := m) (q := q) (Mod := Mod) (E := E) (G := G) l hn l.length 0 (by omega))
 unfold word_Clean.f
 rw [if_pos (by omega), Int.toNat_natCast, if_pos (by omega), L_rep]
 congr 1
/-- The places of the nonzero values below n. -/
def supp : Nat → (Nat → Int) → List Int
 | 0, _ => []
 | n + 1, f => if f n = 0 then supp n f else supp n f ++ [(n : Int)]
end
end Go.Proofs.Ythgaihhlbgccoaa.Cl
