-- Joined by pack.py, a program of this work: Lex CmQ Cl
import Derived.Test.YthgaihhlbgccoaaZW0
import Derived.Test.YthgaihhlbgccoaaZQd
import Derived.Test.YthgaihhlbgccoaaZF2
import Derived.Test.YthgaihhlbgccoaaZQa
/- The lexicographic order of lists of integers is a total order: plain laws, no program in sight. No condition. -/
namespace Go.Proofs.Ythgaihhlbgccoaa.Lex
open Go.RowKit Go.Proofs.YthgaihhlbgccoaaW.PrintWords

def lex : List Int → List Int → Int
 | [], [] => 0
 | [], _ :: _ => -1
 | _ :: _, [] => 1
 | a :: us, b :: vs => if a < b then -1 else if a > b then 1 else lex us vs
theorem lex_self : ∀ a, lex a a = 0
 | [] => rfl
 | a :: us => by simp only [lex]; rw [if_neg (by omega), if_neg (by omega), lex_self us]
theorem lex_eq : ∀ a b, lex a b = 0 → a = b
 | [], [], _ => rfl
 | [], _ :: _, h => by simp [lex] at h
 | _ :: _, [], h => by simp [lex] at h
 | a :: us, b :: vs, h => by
  simp only [lex] at h
  by_cases h1 : a < b
  ·rw [if_pos h1] at h; omega
  ·by_cases h2 : a > b
   ·rw [if_neg h1, if_pos h2] at h; omega
   ·rw [if_neg h1, if_neg h2] at h
    have : a = b := by omega
    rw [this, lex_eq us vs h]
theorem rd_at (xs : List Int) (i : Nat) (h : i < xs.length) : rd xs (i : Int) = xs[i] := by
 unfold rd; rw [List.getD_eq_getElem?_getD]; simp only [Int.toNat_natCast]; rw [List.getElem?_eq_getElem h]; rfl
theorem lex_drop (a b : List Int) (i : Nat) (ha : i < a.length) (hb : i < b.length) :
  lex (a.drop i) (b.drop i) = if rd a i < rd b i then -1 else if rd a i > rd b i then 1 else lex (a.drop (i + 1)) (b.drop (i + 1)) := by
 rw [List.drop_eq_getElem_cons ha, List.drop_eq_getElem_cons hb, rd_at a i ha, rd_at b i hb]; rfl
end Go.Proofs.Ythgaihhlbgccoaa.Lex
/- What the printed Compare functions of this law compute: the lexicographic order of lists of integers. Condition: the first list has fewer than 2^62 elements. -/
namespace Go.Proofs.Ythgaihhlbgccoaa.CmQ
open Go.RowKit Go.Proofs.Ythgaihhlbgccoaa.Q Go.Proofs.YthgaihhlbgccoaaW.PrintWords Go.Proofs.YthgaihhlbgccoaaW.PrintLast Go.Proofs.Ythgaihhlbgccoaa.Lex

theorem rf_loop (a b : List Int) (hl : a.length < 4611686018427387904) : ∀ d i : Nat, i + d = a.length → i ≤ b.length →
  Ev (fun k => crB_Compare.l0 k a b (i : Int)) (lex (a.drop i) (b.drop i))
 | 0, i, h, hib => by
  refine Ev.step (f := fun k => crB_Compare.j1 k a b (i : Int) false) (fun k => ?_) (Ev.step (f := fun _ => some (lex (a.drop i) (b.drop i))) (fun k => ?_) (Ev.now _))
  ·simp only [crB_Compare.l0]; rw [if_neg (by omega)]
  ·simp only [crB_Compare.j1]
   rw [if_neg (by simp), List.drop_of_length_le (l := a) (by omega)]
   by_cases hb : (a.length : Int) < (b.length : Int)
   ·rw [if_pos hb, List.drop_eq_getElem_cons (l := b) (by omega)]; rfl
   ·rw [if_neg hb, List.drop_of_length_le (l := b) (by omega), if_neg (by omega)]; rfl
 | d + 1, i, h, hib => by
  have hia : i < a.length := by omega
  by_cases hb : i < b.length
  ·have ih := rf_loop a b hl d (i + 1) (by omega) (by omega)
   refine Ev.step (f := fun k => crB_Compare.j1 k a b (i : Int) true) (fun k => ?_) ?_
   ·simp only [crB_Compare.l0]; rw [if_pos (by omega), decide_eq_true (by omega)]
   by_cases hlt : rd a i < rd b i
   ·refine Ev.step (f := fun _ => some (lex (a.drop i) (b.drop i))) (fun k => ?_) (Ev.now _)
    simp only [crB_Compare.j1]
    rw [if_pos trivial, if_pos (by omega), if_pos (by omega), if_pos (by omega), if_pos hlt, lex_drop a b i hia hb, if_pos hlt]
   ·by_cases hgt : rd a i > rd b i
    ·refine Ev.step (f := fun _ => some (lex (a.drop i) (b.drop i))) (fun k => ?_) (Ev.now _)
     simp only [crB_Compare.j1]
     rw [if_pos trivial, if_pos (by omega), if_pos (by omega), if_pos (by omega), if_neg hlt, if_pos hgt, lex_drop a b i hia hb, if_neg hlt, if_pos hgt]
    ·rw [lex_drop a b i hia hb, if_neg hlt, if_neg hgt]
     refine Ev.step (fun k => ?_) ih
     have e : wrap64 ((i : Int) + 1) = ((i + 1 : Nat) : Int) := by unfold wrap64; omega
     simp only [crB_Compare.j1]
     rw [if_pos trivial, if_pos (by omega), if_pos (by omega), if_pos (by omega), if_neg hlt, if_neg hgt, e]
  ·refine Ev.step (f := fun k => crB_Compare.j1 k a b (i : Int) false) (fun k => ?_) (Ev.step (f := fun _ => some (lex (a.drop i) (b.drop i))) (fun k => ?_) (Ev.now _))
   ·simp only [crB_Compare.l0]; rw [if_pos (by omega), decide_eq_false (by omega)]
   ·simp only [crB_Compare.j1]
    rw [if_neg (by simp), if_neg (by omega), if_pos (by omega), List.drop_eq_getElem_cons (l := a) hia, List.drop_of_length_le (l := b) (by omega)]; rfl
theorem refcompare_ev (a b : List Int) (hl : a.length < 4611686018427387904) : Ev (fun k => crB_Compare.f k a b) (lex a b) := by
 have h := rf_loop a b hl a.length 0 (by omega) (by omega)
 exact Ev.congr (fun k => rfl) h

end Go.Proofs.Ythgaihhlbgccoaa.CmQ
/- What the printed Clean, Support, Weight and Same compute. -/
namespace Go.Proofs.Ythgaihhlbgccoaa.Cl
open Go.RowKit Go.Proofs.Ythgaihhlbgccoaa.Q Go.Proofs.YthgaihhlbgccoaaW.PrintWords Go.Proofs.YthgaihhlbgccoaaW.PrintLast Go.Proofs.Ythgaihhlbgccoaa.Fv Go.Proofs.Ythgaihhlbgccoaa.Fo Go.Proofs.Ythgaihhlbgccoaa.Lex Go.Proofs.Ythgaihhlbgccoaa.CmQ

/-- x if it is an element, 0 otherwise. -/
def c (q x : Int) : Int := if 0 ≤ x ∧ x < q then x else 0
theorem c_range {q : Int} (hq : 0 < q) (x : Int) : 0 ≤ c q x ∧ c q x < q := by
 unfold c; split <;> omega
theorem c_id {q x : Int} (h0 : 0 ≤ x) (h1 : x < q) : c q x = x := by unfold c; rw [if_pos ⟨h0, h1⟩]
theorem c_c {q : Int} (hq : 0 < q) (x : Int) : c q (c q x) = c q x := c_id (c_range hq x).1 (c_range hq x).2
/-- The clean list. -/
def cl (q : Int) (l : List Int) : List Int := L l.length (fun i => c q (rd l (i : Int)))
theorem cl_length (q : Int) (l : List Int) : (cl q l).length = l.length := L_length _ _
theorem rd_cl (q : Int) (l : List Int) (i : Nat) (h : i < l.length) : rd (cl q l) (i : Int) = c q (rd l (i : Int)) := rd_L _ _ i h
theorem is_ev (P m q x : Int) (Mod E G : List Int) : field_GF_Is.f P m Mod q E G x = some (decide (0 ≤ x ∧ x < q), P, m, q) := by
 unfold field_GF_Is.f
 by_cases h : x ≥ 0
 ·rw [if_pos h]
  congr 2
  by_cases h2 : x < q
  ·rw [decide_eq_true h2, decide_eq_true ⟨h, h2⟩]
  ·rw [decide_eq_false h2, decide_eq_false (fun hh => h2 hh.2)]
 ·rw [if_neg h, decide_eq_false (fun hh => h hh.1)]
section
variable {P m q : Int} {Mod E G : List Int}
theorem clean_l0 (l : List Int) (hn : l.length ≤ 35184372088832) : ∀ d i : Nat, i + d = l.length →
  Ev (fun k => word_Clean.l0 k (L l.length (fun t => if t < i then c q (rd l (t : Int)) else 0)) l (l.length : Int) (i : Int) P m Mod q E G) (cl q l, P, m, q)
 | 0, i, h => by
  refine Ev.step (f := fun _ => some (cl q l, P, m, q)) (fun k => ?_) (Ev.now _)
  simp only [word_Clean.l0]
  rw [if_neg (by omega)]
  congr 2
  exact L_congr _ _ _ (fun t ht => by rw [if_pos (by omega)])
 | d + 1, i, h => by
  refine Ev.step (fun k => ?_) (clean_l0 l hn d (i + 1) (by omega))
  simp only [word_Clean.l0, is_ev, Option.bind_some]
  rw [if_pos (by omega), if_pos (by omega), if_pos (by omega), w64_id (by omega) (by omega)]
  by_cases hx : 0 ≤ rd l (i : Int) ∧ rd l (i : Int) < q
  ·rw [decide_eq_true hx, if_pos rfl, L_length, if_pos (by omega), L_set, Int.toNat_natCast]
   congr 1
   refine L_congr _ _ _ (fun t ht => ?_)
   by_cases e : t = i
   ·subst e; rw [if_pos rfl, if_pos (by omega), c_id hx.1 hx.2]
   ·rw [if_neg e]
    by_cases e2 : t < i
    ·rw [if_pos e2, if_pos (by omega)]
    ·rw [if_neg e2, if_neg (by omega)]
  ·rw [decide_eq_false hx, if_neg (by decide)]
   congr 1
   refine L_congr _ _ _ (fun t ht => ?_)
   by_cases e : t = i
   ·subst e; rw [if_neg (by omega), if_pos (by omega)]; unfold c; rw [if_neg hx]
   ·by_cases e2 : t < i
    ·rw [if_pos e2, if_pos (by omega)]
    ·rw [if_neg e2, if_neg (by omega)]
theorem clean_ev (l : List Int) (hn : l.length ≤ 35184372088832) : Ev (fun k => word_Clean.f k P m Mod q E G l) (cl q l, P, m, q) := by
 refine Ev.congr (fun k => ?_) (clean_l0 (P := P) (m := m) (q := q) (Mod := Mod) (E := E) (G := G) l hn l.length 0 (by omega))
 unfold word_Clean.f
 rw [if_pos (by omega), Int.toNat_natCast, if_pos (by omega), L_rep]
 congr 1
theorem rclean_l0 (l : List Int) (hn : l.length ≤ 35184372088832) : ∀ d i : Nat, i + d = l.length →
  Ev (fun k => crB_Clean.l0 k l q (L l.length (fun t => if t < i then c q (rd l (t : Int)) else 0)) (i : Int)) (cl q l)
 | 0, i, h => by
  refine Ev.step (f := fun _ => some (cl q l)) (fun k => ?_) (Ev.now _)
  simp only [crB_Clean.l0]
  rw [if_neg (by omega)]
  congr 1
  exact L_congr _ _ _ (fun t ht => by rw [if_pos (by omega)])
 | d + 1, i, h => by
  refine Ev.step (fun k => ?_) (rclean_l0 l hn d (i + 1) (by omega))
  have hno (hx : ¬ (0 ≤ rd l (i : Int) ∧ rd l (i : Int) < q)) : L l.length (fun t => if t < i then c q (rd l (t : Int)) else 0) = L l.length (fun t => if t < i + 1 then c q (rd l (t : Int)) else 0) := by
   refine L_congr _ _ _ (fun t ht => ?_)
   by_cases e : t = i
   ·subst e; rw [if_neg (by omega), if_pos (by omega)]; unfold c; rw [if_neg hx]
   ·by_cases e2 : t < i
    ·rw [if_pos e2, if_pos (by omega)]
    ·rw [if_neg e2, if_neg (by omega)]
  simp only [crB_Clean.l0]
  rw [if_pos (by omega), if_pos (by omega), w64_id (by omega) (by omega)]
  by_cases h0 : rd l (i : Int) ≥ 0
  ·rw [if_pos h0]
   by_cases h1 : rd l (i : Int) < q
   ·rw [if_pos h1, L_length, if_pos (by omega), L_set, Int.toNat_natCast]
    congr 1
    refine L_congr _ _ _ (fun t ht => ?_)
    by_cases e : t = i
    ·subst e; rw [if_pos rfl, if_pos (by omega), c_id h0 h1]
    ·rw [if_neg e]
     by_cases e2 : t < i
     ·rw [if_pos e2, if_pos (by omega)]
     ·rw [if_neg e2, if_neg (by omega)]
   ·rw [if_neg h1, hno (fun hh => h1 hh.2)]; rfl
  ·rw [if_neg h0, hno (fun hh => h0 hh.1)]; rfl
theorem rclean_ev (hP : P ≤ 9223372036854775807) (hq : ord P m = q) (l : List Int) (hn : l.length ≤ 35184372088832) : Ev (fun k => crB_Clean.f k P m Mod l) (cl q l) := by
 unfold crB_Clean.f
 refine (rorder_ev P m Mod hP).bind ?_
 rw [hq]
 refine Ev.congr (fun k => ?_) (rclean_l0 l hn l.length 0 (by omega))
 rw [if_pos (by omega), Int.toNat_natCast, if_pos (by omega), L_rep]
 congr 1
/-- The places of the nonzero values below n. -/
def supp : Nat → (Nat → Int) → List Int
 | 0, _ => []
 | n + 1, f => if f n = 0 then supp n f else supp n f ++ [(n : Int)]
theorem supp_length : ∀ (n : Nat) (f : Nat → Int), (supp n f).length ≤ n
 | 0, _ => Nat.le_refl _
 | n + 1, f => by
  have h := supp_length n f
  unfold supp; split
  ·omega
  ·rw [List.length_append]; simp; omega
theorem supp_congr : ∀ (n : Nat) (f g : Nat → Int), (∀ i, i < n → (f i = 0 ↔ g i = 0)) → supp n f = supp n g
 | 0, _, _, _ => rfl
 | n + 1, f, g, h => by
  unfold supp
  rw [supp_congr n f g (fun i hi => h i (by omega))]
  by_cases e : f n = 0
  ·rw [if_pos e, if_pos ((h n (by omega)).1 e)]
  ·rw [if_neg e, if_neg (fun e2 => e ((h n (by omega)).2 e2))]
theorem sup_l0 (l : List Int) (hn : l.length ≤ 17592186044416) : ∀ d i : Nat, i + d = l.length →
  Ev (fun k => word_Support.l0 k (supp i (fun t => rd l (t : Int))) l (l.length : Int) (i : Int) P m Mod q E G) (supp l.length (fun t => rd l (t : Int)), P, m, q)
 | 0, i, h => by
  have e : i = l.length := by omega
  subst e
  refine Ev.step (f := fun _ => some (supp l.length (fun t => rd l (t : Int)), P, m, q)) (fun k => ?_) (Ev.now _)
  simp only [word_Support.l0]
  rw [if_neg (by omega)]
 | d + 1, i, h => by
  have hs := supp_length i (fun t => rd l (t : Int))
  refine Ev.step (fun k => ?_) (sup_l0 l hn d (i + 1) (by omega))
  simp only [word_Support.l0]
  rw [if_pos (by omega), if_pos (by omega), if_pos (by omega), w64_id (by omega) (by omega)]
  by_cases e : rd l (i : Int) = 0
  ·rw [if_pos e]
   have : supp (i + 1) (fun t => rd l (t : Int)) = supp i (fun t => rd l (t : Int)) := by
    show (if rd l (i : Int) = 0 then _ else _) = _
    rw [if_pos e]
   rw [this]; rfl
  ·rw [if_neg e, if_pos (by omega)]
   have : supp (i + 1) (fun t => rd l (t : Int)) = supp i (fun t => rd l (t : Int)) ++ [(i : Int)] := by
    show (if rd l (i : Int) = 0 then _ else _) = _
    rw [if_neg e]
   rw [this]; rfl
theorem support_ev (l : List Int) (hn : l.length ≤ 17592186044416) : Ev (fun k => word_Support.f k P m Mod q E G l) (supp l.length (fun t => c q (rd l (t : Int))), P, m, q) := by
 unfold word_Support.f
 refine (clean_ev l (by omega)).bind ?_
 have h := sup_l0 (P := P) (m := m) (q := q) (Mod := Mod) (E := E) (G := G) (cl q l) (by rw [cl_length]; omega) l.length 0 (by rw [cl_length]; omega)
 rw [cl_length] at h
 have e : supp l.length (fun t => rd (cl q l) (t : Int)) = supp l.length (fun t => c q (rd l (t : Int))) := supp_congr _ _ _ (fun i hi => by rw [rd_cl _ _ _ hi])
 rw [e] at h
 refine Ev.congr (fun k => ?_) h
 rw [cl_length]; rfl
theorem weight_ev (l : List Int) (hn : l.length ≤ 17592186044416) : Ev (fun k => word_Weight.f k P m Mod q E G l) (((supp l.length (fun t => c q (rd l (t : Int)))).length : Int), P, m, q) := by
 unfold word_Weight.f
 exact (support_ev l hn).bind (Ev.now _)
end
theorem same_ev (a b : List Int) (h : a.length < 4611686018427387904) : Ev (fun k => crB_Same.f k a b) (decide (a = b)) := by
 refine Ev.congr (f := fun k => (crB_Compare.f k a b).bind fun t => some (t == 0)) (fun k => rfl) ((refcompare_ev a b h).bind ?_)
 have e : (lex a b == 0) = decide (a = b) := by
  by_cases hab : a = b
  ·subst hab; rw [lex_self, decide_eq_true rfl]; rfl
  ·rw [decide_eq_false hab, beq_eq_false_iff_ne]; exact fun h => hab (lex_eq a b h)
 rw [e]; exact Ev.now _
end Go.Proofs.Ythgaihhlbgccoaa.Cl
