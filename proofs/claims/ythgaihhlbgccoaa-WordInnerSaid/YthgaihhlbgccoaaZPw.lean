import Derived.Test.YthgaihhlbgccoaaZAd
import Derived.Test.YthgaihhlbgccoaaZQx31
import Derived.Test.YthgaihhlbgccoaaZQf
import Derived.Test.YthgaihhlbgccoaaZQa
import Derived.Test.YthgaihhlbgccoaaZQe
import Derived.Test.YthgaihhlbgccoaaZQb
import Derived.Test.YthgaihhlbgccoaaZQd
/- What the printed pairwise, Add, Sub and Distance of words compute. Printed by mkpw.py. -/
namespace Go.Proofs.Ythgaihhlbgccoaa.Pw
open Go.RowKit Go.Proofs.Ythgaihhlbgccoaa.Q Go.Proofs.YthgaihhlbgccoaaW.PrintWords Go.Proofs.YthgaihhlbgccoaaW.PrintLast Go.Proofs.Ythgaihhlbgccoaa.Dig Go.Proofs.Ythgaihhlbgccoaa.Fv Go.Proofs.Ythgaihhlbgccoaa.Fo Go.Proofs.Ythgaihhlbgccoaa.Fp Go.Proofs.Ythgaihhlbgccoaa.Cl Go.Proofs.Ythgaihhlbgccoaa.Ad

/-- op of the clean entries, place by place. -/
def zp (op : Int → Int → Int) (q : Int) (a b : List Int) : List Int := L a.length (fun i => op (c q (rd a (i : Int))) (c q (rd b (i : Int))))
theorem zp_length (op : Int → Int → Int) (q : Int) (a b : List Int) : (zp op q a b).length = a.length := L_length _ _
section
variable {P m : Int} {M q : Nat} {Mod M' E G : List Int}

theorem pwAdd_l0 (s : Sized P M q Mod) (a b : List Int) (hab : a.length = b.length) (hn : a.length ≤ 35184372088832) : ∀ d i : Nat, i + d = a.length →
  Ev (fun k => word_pairwise_Add.l0 k (L a.length (fun t => if t < i then add P M (c q (rd a (t : Int))) (c q (rd b (t : Int))) else c q (rd a (t : Int)))) (cl q b) (a.length : Int) (i : Int) P m M' (q : Int) E G) (zp (add P M) q a b, 0, P, m, (q : Int))
 | 0, i, h => by
  refine Ev.step (f := fun _ => some (zp (add P M) q a b, 0, P, m, (q : Int))) (fun k => ?_) (Ev.now _)
  simp only [word_pairwise_Add.l0]
  rw [if_neg (by omega)]
  congr 2
  exact L_congr _ _ _ (fun t ht => by rw [if_pos (by omega)])
 | d + 1, i, h => by
  have hq0 := one_pos s
  have hop := add_ev (m := m) (M' := M') (E := E) (G := G) s (c q (rd a (i : Int))) (c q (rd b (i : Int)))
  rw [c_c (by omega), c_c (by omega)] at hop
  refine Ev.step (f := fun k => (field_GF_Add.f k P m M' (q : Int) E G (c q (rd a (i : Int))) (c q (rd b (i : Int)))).bind fun t => word_pairwise_Add.l0 k ((L a.length (fun t => if t < i then add P M (c q (rd a (t : Int))) (c q (rd b (t : Int))) else c q (rd a (t : Int)))).set (i : Int).toNat t.1) (cl q b) (a.length : Int) ((i + 1 : Nat) : Int) t.2.1 t.2.2.1 M' t.2.2.2 E G) (fun k => ?_) (hop.bind (Ev.congr (fun k => ?_) (pwAdd_l0 s a b hab hn d (i + 1) (by omega))))
  ·simp only [word_pairwise_Add.l0]
   rw [if_pos (by omega), if_pos (by omega), L_length, if_pos (by omega), cl_length, if_pos (by omega), rd_L _ _ _ (by omega), if_neg (by omega), rd_cl _ _ _ (by omega), w64_id (by omega) (by omega)]; rfl
  ·dsimp only
   rw [L_set, Int.toNat_natCast]
   congr 1
   refine L_congr _ _ _ (fun t ht => ?_)
   by_cases e : t = i
   ·subst e; rw [if_pos rfl, if_pos (by omega)]
   ·rw [if_neg e]
    by_cases e2 : t < i
    ·rw [if_pos e2, if_pos (by omega)]
    ·rw [if_neg e2, if_neg (by omega)]
theorem pwAdd_ev (s : Sized P M q Mod) (a b : List Int) (hn : a.length ≤ 35184372088832) : Ev (fun k => word_pairwise_Add.f k P m M' (q : Int) E G a b) (if a.length = b.length then (zp (add P M) q a b, 0, P, m, (q : Int)) else ([], 4, P, m, (q : Int))) := by
 by_cases hab : a.length = b.length
 ·rw [if_pos hab]
  refine Ev.congr (f := fun k => (word_Clean.f k P m M' (q : Int) E G a).bind fun bt280 => (word_Clean.f k bt280.2.1 bt280.2.2.1 M' bt280.2.2.2 E G b).bind fun bt286 => word_pairwise_Add.l0 k bt280.1 bt286.1 (bt280.1.length : Int) 0 bt286.2.1 bt286.2.2.1 M' bt286.2.2.2 E G) (fun k => ?_) ?_
  ·unfold word_pairwise_Add.f; rw [if_pos (by omega)]
  refine (clean_ev a hn).bind ?_
  dsimp only
  refine (clean_ev b (by omega)).bind ?_
  dsimp only
  refine Ev.congr (fun k => ?_) (pwAdd_l0 (m := m) (M' := M') (E := E) (G := G) s a b hab hn a.length 0 (by omega))
  rw [cl_length]
  congr 1
 ·rw [if_neg hab]
  refine Ev.congr (fun k => ?_) (Ev.now _)
  unfold word_pairwise_Add.f; rw [if_neg (by omega)]
theorem wAdd_ev (s : Sized P M q Mod) (a b : List Int) (hn : a.length ≤ 35184372088832) : Ev (fun k => word_Add.f k P m M' (q : Int) E G a b) (if a.length = b.length then (zp (add P M) q a b, 0, P, m, (q : Int)) else ([], 4, P, m, (q : Int))) := by
 unfold word_Add.f
 refine (pwAdd_ev s a b hn).bind ?_
 by_cases hab : a.length = b.length
 ·rw [if_pos hab]; exact Ev.now _
 ·rw [if_neg hab]; exact Ev.now _
/-- The number of places at which clean entries differ. -/
def dist (q : Int) (a b : List Int) : List Int := supp a.length (fun i => if c q (rd a (i : Int)) = c q (rd b (i : Int)) then 0 else 1)
end
end Go.Proofs.Ythgaihhlbgccoaa.Pw
