import Derived.Test.YthgaihhlbgccoaaZAd
import Derived.Test.YthgaihhlbgccoaaZQx31
import Derived.Test.YthgaihhlbgccoaaZQa
import Derived.Test.YthgaihhlbgccoaaZQb
import Derived.Test.YthgaihhlbgccoaaZQj
import Derived.Test.YthgaihhlbgccoaaZQd
/- What the printed pairwise, Add, Sub and Distance of words compute. Printed by mkpw.py. -/
namespace Go.Proofs.Ythgaihhlbgccoaa.Pw
open Go.RowKit Go.Proofs.Ythgaihhlbgccoaa.Q Go.Proofs.YthgaihhlbgccoaaW.PrintWords Go.Proofs.YthgaihhlbgccoaaW.PrintLast Go.Proofs.Ythgaihhlbgccoaa.Dig Go.Proofs.Ythgaihhlbgccoaa.Fv Go.Proofs.Ythgaihhlbgccoaa.Fo Go.Proofs.Ythgaihhlbgccoaa.Fp Go.Proofs.Ythgaihhlbgccoaa.Cl Go.Proofs.Ythgaihhlbgccoaa.Ad

/-- op of the clean entries, place by place. -/
def zp (op : Int → Int → Int) (q : Int) (a b : List Int) : List Int := L a.length (fun i => op (c q (rd a (i : Int))) (c q (rd b (i : Int))))
theorem zp_length (op : Int → Int → Int) (q : Int) (a b : List Int) : (zp op q a b).length = a.length := L_length _ _
section
variable {P m : Int} {M q : Nat} {Mod M' E G : List Int}

theorem pwSub_l0 (s : Sized P M q Mod) (a b : List Int) (hab : a.length = b.length) (hn : a.length ≤ 35184372088832) : ∀ d i : Nat, i + d = a.length →
  Ev (fun k => word_pairwise_Sub.l0 k (L a.length (fun t => if t < i then sub P M (c q (rd a (t : Int))) (c q (rd b (t : Int))) else c q (rd a (t : Int)))) (cl q b) (a.length : Int) (i : Int) P m M' (q : Int) E G) (zp (sub P M) q a b, 0, P, m, (q : Int))
 | 0, i, h => by
  refine Ev.step (f := fun _ => some (zp (sub P M) q a b, 0, P, m, (q : Int))) (fun k => ?_) (Ev.now _)
  simp only [word_pairwise_Sub.l0]
  rw [if_neg (by omega)]
  congr 2
  exact L_congr _ _ _ (fun t ht => by rw [if_pos (by omega)])
 | d + 1, i, h => by
  have hq0 := one_pos s
  have hop := sub_ev (m := m) (M' := M') (E := E) (G := G) s (c q (rd a (i : Int))) (c q (rd b (i : Int)))
  rw [c_c (by omega), c_c (by omega)] at hop
  refine Ev.step (f := fun k => (field_GF_Sub.f k P m M' (q : Int) E G (c q (rd a (i : Int))) (c q (rd b (i : Int)))).bind fun t => word_pairwise_Sub.l0 k ((L a.length (fun t => if t < i then sub P M (c q (rd a (t : Int))) (c q (rd b (t : Int))) else c q (rd a (t : Int)))).set (i : Int).toNat t.1) (cl q b) (a.length : Int) ((i + 1 : Nat) : Int) t.2.1 t.2.2.1 M' t.2.2.2 E G) (fun k => ?_) (hop.bind (Ev.congr (fun k => ?_) (pwSub_l0 s a b hab hn d (i + 1) (by omega))))
  ·simp only [word_pairwise_Sub.l0]
   rw [if_pos (by omega), if_pos (by omega), L_length, if_pos (by omega), cl_length, if_pos (by omega), rd_L _ _ _ (by omega), if_neg (by omega), rd_cl _ _ _ (by omega), w64_id (by omega) (by omega)]; rfl
  ·dsimp only
   rw [L_set, Int.toNat_natCast]
   congr 1
   refine L_congr _ _ _ (fun t ht => ?_)
   by_cases e : t = i
   ·subst e; rw [if_pos rfl, if_pos (by omega)]
   ·rw [if_neg e]
    by_cases e2 : t < i
    ·rw [if_pos e2, if_pos (by omega)]
    ·rw [if_neg e2, if_neg (by omega)]
theorem pwSub_ev (s : Sized P M q Mod) (a b : List Int) (hn : a.length ≤ 35184372088832) : Ev (fun k => word_pairwise_Sub.f k P m M' (q : Int) E G a b) (if a.length = b.length then (zp (sub P M) q a b, 0, P, m, (q : Int)) else ([], 4, P, m, (q : Int))) := by
 by_cases hab : a.length = b.length
 ·rw [if_pos hab]
  refine Ev.congr (f := fun k => (word_Clean.f k P m M' (q : Int) E G a).bind fun bt280 => (word_Clean.f k bt280.2.1 bt280.2.2.1 M' bt280.2.2.2 E G b).bind fun bt286 => word_pairwise_Sub.l0 k bt280.1 bt286.1 (bt280.1.length : Int) 0 bt286.2.1 bt286.2.2.1 M' bt286.2.2.2 E G) (fun k => ?_) ?_
  ·unfold word_pairwise_Sub.f; rw [if_pos (by omega)]
  refine (clean_ev a hn).bind ?_
  dsimp only
  refine (clean_ev b (by omega)).bind ?_
  dsimp only
  refine Ev.congr (fun k => ?_) (pwSub_l0 (m := m) (M' := M') (E := E) (G := G) s a b hab hn a.length 0 (by omega))
  rw [cl_length]
  congr 1
 ·rw [if_neg hab]
  refine Ev.congr (fun k => ?_) (Ev.now _)
  unfold word_pairwise_Sub.f; rw [if_neg (by omega)]
/-- The number of places at which clean entries differ. -/
def dist (q : Int) (a b : List Int) : List Int := supp a.length (fun i => if c q (rd a (i : Int)) = c q (rd b (i : Int)) then 0 else 1)
theorem supp_sub (s : Sized P M q Mod) (a b : List Int) : supp (zp (sub P M) q a b).length (fun t => c q (rd (zp (sub P M) q a b) (t : Int))) = dist q a b := by
 have hP := s.hP
 have hq := s.hq
 rw [zp_length]
 refine supp_congr _ _ _ (fun i hi => ?_)
 have e1 : rd (zp (sub P M) q a b) (i : Int) = sub P M (c q (rd a (i : Int))) (c q (rd b (i : Int))) := rd_L _ _ _ hi
 have hr := sub_range (M := M) (show 0 < P by omega) (c q (rd a (i : Int))) (c q (rd b (i : Int)))
 have h1 := c_elt s (rd a (i : Int))
 have h2 := c_elt s (rd b (i : Int))
 rw [e1, c_id hr.1 (by omega), sub_eq_zero (by omega) h1.1 h1.2 h2.1 h2.2]
 by_cases e : c q (rd a (i : Int)) = c q (rd b (i : Int))
 ·rw [if_pos e]; exact ⟨fun _ => rfl, fun _ => e⟩
 ·rw [if_neg e]; exact ⟨fun h => absurd h e, fun h => absurd h (by decide)⟩
theorem distance_ev (s : Sized P M q Mod) (a b : List Int) (hn : a.length ≤ 17592186044416) : Ev (fun k => word_Distance.f k P m M' (q : Int) E G a b) (if a.length = b.length then (((dist q a b).length : Int), 0, P, m, (q : Int)) else (0, 4, P, m, (q : Int))) := by
 unfold word_Distance.f
 refine (pwSub_ev s a b (by omega)).bind ?_
 by_cases hab : a.length = b.length
 ·rw [if_pos hab, if_pos hab]
  dsimp only
  refine (weight_ev _ (by rw [zp_length]; omega)).bind ?_
  dsimp only
  rw [supp_sub s]
  exact Ev.now _
 ·rw [if_neg hab, if_neg hab]
  dsimp only
  exact (weight_ev [] (by simp)).bind (Ev.now _)
end
end Go.Proofs.Ythgaihhlbgccoaa.Pw
