import Derived.Test.YthgaihhlbgccoaaZMu
import Derived.Test.YthgaihhlbgccoaaZPw
import Derived.Test.YthgaihhlbgccoaaZQg
/- What the printed products of words, sums and inner products compute. -/
namespace Go.Proofs.Ythgaihhlbgccoaa.In
open Go.RowKit Go.Proofs.Ythgaihhlbgccoaa.Q Go.Proofs.YthgaihhlbgccoaaW.PrintWords Go.Proofs.YthgaihhlbgccoaaW.PrintLast Go.Proofs.Ythgaihhlbgccoaa.Dig Go.Proofs.Ythgaihhlbgccoaa.Pig Go.Proofs.Ythgaihhlbgccoaa.Fv Go.Proofs.Ythgaihhlbgccoaa.Fm Go.Proofs.Ythgaihhlbgccoaa.Fo Go.Proofs.Ythgaihhlbgccoaa.Fp Go.Proofs.Ythgaihhlbgccoaa.Fn Go.Proofs.Ythgaihhlbgccoaa.Cl Go.Proofs.Ythgaihhlbgccoaa.Ad Go.Proofs.Ythgaihhlbgccoaa.Pw Go.Proofs.Ythgaihhlbgccoaa.Ml Go.Proofs.Ythgaihhlbgccoaa.Mu

/-- The inner product. -/
def ip (P : Int) (M q : Nat) (Mod : List Int) (a b : List Int) : Int := sm P M (fun i => mul P M (low M Mod) (c q (rd a (i : Int))) (c q (rd b (i : Int)))) a.length
section
variable {P m : Int} {M q : Nat} {Mod M' : List Int} {g : Int}
theorem pwMul_l0 (hf : Fld P M q Mod g) (a b : List Int) (hab : a.length = b.length) (hn : a.length ≤ 35184372088832) : ∀ d i : Nat, i + d = a.length →
  Ev (fun k => word_pairwise_Mul.l0 k (L a.length (fun t => if t < i then mul P M (low M Mod) (c q (rd a (t : Int))) (c q (rd b (t : Int))) else c q (rd a (t : Int)))) (cl q b) (a.length : Int) (i : Int) P m M' (q : Int) (ex P M q Mod g) (lo P M q Mod g)) (zp (mul P M (low M Mod)) q a b, 0, P, m, (q : Int))
 | 0, i, h => by
  refine Ev.step (f := fun _ => some (zp (mul P M (low M Mod)) q a b, 0, P, m, (q : Int))) (fun k => ?_) (Ev.now _)
  simp only [word_pairwise_Mul.l0]
  rw [if_neg (by omega)]
  congr 2
  exact L_congr _ _ _ (fun t ht => by rw [if_pos (by omega)])
 | d + 1, i, h => by
  have hq0 := one_pos hf.s
  have hop := gmul_ev (m := m) (M' := M') hf (c q (rd a (i : Int))) (c q (rd b (i : Int)))
  rw [c_c (by omega), c_c (by omega)] at hop
  refine Ev.step (fun k => ?_) (pwMul_l0 hf a b hab hn d (i + 1) (by omega))
  simp only [word_pairwise_Mul.l0]
  rw [if_pos (by omega), if_pos (by omega), L_length, if_pos (by omega), cl_length, if_pos (by omega), rd_L _ _ _ (by omega), if_neg (by omega), rd_cl _ _ _ (by omega), hop, w64_id (by omega) (by omega)]
  dsimp only [Option.bind_some]
  rw [L_set, Int.toNat_natCast]
  congr 1
  refine L_congr _ _ _ (fun t ht => ?_)
  by_cases e : t = i
  ·subst e; rw [if_pos rfl, if_pos (by omega)]
  ·rw [if_neg e]
   by_cases e2 : t < i
   ·rw [if_pos e2, if_pos (by omega)]
   ·rw [if_neg e2, if_neg (by omega)]
theorem pwMul_ev (hf : Fld P M q Mod g) (a b : List Int) (hn : a.length ≤ 35184372088832) : Ev (fun k => word_pairwise_Mul.f k P m M' (q : Int) (ex P M q Mod g) (lo P M q Mod g) a b) (if a.length = b.length then (zp (mul P M (low M Mod)) q a b, 0, P, m, (q : Int)) else ([], 4, P, m, (q : Int))) := by
 by_cases hab : a.length = b.length
 ·rw [if_pos hab]
  refine Ev.congr (f := fun k => (word_Clean.f k P m M' (q : Int) (ex P M q Mod g) (lo P M q Mod g) a).bind fun bt280 => (word_Clean.f k bt280.2.1 bt280.2.2.1 M' bt280.2.2.2 (ex P M q Mod g) (lo P M q Mod g) b).bind fun bt286 => word_pairwise_Mul.l0 k bt280.1 bt286.1 (bt280.1.length : Int) 0 bt286.2.1 bt286.2.2.1 M' bt286.2.2.2 (ex P M q Mod g) (lo P M q Mod g)) (fun k => ?_) ?_
  ·unfold word_pairwise_Mul.f; rw [if_pos (by omega)]
  refine (clean_ev a hn).bind ?_
  dsimp only
  refine (clean_ev b (by omega)).bind ?_
  dsimp only
  refine Ev.congr (fun k => ?_) (pwMul_l0 (m := m) (M' := M') hf a b hab hn a.length 0 (by omega))
  rw [cl_length]
  congr 1
 ·rw [if_neg hab]
  refine Ev.congr (fun k => ?_) (Ev.now _)
  unfold word_pairwise_Mul.f; rw [if_neg (by omega)]
theorem sum_l0 {E G : List Int} (s : Sized P M q Mod) (f : Nat → Int) (n : Nat) (hn : n ≤ 35184372088832) (hf : ∀ i, i < n → 0 ≤ f i ∧ f i < P ^ M) : ∀ d i : Nat, i + d = n →
  Ev (fun k => field_GF_Sum.l0 k (sm P M f i) (L n f) (n : Int) (i : Int) P m M' (q : Int) E G) (sm P M f n, P, m, (q : Int))
 | 0, i, h => by
  have e1 : i = n := by omega
  subst e1
  refine Ev.step (f := fun _ => some (sm P M f i, P, m, (q : Int))) (fun k => ?_) (Ev.now _)
  simp only [field_GF_Sum.l0]
  rw [if_neg (by omega)]
 | d + 1, i, h => by
  have hP := s.hP
  have hq := s.hq
  have h1 := sm_range (M := M) (show 0 < P by omega) f i
  have h2 := hf i (by omega)
  have hop := add_ev (m := m) (M' := M') (E := E) (G := G) s (sm P M f i) (f i)
  rw [c_id h1.1 (by omega), c_id h2.1 (by omega)] at hop
  refine Ev.step (f := fun k => (field_GF_Add.f k P m M' (q : Int) E G (sm P M f i) (f i)).bind fun t => field_GF_Sum.l0 k t.1 (L n f) (n : Int) ((i + 1 : Nat) : Int) t.2.1 t.2.2.1 M' t.2.2.2 E G) (fun k => ?_) (hop.bind (sum_l0 s f n hn hf d (i + 1) (by omega)))
  simp only [field_GF_Sum.l0]
  rw [if_pos (by omega), if_pos (by omega), L_length, if_pos (by omega), rd_L _ _ _ (by omega), w64_id (by omega) (by omega)]; rfl
theorem inner_ev (hf : Fld P M q Mod g) (a b : List Int) (hn : a.length ≤ 35184372088832) : Ev (fun k => word_Inner.f k P m M' (q : Int) (ex P M q Mod g) (lo P M q Mod g) a b) (if a.length = b.length then (ip P M q Mod a b, 0, P, m, (q : Int)) else (0, 4, P, m, (q : Int))) := by
 have s := hf.s
 have hP := s.hP
 unfold word_Inner.f
 refine (pwMul_ev hf a b hn).bind ?_
 by_cases hab : a.length = b.length
 ·rw [if_pos hab, if_pos hab]
  dsimp only
  have h := sum_l0 (m := m) (M' := M') (E := ex P M q Mod g) (G := lo P M q Mod g) s (fun i => mul P M (low M Mod) (c q (rd a (i : Int))) (c q (rd b (i : Int)))) a.length hn (fun i _ => mul_range (by omega) _ _) a.length 0 (by omega)
  refine Ev.bind (a := (ip P M q Mod a b, P, m, (q : Int))) ?_ (Ev.now _)
  refine Ev.congr (fun k => ?_) h
  unfold field_GF_Sum.f
  rw [zp_length]; rfl
 ·rw [if_neg hab, if_neg hab]
  dsimp only
  have h := sum_l0 (m := m) (M' := M') (E := ex P M q Mod g) (G := lo P M q Mod g) s (fun _ => 0) 0 (by omega) (fun i hi => absurd hi (Nat.not_lt_zero i)) 0 0 (by omega)
  refine Ev.bind (a := (0, P, m, (q : Int))) ?_ (Ev.now _)
  refine Ev.congr (fun k => ?_) h
  rfl
theorem rdot_l0 (s : Sized P M q Mod) (hq : ord P M = (q : Int)) (a b : List Int) (hab : a.length = b.length) (hn : a.length ≤ 35184372088832) : ∀ d i : Nat, i + d = a.length →
  Ev (fun k => cr4_Dot.l0 k a b (sm P M (fun i => mul P M (low M Mod) (c q (rd a (i : Int))) (c q (rd b (i : Int)))) i) (i : Int) P (M : Int) Mod) (ip P M q Mod a b)
 | 0, i, h => by
  have e1 : i = a.length := by omega
  subst e1
  refine Ev.step (f := fun k => cr4_Dot.j1 k a b (ip P M q Mod a b) (a.length : Int) false P (M : Int) Mod) (fun k => ?_) (Ev.step (f := fun _ => some (ip P M q Mod a b)) (fun k => ?_) (Ev.now _))
  ·simp only [cr4_Dot.l0]
   rw [if_neg (by omega)]; rfl
  ·simp only [cr4_Dot.j1]
   rw [if_neg (by decide)]
 | d + 1, i, h => by
  have hP := s.hP
  have hq2 := s.hq
  have h1 := sm_range (M := M) (show 0 < P by omega) (fun i => mul P M (low M Mod) (c q (rd a (i : Int))) (c q (rd b (i : Int)))) i
  have h2 := mul_range (M := M) (low := low M Mod) (show 0 < P by omega) (c q (rd a (i : Int))) (c q (rd b (i : Int)))
  have hm := rmul_ev s hq (rd a (i : Int)) (rd b (i : Int))
  have hop := radd_ev (M' := Mod) s hq (sm P M (fun i => mul P M (low M Mod) (c q (rd a (i : Int))) (c q (rd b (i : Int)))) i) (mul P M (low M Mod) (c q (rd a (i : Int))) (c q (rd b (i : Int))))
  rw [c_id h1.1 (by omega), c_id h2.1 (by omega)] at hop
  refine Ev.step (f := fun k => cr4_Dot.j1 k a b (sm P M (fun i => mul P M (low M Mod) (c q (rd a (i : Int))) (c q (rd b (i : Int)))) i) (i : Int) true P (M : Int) Mod) (fun k => ?_) (Ev.step (f := fun k => (cr4_Mul.f k P (M : Int) Mod (rd a (i : Int)) (rd b (i : Int))).bind fun t470 => (cr4_Add.f k P (M : Int) Mod (sm P M (fun i => mul P M (low M Mod) (c q (rd a (i : Int))) (c q (rd b (i : Int)))) i) t470).bind fun t471 => cr4_Dot.l0 k a b t471 ((i + 1 : Nat) : Int) P (M : Int) Mod) (fun k => ?_) (hm.bind (hop.bind (rdot_l0 s hq a b hab hn d (i + 1) (by omega)))))
  ·simp only [cr4_Dot.l0]
   rw [if_pos (by omega), decide_eq_true (by omega)]
  ·simp only [cr4_Dot.j1]
   rw [if_pos trivial, if_pos (by omega), if_pos (by omega), if_pos (by omega), w64_id (by omega) (by omega)]; rfl
theorem rinner_ev (s : Sized P M q Mod) (hq : ord P M = (q : Int)) (a b : List Int) (hn : a.length ≤ 35184372088832) : Ev (fun k => crB_Inner.f k P (M : Int) Mod a b) (if a.length = b.length then (ip P M q Mod a b, 0) else (0, 4)) := by
 by_cases hab : a.length = b.length
 ·rw [if_pos hab]
  refine Ev.congr (f := fun k => (cr4_Dot.f k P (M : Int) Mod a b).bind fun t => some (t, 0)) (fun k => ?_) ?_
  ·unfold crB_Inner.f; rw [if_pos (by omega)]
  have h := rdot_l0 s hq a b hab hn a.length 0 (by omega)
  exact Ev.bind (a := ip P M q Mod a b) h (Ev.now _)
 ·rw [if_neg hab]
  refine Ev.congr (fun k => ?_) (Ev.now _)
  unfold crB_Inner.f; rw [if_neg (by omega)]
/-! Its laws. -/
theorem ip_comm (a b : List Int) (h : a.length = b.length) : ip P M q Mod a b = ip P M q Mod b a := by
 unfold ip
 rw [h]
 exact sm_congr _ _ _ (fun i _ => mul_comm _ _)
theorem ip_add (s : Sized P M q Mod) (a b d : List Int) (h : a.length = b.length) : ip P M q Mod (zp (add P M) q a b) d = add P M (ip P M q Mod a d) (ip P M q Mod b d) := by
 have hP := s.hP
 have hq := s.hq
 unfold ip
 rw [zp_length, ← h, ← sm_add (by omega)]
 refine sm_congr _ _ _ (fun i hi => ?_)
 have e1 : rd (zp (add P M) q a b) (i : Int) = add P M (c q (rd a (i : Int))) (c q (rd b (i : Int))) := rd_L _ _ _ hi
 have hr := add_range (M := M) (show 0 < P by omega) (c q (rd a (i : Int))) (c q (rd b (i : Int)))
 rw [e1, c_id hr.1 (by omega), add_mul (by omega)]
theorem ip_range (s : Sized P M q Mod) (a b : List Int) : 0 ≤ ip P M q Mod a b ∧ ip P M q Mod a b < P ^ M := sm_range (by have := s.hP; omega) _ _
theorem ip_one (s : Sized P M q Mod) : ip P M q Mod [1, 0, 1] [1, 1, 0] = 1 := by
 have hP := s.hP
 have hq0 := one_pos s
 have hq := s.hq
 have e1 : c q 1 = 1 := c_id (by omega) (by omega)
 have e2 : c q 0 = 0 := c_id (by omega) (by omega)
 show add P M (add P M (add P M 0 (mul P M (low M Mod) (c q 1) (c q 1))) (mul P M (low M Mod) (c q 0) (c q 1))) (mul P M (low M Mod) (c q 1) (c q 0)) = 1
 have z1 : add P M 1 0 = 1 := add_zero (by omega) (by omega) (by omega)
 rw [e1, e2, mul_zero, mul_comm 0 1, mul_zero, mul_one (by omega) s.hM (by omega) (by omega), add_comm 0 1, z1, z1, z1]
end
end Go.Proofs.Ythgaihhlbgccoaa.In
