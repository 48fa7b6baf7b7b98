import Derived.Test.YthgaihhlbgccoaaZMl
import Derived.Test.YthgaihhlbgccoaaZF2
import Derived.Test.YthgaihhlbgccoaaZQe
import Derived.Test.YthgaihhlbgccoaaZQg
/- What the printed products compute: the field's, by logarithms, and the document's. -/
namespace Go.Proofs.Ythgaihhlbgccoaa.Mu
open Go.RowKit Go.Proofs.Ythgaihhlbgccoaa.Q Go.Proofs.YthgaihhlbgccoaaW.PrintWords Go.Proofs.YthgaihhlbgccoaaW.PrintLast Go.Proofs.Ythgaihhlbgccoaa.Ring Go.Proofs.Ythgaihhlbgccoaa.Dig Go.Proofs.Ythgaihhlbgccoaa.Pig Go.Proofs.Ythgaihhlbgccoaa.Fv Go.Proofs.Ythgaihhlbgccoaa.Fm Go.Proofs.Ythgaihhlbgccoaa.Fo Go.Proofs.Ythgaihhlbgccoaa.Fp Go.Proofs.Ythgaihhlbgccoaa.Fn Go.Proofs.Ythgaihhlbgccoaa.Cl Go.Proofs.Ythgaihhlbgccoaa.Ad Go.Proofs.Ythgaihhlbgccoaa.Ml

theorem gmul_ev {P m : Int} {M q : Nat} {Mod M' : List Int} {g : Int} (hf : Fld P M q Mod g) (x y : Int) :
  field_GF_Mul.f P m M' (q : Int) (ex P M q Mod g) (lo P M q Mod g) x y = some (mul P M (low M Mod) (c q x) (c q y), P, m, (q : Int)) := by
 have s := hf.s
 have hP := s.hP
 have hq := s.hq
 have hq1 := s.hq1
 have hq0 := one_pos s
 have hx := c_elt s x
 have hy := c_elt s y
 unfold field_GF_Mul.f
 rw [in_ev]; dsimp only [Option.bind_some]
 rw [in_ev]; dsimp only [Option.bind_some]
 by_cases hx0 : c q x = 0
 ·rw [if_pos hx0, hx0, mul_comm, mul_zero]
 by_cases hy0 : c q y = 0
 ·rw [if_neg hx0, if_pos hy0, hy0, mul_zero]
 rw [if_neg hx0, if_neg hy0]
 obtain ⟨h1, h2, ho⟩ := hf.gen
 have hn : ((q - 1 : Nat) : Int) + 1 = P ^ M := by omega
 obtain ⟨i, hi, ei⟩ := ho.all (by omega) s.hM hn (show 0 < c q x by omega) hx.2
 obtain ⟨j, hj, ej⟩ := ho.all (by omega) s.hM hn (show 0 < c q y by omega) hy.2
 have hlo : ∀ (z : Int) (n : Nat), 0 ≤ z → z < q → n < q - 1 → mpw P M (low M Mod) g n = z → rd (lo P M q Mod g) z = (n : Int) := by
  intro z n hz0 hz1 hn e
  obtain ⟨a, rfl⟩ := Int.eq_ofNat_of_zero_le hz0
  unfold lo
  rw [rd_L _ _ _ (by omega)]
  exact lg_eq _ (q - 1) (fun i j hij hj => ho.ne (by omega) s.hM hij hj) n a hn e
 have hll : (lo P M q Mod g).length = q := L_length _ _
 have hel : (ex P M q Mod g).length = q - 1 := L_length _ _
 have hmul : mul P M (low M Mod) (c q x) (c q y) = mpw P M (low M Mod) g (i + j) := by rw [mpw_add (by omega) s.hM, ei, ej]
 rw [if_pos hx.1, hll, if_pos (by omega), if_pos hy.1, if_pos (by omega), hlo _ i hx.1 (by omega) hi ei, hlo _ j hy.1 (by omega) hj ej, w64_id (n := (i : Int) + (j : Int)) (by omega) (by omega), w64_id (n := (q : Int) - 1) (by omega) (by omega), if_neg (by omega), Int.tmod_eq_emod_of_nonneg (by omega), hel, hmul]
 by_cases hs : i + j < q - 1
 ·rw [Int.emod_eq_of_lt (by omega) (by omega), if_pos (by omega), if_pos (by omega), show (i : Int) + (j : Int) = ((i + j : Nat) : Int) by omega]
  unfold ex
  rw [rd_L _ _ _ hs]
 ·have e1 : ((i : Int) + (j : Int)) % ((q : Int) - 1) = ((i + j - (q - 1) : Nat) : Int) := by
   rw [show (i : Int) + (j : Int) = ((i + j - (q - 1) : Nat) : Int) + ((q : Int) - 1) * 1 by omega, Int.add_mul_emod_self_left, Int.emod_eq_of_lt (by omega) (by omega)]
  have e2 : mpw P M (low M Mod) g (i + j) = mpw P M (low M Mod) g (i + j - (q - 1)) := by
   rw [show i + j = (q - 1) + (i + j - (q - 1)) by omega, mpw_add (by omega) s.hM, ho.1, show (q - 1) + (i + j - (q - 1)) - (q - 1) = i + j - (q - 1) by omega]
   have h4 := mpw_range (lw := low M Mod) (show 1 < P by omega) s.hM g (i + j - (q - 1))
   exact one_mul (by omega) s.hM h4.1 h4.2
  rw [e1, if_pos (by omega), if_pos (by omega), e2]
  unfold ex
  rw [rd_L _ _ _ (by omega)]

/-- What is done before pair (i, j). -/
def pr2 (M : Nat) (lw a b : Vec) (i j t : Nat) : Int := S i (fun k => S M (fun l => a k * (b l * it M lw (k + l) (e 0) t))) + S j (fun l => a i * (b l * it M lw (i + l) (e 0) t))
section
variable {P m : Int} {M : Nat} {Mod : List Int} {lw a b : Vec} {r : Int}
theorem set_two (n : Nat) (c : Nat → Int) (i : Nat) (z v : Int) (hz : z = (i : Int)) : (L n c).set z.toNat v = L n (fun k => if k = i then v else c k) := by
 subst hz
 rw [L_set, Int.toNat_natCast]
theorem rm_l1 (hP : 0 < P) (hP1 : P ≤ 256) (hM : M ≤ 8) (ha : ∀ t, 0 ≤ a t ∧ a t < P) (hb : ∀ t, 0 ≤ b t ∧ b t < P) (i : Nat) (hi : i < M)
  (next : ∀ c : Nat → Int, (∀ t, 0 ≤ c t ∧ c t < P) → (∀ t, Cg P (F M lw (2 * M - 1) c t) (pr2 M lw a b (i + 1) 0 t)) → Ev (fun k => cr4_Mul.l0 k (L M a) (L M b) (L (2 * M - 1) c) ((i + 1 : Nat) : Int) P (M : Int) Mod) r) :
  ∀ d j : Nat, j + d = M → ∀ c : Nat → Int, (∀ t, 0 ≤ c t ∧ c t < P) → (∀ t, Cg P (F M lw (2 * M - 1) c t) (pr2 M lw a b i j t)) → Ev (fun k => cr4_Mul.l1 k (L M a) (L M b) (L (2 * M - 1) c) (i : Int) (j : Int) P (M : Int) Mod) r
 | 0, j, h, c, hc, hv => by
  have e1 : j = M := by omega
  subst e1
  refine Ev.step (fun k => ?_) (next c hc (fun t => by
   have h1 := hv t
   have e2 : pr2 j lw a b (i + 1) 0 t = pr2 j lw a b i j t := by unfold pr2; simp only [S]; omega
   rw [e2]; exact h1))
  simp only [cr4_Mul.l1]
  rw [if_neg (by omega), w64_id (by omega) (by omega)]; rfl
 | d + 1, j, h, c, hc, hv => by
  have hai := ha i
  have hbj := hb j
  have hcv := hc (i + j)
  have hab := mul_bounds hai hbj (by omega)
  refine Ev.step (fun k => ?_) (rm_l1 hP hP1 hM ha hb i hi next d (j + 1) (by omega) (fun k => if k = i + j then (c (i + j) + a i * b j) % P else c k) (fun t => by
   split
   ·exact emod_range hP _
   ·exact hc t) (fun t => by
   have h1 := F_upd (P := P) (M := M) (lw := lw) (2 * M - 1) c (show i + j < 2 * M - 1 by omega) (a i * b j) t
   have h2 := (hv t).add (Cg.refl (a i * b j * it M lw (i + j) (e 0) t))
   have e2 : pr2 M lw a b i (j + 1) t = pr2 M lw a b i j t + a i * b j * it M lw (i + j) (e 0) t := by unfold pr2; simp only [S]; rw [Int.mul_assoc]; omega
   rw [e2]
   exact h1.trans h2))
  simp only [cr4_Mul.l1]
  rw [w64_id (n := (i : Int) + (j : Int)) (by omega) (by omega), show (i : Int) + (j : Int) = ((i + j : Nat) : Int) by omega]
  simp only [L_length]
  rw [if_pos (by omega), if_pos (by omega), if_pos (by omega), if_pos (by omega), if_pos (by omega), if_pos (by omega), if_pos (by omega), if_neg (by omega), rd_L _ _ _ (by omega), rd_L _ _ _ (by omega), rd_L _ _ _ (by omega), w64_id (n := a i * b j) (by omega) (by omega), w64_id (n := c (i + j) + a i * b j) (by omega) (by omega), w64_id (n := (j : Int) + 1) (by omega) (by omega), Int.tmod_eq_emod_of_nonneg (by omega), set_two _ _ (i + j) _ _ rfl]
  rfl
theorem rm_l0 (hP : 0 < P) (hP1 : P ≤ 256) (hM0 : 0 < M) (hM : M ≤ 8) (ha : ∀ t, 0 ≤ a t ∧ a t < P) (hb : ∀ t, 0 ≤ b t ∧ b t < P)
  (next : ∀ c : Nat → Int, (∀ t, 0 ≤ c t ∧ c t < P) → (∀ t, Cg P (F M lw (2 * M - 1) c t) (pr2 M lw a b M 0 t)) → Ev (fun k => cr4_Mul.l2 k (L (2 * M - 1) c) ((2 * M - 2 : Nat) : Int) P (M : Int) Mod) r) :
  ∀ d i : Nat, i + d = M → ∀ c : Nat → Int, (∀ t, 0 ≤ c t ∧ c t < P) → (∀ t, Cg P (F M lw (2 * M - 1) c t) (pr2 M lw a b i 0 t)) → Ev (fun k => cr4_Mul.l0 k (L M a) (L M b) (L (2 * M - 1) c) (i : Int) P (M : Int) Mod) r
 | 0, i, h, c, hc, hv => by
  have e1 : i = M := by omega
  subst e1
  refine Ev.step (fun k => ?_) (next c hc hv)
  simp only [cr4_Mul.l0]
  rw [if_neg (by omega), w64_id (n := 2 * (i : Int)) (by omega) (by omega), w64_id (by omega) (by omega), show 2 * (i : Int) - 2 = ((2 * i - 2 : Nat) : Int) by omega]
 | d + 1, i, h, c, hc, hv => by
  refine Ev.step (fun k => ?_) (rm_l1 hP hP1 hM ha hb i (by omega) (rm_l0 hP hP1 hM0 hM ha hb next d (i + 1) (by omega)) M 0 (by omega) c hc hv)
  simp only [cr4_Mul.l0]
  rw [if_pos (by omega)]; rfl
end
section
variable {P : Int} {M : Nat} {Mod : List Int} {z : Vec} {r : Int}
/-- One place goes down. -/
theorem rm_l3 (hP : 0 < P) (hP1 : P ≤ 256) (hM : M ≤ 8) (hl : Mod.length = M ∧ ∀ j, j < M → 0 ≤ rd Mod (j : Int) ∧ rd Mod (j : Int) < P) (hM1 : 1 < M) (n : Nat) (hn : M + n < 2 * M - 1)
  (next : ∀ c : Nat → Int, (∀ t, 0 ≤ c t ∧ c t < P) → (∀ t, Cg P (F M (low M Mod) (M + n) c t) (z t)) → Ev (fun k => cr4_Mul.l2 k (L (2 * M - 1) c) (((M + n : Nat) : Int) - 1) P (M : Int) Mod) r) (v : Int) (hv0 : 0 ≤ v ∧ v < P) :
  ∀ d j : Nat, j + d = M → ∀ c : Nat → Int, (∀ t, 0 ≤ c t ∧ c t < P) → c (M + n) = v → (∀ t, Cg P (F M (low M Mod) (M + n + 1) c t) (z t + S j (fun l => (- v) * (low M Mod l * it M (low M Mod) (n + l) (e 0) t)))) → Ev (fun k => cr4_Mul.l3 k (L (2 * M - 1) c) ((M + n : Nat) : Int) (j : Int) P (M : Int) Mod) r
 | 0, j, h, c, hc, hcv, hv => by
  have e1 : j = M := by omega
  subst e1
  refine Ev.step (fun k => ?_) (next c hc (fun t => by
   have h1 := hv t
   have h2 := it_down (lw := low j Mod) (show 0 < j by omega) n t
   have h3 : S j (fun l => (- v) * (low j Mod l * it j (low j Mod) (n + l) (e 0) t)) = v * it j (low j Mod) (j + n) (e 0) t := by
    rw [h2, ← S_mul]
    exact S_congr j _ _ (fun l _ => by rw [Int.neg_mul, Int.neg_mul, Int.mul_neg])
   have h4 : F j (low j Mod) (j + n + 1) c t = F j (low j Mod) (j + n) c t + v * it j (low j Mod) (j + n) (e 0) t := by
    unfold F; simp only [S]; rw [hcv]
   rw [h3, h4] at h1
   exact h1.cancel))
  simp only [cr4_Mul.l3]
  rw [if_neg (by omega), w64_id (by omega) (by omega)]
 | d + 1, j, h, c, hc, hcv, hv => by
  obtain ⟨hl1, hl2⟩ := hl
  have hlj := hl2 j (by omega)
  have hcj := hc (n + j)
  have hp : 0 ≤ (P - v) * rd Mod (j : Int) ∧ (P - v) * rd Mod (j : Int) ≤ 65536 := by
   refine ⟨Int.mul_nonneg (by omega) hlj.1, ?_⟩
   have h1 : (P - v) * rd Mod (j : Int) ≤ 256 * rd Mod (j : Int) := Int.mul_le_mul_of_nonneg_right (by omega) (by omega)
   omega
  have elw : low M Mod j = rd Mod (j : Int) := by unfold low; rw [if_pos hM1]
  refine Ev.step (fun k => ?_) (rm_l3 hP hP1 hM ⟨hl1, hl2⟩ hM1 n hn next v hv0 d (j + 1) (by omega) (fun k => if k = n + j then (c (n + j) + (P - v) * rd Mod (j : Int)) % P else c k) (fun t => by
   split
   ·exact emod_range hP _
   ·exact hc t) (by rw [if_neg (by omega)]; exact hcv) (fun t => by
   have h1 := F_upd (P := P) (M := M) (lw := low M Mod) (M + n + 1) c (show n + j < M + n + 1 by omega) ((P - v) * rd Mod (j : Int)) t
   have h2 : Cg P ((P - v) * rd Mod (j : Int) * it M (low M Mod) (n + j) (e 0) t) ((- v) * (low M Mod j * it M (low M Mod) (n + j) (e 0) t)) := by
    refine ⟨rd Mod (j : Int) * it M (low M Mod) (n + j) (e 0) t, ?_⟩
    rw [elw, Int.sub_mul, Int.sub_mul, Int.neg_mul, Int.mul_assoc, Int.mul_assoc]; omega
   have h3 := (hv t).add h2
   simp only [S]
   rw [← Int.add_assoc]
   exact h1.trans h3))
  simp only [cr4_Mul.l3]
  rw [w64_id (n := ((M + n : Nat) : Int) - (M : Int)) (by omega) (by omega), show ((M + n : Nat) : Int) - (M : Int) = (n : Int) by omega, w64_id (n := (n : Int) + (j : Int)) (by omega) (by omega), show (n : Int) + (j : Int) = ((n + j : Nat) : Int) by omega]
  simp only [L_length]
  rw [if_pos (by omega), if_pos (by omega), if_pos (by omega), if_pos (by omega), if_pos (by omega), if_pos (by omega), if_pos (by omega), if_neg (by omega), rd_L _ _ _ (by omega), rd_L _ _ _ (by omega), hcv, w64_id (n := P - v) (by omega) (by omega), w64_id (n := (P - v) * rd Mod (j : Int)) (by omega) (by omega), w64_id (n := c (n + j) + (P - v) * rd Mod (j : Int)) (by omega) (by omega), w64_id (n := (j : Int) + 1) (by omega) (by omega), Int.tmod_eq_emod_of_nonneg (by omega), set_two _ _ (n + j) _ _ rfl]
  rfl
theorem rm_l2 (hP : 0 < P) (hP1 : P ≤ 256) (hM0 : 0 < M) (hM : M ≤ 8) (hq : P ^ M ≤ 256) (hl : 1 < M → Mod.length = M ∧ ∀ j, j < M → 0 ≤ rd Mod (j : Int) ∧ rd Mod (j : Int) < P) :
  ∀ n : Nat, M + n ≤ 2 * M - 1 → ∀ c : Nat → Int, (∀ t, 0 ≤ c t ∧ c t < P) → (∀ t, Cg P (F M (low M Mod) (M + n) c t) (z t)) → Ev (fun k => cr4_Mul.l2 k (L (2 * M - 1) c) (((M + n : Nat) : Int) - 1) P (M : Int) Mod) (val P M (fun j => z j % P))
 | 0, h, c, hc, hv => by
  have h1 := Value_ev (P := P) (M : Int) Mod hP M (by omega) (by omega) c (fun t _ => hc t)
  have e1 : val P M c = val P M (fun j => z j % P) := by
   refine val_congr P M _ _ (fun j hj => ?_)
   have h2 := hv j
   rw [Nat.add_zero, F_own c hj] at h2
   exact h2.emod (hc j).1 (hc j).2
  have e2 : (L (2 * M - 1) c).take M = L M c := by
   unfold L
   rw [← List.map_take, List.take_range, Nat.min_eq_left (by omega)]
  rw [e1] at h1
  refine Ev.step (fun k => ?_) (h1.bind (Ev.now _))
  simp only [cr4_Mul.l2]
  rw [if_neg (by omega), if_pos (by omega), L_length, if_pos (by omega), Int.toNat_natCast, e2]
 | n + 1, h, c, hc, hv => by
  have ih := rm_l2 hP hP1 hM0 hM hq hl n (by omega)
  refine Ev.step (fun k => ?_) (rm_l3 hP hP1 hM (hl (by omega)) (by omega) n (by omega) ih (c (M + n)) (hc _) M 0 (by omega) c hc rfl (fun t => by
   simp only [S]
   rw [Int.add_zero]; exact hv t))
  simp only [cr4_Mul.l2]
  rw [if_pos (by omega), show ((M + (n + 1) : Nat) : Int) - 1 = ((M + n : Nat) : Int) by omega]; rfl
end
theorem rmul_ev {P : Int} {M q : Nat} {Mod : List Int} (s : Sized P M q Mod) (hq : ord P M = (q : Int)) (x y : Int) : Ev (fun k => cr4_Mul.f k P (M : Int) Mod x y) (mul P M (low M Mod) (c q x) (c q y)) := by
 have h1 := s.hP; have h2 := s.hP1; have h3 := s.hM1; have h4 := s.hq; have h5 := s.hq1; have h6 := s.hM
 have hdv : ∀ x t, 0 ≤ dv P M x t ∧ dv P M x t < P := fun x t => by
  unfold dv
  split
  ·exact dg_range (by omega) x t
  ·omega
 have ed : ∀ x, L M (dg P x) = L M (dv P M x) := fun x => L_congr _ _ _ (fun t ht => by unfold dv; rw [if_pos ht])
 unfold cr4_Mul.f
 refine (rDigits_ev s hq x).bind ((rDigits_ev s hq y).bind ?_)
 have hb : ∀ t, pr2 M (low M Mod) (dv P M (c q x)) (dv P M (c q y)) M 0 t = B M (low M Mod) (dv P M (c q x)) (dv P M (c q y)) t := fun t => by
  unfold pr2
  rw [B_two (dv_supp P M (c q x)), S_swap]
  simp only [S]
  rw [Int.add_zero]
  refine S_congr M _ _ (fun k _ => S_congr M _ _ (fun l _ => ?_))
  rw [Int.mul_left_comm, Nat.add_comm]
 have h := rm_l0 (P := P) (M := M) (Mod := Mod) (lw := low M Mod) (a := dv P M (c q x)) (b := dv P M (c q y)) (by omega) h2 h6 h3 (hdv _) (hdv _) (fun c hc hv => by
  have h7 := rm_l2 (P := P) (M := M) (Mod := Mod) (z := B M (low M Mod) (dv P M (Cl.c q x)) (dv P M (Cl.c q y))) (by omega) h2 h6 h3 (by omega) s.hl (M - 1) (by omega) c hc (fun t => by
   rw [← hb, show M + (M - 1) = 2 * M - 1 by omega]; exact hv t)
  rw [show ((M + (M - 1) : Nat) : Int) - 1 = ((2 * M - 2 : Nat) : Int) by omega] at h7
  exact h7) M 0 (by omega) (fun _ => 0) (fun _ => by omega) (fun t => by
   have e1 : F M (low M Mod) (2 * M - 1) (fun _ => 0) t = 0 := S_zero _ _ (fun _ _ => Int.zero_mul _)
   have e2 : pr2 M (low M Mod) (dv P M (c q x)) (dv P M (c q y)) 0 0 t = 0 := rfl
   rw [e1, e2]; exact Cg.refl 0)
 refine Ev.congr (fun k => ?_) h
 rw [ed, ed, w64_id (n := 2 * (M : Int)) (by omega) (by omega), w64_id (n := 2 * (M : Int) - 1) (by omega) (by omega), if_pos (by omega), show (2 * (M : Int) - 1).toNat = 2 * M - 1 by omega, if_pos (by omega), L_rep]
 rfl
end Go.Proofs.Ythgaihhlbgccoaa.Mu
