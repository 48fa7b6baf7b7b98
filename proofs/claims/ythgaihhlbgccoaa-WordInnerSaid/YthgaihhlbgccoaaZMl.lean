import Derived.Test.YthgaihhlbgccoaaZAd
/- Sums and products of residues: add and mul distribute; the document's product as a functional of coefficients. Plain laws, no program in sight. -/
namespace Go.Proofs.Ythgaihhlbgccoaa.Ml
open Go.Proofs.Ythgaihhlbgccoaa.Ring Go.Proofs.Ythgaihhlbgccoaa.Dig Go.Proofs.Ythgaihhlbgccoaa.Ad Go.Proofs.Ythgaihhlbgccoaa.Pig

section
variable {P : Int} {M : Nat} {lw : Vec}
theorem add_comm (x y : Int) : add P M x y = add P M y x := val_congr P M _ _ (fun j _ => by rw [Int.add_comm])
theorem add_assoc (hP : 0 < P) (x y z : Int) : add P M (add P M x y) z = add P M x (add P M y z) := by
 refine val_congr P M _ _ (fun j hj => ?_)
 rw [dg_add hP x y hj, dg_add hP y z hj, Int.emod_add_emod, Int.add_emod_emod, Int.add_assoc]
theorem add_zero (hP : 0 < P) {x : Int} (h0 : 0 ≤ x) (h1 : x < P ^ M) : add P M x 0 = x := by
 refine (val_congr P M _ _ (fun j _ => ?_)).trans (val_dg hP M x h0 h1)
 rw [dg_zero, Int.add_zero]
 exact Int.emod_eq_of_lt (dg_range hP x j).1 (dg_range hP x j).2
theorem add_swap (hP : 0 < P) (a b x y : Int) : add P M (add P M a b) (add P M x y) = add P M (add P M a x) (add P M b y) := by
 rw [add_assoc hP, add_assoc hP, ← add_assoc hP b x y, add_comm b x, add_assoc hP x b y]
theorem dv_add (hP : 0 < P) (x y : Int) (j : Nat) : dv P M (add P M x y) j % P = (dv P M x j + dv P M y j) % P := by
 unfold dv
 by_cases hj : j < M
 ·rw [if_pos hj, if_pos hj, if_pos hj, dg_add hP x y hj, Int.emod_emod_of_dvd _ (Int.dvd_refl P)]
 ·rw [if_neg hj, if_neg hj, if_neg hj]; rfl
theorem mul_add (hP : 0 < P) (z x y : Int) : mul P M lw z (add P M x y) = add P M (mul P M lw z x) (mul P M lw z y) := by
 refine val_congr P M _ _ (fun j hj => ?_)
 unfold mul
 rw [dg_val hP M _ (fun _ _ => emod_range hP _) j hj, dg_val hP M _ (fun _ _ => emod_range hP _) j hj, Int.emod_add_emod, Int.add_emod_emod]
 rw [B_cg (a' := dv P M z) (b' := fun j => dv P M x j + dv P M y j) (fun _ => rfl) (dv_add hP x y) j]
 congr 1
 unfold B
 rw [← S_add]
 exact S_congr M _ _ (fun i _ => Int.add_mul _ _ _)
theorem add_mul (hP : 0 < P) (x y z : Int) : mul P M lw (add P M x y) z = add P M (mul P M lw x z) (mul P M lw y z) := by
 rw [mul_comm, mul_add hP, mul_comm z x, mul_comm z y]
/-- The sum of n residues. -/
def sm (P : Int) (M : Nat) (f : Nat → Int) : Nat → Int
 | 0 => 0
 | n + 1 => add P M (sm P M f n) (f n)
theorem sm_range (hP : 0 < P) (f : Nat → Int) : ∀ n : Nat, 0 ≤ sm P M f n ∧ sm P M f n < P ^ M
 | 0 => ⟨Int.le_refl 0, pow_pos hP M⟩
 | _ + 1 => add_range hP _ _
theorem sm_congr (f g : Nat → Int) : ∀ n, (∀ i, i < n → f i = g i) → sm P M f n = sm P M g n
 | 0, _ => rfl
 | n + 1, h => by simp only [sm]; rw [sm_congr f g n (fun i hi => h i (by omega)), h n (by omega)]
theorem sm_add (hP : 0 < P) (f g : Nat → Int) : ∀ n, sm P M (fun i => add P M (f i) (g i)) n = add P M (sm P M f n) (sm P M g n)
 | 0 => by
  show (0 : Int) = add P M 0 0
  rw [add_zero hP (Int.le_refl 0) (pow_pos hP M)]
 | n + 1 => by simp only [sm]; rw [sm_add hP f g n, add_swap hP]
/-! The document's product. -/
def Cg (P x y : Int) : Prop := ∃ d, x = y + P * d
theorem Cg.refl (x : Int) : Cg P x x := ⟨0, by rw [Int.mul_zero, Int.add_zero]⟩
theorem Cg.trans {x y z : Int} (h1 : Cg P x y) (h2 : Cg P y z) : Cg P x z := by
 obtain ⟨a, rfl⟩ := h1
 obtain ⟨b, rfl⟩ := h2
 exact ⟨b + a, by rw [Int.mul_add]; omega⟩
theorem Cg.add {x y u v : Int} (h1 : Cg P x y) (h2 : Cg P u v) : Cg P (x + u) (y + v) := by
 obtain ⟨a, rfl⟩ := h1
 obtain ⟨b, rfl⟩ := h2
 exact ⟨a + b, by rw [Int.mul_add]; omega⟩
theorem Cg.cancel {x y u : Int} (h : Cg P (x + u) (y + u)) : Cg P x y := by
 obtain ⟨a, h⟩ := h
 exact ⟨a, by omega⟩
theorem Cg.emod {x y : Int} (h0 : 0 ≤ x) (h1 : x < P) (h : Cg P x y) : x = y % P := by
 obtain ⟨a, h⟩ := h
 have e : y = x + P * (-a) := by rw [Int.mul_neg]; omega
 rw [e, Int.add_mul_emod_self_left, Int.emod_eq_of_lt h0 h1]
/-- Coefficients c below place K, at X. -/
def F (M : Nat) (lw : Vec) (K : Nat) (c : Nat → Int) (t : Nat) : Int := S K (fun k => c k * it M lw k (e 0) t)
theorem F_upd (K : Nat) (c : Nat → Int) {i : Nat} (hi : i < K) (v : Int) (t : Nat) : Cg P (F M lw K (fun k => if k = i then (c i + v) % P else c k) t) (F M lw K c t + v * it M lw i (e 0) t) := by
 have h1 : F M lw K (fun k => if k = i then (c i + v) % P else c k) t = F M lw K c t + ((c i + v) % P - c i) * it M lw i (e 0) t := by
  have h2 := S_one K i (fun k => if k = i then ((c i + v) % P - c i) * it M lw i (e 0) t else 0) hi (fun k _ hk => if_neg hk)
  simp only [if_pos] at h2
  rw [← h2]
  unfold F
  rw [← S_add]
  refine S_congr K _ _ (fun k _ => ?_)
  dsimp only
  by_cases h : k = i
  ·subst h; rw [if_pos rfl, if_pos rfl, Int.sub_mul]; omega
  ·rw [if_neg h, if_neg h, Int.add_zero]
 have h3 := Int.emod_add_mul_ediv (c i + v) P
 refine ⟨-((c i + v) / P) * it M lw i (e 0) t, ?_⟩
 rw [h1, show (c i + v) % P - c i = v + P * (-((c i + v) / P)) by rw [Int.mul_neg]; omega, Int.add_mul, Int.mul_assoc P]
 omega
theorem F_own (c : Nat → Int) {t : Nat} (ht : t < M) : F M lw M c t = c t := by
 unfold F
 rw [S_one M t _ ht (fun k hk hne => by rw [it_e0 k hk]; unfold e; rw [if_neg (by omega), Int.mul_zero]), it_e0 t ht]
 unfold e; rw [if_pos rfl, Int.mul_one]
/-- What lies at place M + d goes down. -/
theorem it_down (hM : 0 < M) (d t : Nat) : it M lw (M + d) (e 0) t = S M (fun l => (- lw l) * it M lw (d + l) (e 0) t) := by
 rw [Nat.add_comm, it_add, itM_e0 hM]
 have h := it_S (M := M) (low := lw) M (fun l => - lw l) (fun l => it M lw l (e 0)) d
 rw [congrFun h t]
 exact S_congr M _ _ (fun l _ => by rw [it_add])
end
end Go.Proofs.Ythgaihhlbgccoaa.Ml
