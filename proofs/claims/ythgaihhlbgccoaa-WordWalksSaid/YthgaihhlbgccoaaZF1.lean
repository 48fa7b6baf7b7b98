-- Joined by pack.py, a program of this work: Ring Dig Pig
import Derived.Test.YthgaihhlbgccoaaZW0
/- The ring of integer polynomials modulo a monic one, as functions of the coefficients: its product is associative and commutative, and respects congruence modulo P. Plain laws, no program in sight. -/
namespace Go.Proofs.Ythgaihhlbgccoaa.Ring

def S : Nat → (Nat → Int) → Int
 | 0, _ => 0
 | n + 1, g => S n g + g n
theorem S_congr : ∀ (n : Nat) (f g : Nat → Int), (∀ i, i < n → f i = g i) → S n f = S n g
 | 0, _, _, _ => rfl
 | n + 1, f, g, h => by simp only [S]; rw [S_congr n f g (fun i hi => h i (by omega)), h n (by omega)]
theorem S_add : ∀ (n : Nat) (f g : Nat → Int), S n (fun i => f i + g i) = S n f + S n g
 | 0, _, _ => rfl
 | n + 1, f, g => by simp only [S]; rw [S_add n f g]; omega
theorem S_neg : ∀ (n : Nat) (f : Nat → Int), S n (fun i => - f i) = - S n f
 | 0, _ => rfl
 | n + 1, f => by simp only [S]; rw [S_neg n f]; omega
theorem S_mul : ∀ (n : Nat) (c : Int) (f : Nat → Int), S n (fun i => c * f i) = c * S n f
 | 0, _, _ => by simp [S]
 | n + 1, c, f => by simp only [S]; rw [S_mul n c f, Int.mul_add]
theorem S_mulr : ∀ (n : Nat) (c : Int) (f : Nat → Int), S n (fun i => f i * c) = S n f * c
 | 0, _, _ => by simp [S]
 | n + 1, c, f => by simp only [S]; rw [S_mulr n c f, Int.add_mul]
theorem S_zero : ∀ (n : Nat) (f : Nat → Int), (∀ i, i < n → f i = 0) → S n f = 0
 | 0, _, _ => rfl
 | n + 1, f, h => by simp only [S]; rw [S_zero n f (fun i hi => h i (by omega)), h n (by omega)]; rfl
theorem S_swap : ∀ (n m : Nat) (f : Nat → Nat → Int), S n (fun i => S m (fun k => f i k)) = S m (fun k => S n (fun i => f i k))
 | 0, m, f => by simp only [S]; exact (S_zero m _ (fun _ _ => rfl)).symm
 | n + 1, m, f => by simp only [S]; rw [S_swap n m f, ← S_add]
theorem S_first : ∀ (n : Nat) (g : Nat → Int), S (n + 1) g = g 0 + S n (fun i => g (i + 1))
 | 0, g => by simp [S]
 | n + 1, g => by
  have h := S_first n g
  simp only [S] at h ⊢; rw [h]; omega
theorem S_one (n k : Nat) (f : Nat → Int) (hk : k < n) (h : ∀ i, i < n → i ≠ k → f i = 0) : S n f = f k := by
 induction n with
 | zero => omega
 | succ n ih =>
  simp only [S]
  by_cases e : k = n
  ·subst e
   rw [S_zero k f (fun i hi => h i (by omega) (by omega))]; omega
  ·rw [ih (by omega) (fun i hi hne => h i (by omega) hne), h n (by omega) (by omega)]; omega

abbrev Vec := Nat → Int
/-- Nothing from place M on. -/
def Supp (M : Nat) (v : Vec) : Prop := ∀ j, M ≤ j → v j = 0
def e (k : Nat) : Vec := fun j => if j = k then 1 else 0
/-- Times X, reduced. -/
def T (M : Nat) (low : Vec) (v : Vec) : Vec := fun j => if j < M then (if j = 0 then 0 else v (j - 1)) - v (M - 1) * low j else 0
def it (M : Nat) (low : Vec) : Nat → Vec → Vec
 | 0, v => v
 | k + 1, v => T M low (it M low k v)
/-- The product. -/
def B (M : Nat) (low : Vec) (a b : Vec) : Vec := fun j => S M (fun i => b i * it M low i a j)
section
variable {M : Nat} {low : Vec}
theorem T_supp (v : Vec) : Supp M (T M low v) := fun j hj => by unfold T; rw [if_neg (by omega)]
theorem it_supp : ∀ (k : Nat) {v : Vec}, Supp M v → Supp M (it M low k v)
 | 0, _, h => h
 | _ + 1, _, _ => T_supp _
theorem B_supp {a b : Vec} (ha : Supp M a) : Supp M (B M low a b) := fun j hj => by
 unfold B; exact S_zero M _ (fun i _ => by rw [it_supp i ha j hj, Int.mul_zero])
/-- T of a sum of multiples. -/
theorem T_S (n : Nat) (c : Nat → Int) (f : Nat → Vec) : T M low (fun j => S n (fun i => c i * f i j)) = fun j => S n (fun i => c i * T M low (f i) j) := by
 funext j
 unfold T
 by_cases h : j < M
 ·simp only [if_pos h]
  by_cases h0 : j = 0
  ·simp only [if_pos h0]
   rw [← S_mulr, Int.zero_sub, ← S_neg]
   refine S_congr n _ _ (fun i _ => ?_)
   rw [Int.zero_sub, Int.mul_neg, Int.mul_assoc]
  ·simp only [if_neg h0]
   rw [← S_mulr, Int.sub_eq_add_neg, ← S_neg, ← S_add]
   refine S_congr n _ _ (fun i _ => ?_)
   rw [Int.mul_sub, Int.mul_assoc, Int.sub_eq_add_neg]
 ·simp only [if_neg h]
  exact (S_zero n _ (fun i _ => Int.mul_zero _)).symm
theorem it_S (n : Nat) (c : Nat → Int) (f : Nat → Vec) : ∀ k, it M low k (fun j => S n (fun i => c i * f i j)) = fun j => S n (fun i => c i * it M low k (f i) j)
 | 0 => rfl
 | k + 1 => by simp only [it]; rw [it_S n c f k, T_S]
theorem it_add (m : Nat) : ∀ (n : Nat) (v : Vec), it M low (n + m) v = it M low n (it M low m v)
 | 0, v => by simp [it]
 | n + 1, v => by rw [show n + 1 + m = (n + m) + 1 by omega]; simp only [it]; rw [it_add m n v]
theorem it_comm (m n : Nat) (v : Vec) : it M low n (it M low m v) = it M low m (it M low n v) := by
 rw [← it_add, ← it_add, Nat.add_comm]
theorem it_e0 : ∀ k, k < M → it M low k (e 0) = e k
 | 0, _ => rfl
 | k + 1, h => by
  simp only [it]; rw [it_e0 k (by omega)]
  funext j
  unfold T e
  by_cases hj : j < M
  ·rw [if_pos hj, if_neg (show ¬ M - 1 = k by omega), Int.zero_mul, Int.sub_zero]
   by_cases h0 : j = 0
   ·rw [if_pos h0, if_neg (by omega)]
   ·rw [if_neg h0]
    by_cases h1 : j - 1 = k
    ·rw [if_pos h1, if_pos (by omega)]
    ·rw [if_neg h1, if_neg (by omega)]
  ·rw [if_neg hj, if_neg (by omega)]
theorem expand {v : Vec} (h : Supp M v) : v = fun j => S M (fun k => v k * it M low k (e 0) j) := by
 funext j
 by_cases hj : j < M
 ·rw [S_one M j _ hj (fun i hi hne => by rw [it_e0 i hi]; unfold e; rw [if_neg (by omega), Int.mul_zero]), it_e0 j hj]
  unfold e; rw [if_pos rfl, Int.mul_one]
 ·rw [h j (by omega)]
  exact (S_zero M _ (fun i hi => by rw [it_e0 i hi]; unfold e; rw [if_neg (by omega), Int.mul_zero])).symm
theorem itM_e0 (hM : 0 < M) : it M low M (e 0) = fun j => S M (fun t => (- low t) * it M low t (e 0) j) := by
 obtain ⟨m, rfl⟩ : ∃ m, M = m + 1 := ⟨M - 1, by omega⟩
 funext j
 have h1 : it (m + 1) low (m + 1) (e 0) = T (m + 1) low (e m) := by simp only [it]; rw [it_e0 m (by omega)]
 rw [h1]
 by_cases hj : j < m + 1
 ·rw [S_one (m + 1) j _ hj (fun i hi hne => by rw [it_e0 i hi]; unfold e; rw [if_neg (by omega), Int.mul_zero]), it_e0 j hj]
  unfold T e
  rw [if_pos hj, if_pos rfl, Int.mul_one]
  have e1 : m + 1 - 1 = m := by omega
  rw [e1, if_pos rfl]
  by_cases h0 : j = 0
  ·rw [if_pos h0]; omega
  ·rw [if_neg h0, if_neg (by omega)]; omega
 ·rw [T_supp _ j (by omega)]
  exact (S_zero (m + 1) _ (fun i hi => by rw [it_e0 i hi]; unfold e; rw [if_neg (by omega), Int.mul_zero])).symm
/-- The polynomial at T is 0. -/
theorem itM (hM : 0 < M) {v : Vec} (h : Supp M v) : it M low M v = fun j => S M (fun t => (- low t) * it M low t v j) := by
 have hv := expand (low := low) h
 have h1 : it M low M v = fun j => S M (fun k => v k * it M low M (it M low k (e 0)) j) := by
  have := it_S (M := M) (low := low) M v (fun k => it M low k (e 0)) M
  rw [← hv] at this; exact this
 rw [h1]
 funext j
 have h2 : ∀ k, it M low M (it M low k (e 0)) j = S M (fun t => (- low t) * it M low k (it M low t (e 0)) j) := by
  intro k
  rw [it_comm, itM_e0 hM]
  have := it_S (M := M) (low := low) M (fun t => - low t) (fun t => it M low t (e 0)) k
  exact congrFun this j
 have h3 : ∀ t, it M low t v j = S M (fun k => v k * it M low t (it M low k (e 0)) j) := by
  intro t
  have := it_S (M := M) (low := low) M v (fun k => it M low k (e 0)) t
  rw [← hv] at this; exact congrFun this j
 have l1 : S M (fun k => v k * it M low M (it M low k (e 0)) j) = S M (fun k => S M (fun t => v k * ((- low t) * it M low k (it M low t (e 0)) j))) :=
  S_congr M _ _ (fun k _ => by rw [h2 k, S_mul])
 have l2 : S M (fun t => (- low t) * it M low t v j) = S M (fun t => S M (fun k => (- low t) * (v k * it M low t (it M low k (e 0)) j))) :=
  S_congr M _ _ (fun t _ => by rw [h3 t, S_mul])
 rw [l1, l2, S_swap]
 refine S_congr M _ _ (fun t _ => S_congr M _ _ (fun k _ => ?_))
 rw [it_comm k t, Int.mul_left_comm]
theorem B_T (hM : 0 < M) {a b : Vec} (ha : Supp M a) : B M low a (T M low b) = T M low (B M low a b) := by
 have hT := T_S (M := M) (low := low) M b (fun i => it M low i a)
 unfold B
 rw [hT]
 obtain ⟨m, rfl⟩ : ∃ m, M = m + 1 := ⟨M - 1, by omega⟩
 funext j
 have h1 : S (m + 1) (fun i => T (m + 1) low b i * it (m + 1) low i a j) = S (m + 1) (fun i => (if i = 0 then 0 else b (i - 1)) * it (m + 1) low i a j) + b m * S (m + 1) (fun i => (- low i) * it (m + 1) low i a j) := by
  rw [← S_mul, ← S_add]
  refine S_congr _ _ _ (fun i hi => ?_)
  unfold T
  rw [if_pos hi, show m + 1 - 1 = m by omega, Int.sub_mul, Int.neg_mul, Int.mul_neg, Int.mul_assoc, Int.sub_eq_add_neg]
 rw [h1, S_first]
 have h2 := congrFun (itM (low := low) (by omega : 0 < m + 1) ha) j
 rw [← h2]
 simp only [if_pos, Int.zero_mul, Int.zero_add]
 simp only [S]
 have h3 : S m (fun i => (if i + 1 = 0 then 0 else b (i + 1 - 1)) * it (m + 1) low (i + 1) a j) = S m (fun i => b i * T (m + 1) low (it (m + 1) low i a) j) := by
  refine S_congr _ _ _ (fun i _ => ?_)
  rw [if_neg (by omega), show i + 1 - 1 = i by omega]; rfl
 rw [h3]; rfl
theorem B_it (hM : 0 < M) {a b : Vec} (ha : Supp M a) : ∀ k, B M low a (it M low k b) = it M low k (B M low a b)
 | 0 => rfl
 | k + 1 => by simp only [it]; rw [B_T hM ha, B_it hM ha k]
theorem B_S (n : Nat) (a : Vec) (c : Nat → Int) (f : Nat → Vec) : B M low a (fun j => S n (fun i => c i * f i j)) = fun j => S n (fun i => c i * B M low a (f i) j) := by
 funext j
 unfold B
 have h1 : S M (fun i => S n (fun k => c k * f k i) * it M low i a j) = S M (fun i => S n (fun k => c k * (f k i * it M low i a j))) :=
  S_congr M _ _ (fun i _ => by rw [← S_mulr]; exact S_congr n _ _ (fun k _ => Int.mul_assoc _ _ _))
 rw [h1, S_swap]
 exact S_congr n _ _ (fun k _ => S_mul M _ _)
theorem B_assoc (hM : 0 < M) {a : Vec} (ha : Supp M a) (b c : Vec) : B M low a (B M low b c) = B M low (B M low a b) c := by
 have h := B_S (M := M) (low := low) M a c (fun i => it M low i b)
 have e1 : B M low a (B M low b c) = fun j => S M (fun i => c i * B M low a (it M low i b) j) := h
 rw [e1]
 funext j
 exact S_congr M _ _ (fun i _ => by rw [B_it hM ha i])
theorem B_two {a b : Vec} (ha : Supp M a) (j : Nat) : B M low a b j = S M (fun i => S M (fun k => b i * (a k * it M low (i + k) (e 0) j))) := by
 unfold B
 refine S_congr M _ _ (fun i _ => ?_)
 have h := it_S (M := M) (low := low) M a (fun k => it M low k (e 0)) i
 rw [← expand ha] at h
 rw [congrFun h j, ← S_mul]
 exact S_congr M _ _ (fun k _ => by rw [it_add])
theorem B_comm {a b : Vec} (ha : Supp M a) (hb : Supp M b) : B M low a b = B M low b a := by
 funext j
 rw [B_two ha, B_two hb, S_swap]
 refine S_congr M _ _ (fun i _ => S_congr M _ _ (fun k _ => ?_))
 rw [Int.mul_left_comm, Nat.add_comm]
theorem B_one {a : Vec} (hM : 0 < M) : B M low a (e 0) = a := by
 funext j
 unfold B
 rw [S_one M 0 _ hM (fun i _ hne => by unfold e; rw [if_neg (by omega), Int.zero_mul])]
 unfold e; rw [if_pos rfl, Int.one_mul]; rfl
end
/-! Congruence. -/
theorem S_cg {P : Int} : ∀ (n : Nat) (f g : Nat → Int), (∀ i, i < n → f i % P = g i % P) → S n f % P = S n g % P
 | 0, _, _, _ => rfl
 | n + 1, f, g, h => by
  simp only [S]
  rw [Int.add_emod, S_cg n f g (fun i hi => h i (by omega)), h n (by omega), ← Int.add_emod]
theorem T_cg {P : Int} {M : Nat} {low u v : Vec} (h : ∀ j, u j % P = v j % P) (j : Nat) : T M low u j % P = T M low v j % P := by
 unfold T
 by_cases hj : j < M
 ·rw [if_pos hj, if_pos hj]
  have h1 : (u (M - 1) * low j) % P = (v (M - 1) * low j) % P := by rw [Int.mul_emod, h, ← Int.mul_emod]
  by_cases h0 : j = 0
  ·rw [if_pos h0, if_pos h0, Int.sub_emod, h1, ← Int.sub_emod]
  ·rw [if_neg h0, if_neg h0, Int.sub_emod, h (j - 1), h1, ← Int.sub_emod]
 ·rw [if_neg hj, if_neg hj]
theorem it_cg {P : Int} {M : Nat} {low u v : Vec} (h : ∀ j, u j % P = v j % P) : ∀ (k j : Nat), it M low k u j % P = it M low k v j % P
 | 0, j => h j
 | k + 1, j => T_cg (it_cg h k) j
theorem B_cg {P : Int} {M : Nat} {low a a' b b' : Vec} (ha : ∀ j, a j % P = a' j % P) (hb : ∀ j, b j % P = b' j % P) (j : Nat) : B M low a b j % P = B M low a' b' j % P := by
 unfold B
 refine S_cg M _ _ (fun i _ => ?_)
 rw [Int.mul_emod, hb i, it_cg ha i j, ← Int.mul_emod]
end Go.Proofs.Ythgaihhlbgccoaa.Ring
/- Numbers and their digits; the product of residues as one of numbers below P^M. Plain laws, no program in sight. -/
namespace Go.Proofs.Ythgaihhlbgccoaa.Dig
open Go.Proofs.Ythgaihhlbgccoaa.Ring

/-- Digit i of x in base P. -/
def dg (P x : Int) (i : Nat) : Int := x / P ^ i % P
/-- The number with the digits f below place M. -/
def val (P : Int) (M : Nat) (f : Nat → Int) : Int := S M (fun i => f i * P ^ i)
theorem pow_pos {P : Int} (hP : 0 < P) : ∀ i : Nat, 0 < P ^ i
 | 0 => by simp
 | i + 1 => by rw [Int.pow_succ]; exact Int.mul_pos (pow_pos hP i) hP
theorem dg_range {P : Int} (hP : 0 < P) (x : Int) (i : Nat) : 0 ≤ dg P x i ∧ dg P x i < P := ⟨Int.emod_nonneg _ (by omega), Int.emod_lt_of_pos _ hP⟩
theorem dg_succ {P : Int} (hP : 0 < P) (x : Int) (i : Nat) : dg P x (i + 1) = dg P (x / P) i := by
 unfold dg
 rw [Int.pow_succ, Int.mul_comm, ← Int.ediv_ediv_of_nonneg (by omega)]
theorem val_succ (P : Int) (M : Nat) (f : Nat → Int) : val P (M + 1) f = f 0 + P * val P M (fun i => f (i + 1)) := by
 unfold val
 rw [S_first, ← S_mul]
 rw [Int.pow_zero, Int.mul_one]
 congr 1
 refine S_congr M _ _ (fun i _ => ?_)
 rw [Int.pow_succ, ← Int.mul_assoc, Int.mul_comm _ P]
theorem val_range {P : Int} (hP : 0 < P) : ∀ (M : Nat) (f : Nat → Int), (∀ i, i < M → 0 ≤ f i ∧ f i < P) → 0 ≤ val P M f ∧ val P M f < P ^ M
 | 0, f, _ => by simp [val, S]
 | M + 1, f, h => by
  have ih := val_range hP M (fun i => f (i + 1)) (fun i hi => h (i + 1) (by omega))
  have h0 := h 0 (by omega)
  rw [val_succ, Int.pow_succ]
  have h1 : P * val P M (fun i => f (i + 1)) ≤ P * (P ^ M - 1) := Int.mul_le_mul_of_nonneg_left (by omega) (by omega)
  have h2 : P * (P ^ M - 1) = P ^ M * P - P := by rw [Int.mul_sub, Int.mul_one, Int.mul_comm]
  have h3 := Int.mul_nonneg (show 0 ≤ P by omega) ih.1
  omega
theorem dg_val {P : Int} (hP : 0 < P) : ∀ (M : Nat) (f : Nat → Int), (∀ i, i < M → 0 ≤ f i ∧ f i < P) → ∀ j, j < M → dg P (val P M f) j = f j
 | 0, _, _, j, hj => by omega
 | M + 1, f, h, 0, _ => by
  have h0 := h 0 (by omega)
  rw [val_succ]; unfold dg
  rw [Int.pow_zero, Int.ediv_one, Int.add_mul_emod_self_left, Int.emod_eq_of_lt h0.1 h0.2]
 | M + 1, f, h, j + 1, hj => by
  have h0 := h 0 (by omega)
  rw [val_succ, dg_succ hP, Int.add_mul_ediv_left _ _ (by omega), Int.ediv_eq_zero_of_lt h0.1 h0.2, Int.zero_add]
  exact dg_val hP M _ (fun i hi => h (i + 1) (by omega)) j (by omega)
theorem val_dg {P : Int} (hP : 0 < P) : ∀ (M : Nat) (x : Int), 0 ≤ x → x < P ^ M → val P M (dg P x) = x
 | 0, x, h0, h1 => by simp at h1; simp [val, S]; omega
 | M + 1, x, h0, h1 => by
  rw [val_succ]
  have e : (fun i => dg P x (i + 1)) = dg P (x / P) := funext (fun i => dg_succ hP x i)
  rw [e, val_dg hP M (x / P) (Int.ediv_nonneg h0 (by omega)) (by
   rw [Int.pow_succ] at h1
   exact Int.ediv_lt_of_lt_mul hP h1)]
  unfold dg
  rw [Int.pow_zero, Int.ediv_one, Int.emod_add_mul_ediv]
theorem val_congr (P : Int) (M : Nat) (f g : Nat → Int) (h : ∀ i, i < M → f i = g i) : val P M f = val P M g := S_congr M _ _ (fun i hi => by rw [h i hi])
/-- The digits below place M, as coefficients. -/
def dv (P : Int) (M : Nat) (x : Int) : Vec := fun j => if j < M then dg P x j else 0
theorem dv_supp (P : Int) (M : Nat) (x : Int) : Supp M (dv P M x) := fun j hj => by unfold dv; rw [if_neg (by omega)]
/-- The product of residues. -/
def mul (P : Int) (M : Nat) (low : Vec) (x y : Int) : Int := val P M (fun j => B M low (dv P M x) (dv P M y) j % P)
section
variable {P : Int} {M : Nat} {low : Vec}
theorem emod_range (hP : 0 < P) (z : Int) : 0 ≤ z % P ∧ z % P < P := ⟨Int.emod_nonneg _ (by omega), Int.emod_lt_of_pos _ hP⟩
theorem mul_range (hP : 0 < P) (x y : Int) : 0 ≤ mul P M low x y ∧ mul P M low x y < P ^ M := val_range hP M _ (fun _ _ => emod_range hP _)
theorem dv_mul (hP : 0 < P) (x y : Int) (j : Nat) : dv P M (mul P M low x y) j % P = B M low (dv P M x) (dv P M y) j % P := by
 unfold dv mul
 by_cases hj : j < M
 ·rw [if_pos hj, dg_val hP M _ (fun _ _ => emod_range hP _) j hj, Int.emod_emod_of_dvd _ (Int.dvd_refl P)]; rfl
 ·rw [if_neg hj]
  have := B_supp (M := M) (low := low) (b := dv P M y) (dv_supp P M x) j (by omega)
  exact (congrArg (· % P) this).symm
theorem mul_assoc (hP : 0 < P) (hM : 0 < M) (x y z : Int) : mul P M low (mul P M low x y) z = mul P M low x (mul P M low y z) := by
 unfold mul
 refine val_congr P M _ _ (fun j _ => ?_)
 have h1 := B_cg (P := P) (M := M) (low := low) (a := dv P M (mul P M low x y)) (a' := B M low (dv P M x) (dv P M y)) (b := dv P M z) (b' := dv P M z) (dv_mul hP x y) (fun _ => rfl) j
 have h2 := B_cg (P := P) (M := M) (low := low) (a := dv P M x) (a' := dv P M x) (b := dv P M (mul P M low y z)) (b' := B M low (dv P M y) (dv P M z)) (fun _ => rfl) (dv_mul hP y z) j
 have h3 := congrFun (B_assoc (low := low) hM (dv_supp P M x) (dv P M y) (dv P M z)) j
 show B M low (dv P M (mul P M low x y)) (dv P M z) j % P = B M low (dv P M x) (dv P M (mul P M low y z)) j % P
 rw [h1, h2, h3]
theorem mul_comm (x y : Int) : mul P M low x y = mul P M low y x := by
 unfold mul
 rw [B_comm (dv_supp P M x) (dv_supp P M y)]
theorem dv_one (hP : 1 < P) (hM : 0 < M) (j : Nat) : dv P M 1 j = e 0 j := by
 unfold dv e dg
 by_cases hj : j < M
 ·rw [if_pos hj]
  by_cases h0 : j = 0
  ·subst h0; rw [if_pos rfl, Int.pow_zero, Int.ediv_one]; exact Int.emod_eq_of_lt (by omega) hP
  ·rw [if_neg h0]
   have : 1 < P ^ j := by
    obtain ⟨i, rfl⟩ : ∃ i, j = i + 1 := ⟨j - 1, by omega⟩
    rw [Int.pow_succ]
    have := pow_pos (show 0 < P by omega) i
    have h2 : 1 * P ≤ P ^ i * P := Int.mul_le_mul_of_nonneg_right (by omega) (by omega)
    omega
   rw [Int.ediv_eq_zero_of_lt (by omega) this]; simp
 ·rw [if_neg hj, if_neg (by omega)]
theorem mul_one (hP : 1 < P) (hM : 0 < M) {x : Int} (h0 : 0 ≤ x) (h1 : x < P ^ M) : mul P M low x 1 = x := by
 unfold mul
 have e1 : dv P M 1 = e 0 := funext (dv_one hP hM)
 rw [e1, B_one hM]
 have h := val_dg (show 0 < P by omega) M x h0 h1
 refine (val_congr P M _ _ (fun j hj => ?_)).trans h
 unfold dv; rw [if_pos hj]
 exact Int.emod_eq_of_lt (dg_range (by omega) x j).1 (dg_range (by omega) x j).2
theorem mul_zero (x : Int) : mul P M low x 0 = 0 := by
 have h : ∀ j, dv P M 0 j = 0 := fun j => by unfold dv dg; split <;> simp
 unfold mul val
 refine S_zero M _ (fun j _ => ?_)
 have : B M low (dv P M x) (dv P M 0) j = 0 := by unfold B; exact S_zero M _ (fun i _ => by rw [h, Int.zero_mul])
 show B M low (dv P M x) (dv P M 0) j % P * P ^ j = 0
 rw [this]; simp
end
end Go.Proofs.Ythgaihhlbgccoaa.Dig
/- Pigeons; powers of an element. Plain laws, no program in sight. -/
namespace Go.Proofs.Ythgaihhlbgccoaa.Pig
open Go.Proofs.Ythgaihhlbgccoaa.Ring Go.Proofs.Ythgaihhlbgccoaa.Dig
theorem onto : ∀ (n : Nat) (f : Nat → Nat), (∀ i, i < n → f i < n) → (∀ i j, i < j → j < n → f i ≠ f j) → ∀ y, y < n → ∃ i, i < n ∧ f i = y
 | 0, _, _, _, y, hy => by omega
 | n + 1, f, hb, hi, y, hy => by
  have ih := onto n (fun i => if f i = n then f n else f i) (fun i h => by
   show (if f i = n then f n else f i) < n
   have h1 := hb i (by omega)
   have h2 := hb n (by omega)
   have h3 := hi i n h (by omega)
   split <;> omega) (fun i j h1 h2 => by
   show (if f i = n then f n else f i) ≠ (if f j = n then f n else f j)
   have h3 := hi i j h1 (by omega)
   have h4 := hi i n (by omega) (by omega)
   have h5 := hi j n (by omega) (by omega)
   split <;> split <;> omega)
  by_cases e : f n = y
  ·exact ⟨n, by omega, e⟩
  by_cases e2 : y = n
  ·-- n is some f i, or all are below n
   refine Classical.byContradiction fun hno => ?_
   have hlt : ∀ i, i < n + 1 → f i < n := fun i h => by
    have := hb i h
    have : f i ≠ n := fun e3 => hno ⟨i, h, by omega⟩
    omega
   obtain ⟨i, h1, h2⟩ := ih (f n) (hlt n (by omega))
   have h3 := hi i n h1 (by omega)
   have h4 := hlt i (by omega)
   rw [if_neg (by omega)] at h2
   exact h3 h2
  ·obtain ⟨i, h1, h2⟩ := ih y (by omega)
   by_cases e3 : f i = n
   ·rw [if_pos e3] at h2; exact absurd h2 e
   ·rw [if_neg e3] at h2; exact ⟨i, by omega, h2⟩
theorem bound {n q : Nat} {f : Nat → Nat} (hb : ∀ i, i < n → f i < q) (hi : ∀ i j, i < j → j < n → f i ≠ f j) : n ≤ q := by
 refine Classical.byContradiction fun h => ?_
 obtain ⟨i, h1, h2⟩ := onto q f (fun i h' => hb i (by omega)) (fun i j h1 h2 => hi i j h1 (by omega)) (f q) (hb q (by omega))
 exact hi i q h1 (by omega) h2
section
variable {P : Int} {M : Nat} {lw : Vec}
/-- Powers of x. -/
def mpw (P : Int) (M : Nat) (lw : Vec) (x : Int) : Nat → Int
 | 0 => 1
 | n + 1 => mul P M lw (mpw P M lw x n) x
theorem one_lt {P : Int} (hP : 1 < P) {M : Nat} (hM : 0 < M) : 1 < P ^ M := by
 obtain ⟨m, rfl⟩ : ∃ m, M = m + 1 := ⟨M - 1, by omega⟩
 rw [Int.pow_succ]
 have h := pow_pos (show 0 < P by omega) m
 have h2 : 1 * P ≤ P ^ m * P := Int.mul_le_mul_of_nonneg_right (by omega) (by omega)
 omega
theorem mpw_range (hP : 1 < P) (hM : 0 < M) (x : Int) : ∀ n, 0 ≤ mpw P M lw x n ∧ mpw P M lw x n < P ^ M
 | 0 => ⟨by simp [mpw], by have := one_lt hP hM; simpa [mpw] using this⟩
 | n + 1 => mul_range (by omega) _ _
theorem one_mul (hP : 1 < P) (hM : 0 < M) {x : Int} (h0 : 0 ≤ x) (h1 : x < P ^ M) : mul P M lw 1 x = x := by rw [mul_comm, mul_one hP hM h0 h1]
theorem mpw_add (hP : 1 < P) (hM : 0 < M) (x : Int) (i : Nat) : ∀ j, mpw P M lw x (i + j) = mul P M lw (mpw P M lw x i) (mpw P M lw x j)
 | 0 => by
  have h := mpw_range (lw := lw) hP hM x i
  simp only [Nat.add_zero, mpw]
  rw [mul_one hP hM h.1 h.2]
 | j + 1 => by
  show mul P M lw (mpw P M lw x (i + j)) x = mul P M lw (mpw P M lw x i) (mul P M lw (mpw P M lw x j) x)
  rw [mpw_add hP hM x i j, mul_assoc (by omega) hM]
/-- x^n = 1, and not before. -/
def Ord (P : Int) (M : Nat) (lw : Vec) (x : Int) (n : Nat) : Prop := mpw P M lw x n = 1 ∧ ∀ i, 0 < i → i < n → mpw P M lw x i ≠ 1
theorem Ord.ne (hP : 1 < P) (hM : 0 < M) {x : Int} {n : Nat} (h : Ord P M lw x n) {i j : Nat} (h1 : i < j) (h2 : j < n) : mpw P M lw x i ≠ mpw P M lw x j := by
 intro e
 have e1 : mpw P M lw x (i + (n - j)) = mpw P M lw x (j + (n - j)) := by rw [mpw_add hP hM, mpw_add hP hM, e]
 rw [show j + (n - j) = n by omega, h.1] at e1
 exact h.2 (i + (n - j)) (by omega) (by omega) e1
theorem Ord.ne0 (hP : 1 < P) (hM : 0 < M) {x : Int} {n : Nat} (h : Ord P M lw x n) {i : Nat} (h2 : i ≤ n) : mpw P M lw x i ≠ 0 := by
 intro e
 have e1 : mpw P M lw x (i + (n - i)) = 0 := by rw [mpw_add hP hM, e, mul_comm, mul_zero]
 rw [show i + (n - i) = n by omega, h.1] at e1
 omega
/-- Every nonzero residue is a power. -/
theorem Ord.all (hP : 1 < P) (hM : 0 < M) {x : Int} {n : Nat} (hn : (n : Int) + 1 = P ^ M) (h : Ord P M lw x n) {y : Int} (h0 : 0 < y) (h1 : y < P ^ M) : ∃ i, i < n ∧ mpw P M lw x i = y := by
 obtain ⟨i, h2, h3⟩ := onto n (fun i => (mpw P M lw x i).toNat - 1) (fun i hi => by
  have h1 := mpw_range (lw := lw) hP hM x i
  have h2 := h.ne0 hP hM (show i ≤ n by omega)
  show (mpw P M lw x i).toNat - 1 < n
  omega) (fun i j h1 h2 => by
  have h3 := h.ne hP hM h1 h2
  have h4 := mpw_range (lw := lw) hP hM x i
  have h5 := mpw_range (lw := lw) hP hM x j
  have h6 := h.ne0 hP hM (show i ≤ n by omega)
  have h7 := h.ne0 hP hM (show j ≤ n by omega)
  show (mpw P M lw x i).toNat - 1 ≠ (mpw P M lw x j).toNat - 1
  omega) (y.toNat - 1) (by omega)
 refine ⟨i, h2, ?_⟩
 have h4 := mpw_range (lw := lw) hP hM x i
 have h6 := h.ne0 hP hM (show i ≤ n by omega)
 have h3' : (mpw P M lw x i).toNat - 1 = y.toNat - 1 := h3
 omega
/-- So there are no zero divisors. -/
theorem Ord.nozero (hP : 1 < P) (hM : 0 < M) {x : Int} {n : Nat} (hn : (n : Int) + 1 = P ^ M) (h : Ord P M lw x n) {a b : Int} (ha0 : 0 < a) (ha1 : a < P ^ M) (hb0 : 0 < b) (hb1 : b < P ^ M) : mul P M lw a b ≠ 0 := by
 obtain ⟨i, h1, rfl⟩ := h.all hP hM hn ha0 ha1
 obtain ⟨j, h2, rfl⟩ := h.all hP hM hn hb0 hb1
 intro e
 have e1 : mpw P M lw x ((n - i) + (i + j)) = 0 := by rw [mpw_add hP hM, mpw_add hP hM, e, mul_zero]
 have e2 : mpw P M lw x (n + j) = mpw P M lw x j := by
  rw [mpw_add hP hM, h.1]
  have h4 := mpw_range (lw := lw) hP hM x j
  exact one_mul hP hM h4.1 h4.2
 rw [show (n - i) + (i + j) = n + j by omega, e2] at e1
 exact h.ne0 hP hM (show j ≤ n by omega) e1
end
end Go.Proofs.Ythgaihhlbgccoaa.Pig
