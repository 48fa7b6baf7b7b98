-- Joined by pack.py, a program of this work: Fv Fm Fo Fs Fp Ker Fn
import Derived.Test.YthgaihhlbgccoaaZF1
import Derived.Test.YthgaihhlbgccoaaZQa
import Derived.Test.YthgaihhlbgccoaaZQc
import Derived.Test.YthgaihhlbgccoaaZQb
/- What the printed digitsOf, valueOf and multiply (and digits, Value) compute. -/
namespace Go.Proofs.Ythgaihhlbgccoaa.Fv
open Go.RowKit Go.Proofs.Ythgaihhlbgccoaa.Q Go.Proofs.YthgaihhlbgccoaaW.PrintWords Go.Proofs.YthgaihhlbgccoaaW.PrintLast Go.Proofs.Ythgaihhlbgccoaa.Ring Go.Proofs.Ythgaihhlbgccoaa.Dig

theorem w64_id {n : Int} (h0 : -9223372036854775808 ≤ n) (h1 : n ≤ 9223372036854775807) : wrap64 n = n := by unfold wrap64; omega
def L (n : Nat) (f : Nat → Int) : List Int := (List.range n).map f
theorem L_length (n : Nat) (f : Nat → Int) : (L n f).length = n := by simp [L]
theorem rd_L (n : Nat) (f : Nat → Int) (i : Nat) (h : i < n) : rd (L n f) (i : Int) = f i := by
 unfold rd L
 simp [List.getD_eq_getElem?_getD, h]
theorem L_congr (n : Nat) (f g : Nat → Int) (h : ∀ i, i < n → f i = g i) : L n f = L n g := by
 unfold L
 apply List.map_congr_left
 intro t ht
 exact h t (by simpa using ht)
theorem L_set (n : Nat) (f : Nat → Int) (i : Nat) (v : Int) : (L n f).set i v = L n (fun t => if t = i then v else f t) := by
 apply List.ext_getElem
 ·simp [L]
 ·intro j h1 h2
  simp only [L, List.getElem_set, List.getElem_map, List.getElem_range]
  by_cases e : i = j
  ·subst e; simp
  ·rw [if_neg e, if_neg (by omega)]
theorem L_rep (n : Nat) : List.replicate n (0 : Int) = L n (fun _ => 0) := by
 apply List.ext_getElem
 ·simp [L]
 ·intro j h1 h2; simp [L]
theorem L_of (l : List Int) : l = L l.length (fun i => rd l (i : Int)) := by
 apply List.ext_getElem
 ·simp [L]
 ·intro j h1 h2; simp [L, rd, List.getD_eq_getElem?_getD, h1]
theorem L_shift (n : Nat) (f : Nat → Int) : ((L (n + 1) f).take 1 ++ (L (n + 1) f).take ((L (n + 1) f).length - 1)).set 0 0 = L (n + 1) (fun t => if t = 0 then 0 else f (t - 1)) := by
 apply List.ext_getElem
 ·simp [L]; omega
 ·intro j h1 h2
  rw [List.getElem_set]
  by_cases e : 0 = j
  ·subst e; simp [L]
  ·rw [if_neg e]
   simp only [L, List.getElem_map, List.getElem_range]
   rw [if_neg (by omega), List.getElem_append_right (by simp; omega)]
   simp
theorem pow_mono {P : Int} (hP : 1 ≤ P) {a b : Nat} (h : a ≤ b) : P ^ a ≤ P ^ b := by
 obtain ⟨d, rfl⟩ : ∃ d, b = a + d := ⟨b - a, by omega⟩
 induction d with
 | zero => simp
 | succ d ih =>
  have h1 := ih (by omega)
  rw [show a + (d + 1) = (a + d) + 1 by omega, Int.pow_succ]
  have h2 := pow_pos (show 0 < P by omega) (a + d)
  have h3 : P ^ (a + d) * 1 ≤ P ^ (a + d) * P := Int.mul_le_mul_of_nonneg_left hP (by omega)
  omega
theorem div_step {P x : Int} (hP : 0 < P) (i : Nat) : x / P ^ i / P = x / P ^ (i + 1) := by
 rw [Int.pow_succ, Int.ediv_ediv_of_nonneg (by have := pow_pos hP i; omega)]
theorem div_bounds {P x : Int} (hP : 0 < P) (hx : 0 ≤ x) (i : Nat) : 0 ≤ x / P ^ i ∧ x / P ^ i ≤ x :=
 ⟨Int.ediv_nonneg hx (by have := pow_pos hP i; omega), Int.ediv_le_self _ hx⟩
theorem dgs_l0 {P x : Int} (hP : 0 < P) (hx : 0 ≤ x) (hx1 : x ≤ 4611686018427387904) (M : Nat) (hM : M ≤ 4611686018427387904) : ∀ d i : Nat, i + d = M →
  Ev (fun k => field_digitsOf.l0 k (x / P ^ i) P (L M (fun t => if t < i then dg P x t else 0)) (M : Int) (i : Int)) (L M (dg P x))
 | 0, i, h => by
  refine Ev.step (f := fun _ => some (L M (dg P x))) (fun k => ?_) (Ev.now _)
  simp only [field_digitsOf.l0]
  rw [if_neg (by omega)]
  congr 1
  exact L_congr _ _ _ (fun t ht => by rw [if_pos (by omega)])
 | d + 1, i, h => by
  have hb := div_bounds hP hx i
  refine Ev.step (fun k => ?_) (dgs_l0 hP hx hx1 M hM d (i + 1) (by omega))
  simp only [field_digitsOf.l0]
  have hb2 := div_bounds hP hx (i + 1)
  rw [if_pos (by omega), if_neg (by omega), if_pos (by omega), L_length, if_pos (by omega), Int.tdiv_eq_ediv_of_nonneg hb.1, Int.tmod_eq_emod_of_nonneg hb.1, div_step hP, w64_id (by omega) (by omega), w64_id (by omega) (by omega), L_set, Int.toNat_natCast]
  congr 1
  refine L_congr _ _ _ (fun t ht => ?_)
  by_cases e : t = i
  ·subst e; rw [if_pos rfl, if_pos (by omega)]; rfl
  ·rw [if_neg e]
   by_cases e2 : t < i
   ·rw [if_pos e2, if_pos (by omega)]
   ·rw [if_neg e2, if_neg (by omega)]
theorem digitsOf_ev {P x : Int} (hP : 0 < P) (hx : 0 ≤ x) (hx1 : x ≤ 4611686018427387904) (M : Nat) (hM : M ≤ 35184372088832) : Ev (fun k => field_digitsOf.f k x P (M : Int)) (L M (dg P x)) := by
 have h := dgs_l0 hP hx hx1 M (by omega) M 0 (by omega)
 refine Ev.congr (fun k => ?_) h
 unfold field_digitsOf.f
 rw [if_pos (by omega), Int.toNat_natCast, if_pos (by omega)]
 simp only [Option.bind_some, List.length_replicate]
 rw [L_rep, Int.pow_zero, Int.ediv_one]
 congr 1
theorem rdgs_l0 {P x : Int} (hP : 0 < P) (hx : 0 ≤ x) (hx1 : x ≤ 4611686018427387904) (M : Nat) (hM : M ≤ 4611686018427387904) : ∀ d i : Nat, i + d = M →
  Ev (fun k => cr4_digits.l0 k (x / P ^ i) P (M : Int) (L M (fun t => if t < i then dg P x t else 0)) (i : Int)) (L M (dg P x))
 | 0, i, h => by
  refine Ev.step (f := fun _ => some (L M (dg P x))) (fun k => ?_) (Ev.now _)
  simp only [cr4_digits.l0]
  rw [if_neg (by omega)]
  congr 1
  exact L_congr _ _ _ (fun t ht => by rw [if_pos (by omega)])
 | d + 1, i, h => by
  have hb := div_bounds hP hx i
  refine Ev.step (fun k => ?_) (rdgs_l0 hP hx hx1 M hM d (i + 1) (by omega))
  simp only [cr4_digits.l0]
  have hb2 := div_bounds hP hx (i + 1)
  rw [if_pos (by omega), if_neg (by omega), if_pos (by omega), L_length, if_pos (by omega), Int.tdiv_eq_ediv_of_nonneg hb.1, Int.tmod_eq_emod_of_nonneg hb.1, div_step hP, w64_id (by omega) (by omega), w64_id (by omega) (by omega), L_set, Int.toNat_natCast]
  congr 1
  refine L_congr _ _ _ (fun t ht => ?_)
  by_cases e : t = i
  ·subst e; rw [if_pos rfl, if_pos (by omega)]; rfl
  ·rw [if_neg e]
   by_cases e2 : t < i
   ·rw [if_pos e2, if_pos (by omega)]
   ·rw [if_neg e2, if_neg (by omega)]
theorem digits_ev {P x : Int} (hP : 0 < P) (hx : 0 ≤ x) (hx1 : x ≤ 4611686018427387904) (M : Nat) (hM : M ≤ 35184372088832) : Ev (fun k => cr4_digits.f k x P (M : Int)) (L M (dg P x)) := by
 have h := rdgs_l0 hP hx hx1 M (by omega) M 0 (by omega)
 refine Ev.congr (fun k => ?_) h
 unfold cr4_digits.f
 rw [if_pos (by omega), Int.toNat_natCast, if_pos (by omega)]
 rw [L_rep, Int.pow_zero, Int.ediv_one]
 congr 1
theorem val_top {P : Int} (f : Nat → Int) {M i : Nat} (h : i < M) : val P (M - i) (fun t => f (i + t)) = f i + P * val P (M - (i + 1)) (fun t => f (i + 1 + t)) := by
 rw [show M - i = (M - (i + 1)) + 1 by omega, val_succ]
 congr 3
 funext t
 rw [show i + (t + 1) = i + 1 + t by omega]
theorem val_l0 {P : Int} (hP : 0 < P) (M : Nat) (hq : P ^ M ≤ 4611686018427387904) (hM : M ≤ 4611686018427387904) (f : Nat → Int) (hf : ∀ i, i < M → 0 ≤ f i ∧ f i < P) : ∀ i : Nat, i ≤ M →
  Ev (fun k => field_valueOf.l0 k (L M f) P (val P (M - i) (fun t => f (i + t))) ((i : Int) - 1)) (val P M f)
 | 0, _ => by
  refine Ev.step (f := fun _ => some (val P M f)) (fun k => ?_) (Ev.now _)
  simp only [field_valueOf.l0]
  rw [if_neg (by omega)]
  congr 1
  exact val_congr P _ _ _ (fun t _ => by rw [Nat.zero_add])
 | i + 1, h => by
  have ih := val_l0 hP M hq hM f hf i (by omega)
  have hv := val_top (P := P) f (show i < M by omega)
  have hr := val_range hP (M - i) (fun t => f (i + t)) (fun t ht => hf _ (by omega))
  have hr2 := val_range hP (M - (i + 1)) (fun t => f (i + 1 + t)) (fun t ht => hf _ (by omega))
  have h0 := hf i (by omega)
  have hm := pow_mono (show 1 ≤ P by omega) (show M - i ≤ M by omega)
  refine Ev.step (fun k => ?_) ih
  have e1 : ((i + 1 : Nat) : Int) - 1 = (i : Int) := by omega
  simp only [field_valueOf.l0, e1]
  rw [if_pos (by omega), if_pos (by omega), L_length, if_pos (by omega), rd_L _ _ _ (by omega)]
  rw [Int.mul_comm] at hv
  have hnn := Int.mul_nonneg hr2.1 (show 0 ≤ P by omega)
  rw [w64_id (n := val P (M - (i + 1)) (fun t => f (i + 1 + t)) * P) (by omega) (by omega), w64_id (n := (i : Int) - 1) (by omega) (by omega), w64_id (by omega) (by omega), Int.add_comm, ← hv]
theorem valueOf_ev {P : Int} (hP : 0 < P) (M : Nat) (hq : P ^ M ≤ 4611686018427387904) (hM : M ≤ 4611686018427387904) (f : Nat → Int) (hf : ∀ i, i < M → 0 ≤ f i ∧ f i < P) : Ev (fun k => field_valueOf.f k (L M f) P) (val P M f) := by
 refine Ev.congr (fun k => ?_) (val_l0 hP M hq hM f hf M (by omega))
 unfold field_valueOf.f
 rw [L_length, w64_id (by omega) (by omega), Nat.sub_self]; rfl
theorem rval_l0 {P : Int} (m : Int) (l : List Int) (hP : 0 < P) (M : Nat) (hq : P ^ M ≤ 4611686018427387904) (hM : M ≤ 4611686018427387904) (f : Nat → Int) (hf : ∀ i, i < M → 0 ≤ f i ∧ f i < P) : ∀ i : Nat, i ≤ M →
  Ev (fun k => cr4_Value.l0 k (L M f) (val P (M - i) (fun t => f (i + t))) ((i : Int) - 1) P m l) (val P M f)
 | 0, _ => by
  refine Ev.step (f := fun _ => some (val P M f)) (fun k => ?_) (Ev.now _)
  simp only [cr4_Value.l0]
  rw [if_neg (by omega)]
  congr 1
  exact val_congr P _ _ _ (fun t _ => by rw [Nat.zero_add])
 | i + 1, h => by
  have ih := rval_l0 m l hP M hq hM f hf i (by omega)
  have hv := val_top (P := P) f (show i < M by omega)
  have hr := val_range hP (M - i) (fun t => f (i + t)) (fun t ht => hf _ (by omega))
  have hr2 := val_range hP (M - (i + 1)) (fun t => f (i + 1 + t)) (fun t ht => hf _ (by omega))
  have h0 := hf i (by omega)
  have hm := pow_mono (show 1 ≤ P by omega) (show M - i ≤ M by omega)
  refine Ev.step (fun k => ?_) ih
  have e1 : ((i + 1 : Nat) : Int) - 1 = (i : Int) := by omega
  simp only [cr4_Value.l0, e1]
  rw [if_pos (by omega), if_pos (by omega), L_length, if_pos (by omega), rd_L _ _ _ (by omega)]
  rw [Int.mul_comm] at hv
  have hnn := Int.mul_nonneg hr2.1 (show 0 ≤ P by omega)
  rw [w64_id (n := val P (M - (i + 1)) (fun t => f (i + 1 + t)) * P) (by omega) (by omega), w64_id (n := (i : Int) - 1) (by omega) (by omega), w64_id (by omega) (by omega), Int.add_comm, ← hv]
theorem Value_ev {P : Int} (m : Int) (l : List Int) (hP : 0 < P) (M : Nat) (hq : P ^ M ≤ 4611686018427387904) (hM : M ≤ 4611686018427387904) (f : Nat → Int) (hf : ∀ i, i < M → 0 ≤ f i ∧ f i < P) : Ev (fun k => cr4_Value.f k P m l (L M f)) (val P M f) := by
 refine Ev.congr (fun k => ?_) (rval_l0 m l hP M hq hM f hf M (by omega))
 unfold cr4_Value.f
 rw [L_length, w64_id (by omega) (by omega), Nat.sub_self]; rfl
end Go.Proofs.Ythgaihhlbgccoaa.Fv
/- The printed multiply computes the product of residues. -/
namespace Go.Proofs.Ythgaihhlbgccoaa.Fm
open Go.RowKit Go.Proofs.Ythgaihhlbgccoaa.Q Go.Proofs.YthgaihhlbgccoaaW.PrintWords Go.Proofs.YthgaihhlbgccoaaW.PrintLast Go.Proofs.Ythgaihhlbgccoaa.Ring Go.Proofs.Ythgaihhlbgccoaa.Dig Go.Proofs.Ythgaihhlbgccoaa.Fv

/-- The low coefficients. -/
def low (M : Nat) (Mod : List Int) : Vec := fun j => if 1 < M then rd Mod (j : Int) else 0
/-- One round of Horner's rule: out times X plus c times a, reduced. -/
def nw (P : Int) (M : Nat) (lw o a : Vec) (c : Int) : Vec := fun t => if t < M then ((if t = 0 then 0 else o (t - 1)) + (P - o (M - 1)) * lw t + c * a t) % P else 0
theorem nw_range {P : Int} (hP : 0 < P) (M : Nat) (lw o a : Vec) (c : Int) (t : Nat) : 0 ≤ nw P M lw o a c t ∧ nw P M lw o a c t < P := by
 unfold nw
 split
 ·exact emod_range hP _
 ·omega
theorem nw_cg {P : Int} {M : Nat} {lw o a : Vec} {c : Int} (n : Nat) (b : Nat → Int) (ha : Supp M a) (ho : ∀ t, o t % P = S n (fun k => b (k + 1) * it M lw k a t) % P) (hc : c = b 0) (t : Nat) : nw P M lw o a c t % P = S (n + 1) (fun k => b k * it M lw k a t) % P := by
 have hT : T M lw o t % P = T M lw (fun j => S n (fun k => b (k + 1) * it M lw k a j)) t % P := T_cg ho t
 rw [T_S] at hT
 rw [S_first, hc.symm]
 have hit : it M lw 0 a t = a t := rfl
 rw [hit]
 by_cases h : t < M
 ·have e1 : nw P M lw o a c t = (T M lw o t + c * a t + P * lw t) % P := by
   unfold nw T
   rw [if_pos h, if_pos h]
   congr 1
   rw [Int.sub_mul]; omega
  rw [e1, Int.emod_emod_of_dvd _ (Int.dvd_refl P), Int.add_mul_emod_self_left, Int.add_emod, hT, ← Int.add_emod, Int.add_comm]
  rfl
 ·have e1 : nw P M lw o a c t = 0 := by unfold nw; rw [if_neg h]
  rw [e1, ha t (by omega), Int.mul_zero, S_zero n _ (fun k _ => by rw [it_supp (k + 1) ha t (by omega), Int.mul_zero])]; rfl
section
variable {P : Int} {M : Nat} {Mod : List Int}
theorem mul_bounds {a b : Int} (ha : 0 ≤ a ∧ a < P) (hb : 0 ≤ b ∧ b < P) (hP : P ≤ 65536) : 0 ≤ a * b ∧ a * b ≤ 4294967296 := by
 refine ⟨Int.mul_nonneg ha.1 hb.1, ?_⟩
 have h1 : a * b ≤ 65536 * b := Int.mul_le_mul_of_nonneg_right (by omega) (by omega)
 have h2 : (65536 : Int) * b ≤ 65536 * 65536 := Int.mul_le_mul_of_nonneg_left (by omega) (by omega)
 omega
theorem mul_l1 (hP : 0 < P) (hP1 : P ≤ 65536) (hM0 : 0 < M) (hM : M ≤ 64) (hl : 1 < M → Mod.length = M ∧ ∀ j, j < M → 0 ≤ rd Mod (j : Int) ∧ rd Mod (j : Int) < P) (a b : Vec) (hb : ∀ t, 0 ≤ b t ∧ b t < P) (ha : ∀ t, 0 ≤ a t ∧ a t < P) (o : Vec) (ho : ∀ t, 0 ≤ o t ∧ o t < P) (i : Nat) (hi : i < M) (r : Int)
  (h : Ev (fun k => field_multiply.l0 k (L M a) (L M b) (L M (nw P M (low M Mod) o a (b i))) ((i : Int) - 1) P M Mod) r) : ∀ d j : Nat, j + d = M →
  Ev (fun k => field_multiply.l1 k (L M a) (L M b) (L M (fun t => if t < j then nw P M (low M Mod) o a (b i) t else if t = 0 then 0 else o (t - 1))) (i : Int) (o (M - 1)) (M : Int) (j : Int) P M Mod) r
 | 0, j, hj => by
  refine Ev.step (fun k => ?_) h
  simp only [field_multiply.l1]
  rw [if_neg (by omega), w64_id (by omega) (by omega)]
  congr 1
  exact L_congr _ _ _ (fun t ht => by rw [if_pos (by omega)])
 | d + 1, j, hj => by
  refine Ev.step (fun k => ?_) (mul_l1 hP hP1 hM0 hM hl a b hb ha o ho i hi r h d (j + 1) (by omega))
  have hp2 := mul_bounds (hb i) (ha j) hP1
  have hsh : 0 ≤ (if j = 0 then 0 else o (j - 1)) ∧ (if j = 0 then 0 else o (j - 1)) < P := by
   split
   ·omega
   ·exact ho _
  simp only [field_multiply.l1]
  have e2 : rd (L M (fun t => if t < j then nw P M (low M Mod) o a (b i) t else if t = 0 then 0 else o (t - 1))) (j : Int) = (if j = 0 then 0 else o (j - 1)) := by
   rw [rd_L _ _ _ (by omega), if_neg (by omega)]
  have eset : ∀ v, v = nw P M (low M Mod) o a (b i) j → (L M (fun t => if t < j then nw P M (low M Mod) o a (b i) t else if t = 0 then 0 else o (t - 1))).set (j : Int).toNat v = L M (fun t => if t < j + 1 then nw P M (low M Mod) o a (b i) t else if t = 0 then 0 else o (t - 1)) := by
   rintro v rfl
   rw [L_set, Int.toNat_natCast]
   refine L_congr _ _ _ (fun t ht => ?_)
   by_cases e : t = j
   ·subst e; rw [if_pos rfl, if_pos (by omega)]
   ·rw [if_neg e]
    by_cases e2 : t < j
    ·rw [if_pos e2, if_pos (by omega)]
    ·rw [if_neg e2, if_neg (by omega : ¬ t < j + 1)]
  rw [if_pos (by omega), e2]
  by_cases h1 : 1 < M
  ·obtain ⟨hl1, hl2⟩ := hl h1
   have hlj := hl2 j (by omega)
   have hom := ho (M - 1)
   have hp1 : 0 ≤ (P - o (M - 1)) * rd Mod (j : Int) ∧ (P - o (M - 1)) * rd Mod (j : Int) ≤ 4294967296 := by
    refine ⟨Int.mul_nonneg (by omega) hlj.1, ?_⟩
    have h1 : (P - o (M - 1)) * rd Mod (j : Int) ≤ 65536 * rd Mod (j : Int) := Int.mul_le_mul_of_nonneg_right (by omega) (by omega)
    have h2 : (65536 : Int) * rd Mod (j : Int) ≤ 65536 * 65536 := Int.mul_le_mul_of_nonneg_left (by omega) (by omega)
    omega
   rw [if_pos (by omega), if_pos (by omega), if_pos (by omega), L_length, if_pos (by omega), if_pos (by omega), L_length, if_pos (by omega), L_length, if_pos (by omega), if_neg (by omega),
    rd_L _ _ _ (by omega), rd_L _ _ _ (by omega), w64_id (n := P - o (M - 1)) (by omega) (by omega), w64_id (n := (P - o (M - 1)) * rd Mod (j : Int)) (by omega) (by omega), w64_id (n := b i * a j) (by omega) (by omega),
    w64_id (n := (if j = 0 then 0 else o (j - 1)) + (P - o (M - 1)) * rd Mod (j : Int)) (by omega) (by omega), w64_id (n := (if j = 0 then 0 else o (j - 1)) + (P - o (M - 1)) * rd Mod (j : Int) + b i * a j) (by omega) (by omega), w64_id (n := (j : Int) + 1) (by omega) (by omega), Int.tmod_eq_emod_of_nonneg (by omega), eset]
   ·congr 1
   ·unfold nw low; rw [if_pos (show j < M by omega), if_pos h1]
  ·rw [if_neg (by omega), if_pos (by omega), L_length, if_pos (by omega), if_pos (by omega), L_length, if_pos (by omega), L_length, if_pos (by omega), if_neg (by omega),
    rd_L _ _ _ (by omega), rd_L _ _ _ (by omega), w64_id (n := 0) (by omega) (by omega), w64_id (n := b i * a j) (by omega) (by omega),
    w64_id (n := (if j = 0 then 0 else o (j - 1)) + 0) (by omega) (by omega), w64_id (n := (if j = 0 then 0 else o (j - 1)) + 0 + b i * a j) (by omega) (by omega), w64_id (n := (j : Int) + 1) (by omega) (by omega), Int.tmod_eq_emod_of_nonneg (by omega), eset]
   ·congr 1
   ·unfold nw low; rw [if_pos (show j < M by omega), if_neg h1, Int.mul_zero]
theorem mul_l0 (hP : 0 < P) (hP1 : P ≤ 65536) (hM0 : 0 < M) (hM : M ≤ 64) (hq : P ^ M ≤ 65536) (hl : 1 < M → Mod.length = M ∧ ∀ j, j < M → 0 ≤ rd Mod (j : Int) ∧ rd Mod (j : Int) < P) (a b : Vec) (ha : ∀ t, 0 ≤ a t ∧ a t < P) (has : Supp M a) (hb : ∀ t, 0 ≤ b t ∧ b t < P) : ∀ (i : Nat), i ≤ M → ∀ o : Vec, (∀ t, 0 ≤ o t ∧ o t < P) →
  (∀ t, o t % P = S (M - i) (fun k => b (i + k) * it M (low M Mod) k a t) % P) →
  Ev (fun k => field_multiply.l0 k (L M a) (L M b) (L M o) ((i : Int) - 1) P M Mod) (val P M (fun j => B M (low M Mod) a b j % P))
 | 0, _, o, ho, hc => by
  have hv := valueOf_ev (P := P) hP M (by omega) (by omega) o (fun t _ => ho t)
  have e1 : val P M (fun j => B M (low M Mod) a b j % P) = val P M o := by
   refine val_congr P M _ _ (fun j _ => ?_)
   have h1 := hc j
   rw [Int.emod_eq_of_lt (ho j).1 (ho j).2] at h1
   rw [h1]
   simp only [Nat.zero_add, Nat.sub_zero]; rfl
  rw [e1]
  refine Ev.step (fun k => ?_) (hv.bind (Ev.now _))
  simp only [field_multiply.l0]
  rw [if_neg (by omega)]
 | i + 1, hi, o, ho, hc => by
  have ih := mul_l0 hP hP1 hM0 hM hq hl a b ha has hb i (by omega) (nw P M (low M Mod) o a (b i)) (fun t => nw_range hP M _ _ _ _ t) (fun t => by
   rw [show M - i = (M - (i + 1)) + 1 by omega]
   exact nw_cg (M - (i + 1)) (fun k => b (i + k)) has (fun t => by
    rw [hc t]
    congr 1
    refine S_congr _ _ _ (fun k _ => ?_)
    rw [show i + 1 + k = i + (k + 1) by omega]) rfl t)
  have h1 := mul_l1 hP hP1 hM0 hM hl a b hb ha o ho i (by omega) _ ih M 0 (by omega)
  refine Ev.step (fun k => ?_) h1
  have e1 : ((i + 1 : Nat) : Int) - 1 = (i : Int) := by omega
  simp only [field_multiply.l0, e1]
  obtain ⟨m, rfl⟩ : ∃ m, M = m + 1 := ⟨M - 1, by omega⟩
  have e2 : wrap64 (((m + 1 : Nat) : Int) - 1) = (m : Int) := by rw [w64_id (by omega) (by omega)]; omega
  rw [if_pos (by omega), e2, if_pos (by omega)]
  simp only [L_length]
  rw [if_pos (by omega), if_pos (by omega), rd_L _ _ _ (by omega)]
  have e3 := L_shift m o
  simp only [L_length] at e3
  rw [show (0 : Int).toNat = 0 from rfl, e3]
  simp only [Nat.not_lt_zero, if_false]
  rfl
theorem multiply_ev (hP : 0 < P) (hP1 : P ≤ 65536) (hM0 : 0 < M) (hM : M ≤ 64) (hq : P ^ M ≤ 65536) (hl : 1 < M → Mod.length = M ∧ ∀ j, j < M → 0 ≤ rd Mod (j : Int) ∧ rd Mod (j : Int) < P) {x y : Int} (hx : 0 ≤ x) (hx1 : x < P ^ M) (hy : 0 ≤ y) (hy1 : y < P ^ M) :
  Ev (fun k => field_multiply.f k P M Mod x y) (mul P M (low M Mod) x y) := by
 have hdv : ∀ x t, 0 ≤ dv P M x t ∧ dv P M x t < P := fun x t => by
  unfold dv
  split
  ·exact dg_range hP x t
  ·omega
 have h := mul_l0 hP hP1 hM0 hM hq hl (dv P M x) (dv P M y) (hdv x) (dv_supp P M x) (hdv y) M (by omega) (fun _ => 0) (fun _ => by omega) (fun t => by rw [Nat.sub_self]; rfl)
 have ed : ∀ x, L M (dv P M x) = L M (dg P x) := fun x => L_congr _ _ _ (fun t ht => by unfold dv; rw [if_pos ht])
 rw [ed, ed] at h
 have d1 := digitsOf_ev (P := P) (x := x) hP hx (by omega) M (by omega)
 have d2 := digitsOf_ev (P := P) (x := y) hP hy (by omega) M (by omega)
 unfold field_multiply.f
 refine d1.bind (d2.bind (Ev.congr (fun k => ?_) h))
 rw [if_pos (by omega), Int.toNat_natCast, if_pos (by omega), w64_id (n := (M : Int) - 1) (by omega) (by omega), L_rep]
end
end Go.Proofs.Ythgaihhlbgccoaa.Fm
/- What the printed order and Order, isPrime and prime, shape compute. -/
namespace Go.Proofs.Ythgaihhlbgccoaa.Fo
open Go.RowKit Go.Proofs.Ythgaihhlbgccoaa.Q Go.Proofs.YthgaihhlbgccoaaW.PrintWords Go.Proofs.YthgaihhlbgccoaaW.PrintLast Go.Proofs.Ythgaihhlbgccoaa.Ring Go.Proofs.Ythgaihhlbgccoaa.Dig Go.Proofs.Ythgaihhlbgccoaa.Fv Go.Proofs.Ythgaihhlbgccoaa.Fm

/-- P^M if it is in range, 0 otherwise. -/
def ord (P M : Int) : Int := if P < 2 ∨ M < 1 ∨ 8 < M ∨ 256 < P ^ M.toNat then 0 else P ^ M.toNat
theorem order_l0 {P : Int} (hP : 2 ≤ P) (hP1 : P ≤ 256) (M : Nat) (hM : M ≤ 8) : ∀ d i : Nat, i + d = M → P ^ i ≤ 256 →
  Ev (fun k => field_order.l0 k P (P ^ i) (M : Int) (i : Int)) (if 256 < P ^ M then 0 else P ^ M)
 | 0, i, h, hq => by
  have e : i = M := by omega
  subst e
  refine Ev.step (f := fun _ => some (if 256 < P ^ i then 0 else P ^ i)) (fun k => ?_) (Ev.now _)
  simp only [field_order.l0]
  rw [if_neg (by omega), if_neg (by omega)]
 | d + 1, i, h, hq => by
  have h0 := pow_pos (show 0 < P by omega) i
  have hb : P ^ i * P ≤ 256 * P := Int.mul_le_mul_of_nonneg_right hq (by omega)
  have hnn : 0 ≤ P ^ i * P := Int.mul_nonneg (by omega) (by omega)
  have ew : wrap64 (P ^ i * P) = P ^ (i + 1) := by rw [w64_id (by omega) (by omega), Int.pow_succ]
  by_cases hq1 : 256 < P ^ (i + 1)
  ·have hm := pow_mono (show 1 ≤ P by omega) (show i + 1 ≤ M by omega)
   refine Ev.step (f := fun _ => some (if 256 < P ^ M then 0 else P ^ M)) (fun k => ?_) (Ev.now _)
   simp only [field_order.l0]
   rw [if_pos (by omega), ew, if_pos (by omega), if_pos (by omega)]
  ·refine Ev.step (fun k => ?_) (order_l0 hP hP1 M hM d (i + 1) (by omega) (by omega))
   simp only [field_order.l0]
   rw [if_pos (by omega), ew, if_neg (by omega), w64_id (by omega) (by omega)]; rfl
theorem big {P M : Int} (hP : 256 < P) (h0 : 1 ≤ M) : 256 < P ^ M.toNat := by
 have h := pow_mono (show 1 ≤ P by omega) (show 1 ≤ M.toNat by omega)
 rw [Int.pow_succ, Int.pow_zero] at h
 omega
theorem order_ev (P M : Int) : Ev (fun k => field_order.f k P M) (ord P M) := by
 unfold ord
 have hj : Ev (fun k => field_order.j0 k P M true) 0 := Ev.step (f := fun _ => some 0) (fun k => by simp only [field_order.j0]; rw [if_pos trivial]) (Ev.now _)
 by_cases h1 : P < 2
 ·rw [if_pos (.inl h1)]
  refine Ev.congr (fun k => ?_) hj
  unfold field_order.f; rw [if_pos h1]
 by_cases h2 : M < 1
 ·rw [if_pos (.inr (.inl h2))]
  refine Ev.congr (fun k => ?_) hj
  unfold field_order.f; rw [if_neg h1]
  split
  ·rfl
  ·first | rw [if_pos h2] | rfl
 by_cases h3 : 8 < M
 ·rw [if_pos (.inr (.inr (.inl h3)))]
  refine Ev.congr (fun k => ?_) hj
  unfold field_order.f; rw [if_neg h1, if_neg h2, decide_eq_true h3, ite_self]
 by_cases h4 : 256 < P
 ·rw [if_pos (.inr (.inr (.inr (big h4 (by omega)))))]
  refine Ev.congr (fun k => ?_) hj
  unfold field_order.f; rw [if_neg h1, if_pos h4]
 obtain ⟨m, rfl⟩ := Int.eq_ofNat_of_zero_le (show 0 ≤ M by omega)
 have h := order_l0 (P := P) (by omega) (by omega) m (by omega) m 0 (by omega) (by simp)
 rw [Int.toNat_natCast]
 have e : (if P < 2 ∨ (m : Int) < 1 ∨ 8 < (m : Int) ∨ 256 < P ^ m then (0 : Int) else P ^ m) = if 256 < P ^ m then 0 else P ^ m := by
  by_cases hq : 256 < P ^ m
  ·rw [if_pos (.inr (.inr (.inr hq))), if_pos hq]
  ·rw [if_neg (by omega), if_neg hq]
 rw [e]
 refine Ev.congr (f := fun k => field_order.j0 k P m false) (fun k => ?_) (Ev.step (fun k => ?_) h)
 ·unfold field_order.f
  rw [if_neg h1, if_neg h4, if_neg h2, decide_eq_false (by omega)]
 ·simp only [field_order.j0]
  rw [if_neg (by simp), Int.pow_zero]; rfl
theorem rorder_l0 {P : Int} (l : List Int) (hP : 2 ≤ P) (hP2 : P ≤ 4611686018427387904) (M : Nat) (hM : M ≤ 8) : ∀ d i : Nat, i + d = M → P ^ i ≤ 256 →
  Ev (fun k => cr4_Order.l0 k (P ^ i) (i : Int) P (M : Int) l) (if 256 < P ^ M then 0 else P ^ M)
 | 0, i, h, hq => by
  have e : i = M := by omega
  subst e
  refine Ev.step (f := fun _ => some (if 256 < P ^ i then 0 else P ^ i)) (fun k => ?_) (Ev.now _)
  simp only [cr4_Order.l0]
  rw [if_neg (by omega), if_neg (by omega)]
 | d + 1, i, h, hq => by
  have h0 := pow_pos (show 0 < P by omega) i
  have hd : wrap64 (Int.tdiv (256 : Int) P) = 256 / P := by
   rw [Int.tdiv_eq_ediv_of_nonneg (by omega), w64_id (by have := Int.ediv_nonneg (show 0 ≤ (256 : Int) by omega) (show 0 ≤ P by omega); omega) (by have := Int.ediv_le_self (a := 256) P (by omega); omega)]
  have hiff : P ^ i > 256 / P ↔ 256 < P ^ (i + 1) := by
   rw [Int.pow_succ]
   exact Int.ediv_lt_iff_lt_mul (by omega)
  by_cases hq1 : 256 < P ^ (i + 1)
  ·have hm := pow_mono (show 1 ≤ P by omega) (show i + 1 ≤ M by omega)
   refine Ev.step (f := fun _ => some (if 256 < P ^ M then 0 else P ^ M)) (fun k => ?_) (Ev.now _)
   simp only [cr4_Order.l0]
   rw [if_pos (by omega), if_neg (by omega), hd, if_pos (hiff.2 hq1), if_pos (by omega)]
  ·have hq2 : P ^ i * P ≤ 256 := by rw [← Int.pow_succ]; exact Int.not_lt.1 hq1
   have hnn : 0 ≤ P ^ i * P := Int.mul_nonneg (by omega) (by omega)
   have ew : wrap64 (P ^ i * P) = P ^ (i + 1) := by rw [w64_id (by omega) (by omega), Int.pow_succ]
   refine Ev.step (fun k => ?_) (rorder_l0 l hP hP2 M hM d (i + 1) (by omega) (by omega))
   simp only [cr4_Order.l0]
   rw [if_pos (by omega), if_neg (by omega), hd, if_neg (fun h => hq1 (hiff.1 h)), ew, w64_id (by omega) (by omega)]; rfl
theorem rorder_ev (P M : Int) (l : List Int) (hP2 : P ≤ 9223372036854775807) : Ev (fun k => cr4_Order.f k P M l) (ord P M) := by
 unfold ord
 have hj : Ev (fun k => cr4_Order.j0 k true P M l) 0 := Ev.step (f := fun _ => some 0) (fun k => by simp only [cr4_Order.j0]; rw [if_pos trivial]) (Ev.now _)
 by_cases h1 : P < 2
 ·rw [if_pos (.inl h1)]
  refine Ev.congr (fun k => ?_) hj
  unfold cr4_Order.f; rw [if_pos h1]
 by_cases h2 : M < 1
 ·rw [if_pos (.inr (.inl h2))]
  refine Ev.congr (fun k => ?_) hj
  unfold cr4_Order.f; rw [if_neg h1, if_pos h2]
 by_cases h3 : 8 < M
 ·rw [if_pos (.inr (.inr (.inl h3)))]
  refine Ev.congr (fun k => ?_) hj
  unfold cr4_Order.f; rw [if_neg h1, if_neg h2, decide_eq_true h3]
 obtain ⟨m, rfl⟩ := Int.eq_ofNat_of_zero_le (show 0 ≤ M by omega)
 by_cases h5 : P ≤ 4611686018427387904
 ·have h := rorder_l0 (P := P) l (by omega) (by omega) m (by omega) m 0 (by omega) (by simp)
  rw [Int.toNat_natCast]
  have e : (if P < 2 ∨ (m : Int) < 1 ∨ 8 < (m : Int) ∨ 256 < P ^ m then (0 : Int) else P ^ m) = if 256 < P ^ m then 0 else P ^ m := by
   by_cases hq : 256 < P ^ m
   ·rw [if_pos (.inr (.inr (.inr hq))), if_pos hq]
   ·rw [if_neg (by omega), if_neg hq]
  rw [e]
  refine Ev.congr (f := fun k => cr4_Order.j0 k false P m l) (fun k => ?_) (Ev.step (fun k => ?_) h)
  ·unfold cr4_Order.f
   rw [if_neg h1, if_neg h2, decide_eq_false (by omega)]
  ·simp only [cr4_Order.j0]
   rw [if_neg (by simp), Int.pow_zero]; rfl
 ·rw [if_pos (.inr (.inr (.inr (big (by omega) (by omega)))))]
  refine Ev.congr (f := fun k => cr4_Order.j0 k false P m l) (fun k => ?_) (Ev.step (f := fun k => cr4_Order.l0 k 1 0 P m l) (fun k => ?_) (Ev.step (f := fun _ => some 0) (fun k => ?_) (Ev.now _)))
  ·unfold cr4_Order.f
   rw [if_neg h1, if_neg h2, decide_eq_false (by omega)]
  ·simp only [cr4_Order.j0]
   rw [if_neg (by simp)]
  ·simp only [cr4_Order.l0]
   rw [if_pos (by omega), if_neg (by omega), Int.tdiv_eq_ediv_of_nonneg (by omega), Int.ediv_eq_zero_of_lt (by omega) (by omega), w64_id (by omega) (by omega), if_pos (by omega)]
/-- The primes, as both say. -/
def pr (P : Int) : Bool := (cr4_prime.f 300 P).getD false
theorem prime_tab : ∀ n : Fin 257, cr4_prime.f 300 (n.val : Int) = some (pr n.val) ∧ (2 ≤ n.val → field_isPrime.f 300 (n.val : Int) = some (pr n.val)) := by decide +kernel
theorem prime_ev {P : Int} (h0 : 2 ≤ P) (h1 : P ≤ 256) : Ev (fun k => cr4_prime.f k P) (pr P) ∧ Ev (fun k => field_isPrime.f k P) (pr P) := by
 obtain ⟨n, rfl⟩ := Int.eq_ofNat_of_zero_le (show 0 ≤ P by omega)
 have h := prime_tab ⟨n, by omega⟩
 exact ⟨Ev.of (fun k => cr4_prime.mono _ k) h.1, Ev.of (fun k => field_isPrime.mono _ k) (h.2 (by show 2 ≤ n; omega))⟩
end Go.Proofs.Ythgaihhlbgccoaa.Fo
/- What the printed shape computes, and Check up to the search for divisors. -/
namespace Go.Proofs.Ythgaihhlbgccoaa.Fs
open Go.RowKit Go.Proofs.Ythgaihhlbgccoaa.Q Go.Proofs.YthgaihhlbgccoaaW.PrintWords Go.Proofs.YthgaihhlbgccoaaW.PrintLast Go.Proofs.Ythgaihhlbgccoaa.Ring Go.Proofs.Ythgaihhlbgccoaa.Dig Go.Proofs.Ythgaihhlbgccoaa.Fv Go.Proofs.Ythgaihhlbgccoaa.Fm Go.Proofs.Ythgaihhlbgccoaa.Fo

def Good (P : Int) (Mod : List Int) : Prop := ∀ j : Nat, j < Mod.length → 0 ≤ rd Mod (j : Int) ∧ rd Mod (j : Int) < P
/-- P, M and the entries of Mod are in range. -/
def Sh (P M : Int) (Mod : List Int) : Prop := ord P M ≠ 0 ∧ pr P = true ∧ ((M = 1 ∧ Mod.length = 0) ∨ (M ≠ 1 ∧ (Mod.length : Int) = M ∧ Good P Mod))
theorem ord_bounds {P M : Int} (h : ord P M ≠ 0) : 2 ≤ P ∧ P ≤ 256 ∧ 1 ≤ M ∧ M ≤ 8 ∧ ord P M = P ^ M.toNat ∧ P ^ M.toNat ≤ 256 := by
 unfold ord at h ⊢
 split at h
 ·exact absurd rfl h
 ·rename_i hn
  rw [if_neg hn]
  have hb : ¬ 256 < P := fun hh => hn (.inr (.inr (.inr (big hh (by omega)))))
  exact ⟨by omega, by omega, by omega, by omega, rfl, by omega⟩
section
variable {P M : Int} {Mod : List Int}
theorem sh_l0 (r : Bool) (hr : r = true ↔ Good P Mod) (hn : Mod.length ≤ 4611686018427387904) : ∀ d i : Nat, i + d = Mod.length → (∀ j, j < i → 0 ≤ rd Mod (j : Int) ∧ rd Mod (j : Int) < P) →
  Ev (fun k => field_shape.l0 k Mod (Mod.length : Int) (i : Int) P M Mod) r
 | 0, i, h, hi => by
  have e : r = true := hr.2 (fun j hj => hi j (by omega))
  subst e
  refine Ev.step (f := fun _ => some true) (fun k => ?_) (Ev.now _)
  simp only [field_shape.l0]
  rw [if_neg (by omega)]
 | d + 1, i, h, hi => by
  by_cases h1 : rd Mod (i : Int) < 0
  ·have e : r = false := by
    cases r with
    | false => rfl
    | true => have := hr.1 rfl i (by omega); omega
   subst e
   refine Ev.step (f := fun _ => some false) (fun k => ?_) (Ev.now _)
   simp only [field_shape.l0]
   rw [if_pos (by omega), if_pos (by omega), if_pos (by omega), if_pos h1]
  by_cases h2 : rd Mod (i : Int) ≥ P
  ·have e : r = false := by
    cases r with
    | false => rfl
    | true => have := hr.1 rfl i (by omega); omega
   subst e
   refine Ev.step (f := fun _ => some false) (fun k => ?_) (Ev.now _)
   simp only [field_shape.l0]
   rw [if_pos (by omega), if_pos (by omega), if_pos (by omega), if_neg h1, if_pos h2]
  refine Ev.step (fun k => ?_) (sh_l0 r hr hn d (i + 1) (by omega) (fun j hj => by
   by_cases e : j = i
   ·subst e; omega
   ·exact hi j (by omega)))
  simp only [field_shape.l0]
  rw [if_pos (by omega), if_pos (by omega), if_pos (by omega), if_neg h1, if_neg h2, w64_id (by omega) (by omega)]; rfl
theorem shape_ev (r : Bool) (hr : r = true ↔ Sh P M Mod) : Ev (fun k => field_shape.f k P M Mod) r := by
 unfold field_shape.f
 refine (order_ev P M).bind ?_
 have hj : Ev (fun k => field_shape.j0 k true P M Mod) false := Ev.step (f := fun _ => some false) (fun k => by simp only [field_shape.j0]; rw [if_pos trivial]) (Ev.now _)
 by_cases h0 : ord P M = 0
 ·have e : r = false := by
   cases r with
   | false => rfl
   | true => exact absurd h0 (hr.1 rfl).1
  subst e
  refine Ev.congr (fun k => ?_) hj
  rw [if_pos h0]
 obtain ⟨hb1, hb2, hb3, hb4, hb5, hb6⟩ := ord_bounds h0
 refine Ev.congr (f := fun k => (field_isPrime.f k P).bind fun t103 => field_shape.j0 k (!t103) P M Mod) (fun k => by rw [if_neg h0]) ?_
 refine (prime_ev hb1 hb2).2.bind ?_
 by_cases hp : pr P = true
 ·rw [hp, Bool.not_true]
  by_cases hm : M = 1
  ·subst hm
   have e : r = ((Mod.length : Int) == 0) := by
    by_cases hz : Mod.length = 0
    ·rw [hr.2 ⟨h0, hp, .inl ⟨rfl, hz⟩⟩, hz]; rfl
    ·have e0 : ((Mod.length : Int) == 0) = false := by rw [beq_eq_false_iff_ne]; omega
     rw [e0]
     cases r with
     | false => rfl
     | true =>
      rcases (hr.1 rfl).2.2 with h | h
      ·exact absurd h.2 hz
      ·exact absurd rfl h.1
   subst e
   refine Ev.step (f := fun _ => some ((Mod.length : Int) == 0)) (fun k => ?_) (Ev.now _)
   simp only [field_shape.j0]
   rw [if_neg (by simp)]; rfl
  ·by_cases hl : (Mod.length : Int) = M
   ·have h := sh_l0 (P := P) (M := M) (Mod := Mod) r (by
     rw [hr]
     refine ⟨fun h => ?_, fun h => ⟨h0, hp, .inr ⟨hm, hl, h⟩⟩⟩
     rcases h.2.2 with h | h
     ·exact absurd h.1 hm
     ·exact h.2.2) (by omega) Mod.length 0 (by omega) (fun j hj => by omega)
    refine Ev.step (fun k => ?_) h
    simp only [field_shape.j0]
    rw [if_neg (by simp), if_neg hm, if_pos hl]; rfl
   ·have e : r = false := by
     cases r with
     | false => rfl
     | true =>
      rcases (hr.1 rfl).2.2 with h | h
      ·exact absurd h.1 hm
      ·exact absurd h.2.1 hl
    subst e
    refine Ev.step (f := fun _ => some false) (fun k => ?_) (Ev.now _)
    simp only [field_shape.j0]
    rw [if_neg (by simp), if_neg hm, if_neg hl]
 ·have hp' : pr P = false := by simpa using hp
  rw [hp', Bool.not_false]
  have e : r = false := by
   cases r with
   | false => rfl
   | true => exact absurd (hr.1 rfl).2.1 hp
  subst e
  exact hj
theorem ck_l0 (r : Int) (hbad : ¬ Good P Mod → r = 1) (hgood : Good P Mod → Ev (fun k => (cr4_irreducible.f k Mod P).bind fun t => if t = true then some 0 else some 1) r) (hn : Mod.length ≤ 4611686018427387904) : ∀ d i : Nat, i + d = Mod.length → (∀ j, j < i → 0 ≤ rd Mod (j : Int) ∧ rd Mod (j : Int) < P) →
  Ev (fun k => cr4_Check.l0 k (i : Int) P (Mod.length : Int) Mod) r
 | 0, i, h, hi => by
  refine Ev.step (fun k => ?_) (hgood (fun j hj => hi j (by omega)))
  simp only [cr4_Check.l0]
  rw [if_neg (by omega)]
 | d + 1, i, h, hi => by
  by_cases h1 : rd Mod (i : Int) < 0
  ·have e : r = 1 := hbad (fun g => by have := g i (by omega); omega)
   subst e
   refine Ev.step (f := fun _ => some 1) (fun k => ?_) (Ev.now _)
   simp only [cr4_Check.l0]
   rw [if_pos (by omega), if_pos (by omega), if_pos (by omega), if_pos h1]
  by_cases h2 : rd Mod (i : Int) ≥ P
  ·have e : r = 1 := hbad (fun g => by have := g i (by omega); omega)
   subst e
   refine Ev.step (f := fun _ => some 1) (fun k => ?_) (Ev.now _)
   simp only [cr4_Check.l0]
   rw [if_pos (by omega), if_pos (by omega), if_pos (by omega), if_neg h1, if_pos h2]
  refine Ev.step (fun k => ?_) (ck_l0 r hbad hgood hn d (i + 1) (by omega) (fun j hj => by
   by_cases e : j = i
   ·subst e; omega
   ·exact hi j (by omega)))
  simp only [cr4_Check.l0]
  rw [if_pos (by omega), if_pos (by omega), if_pos (by omega), if_neg h1, if_neg h2, w64_id (by omega) (by omega)]; rfl
theorem check_no (hP : P ≤ 9223372036854775807) (h : ¬ Sh P M Mod) : Ev (fun k => cr4_Check.f k P M Mod) 1 := by
 unfold cr4_Check.f
 refine (rorder_ev P M Mod hP).bind ?_
 have hj : Ev (fun k => cr4_Check.j0 k true P M Mod) 1 := Ev.step (f := fun _ => some 1) (fun k => by simp only [cr4_Check.j0]; rw [if_pos trivial]) (Ev.now _)
 by_cases h0 : ord P M = 0
 ·refine Ev.congr (fun k => ?_) hj
  rw [if_pos h0]
 obtain ⟨hb1, hb2, hb3, hb4, hb5, hb6⟩ := ord_bounds h0
 refine Ev.congr (f := fun k => (cr4_prime.f k P).bind fun t => cr4_Check.j0 k (!t) P M Mod) (fun k => by rw [if_neg h0]) ?_
 refine (prime_ev hb1 hb2).1.bind ?_
 by_cases hp : pr P = true
 ·rw [hp, Bool.not_true]
  by_cases hm : M = 1
  ·subst hm
   have hz : ¬ (Mod.length : Int) = 0 := fun hz => h ⟨h0, hp, .inl ⟨rfl, by omega⟩⟩
   refine Ev.step (f := fun _ => some 1) (fun k => ?_) (Ev.now _)
   simp only [cr4_Check.j0]
   rw [if_neg (by simp), if_pos trivial, if_neg hz]
  ·by_cases hl : (Mod.length : Int) = M
   ·have hg : ¬ Good P Mod := fun g => h ⟨h0, hp, .inr ⟨hm, hl, g⟩⟩
    have h := ck_l0 (P := P) (Mod := Mod) 1 (fun _ => rfl) (fun g => absurd g hg) (by omega) Mod.length 0 (by omega) (fun j hj => by omega)
    refine Ev.step (fun k => ?_) h
    simp only [cr4_Check.j0]
    rw [if_neg (by simp), if_neg hm, if_pos hl, hl]; rfl
   ·refine Ev.step (f := fun _ => some 1) (fun k => ?_) (Ev.now _)
    simp only [cr4_Check.j0]
    rw [if_neg (by simp), if_neg hm, if_neg hl]
 ·have hp' : pr P = false := by simpa using hp
  rw [hp', Bool.not_false]
  exact hj
theorem check_yes (r : Int) (h : Sh P M Mod) (h1 : M = 1 → r = 0) (h2 : M ≠ 1 → Ev (fun k => (cr4_irreducible.f k Mod P).bind fun t => if t = true then some 0 else some 1) r) : Ev (fun k => cr4_Check.f k P M Mod) r := by
 obtain ⟨h0, hp, hs⟩ := h
 obtain ⟨hb1, hb2, hb3, hb4, hb5, hb6⟩ := ord_bounds h0
 unfold cr4_Check.f
 refine (rorder_ev P M Mod (by omega)).bind ?_
 refine Ev.congr (f := fun k => (cr4_prime.f k P).bind fun t => cr4_Check.j0 k (!t) P M Mod) (fun k => by rw [if_neg h0]) ?_
 refine (prime_ev hb1 hb2).1.bind ?_
 rw [hp, Bool.not_true]
 rcases hs with ⟨hm, hz⟩ | ⟨hm, hl, hg⟩
 ·rw [h1 hm]
  refine Ev.step (f := fun _ => some 0) (fun k => ?_) (Ev.now _)
  simp only [cr4_Check.j0]
  rw [if_neg (by simp), if_pos hm, if_pos (by omega)]
 ·have h := ck_l0 (P := P) (Mod := Mod) r (fun g => absurd hg g) (fun _ => h2 hm) (by omega) Mod.length 0 (by omega) (fun j hj => by omega)
  refine Ev.step (fun k => ?_) h
  simp only [cr4_Check.j0]
  rw [if_neg (by simp), if_neg hm, if_pos hl, hl]; rfl
end
end Go.Proofs.Ythgaihhlbgccoaa.Fs
/- What the printed powers, generator and New compute. -/
namespace Go.Proofs.Ythgaihhlbgccoaa.Fp
open Go.RowKit Go.Proofs.Ythgaihhlbgccoaa.Q Go.Proofs.YthgaihhlbgccoaaW.PrintWords Go.Proofs.YthgaihhlbgccoaaW.PrintLast Go.Proofs.Ythgaihhlbgccoaa.Ring Go.Proofs.Ythgaihhlbgccoaa.Dig Go.Proofs.Ythgaihhlbgccoaa.Fv Go.Proofs.Ythgaihhlbgccoaa.Fm Go.Proofs.Ythgaihhlbgccoaa.Fo Go.Proofs.Ythgaihhlbgccoaa.Fs Go.Proofs.Ythgaihhlbgccoaa.Pig

theorem L_snoc (n : Nat) (f : Nat → Int) : L n f ++ [f n] = L (n + 1) f := by
 unfold L; rw [List.range_succ, List.map_append]; rfl
def LB (n : Nat) (f : Nat → Bool) : List Bool := (List.range n).map f
theorem LB_length (n : Nat) (f : Nat → Bool) : (LB n f).length = n := by simp [LB]
theorem rd_LB (n : Nat) (f : Nat → Bool) (i : Nat) (h : i < n) : rdOf false (LB n f) (i : Int) = f i := by
 unfold rdOf LB
 simp [List.getD_eq_getElem?_getD, h]
theorem LB_set (n : Nat) (f g : Nat → Bool) (i : Nat) (hg : ∀ t, t < n → g t = (if t = i then true else f t)) : (LB n f).set i true = LB n g := by
 apply List.ext_getElem
 ·simp [LB]
 ·intro j h1 h2
  simp only [LB, List.getElem_set, List.getElem_map, List.getElem_range]
  have hj : j < n := by simpa [LB] using h2
  rw [hg j hj]
  by_cases e : i = j
  ·subst e; simp
  ·rw [if_neg e, if_neg (by omega)]
theorem LB_rep (n : Nat) : List.replicate n false = LB n (fun _ => false) := by
 apply List.ext_getElem
 ·simp [LB]
 ·intro j h1 h2; simp [LB]
/-- Is y among the first n powers of x? -/
def seen (P : Int) (M : Nat) (lw : Vec) (x : Int) (n : Nat) (y : Nat) : Bool := (List.range n).any (fun i => mpw P M lw x i == (y : Int))
theorem seen_iff {P : Int} {M : Nat} {lw : Vec} {x : Int} {n y : Nat} : seen P M lw x n y = true ↔ ∃ i, i < n ∧ mpw P M lw x i = (y : Int) := by
 unfold seen
 simp [List.any_eq_true, List.mem_range]
theorem seen_succ {P : Int} {M : Nat} {lw : Vec} {x : Int} {n y : Nat} : seen P M lw x (n + 1) y = (seen P M lw x n y || (mpw P M lw x n == (y : Int))) := by
 unfold seen
 rw [List.range_succ, List.any_append]; simp
/-- What powers answers. -/
def Pows (P : Int) (M : Nat) (lw : Vec) (x : Int) (n : Nat) : Prop := (∀ i j, i < j → j < n → mpw P M lw x i ≠ mpw P M lw x j) ∧ (∀ i, i < n → mpw P M lw x i ≠ 0)
def Ends (P : Int) (M : Nat) (lw : Vec) (x : Int) (n : Nat) : Prop := mpw P M lw x n = 0 ∨ ∃ i, i < n ∧ mpw P M lw x i = mpw P M lw x n
/-- A field's P, M and Mod, but for the irreducible polynomial. -/
structure Sized (P : Int) (M q : Nat) (Mod : List Int) : Prop where
 hP : 2 ≤ P
 hP1 : P ≤ 256
 hM : 0 < M
 hM1 : M ≤ 8
 hq : (q : Int) = P ^ M
 hq1 : q ≤ 256
 hl : 1 < M → Mod.length = M ∧ ∀ j, j < M → 0 ≤ rd Mod (j : Int) ∧ rd Mod (j : Int) < P
section
variable {P : Int} {M q : Nat} {Mod : List Int}
theorem Sized.mul_ev (s : Sized P M q Mod) {x y : Int} (hx : 0 ≤ x) (hx1 : x < q) (hy : 0 ≤ y) (hy1 : y < q) : Ev (fun k => field_multiply.f k P M Mod x y) (mul P M (low M Mod) x y) := by
 have := s.hP; have := s.hP1; have := s.hM; have := s.hM1; have := s.hq; have := s.hq1
 exact multiply_ev (by omega) (by omega) s.hM (by omega) (by omega) s.hl hx (by omega) hy (by omega)
theorem Sized.pw (s : Sized P M q Mod) (x : Int) (n : Nat) : 0 ≤ mpw P M (low M Mod) x n ∧ mpw P M (low M Mod) x n < q := by
 have h := mpw_range (lw := low M Mod) (show 1 < P by have := s.hP; omega) s.hM x n
 have := s.hq
 omega
theorem pow_l0 (s : Sized P M q Mod) {x : Int} (hx : 0 ≤ x) (hx1 : x < q) : ∀ d n : Nat, n + d = q + 1 → 1 ≤ n → Pows P M (low M Mod) x n →
  ∃ m, n ≤ m ∧ m ≤ q ∧ Pows P M (low M Mod) x m ∧ Ends P M (low M Mod) x m ∧
  Ev (fun k => field_powers.l0 k x (L n (mpw P M (low M Mod) x)) (LB q (seen P M (low M Mod) x n)) (mpw P M (low M Mod) x n) P M Mod) (L m (mpw P M (low M Mod) x))
 | 0, n, hd, h1, hp => by
  refine absurd (bound (n := n) (q := q) (f := fun i => (mpw P M (low M Mod) x i).toNat) (fun i _ => ?_) (fun i j hi hj => ?_)) (by omega)
  ·have h := s.pw x i
   show (mpw P M (low M Mod) x i).toNat < q
   omega
  ·have h := s.pw x i
   have h' := s.pw x j
   have h2 := hp.1 i j hi hj
   show (mpw P M (low M Mod) x i).toNat ≠ (mpw P M (low M Mod) x j).toNat
   omega
 | d + 1, n, hd, h1, hp => by
  have hr := s.pw x n
  have := s.hq1
  by_cases h0 : mpw P M (low M Mod) x n = 0
  ·refine ⟨n, Nat.le_refl _, by omega, hp, .inl h0, Ev.step (f := fun _ => some (L n (mpw P M (low M Mod) x))) (fun k => ?_) (Ev.now _)⟩
   simp only [field_powers.l0]
   rw [if_pos h0]
  obtain ⟨y, hy⟩ := Int.eq_ofNat_of_zero_le hr.1
  have hrd : rdOf false (LB q (seen P M (low M Mod) x n)) (mpw P M (low M Mod) x n) = seen P M (low M Mod) x n y := by rw [hy, rd_LB _ _ _ (by omega)]
  by_cases hs : seen P M (low M Mod) x n y = true
  ·obtain ⟨i, hi, hi2⟩ := seen_iff.1 hs
   refine ⟨n, Nat.le_refl _, by omega, hp, .inr ⟨i, hi, by omega⟩, Ev.step (f := fun _ => some (L n (mpw P M (low M Mod) x))) (fun k => ?_) (Ev.now _)⟩
   simp only [field_powers.l0]
   rw [if_neg h0, if_pos hr.1, LB_length, if_pos (by omega), hrd, if_pos hs]
  ·have hne : ∀ i, i < n → mpw P M (low M Mod) x i ≠ mpw P M (low M Mod) x n := fun i hi e => hs (seen_iff.2 ⟨i, hi, by omega⟩)
   obtain ⟨m, hm1, hm2, hm3, hm4, hm5⟩ := pow_l0 s hx hx1 d (n + 1) (by omega) (by omega) ⟨fun i j hi hj => by
    by_cases e : j = n
    ·subst e; exact hne i hi
    ·exact hp.1 i j hi (by omega), fun i hi => by
    by_cases e : i = n
    ·subst e; exact h0
    ·exact hp.2 i (by omega)⟩
   refine ⟨m, by omega, hm2, hm3, hm4, ?_⟩
   have hmul := s.mul_ev hr.1 hr.2 hx hx1
   refine Ev.step (f := fun k => (field_multiply.f k P M Mod (mpw P M (low M Mod) x n) x).bind fun t => field_powers.l0 k x (L n (mpw P M (low M Mod) x) ++ [mpw P M (low M Mod) x n]) ((LB q (seen P M (low M Mod) x n)).set (mpw P M (low M Mod) x n).toNat true) t P M Mod) (fun k => ?_) (hmul.bind ?_)
   ·simp only [field_powers.l0]
    rw [if_neg h0, if_pos hr.1, LB_length, if_pos (by omega), hrd, if_neg hs, L_length, if_pos (by omega)]
   ·rw [L_snoc, LB_set q _ (seen P M (low M Mod) x (n + 1)) _ (fun t ht => by
     rw [seen_succ, hy, Int.toNat_natCast]
     by_cases e : t = y
     ·subst e; simp
     ·rw [if_neg e]
      have : ((y : Int) == (t : Int)) = false := by rw [beq_eq_false_iff_ne]; omega
      rw [this, Bool.or_false])]
    exact hm5
theorem powers_ev (s : Sized P M q Mod) {x : Int} (hx : 0 ≤ x) (hx1 : x < q) : ∃ m, 1 ≤ m ∧ m ≤ q ∧ Pows P M (low M Mod) x m ∧ Ends P M (low M Mod) x m ∧ Ev (fun k => field_powers.f k P M Mod (q : Int) x) (L m (mpw P M (low M Mod) x)) := by
 have := s.hq1
 have hq2 := one_lt (show 1 < P by have := s.hP; omega) s.hM
 have := s.hq
 obtain ⟨m, h1, h2, h3, h4, h5⟩ := pow_l0 s hx hx1 q 1 (by omega) (by omega) ⟨fun i j hi hj => by omega, fun i hi => by
  have : i = 0 := by omega
  subst this
  show (1 : Int) ≠ 0
  omega⟩
 refine ⟨m, h1, h2, h3, h4, Ev.congr (fun k => ?_) h5⟩
 unfold field_powers.f
 rw [if_pos (by omega), Int.toNat_natCast, if_pos (by omega)]
 simp only [Option.bind_some, List.length_replicate]
 rw [if_pos (by omega), LB_rep, LB_set q _ (seen P M (low M Mod) x 1) _ (fun t ht => by
  rw [seen_succ]
  show (seen P M (low M Mod) x 0 t || ((1 : Int) == (t : Int))) = if t = 1 then true else false
  have e0 : seen P M (low M Mod) x 0 t = false := rfl
  rw [e0, Bool.false_or]
  by_cases e : t = 1
  ·subst e; rfl
  ·rw [if_neg e, beq_eq_false_iff_ne]; omega)]
 have e1 : mpw P M (low M Mod) x 1 = x := one_mul (show 1 < P by have := s.hP; omega) s.hM hx (by omega)
 rw [e1]
 rfl
/-- x is found by generator. -/
def Gen (P : Int) (M q : Nat) (Mod : List Int) (x : Int) : Prop := 1 ≤ x ∧ x < q ∧ Ord P M (low M Mod) x (q - 1)
theorem Gen.of_pows (_s : Sized P M q Mod) {x : Int} (h1 : 1 ≤ x) (h2 : x < q) (hp : Pows P M (low M Mod) x (q - 1)) (h : mpw P M (low M Mod) x (q - 1) = 1) : Gen P M q Mod x :=
 ⟨h1, h2, h, fun i hi hj e => hp.1 0 i hi hj (by rw [e]; rfl)⟩
theorem Gen.len (s : Sized P M q Mod) {x : Int} (h : Gen P M q Mod x) {m : Nat} (_hm : 1 ≤ m) (hp : Pows P M (low M Mod) x m) (he : Ends P M (low M Mod) x m) : m = q - 1 := by
 have hP : 1 < P := by have := s.hP; omega
 have hq2 := one_lt hP s.hM
 have := s.hq
 by_cases hlt : m < q - 1
 ·rcases he with he | ⟨i, hi, he⟩
  ·exact absurd he (h.2.2.ne0 hP s.hM (by omega))
  ·exact absurd he (h.2.2.ne hP s.hM hi hlt)
 ·by_cases hgt : q - 1 < m
  ·refine absurd ?_ (hp.1 0 (q - 1) (by omega) hgt)
   rw [h.2.2.1]; rfl
  ·omega
theorem gen_l0 (s : Sized P M q Mod) : ∀ d x : Nat, x + d = q → 1 ≤ x → (∀ y : Int, 1 ≤ y → y < x → ¬ Gen P M q Mod y) →
  (∃ g, Gen P M q Mod g ∧ Ev (fun k => field_generator.l0 k (q : Int) (x : Int) P M Mod) (L (q - 1) (mpw P M (low M Mod) g))) ∨ ((∀ y : Int, ¬ Gen P M q Mod y) ∧ Ev (fun k => field_generator.l0 k (q : Int) (x : Int) P M Mod) [])
 | 0, x, hd, h1, hn => by
  refine .inr ⟨fun y hy => hn y hy.1 (by have := hy.2.1; omega) hy, Ev.step (f := fun _ => some []) (fun k => ?_) (Ev.now _)⟩
  simp only [field_generator.l0]
  rw [if_neg (by omega)]
 | d + 1, x, hd, h1, hn => by
  have hP : 1 < P := by have := s.hP; omega
  have hq2 := one_lt hP s.hM
  have := s.hq
  have := s.hq1
  obtain ⟨m, hm1, hm2, hm3, hm4, hm5⟩ := powers_ev s (show 0 ≤ (x : Int) by omega) (show (x : Int) < q by omega)
  have next (hno : ¬ Gen P M q Mod x) := gen_l0 s d (x + 1) (by omega) (by omega) (fun y h2 h3 => by
   by_cases e : y = x
   ·subst e; exact hno
   ·exact hn y h2 (by omega))
  by_cases hm : m = q - 1
  ·subst hm
   have hpw := s.pw (x : Int) (q - 2)
   have hmul := s.mul_ev hpw.1 hpw.2 (show 0 ≤ (x : Int) by omega) (show (x : Int) < q by omega)
   have e2 : mul P M (low M Mod) (mpw P M (low M Mod) x (q - 2)) x = mpw P M (low M Mod) x (q - 1) := by
    rw [show q - 1 = (q - 2) + 1 by omega]; rfl
   rw [e2] at hmul
   have e3 : wrap64 ((q : Int) - 2) = ((q - 2 : Nat) : Int) := by rw [w64_id (by omega) (by omega)]; omega
   have e4 : wrap64 ((q : Int) - 1) = ((q - 1 : Nat) : Int) := by rw [w64_id (by omega) (by omega)]; omega
   have walk (r : List Int) (h : Ev (fun k => if mpw P M (low M Mod) x (q - 1) = 1 then some (L (q - 1) (mpw P M (low M Mod) x)) else field_generator.l0 k (q : Int) ((x + 1 : Nat) : Int) P M Mod) r) : Ev (fun k => field_generator.l0 k (q : Int) (x : Int) P M Mod) r := by
    refine Ev.step (f := fun k => (field_powers.f k P M Mod (q : Int) x).bind fun t125 => (if (t125.length : Int) = (wrap64 ((q : Int) - 1)) then (if 0 ≤ (wrap64 ((q : Int) - 2)) then (if (wrap64 ((q : Int) - 2)) < (t125.length : Int) then ((field_multiply.f k P M Mod (rd t125 (wrap64 ((q : Int) - 2))) x).bind fun t129 => (if t129 = 1 then (some t125) else (field_generator.l0 k q (wrap64 ((x : Int) + 1)) P M Mod))) else (none)) else (none)) else (field_generator.l0 k q (wrap64 ((x : Int) + 1)) P M Mod))) (fun k => ?_) (hm5.bind ?_)
    ·simp only [field_generator.l0]
     rw [if_pos (by omega)]
    ·refine Ev.congr (f := fun k => (field_multiply.f k P M Mod (mpw P M (low M Mod) x (q - 2)) x).bind fun t129 => (if t129 = 1 then (some (L (q - 1) (mpw P M (low M Mod) x))) else (field_generator.l0 k q ((x + 1 : Nat) : Int) P M Mod))) (fun k => ?_) (hmul.bind h)
     rw [L_length, e4, if_pos rfl, e3, if_pos (by omega), if_pos (by omega), rd_L _ _ _ (by omega), w64_id (by omega) (by omega)]; rfl
   by_cases h1' : mpw P M (low M Mod) x (q - 1) = 1
   ·refine .inl ⟨x, Gen.of_pows s (by omega) (by omega) hm3 h1', walk _ (Ev.congr (fun k => ?_) (Ev.now _))⟩
    rw [if_pos h1']
   ·have hno : ¬ Gen P M q Mod x := fun h => h1' h.2.2.1
    rcases next hno with ⟨g, hg, hev⟩ | ⟨hall, hev⟩
    ·exact .inl ⟨g, hg, walk _ (Ev.congr (fun k => by rw [if_neg h1']) hev)⟩
    ·exact .inr ⟨hall, walk _ (Ev.congr (fun k => by rw [if_neg h1']) hev)⟩
  ·have hno : ¬ Gen P M q Mod x := fun h => hm (h.len s hm1 hm3 hm4)
   have walk (r : List Int) (h : Ev (fun k => field_generator.l0 k (q : Int) ((x + 1 : Nat) : Int) P M Mod) r) : Ev (fun k => field_generator.l0 k (q : Int) (x : Int) P M Mod) r := by
    refine Ev.step (f := fun k => (field_powers.f k P M Mod (q : Int) x).bind fun t125 => (if (t125.length : Int) = (wrap64 ((q : Int) - 1)) then (if 0 ≤ (wrap64 ((q : Int) - 2)) then (if (wrap64 ((q : Int) - 2)) < (t125.length : Int) then ((field_multiply.f k P M Mod (rd t125 (wrap64 ((q : Int) - 2))) x).bind fun t129 => (if t129 = 1 then (some t125) else (field_generator.l0 k q (wrap64 ((x : Int) + 1)) P M Mod))) else (none)) else (none)) else (field_generator.l0 k q (wrap64 ((x : Int) + 1)) P M Mod))) (fun k => ?_) (hm5.bind ?_)
    ·simp only [field_generator.l0]
     rw [if_pos (by omega)]
    ·refine Ev.congr (fun k => ?_) h
     have e4 : wrap64 ((q : Int) - 1) = ((q - 1 : Nat) : Int) := by rw [w64_id (by omega) (by omega)]; omega
     rw [L_length, e4, if_neg (by omega), w64_id (by omega) (by omega)]; rfl
   rcases next hno with ⟨g, hg, hev⟩ | ⟨hall, hev⟩
   ·exact .inl ⟨g, hg, walk _ hev⟩
   ·exact .inr ⟨hall, walk _ hev⟩
theorem generator_ev (s : Sized P M q Mod) : (∃ g, Gen P M q Mod g ∧ Ev (fun k => field_generator.f k P M Mod (q : Int)) (L (q - 1) (mpw P M (low M Mod) g))) ∨ ((∀ y : Int, ¬ Gen P M q Mod y) ∧ Ev (fun k => field_generator.f k P M Mod (q : Int)) []) := by
 have hq2 := one_lt (show 1 < P by have := s.hP; omega) s.hM
 have := s.hq
 exact gen_l0 s (q - 1) 1 (by omega) (by omega) (fun y h1 h2 => by omega)
end
end Go.Proofs.Ythgaihhlbgccoaa.Fp
/- A fast product on lists of digits, and the check that the tables pass; what a passed check tells. -/
namespace Go.Proofs.Ythgaihhlbgccoaa.Ker
open Go.RowKit Go.Proofs.Ythgaihhlbgccoaa.Q Go.Proofs.YthgaihhlbgccoaaW.PrintWords Go.Proofs.YthgaihhlbgccoaaW.PrintLast Go.Proofs.Ythgaihhlbgccoaa.Ring Go.Proofs.Ythgaihhlbgccoaa.Dig Go.Proofs.Ythgaihhlbgccoaa.Fv Go.Proofs.Ythgaihhlbgccoaa.Fm Go.Proofs.Ythgaihhlbgccoaa.Fo Go.Proofs.Ythgaihhlbgccoaa.Fs Go.Proofs.Ythgaihhlbgccoaa.Pig Go.Proofs.Ythgaihhlbgccoaa.Fp

def digs (P : Int) : Nat → Int → List Int
 | 0, _ => []
 | n + 1, x => x % P :: digs P n (x / P)
def digsT (P : Int) : Nat → Int → List Int
 | 0, _ => []
 | n + 1, x => if x = 0 then [] else x % P :: digsT P n (x / P)
def stepG (P top c : Int) : Int → List Int → List Int → List Int → List Int
 | prev, o :: os, l :: ls, a :: us => ((prev + (P - top) * l + c * a) % P) :: stepG P top c o os ls us
 | _, _, _, _ => []
def mulB (P : Int) (ls a : List Int) : List Int → List Int
 | [] => a.map (fun _ => 0)
 | c :: b => stepG P ((mulB P ls a b).getLastD 0) c 0 (mulB P ls a b) ls a
def valL (P : Int) : List Int → Int
 | [] => 0
 | d :: l => d + P * valL P l
def mulC (P : Int) (M : Nat) (ls xs : List Int) (y : Int) : Int := valL P (mulB P ls (digs P M y) xs)
def pw (P : Int) (M : Nat) (ls xs : List Int) : Nat → Nat → Bool
 | 0, y => y == 1
 | n + 1, y => y != 1 && match (mulC P M ls xs y).toNat with
  | 0 => false
  | m + 1 => pw P M ls xs n (m + 1)
/-- w = (x, 0): irreducible, and x is primitive. w = (a, b): not irreducible, and a b = 0. -/
def chk (P : Int) (M q : Nat) (ls : List Int) (w : Nat × Nat) : Bool :=
 decide (1 ≤ w.1) && decide (w.1 < q) && if w.2 = 0 then decide (cr4_irreducible.f 300 ls P = some true) && pw P M ls (digsT P M w.1) (q - 2) w.1
 else decide (w.2 < q) && decide (cr4_irreducible.f 300 ls P = some false) && mulC P M ls (digsT P M w.2) w.1 == 0
def Dec (P : Int) (M q v : Nat) : Prop := ∃ w, chk P M q (digs P M v) w = true
def chkFrom (P : Int) (M q : Nat) : Nat → List (Nat × Nat) → Bool
 | _, [] => true
 | v, w :: ws => chk P M q (digs P M v) w && chkFrom P M q (v + 1) ws
theorem dec_of {P : Int} {M q : Nat} : ∀ {ws : List (Nat × Nat)} {lo : Nat}, chkFrom P M q lo ws = true → ∀ v, lo ≤ v → v < lo + ws.length → Dec P M q v
 | [], lo, _, v, h1, h2 => by simp at h2; omega
 | w :: ws, lo, h, v, h1, h2 => by
  simp only [chkFrom, Bool.and_eq_true] at h
  by_cases e : v = lo
  ·subst e; exact ⟨w, h.1⟩
  ·exact dec_of h.2 v (by omega) (by simp at h2; omega)
/-! What they mean. -/
theorem L_cons (n : Nat) (f : Nat → Int) : L (n + 1) f = f 0 :: L n (fun t => f (t + 1)) := by
 apply List.ext_getElem
 ·simp [L]
 ·intro j h1 h2
  cases j with
  | zero => simp [L]
  | succ j => simp [L]
theorem L_nil (f : Nat → Int) : L 0 f = [] := rfl
theorem digs_eq {P : Int} (hP : 0 < P) : ∀ (n : Nat) (x : Int), digs P n x = L n (dg P x)
 | 0, _ => rfl
 | n + 1, x => by
  rw [L_cons]
  simp only [digs]
  rw [digs_eq hP n (x / P)]
  congr 1
  ·unfold dg; rw [Int.pow_zero, Int.ediv_one]
  ·exact L_congr _ _ _ (fun t _ => (dg_succ hP x t).symm)
theorem digsT_eq {P : Int} (hP : 0 < P) : ∀ (n : Nat) (x : Int), 0 ≤ x → x < P ^ n → ∃ m, m ≤ n ∧ x < P ^ m ∧ digsT P n x = digs P m x
 | 0, x, h0, h1 => ⟨0, Nat.le_refl _, h1, rfl⟩
 | n + 1, x, h0, h1 => by
  by_cases e : x = 0
  ·exact ⟨0, by omega, by subst e; simp, by simp only [digsT, if_pos e, digs]⟩
  ·obtain ⟨m, h2, h3, h4⟩ := digsT_eq hP n (x / P) (Int.ediv_nonneg h0 (by omega)) (Int.ediv_lt_of_lt_mul hP (by rw [← Int.pow_succ]; exact h1))
   refine ⟨m + 1, by omega, ?_, ?_⟩
   ·rw [Int.pow_succ]; exact (Int.ediv_lt_iff_lt_mul hP).1 h3
   ·simp only [digsT, if_neg e, digs]; rw [h4]
theorem valL_eq (P : Int) : ∀ (n : Nat) (f : Nat → Int), valL P (L n f) = val P n f
 | 0, _ => rfl
 | n + 1, f => by rw [L_cons, val_succ]; simp only [valL]; rw [valL_eq P n]
theorem stepG_eq (P top c : Int) : ∀ (n : Nat) (prev : Int) (o l a : Nat → Int), stepG P top c prev (L n o) (L n l) (L n a) = L n (fun t => ((if t = 0 then prev else o (t - 1)) + (P - top) * l t + c * a t) % P)
 | 0, _, _, _, _ => rfl
 | n + 1, prev, o, l, a => by
  rw [L_cons n o, L_cons n l, L_cons n a, L_cons]
  simp only [stepG]
  rw [stepG_eq P top c n (o 0)]
  congr 1
  refine L_congr _ _ _ (fun t _ => ?_)
  by_cases e : t = 0
  ·subst e; simp
  ·rw [if_neg e, if_neg (by omega), show t + 1 - 1 = t - 1 + 1 by omega]
theorem last_L (n : Nat) (f : Nat → Int) : (L (n + 1) f).getLastD 0 = f n := by
 have h : L (n + 1) f = L n f ++ [f n] := (L_snoc n f).symm
 rw [h]; simp
theorem mulB_eq {P : Int} (hP : 0 < P) {M : Nat} (hM : 0 < M) (lw a : Vec) (ha : Supp M a) : ∀ (n : Nat) (b : Nat → Int), ∃ o : Vec, mulB P (L M lw) (L M a) (L n b) = L M o ∧ (∀ t, 0 ≤ o t ∧ o t < P) ∧ (∀ t, o t % P = S n (fun k => b k * it M lw k a t) % P)
 | 0, b => ⟨fun _ => 0, by
   simp only [L_nil, mulB]
   unfold L; rw [List.map_map]; rfl, fun _ => by show (0 : Int) ≤ 0 ∧ (0 : Int) < P; omega, fun _ => rfl⟩
 | n + 1, b => by
  obtain ⟨o, h1, h2, h3⟩ := mulB_eq hP hM lw a ha n (fun t => b (t + 1))
  refine ⟨nw P M lw o a (b 0), ?_, fun t => nw_range hP M _ _ _ _ t, fun t => nw_cg n b ha h3 rfl t⟩
  rw [L_cons n b]
  simp only [mulB]
  rw [h1, stepG_eq]
  refine L_congr _ _ _ (fun t ht => ?_)
  obtain ⟨m, rfl⟩ : ∃ m, M = m + 1 := ⟨M - 1, by omega⟩
  rw [last_L]
  unfold nw
  rw [if_pos ht]; rfl
theorem S_ext (f : Nat → Int) (n : Nat) : ∀ d, (∀ i, n ≤ i → i < n + d → f i = 0) → S (n + d) f = S n f
 | 0, _ => rfl
 | d + 1, h => by
  show S (n + d) f + f (n + d) = S n f
  rw [S_ext f n d (fun i h1 h2 => h i h1 (by omega)), h (n + d) (by omega) (by omega)]; omega
theorem dg_big {P x : Int} (hP : 0 < P) (h0 : 0 ≤ x) {n i : Nat} (h : x < P ^ n) (hi : n ≤ i) : dg P x i = 0 := by
 unfold dg
 have h1 := pow_mono (show 1 ≤ P by omega) hi
 rw [Int.ediv_eq_zero_of_lt h0 (by omega)]; simp
theorem mulC_eq {P : Int} (hP : 0 < P) {M : Nat} (hM : 0 < M) (lw : Vec) {x y : Int} (hx : 0 ≤ x) (hx1 : x < P ^ M) : mulC P M (L M lw) (digsT P M x) y = mul P M lw y x := by
 obtain ⟨n, hn, hxn, e⟩ := digsT_eq hP M x hx hx1
 have ed : L M (dg P y) = L M (dv P M y) := L_congr _ _ _ (fun t ht => by unfold dv; rw [if_pos ht])
 obtain ⟨o, h1, h2, h3⟩ := mulB_eq hP hM lw (dv P M y) (dv_supp P M y) n (dg P x)
 unfold mulC mul
 rw [e, digs_eq hP, digs_eq hP, ed, h1, valL_eq]
 refine val_congr P M _ _ (fun j _ => ?_)
 rw [← Int.emod_eq_of_lt (h2 j).1 (h2 j).2, h3 j]
 congr 1
 unfold B
 obtain ⟨d, rfl⟩ : ∃ d, M = n + d := ⟨M - n, by omega⟩
 rw [S_ext _ n d (fun i h4 h5 => by
  have : dv P (n + d) x i = 0 := by unfold dv; rw [if_pos h5, dg_big hP hx hxn h4]
  rw [this, Int.zero_mul])]
 exact S_congr _ _ _ (fun i hi => by unfold dv; rw [if_pos (by omega)])
theorem pw_eq {P : Int} (hP : 1 < P) {M : Nat} (hM : 0 < M) (lw : Vec) {x : Int} (hx : 0 ≤ x) (hx1 : x < P ^ M) : ∀ (n i y : Nat), (y : Int) = mpw P M lw x i → pw P M (L M lw) (digsT P M x) n y = true → mpw P M lw x (i + n) = 1 ∧ ∀ j, j < n → mpw P M lw x (i + j) ≠ 1
 | 0, i, y, hy, h => by
  simp only [pw, beq_iff_eq] at h
  subst h
  exact ⟨hy.symm, fun j hj => by omega⟩
 | n + 1, i, y, hy, h => by
  simp only [pw, Bool.and_eq_true, bne_iff_ne] at h
  have hm := mulC_eq (show 0 < P by omega) hM lw (y := (y : Int)) hx hx1
  rw [hm] at h
  have hr := mul_range (M := M) (low := lw) (show 0 < P by omega) (y : Int) x
  have e1 : mul P M lw (y : Int) x = mpw P M lw x (i + 1) := by rw [hy]; rfl
  obtain ⟨h1, h2⟩ := h
  split at h2
  ·exact absurd h2 (by simp)
  ·rename_i m he
   have ih := pw_eq hP hM lw hx hx1 n (i + 1) (m + 1) (by omega) h2
   refine ⟨by rw [show i + (n + 1) = i + 1 + n by omega]; exact ih.1, fun j hj => ?_⟩
   cases j with
   | zero =>
    intro e2
    rw [Nat.add_zero] at e2
    omega
   | succ j =>
    have := ih.2 j (by omega)
    rwa [show i + (j + 1) = i + 1 + j by omega]
theorem pw_ord {P : Int} (hP : 1 < P) {M q : Nat} (hM : 0 < M) (hq : (q : Int) = P ^ M) (lw : Vec) {x : Nat} (hx0 : 1 ≤ x) (hx1 : x < q) (h : pw P M (L M lw) (digsT P M x) (q - 2) x = true) : Ord P M lw x (q - 1) := by
 have h2 := one_lt hP hM
 have e1 : mpw P M lw x 1 = x := Pig.one_mul hP hM (by omega) (by omega)
 obtain ⟨h3, h4⟩ := pw_eq hP hM lw (x := x) (by omega) (by omega) (q - 2) 1 x e1.symm h
 refine ⟨by rw [show q - 1 = 1 + (q - 2) by omega]; exact h3, fun i hi hi2 => ?_⟩
 have := h4 (i - 1) (by omega)
 rwa [show 1 + (i - 1) = i by omega] at this
theorem digs_list {P : Int} (hP : 0 < P) (Mod : List Int) (h : ∀ j : Nat, j < Mod.length → 0 ≤ rd Mod (j : Int) ∧ rd Mod (j : Int) < P) : ∃ v : Nat, (v : Int) < P ^ Mod.length ∧ digs P Mod.length v = Mod := by
 have hr := val_range hP Mod.length (fun j => rd Mod (j : Int)) h
 refine ⟨(val P Mod.length (fun j => rd Mod (j : Int))).toNat, by omega, ?_⟩
 rw [digs_eq hP, Int.toNat_of_nonneg hr.1]
 refine (L_congr _ _ _ (fun t ht => dg_val hP Mod.length _ h t ht)).trans (L_of Mod).symm
/-- What a passed check tells. -/
theorem dec_field {P : Int} {M q : Nat} {Mod : List Int} (s : Sized P M q Mod) (hm : 1 < M) (hd : ∀ v, v < q → Dec P M q v) :
  ((∃ g, Gen P M q Mod g) ∧ Ev (fun k => cr4_irreducible.f k Mod P) true) ∨ ((∀ g, ¬ Gen P M q Mod g) ∧ Ev (fun k => cr4_irreducible.f k Mod P) false) := by
 have hP : 1 < P := by have := s.hP; omega
 have hq := s.hq
 obtain ⟨hl1, hl2⟩ := s.hl hm
 obtain ⟨v, hv, e⟩ := digs_list (show 0 < P by omega) Mod (by rw [hl1]; exact hl2)
 rw [hl1] at hv e
 obtain ⟨w, hw⟩ := hd v (by omega)
 rw [e] at hw
 have eL : Mod = L M (low M Mod) := by
  have h := L_of Mod
  rw [hl1] at h
  refine h.trans (L_congr _ _ _ (fun t ht => ?_))
  unfold low; rw [if_pos hm]
 unfold chk at hw
 simp only [Bool.and_eq_true, decide_eq_true_eq] at hw
 obtain ⟨⟨h1, h2⟩, h3⟩ := hw
 by_cases e0 : w.2 = 0
 ·rw [if_pos e0] at h3
  simp only [Bool.and_eq_true, decide_eq_true_eq] at h3
  refine .inl ⟨⟨w.1, by omega, by omega, ?_⟩, Ev.of (fun k => cr4_irreducible.mono _ _ k) h3.1⟩
  have h4 := h3.2
  rw [eL] at h4
  exact pw_ord hP s.hM hq _ h1 h2 (by rw [← eL] at h4 ⊢; exact h4)
 ·rw [if_neg e0] at h3
  simp only [Bool.and_eq_true, decide_eq_true_eq, beq_iff_eq] at h3
  refine .inr ⟨fun g hg => ?_, Ev.of (fun k => cr4_irreducible.mono _ _ k) h3.1.2⟩
  have h4 := h3.2
  have h5 : mulC P M (L M (low M Mod)) (digsT P M w.2) w.1 = 0 := by rw [← eL]; exact h4
  rw [mulC_eq (by omega) s.hM _ (by omega) (by have := h3.1.1; omega)] at h5
  exact hg.2.2.nozero hP s.hM (n := q - 1) (by omega) (by omega) (by omega) (by omega) (by have := h3.1.1; omega) h5
end Go.Proofs.Ythgaihhlbgccoaa.Ker
/- What the printed New computes. -/
namespace Go.Proofs.Ythgaihhlbgccoaa.Fn
open Go.RowKit Go.Proofs.Ythgaihhlbgccoaa.Q Go.Proofs.YthgaihhlbgccoaaW.PrintWords Go.Proofs.YthgaihhlbgccoaaW.PrintLast Go.Proofs.Ythgaihhlbgccoaa.Ring Go.Proofs.Ythgaihhlbgccoaa.Dig Go.Proofs.Ythgaihhlbgccoaa.Fv Go.Proofs.Ythgaihhlbgccoaa.Fm Go.Proofs.Ythgaihhlbgccoaa.Fo Go.Proofs.Ythgaihhlbgccoaa.Fs Go.Proofs.Ythgaihhlbgccoaa.Pig Go.Proofs.Ythgaihhlbgccoaa.Fp

/-- The last of the first n places at which f is y, 0 if there is none. -/
def lg (f : Nat → Int) : Nat → Nat → Int
 | 0, _ => 0
 | n + 1, y => if f n = (y : Int) then (n : Int) else lg f n y
theorem lg_eq (f : Nat → Int) : ∀ n : Nat, (∀ i j, i < j → j < n → f i ≠ f j) → ∀ i y : Nat, i < n → f i = (y : Int) → lg f n y = i
 | 0, _, i, y, h, _ => by omega
 | n + 1, hd, i, y, h, e => by
  unfold lg
  by_cases e1 : i = n
  ·subst e1; rw [if_pos e]
  ·have := hd i n (by omega) (by omega)
   rw [if_neg (by omega), lg_eq f n (fun i j h1 h2 => hd i j h1 (by omega)) i y (by omega) e]
theorem Sh.sized {P M : Int} {Mod : List Int} (h : Sh P M Mod) : Sized P M.toNat (ord P M).toNat Mod ∧ ((ord P M).toNat : Int) = ord P M ∧ (M.toNat : Int) = M := by
 obtain ⟨h0, hp, hs⟩ := h
 obtain ⟨hb1, hb2, hb3, hb4, hb5, hb6⟩ := ord_bounds h0
 have hpos := pow_pos (show 0 < P by omega) M.toNat
 refine ⟨⟨hb1, hb2, by omega, by omega, by omega, by omega, fun hm => ?_⟩, by omega, by omega⟩
 rcases hs with ⟨h1, _⟩ | ⟨h1, h2, h3⟩
 ·omega
 ·exact ⟨by omega, fun j hj => h3 j (by omega)⟩
section
variable {P : Int} {M q : Nat} {Mod : List Int}
theorem new_l0 (s : Sized P M q Mod) (x2 : List Int) {g : Int} : ∀ d i : Nat, i + d = q - 1 →
  Ev (fun k => field_New.l0 k x2 (L (q - 1) (mpw P M (low M Mod) g)) (L q (lg (mpw P M (low M Mod) g) i)) (L (q - 1) (mpw P M (low M Mod) g)) ((q - 1 : Nat) : Int) (i : Int)) (x2, L (q - 1) (mpw P M (low M Mod) g), L q (lg (mpw P M (low M Mod) g) (q - 1)), 0)
 | 0, i, h => by
  have e : i = q - 1 := by omega
  subst e
  refine Ev.step (f := fun _ => some (x2, L (q - 1) (mpw P M (low M Mod) g), L q (lg (mpw P M (low M Mod) g) (q - 1)), 0)) (fun k => ?_) (Ev.now _)
  simp only [field_New.l0]
  rw [if_neg (by omega)]
 | d + 1, i, h => by
  have := s.hq1
  have hr := s.pw g i
  refine Ev.step (fun k => ?_) (new_l0 s x2 d (i + 1) (by omega))
  simp only [field_New.l0]
  rw [if_pos (by omega), if_pos (by omega), L_length, if_pos (by omega), rd_L _ _ _ (by omega), if_pos hr.1, L_length, if_pos (by omega), L_set, w64_id (by omega) (by omega)]
  congr 1
  refine L_congr _ _ _ (fun t ht => ?_)
  by_cases e : t = (mpw P M (low M Mod) g i).toNat
  ·rw [if_pos e]; unfold lg; rw [if_pos (by omega)]
  ·rw [if_neg e]
   have e2 : lg (mpw P M (low M Mod) g) (i + 1) t = lg (mpw P M (low M Mod) g) i t := by
    show (if mpw P M (low M Mod) g i = (t : Int) then (i : Int) else lg (mpw P M (low M Mod) g) i t) = _
    rw [if_neg (by omega)]
   exact e2.symm
end
/-- A field: its sizes, a primitive element. -/
structure Fld (P : Int) (M q : Nat) (Mod : List Int) (g : Int) : Prop where
 s : Sized P M q Mod
 gen : Gen P M q Mod g
def ex (P : Int) (M q : Nat) (Mod : List Int) (g : Int) : List Int := L (q - 1) (mpw P M (low M Mod) g)
def lo (P : Int) (M q : Nat) (Mod : List Int) (g : Int) : List Int := L q (lg (mpw P M (low M Mod) g) (q - 1))
theorem new_sh {P M : Int} {Mod : List Int} (h : Sh P M Mod) : ∃ q m : Nat, M = (m : Int) ∧ ord P M = (q : Int) ∧ Sized P m q Mod ∧
  ((∃ g, Gen P m q Mod g ∧ Ev (fun k => field_New.f k P M Mod) (Mod, ex P m q Mod g, lo P m q Mod g, 0)) ∨ ((∀ g, ¬ Gen P m q Mod g) ∧ Ev (fun k => field_New.f k P M Mod) ([], [], [], 1))) := by
 obtain ⟨s, e1, e2⟩ := Sh.sized h
 refine ⟨(ord P M).toNat, M.toNat, e2.symm, e1.symm, s, ?_⟩
 have hsh := shape_ev (P := P) (M := M) (Mod := Mod) true (by simp only [true_iff]; exact h)
 have hor := order_ev P M
 have hlen : Mod.length ≤ 8 := by
  have hb := ord_bounds h.1
  rcases h.2.2 with ⟨_, h2⟩ | ⟨_, h2, _⟩ <;> omega
 have hq1 := s.hq1
 have hq2 := one_lt (show 1 < P by have := s.hP; omega) s.hM
 have hq := s.hq
 have start (r : List Int × List Int × List Int × Int) (t : List Int) (hg : Ev (fun k => field_generator.f k P M Mod (ord P M)) t) (ht : Ev (fun k => if (t.length : Int) = 0 then some (([] : List Int), ([] : List Int), ([] : List Int), (1 : Int)) else field_New.l0 k ([] ++ Mod) t (List.replicate (ord P M).toNat 0) t (t.length : Int) 0) r) : Ev (fun k => field_New.f k P M Mod) r := by
  unfold field_New.f
  refine hsh.bind (Ev.congr (fun k => if_pos rfl) (hor.bind (hg.bind (Ev.congr (fun k => ?_) ht))))
  by_cases hz : (t.length : Int) = 0
  ·rw [if_pos hz, if_pos hz]
  ·rw [if_neg hz, if_neg hz]
   simp only [Option.bind_some, List.length_nil]
   rw [if_pos (by omega), if_pos (by omega), if_pos (by omega)]
 have eM : field_generator.f = fun k a b c d => field_generator.f k a b c d := rfl
 rcases generator_ev s with ⟨g, hg, hev⟩ | ⟨hno, hev⟩
 ·refine .inl ⟨g, hg, ?_⟩
  rw [e1, e2] at hev
  refine start _ _ hev ?_
  refine Ev.congr (fun k => ?_) (new_l0 s Mod (g := g) ((ord P M).toNat - 1) 0 (by omega))
  rw [L_length, if_neg (by omega), List.nil_append, L_rep]
  rfl
 ·refine .inr ⟨hno, ?_⟩
  rw [e1, e2] at hev
  exact start _ _ hev (Ev.congr (fun k => if_pos rfl) (Ev.now _))
theorem new_nosh {P M : Int} {Mod : List Int} (h : ¬ Sh P M Mod) : Ev (fun k => field_New.f k P M Mod) ([], [], [], 1) := by
 have hsh := shape_ev (P := P) (M := M) (Mod := Mod) false (by simp only [Bool.false_eq_true, false_iff]; exact h)
 unfold field_New.f
 exact hsh.bind (Ev.congr (fun k => if_neg (by decide)) (Ev.now _))
end Go.Proofs.Ythgaihhlbgccoaa.Fn
