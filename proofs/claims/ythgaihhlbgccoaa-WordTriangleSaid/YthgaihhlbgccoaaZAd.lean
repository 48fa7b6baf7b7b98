import Derived.Test.YthgaihhlbgccoaaZCl
import Derived.Test.YthgaihhlbgccoaaZF2
import Derived.Test.YthgaihhlbgccoaaZQe
import Derived.Test.YthgaihhlbgccoaaZQa
import Derived.Laws.Bits64
/- What the printed Add, Neg and Sub of field and of the document compute: sums of digits. -/
namespace Go.Proofs.Ythgaihhlbgccoaa.Ad
open Go.RowKit Go.Proofs.Ythgaihhlbgccoaa.Q Go.Proofs.YthgaihhlbgccoaaW.PrintWords Go.Proofs.YthgaihhlbgccoaaW.PrintLast Go.Proofs.Ythgaihhlbgccoaa.Ring Go.Proofs.Ythgaihhlbgccoaa.Dig Go.Proofs.Ythgaihhlbgccoaa.Fv Go.Proofs.Ythgaihhlbgccoaa.Fm Go.Proofs.Ythgaihhlbgccoaa.Fo Go.Proofs.Ythgaihhlbgccoaa.Fp Go.Proofs.Ythgaihhlbgccoaa.Cl

theorem one_pos {P : Int} {M q : Nat} {Mod : List Int} (s : Sized P M q Mod) : 1 < (q : Int) := by
 have h := Pig.one_lt (show 1 < P by have := s.hP; omega) s.hM
 have := s.hq
 omega
/-- The sum of elements, digit by digit. -/
def add (P : Int) (M : Nat) (x y : Int) : Int := val P M (fun j => (dg P x j + dg P y j) % P)
def neg (P : Int) (M : Nat) (x : Int) : Int := val P M (fun j => (P - dg P x j) % P)
def sub (P : Int) (M : Nat) (x y : Int) : Int := add P M x (neg P M y)
section
variable {P : Int} {M : Nat}
theorem add_range (hP : 0 < P) (x y : Int) : 0 ≤ add P M x y ∧ add P M x y < P ^ M := val_range hP M _ (fun _ _ => emod_range hP _)
theorem neg_range (hP : 0 < P) (x : Int) : 0 ≤ neg P M x ∧ neg P M x < P ^ M := val_range hP M _ (fun _ _ => emod_range hP _)
theorem sub_range (hP : 0 < P) (x y : Int) : 0 ≤ sub P M x y ∧ sub P M x y < P ^ M := add_range hP _ _
theorem dg_add (hP : 0 < P) (x y : Int) {j : Nat} (hj : j < M) : dg P (add P M x y) j = (dg P x j + dg P y j) % P := dg_val hP M _ (fun _ _ => emod_range hP _) j hj
theorem dg_neg (hP : 0 < P) (x : Int) {j : Nat} (hj : j < M) : dg P (neg P M x) j = (P - dg P x j) % P := dg_val hP M _ (fun _ _ => emod_range hP _) j hj
theorem dg_sub (hP : 0 < P) (x y : Int) {j : Nat} (hj : j < M) : dg P (sub P M x y) j = (dg P x j - dg P y j) % P := by
 unfold sub
 rw [dg_add hP _ _ hj, dg_neg hP _ hj, Int.add_emod_emod, show dg P x j + (P - dg P y j) = dg P x j - dg P y j + P by omega, Int.add_emod_right]
/-- Elements with the same digits are the same. -/
theorem dg_ext (hP : 0 < P) {x y : Int} (hx0 : 0 ≤ x) (hx1 : x < P ^ M) (hy0 : 0 ≤ y) (hy1 : y < P ^ M) (h : ∀ j, j < M → dg P x j = dg P y j) : x = y := by
 rw [← val_dg hP M x hx0 hx1, ← val_dg hP M y hy0 hy1]
 exact val_congr P M _ _ h
theorem dg_zero (j : Nat) : dg P 0 j = 0 := by unfold dg; simp
theorem sub_eq_zero (hP : 0 < P) {x y : Int} (hx0 : 0 ≤ x) (hx1 : x < P ^ M) (hy0 : 0 ≤ y) (hy1 : y < P ^ M) : sub P M x y = 0 ↔ x = y := by
 constructor
 ·intro h
  refine dg_ext hP hx0 hx1 hy0 hy1 (fun j hj => ?_)
  have h1 := dg_sub (M := M) hP x y hj
  rw [h, dg_zero] at h1
  have h2 := dg_range hP x j
  have h3 := dg_range hP y j
  by_cases hlt : dg P x j < dg P y j
  ·have : (dg P x j - dg P y j) % P = dg P x j - dg P y j + P := by
    rw [← Int.add_emod_right, Int.emod_eq_of_lt (by omega) (by omega)]
   omega
  ·rw [Int.emod_eq_of_lt (by omega) (by omega)] at h1
   omega
 ·rintro rfl
  unfold sub add val
  refine S_zero M _ (fun j hj => ?_)
  have := dg_sub (M := M) hP x x hj
  rw [show dg P x j - dg P x j = 0 by omega, Int.zero_emod] at this
  have h2 := dg_add (M := M) hP x (neg P M x) hj
  have h3 : sub P M x x = add P M x (neg P M x) := rfl
  rw [h3] at this
  rw [this] at h2
  show (dg P x j + dg P (neg P M x) j) % P * P ^ j = 0
  rw [← h2, Int.zero_mul]
theorem val_pre (P : Int) (f : Nat → Int) : ∀ (i d : Nat), (∀ j, i ≤ j → j < i + d → f j = 0) → val P (i + d) f = val P i f
 | i, 0, _ => rfl
 | i, d + 1, h => by
  show val P (i + d) f + f (i + d) * P ^ (i + d) = val P i f
  rw [val_pre P f i d (fun j h1 h2 => h j h1 (by omega)), h (i + d) (by omega) (by omega), Int.zero_mul, Int.add_zero]
/-- No digits are left. -/
theorem dg_left (hP : 0 < P) {x : Int} {i j : Nat} (h : x / P ^ i = 0) (hij : i ≤ j) : dg P x j = 0 := by
 obtain ⟨d, rfl⟩ : ∃ d, j = i + d := ⟨j - i, by omega⟩
 unfold dg
 rw [Int.pow_add, ← Int.ediv_ediv_of_nonneg (by have := pow_pos hP i; omega), h]; simp
theorem xor_val : ∀ (M a b : Nat), (a : Int) < 2 ^ M → (b : Int) < 2 ^ M → ((a ^^^ b : Nat) : Int) = add 2 M a b
 | 0, a, b, ha, hb => by
  have e1 : a = 0 := by simp at ha; omega
  have e2 : b = 0 := by simp at hb; omega
  subst e1 e2; rfl
 | M + 1, a, b, ha, hb => by
  rw [Int.pow_succ] at ha hb
  have ih := xor_val M (a / 2) (b / 2) (by omega) (by omega)
  unfold add at ih ⊢
  rw [val_succ]
  have e1 : (fun i => (dg 2 (a : Int) (i + 1) + dg 2 (b : Int) (i + 1)) % 2) = fun i => (dg 2 ((a / 2 : Nat) : Int) i + dg 2 ((b / 2 : Nat) : Int) i) % 2 := by
   funext i
   rw [dg_succ (by omega), dg_succ (by omega), Int.natCast_ediv, Int.natCast_ediv]; rfl
  rw [e1, ← ih]
  have e2 : dg 2 (a : Int) 0 = (a : Int) % 2 := by unfold dg; rw [Int.pow_zero, Int.ediv_one]
  have e3 : dg 2 (b : Int) 0 = (b : Int) % 2 := by unfold dg; rw [Int.pow_zero, Int.ediv_one]
  rw [e2, e3, ← Nat.xor_div_two]
  have h1 : (a ^^^ b) % 2 = 1 ↔ ¬ (a % 2 = 1 ↔ b % 2 = 1) := Nat.xor_mod_two_eq_one
  have h1' : (a ^^^ b) % 2 = (a + b) % 2 := by omega
  omega
theorem bits_xor (a b : Nat) (ha : a < 65536) (hb : b < 65536) : Go.bits .xor .i64 (a : Int) (b : Int) = ((a ^^^ b : Nat) : Int) := by
 have hx : a ^^^ b < 2 ^ 16 := Nat.xor_lt_two_pow (by omega) (by omega)
 have h1 : (BitVec.ofInt 64 (a : Int)).toNat = a := by
  rw [BitVec.ofInt_natCast, BitVec.toNat_ofNat]; exact Nat.mod_eq_of_lt (by omega)
 have h2 : (BitVec.ofInt 64 (b : Int)).toNat = b := by
  rw [BitVec.ofInt_natCast, BitVec.toNat_ofNat]; exact Nat.mod_eq_of_lt (by omega)
 show IntKind.i64.wrap ((BitVec.ofInt 64 (a : Int) ^^^ BitVec.ofInt 64 (b : Int)).toNat : Int) = _
 rw [BitVec.toNat_xor, h1, h2]
 simp [IntKind.wrap, IntKind.bits, IntKind.signed]
 omega
end
section
variable {P m q : Int} {M : Nat} {Mod E G : List Int}
theorem in_ev (x : Int) : field_GF_in.f P m Mod q E G x = some (c q x, P, m, q) := by
 unfold field_GF_in.f
 rw [is_ev, Option.bind_some]
 by_cases h : 0 ≤ x ∧ x < q
 ·rw [decide_eq_true h, if_pos rfl, c_id h.1 h.2]
 ·rw [decide_eq_false h]; unfold c; rw [if_neg h]; rfl
theorem add_l0 (hP : 2 ≤ P) (hP1 : P ≤ 256) (hM : M ≤ 8) (hq : P ^ M ≤ 256) {x y : Int} (hx0 : 0 ≤ x) (hx1 : x < P ^ M) (hy0 : 0 ≤ y) (hy1 : y < P ^ M) : ∀ d i : Nat, i + d = M →
  Ev (fun k => field_GF_Add.l0 k (x / P ^ i) (y / P ^ i) (val P i (fun j => (dg P x j + dg P y j) % P)) (P ^ i) P m Mod q E G) (add P M x y, P, m, q)
 | d, i, h => by
  have hbx := div_bounds (x := x) (show 0 < P by omega) hx0 i
  have hby := div_bounds (x := y) (show 0 < P by omega) hy0 i
  have hpi := pow_pos (show 0 < P by omega) i
  have hpm := pow_mono (show 1 ≤ P by omega) (show i ≤ M by omega)
  have step (hd : 0 < d) (hxy : x / P ^ i > 0 ∨ y / P ^ i > 0) : Ev (fun k => field_GF_Add.l0 k (x / P ^ i) (y / P ^ i) (val P i (fun j => (dg P x j + dg P y j) % P)) (P ^ i) P m Mod q E G) (add P M x y, P, m, q) := by
   obtain ⟨d', rfl⟩ : ∃ d', d = d' + 1 := ⟨d - 1, by omega⟩
   have ih := add_l0 hP hP1 hM hq hx0 hx1 hy0 hy1 d' (i + 1) (by omega)
   have hbx2 := div_bounds (x := x) (show 0 < P by omega) hx0 (i + 1)
   have hby2 := div_bounds (x := y) (show 0 < P by omega) hy0 (i + 1)
   have hdx := dg_range (show 0 < P by omega) x i
   have hdy := dg_range (show 0 < P by omega) y i
   have hs := emod_range (show 0 < P by omega) (dg P x i + dg P y i)
   have hv := val_range (show 0 < P by omega) i (fun j => (dg P x j + dg P y j) % P) (fun _ _ => emod_range (by omega) _)
   have hnn := Int.mul_nonneg hs.1 (show 0 ≤ P ^ i by omega)
   have hle : (dg P x i + dg P y i) % P * P ^ i ≤ 256 * P ^ i := Int.mul_le_mul_of_nonneg_right (by omega) (by omega)
   have hnn2 := Int.mul_nonneg (show 0 ≤ P ^ i by omega) (show 0 ≤ P by omega)
   have hle2 : P ^ i * P ≤ P ^ i * 256 := Int.mul_le_mul_of_nonneg_left (by omega) (by omega)
   have key : field_GF_Add.l0 = field_GF_Add.l0 := rfl
   refine Ev.step (f := fun k => field_GF_Add.l0 k (x / P ^ (i + 1)) (y / P ^ (i + 1)) (val P (i + 1) (fun j => (dg P x j + dg P y j) % P)) (P ^ (i + 1)) P m Mod q E G) (fun k => ?_) ih
   have e1 : wrap64 (Int.tdiv (x / P ^ i) P) = x / P ^ (i + 1) := by rw [Int.tdiv_eq_ediv_of_nonneg hbx.1, div_step (by omega), w64_id (by omega) (by omega)]
   have e2 : wrap64 (Int.tdiv (y / P ^ i) P) = y / P ^ (i + 1) := by rw [Int.tdiv_eq_ediv_of_nonneg hby.1, div_step (by omega), w64_id (by omega) (by omega)]
   have e3 : wrap64 ((val P i (fun j => (dg P x j + dg P y j) % P)) + (wrap64 ((Int.tmod (wrap64 ((Int.tmod (x / P ^ i) P) + (Int.tmod (y / P ^ i) P))) P) * P ^ i))) = val P (i + 1) (fun j => (dg P x j + dg P y j) % P) := by
    rw [Int.tmod_eq_emod_of_nonneg hbx.1, Int.tmod_eq_emod_of_nonneg hby.1]
    show wrap64 ((val P i (fun j => (dg P x j + dg P y j) % P)) + (wrap64 ((Int.tmod (wrap64 (dg P x i + dg P y i)) P) * P ^ i))) = _
    rw [w64_id (n := dg P x i + dg P y i) (by omega) (by omega), Int.tmod_eq_emod_of_nonneg (by omega), w64_id (n := (dg P x i + dg P y i) % P * P ^ i) (by omega) (by omega), w64_id (by omega) (by omega)]
    rfl
   have e4 : wrap64 (P ^ i * P) = P ^ (i + 1) := by rw [w64_id (by omega) (by omega), Int.pow_succ]
   simp only [field_GF_Add.l0, e1, e2, e3, e4]
   by_cases hxp : x / P ^ i > 0
   ·rw [if_pos hxp, if_neg (by omega)]
   ·rw [if_neg hxp, if_pos (by omega), if_neg (by omega)]
  by_cases hz : x / P ^ i = 0 ∧ y / P ^ i = 0
  ·have hv : val P M (fun j => (dg P x j + dg P y j) % P) = val P i (fun j => (dg P x j + dg P y j) % P) := by
    have := val_pre P (fun j => (dg P x j + dg P y j) % P) i d (fun j h1 _ => by
     show (dg P x j + dg P y j) % P = 0
     rw [dg_left (by omega) hz.1 h1, dg_left (by omega) hz.2 h1]; simp)
    rwa [h] at this
   refine Ev.step (f := fun _ => some (add P M x y, P, m, q)) (fun k => ?_) (Ev.now _)
   simp only [field_GF_Add.l0]
   rw [if_neg (by omega), if_neg (by omega), ← hv]; rfl
  ·by_cases hd : d = 0
   ·subst hd
    refine absurd ⟨?_, ?_⟩ hz
    ·rw [show i = M by omega]; exact Int.ediv_eq_zero_of_lt hx0 hx1
    ·rw [show i = M by omega]; exact Int.ediv_eq_zero_of_lt hy0 hy1
   ·exact step (by omega) (by omega)
 termination_by d => d
theorem neg_l0 (hP : 2 ≤ P) (hP1 : P ≤ 256) (hM : M ≤ 8) (hq : P ^ M ≤ 256) {x : Int} (hx0 : 0 ≤ x) (hx1 : x < P ^ M) : ∀ d i : Nat, i + d = M →
  Ev (fun k => field_GF_Neg.l0 k (x / P ^ i) (val P i (fun j => (P - dg P x j) % P)) (P ^ i) P m Mod q E G) (neg P M x, P, m, q)
 | d, i, h => by
  have hbx := div_bounds (x := x) (show 0 < P by omega) hx0 i
  have hpi := pow_pos (show 0 < P by omega) i
  have hpm := pow_mono (show 1 ≤ P by omega) (show i ≤ M by omega)
  have step (hd : 0 < d) (hxy : x / P ^ i > 0) : Ev (fun k => field_GF_Neg.l0 k (x / P ^ i) (val P i (fun j => (P - dg P x j) % P)) (P ^ i) P m Mod q E G) (neg P M x, P, m, q) := by
   obtain ⟨d', rfl⟩ : ∃ d', d = d' + 1 := ⟨d - 1, by omega⟩
   have ih := neg_l0 hP hP1 hM hq hx0 hx1 d' (i + 1) (by omega)
   have hbx2 := div_bounds (x := x) (show 0 < P by omega) hx0 (i + 1)
   have hdx := dg_range (show 0 < P by omega) x i
   have hs := emod_range (show 0 < P by omega) (P - dg P x i)
   have hv := val_range (show 0 < P by omega) i (fun j => (P - dg P x j) % P) (fun _ _ => emod_range (by omega) _)
   have hnn := Int.mul_nonneg hs.1 (show 0 ≤ P ^ i by omega)
   have hle : (P - dg P x i) % P * P ^ i ≤ 256 * P ^ i := Int.mul_le_mul_of_nonneg_right (by omega) (by omega)
   have hnn2 := Int.mul_nonneg (show 0 ≤ P ^ i by omega) (show 0 ≤ P by omega)
   have hle2 : P ^ i * P ≤ P ^ i * 256 := Int.mul_le_mul_of_nonneg_left (by omega) (by omega)
   refine Ev.step (f := fun k => field_GF_Neg.l0 k (x / P ^ (i + 1)) (val P (i + 1) (fun j => (P - dg P x j) % P)) (P ^ (i + 1)) P m Mod q E G) (fun k => ?_) ih
   have e1 : wrap64 (Int.tdiv (x / P ^ i) P) = x / P ^ (i + 1) := by rw [Int.tdiv_eq_ediv_of_nonneg hbx.1, div_step (by omega), w64_id (by omega) (by omega)]
   have e3 : wrap64 ((val P i (fun j => (P - dg P x j) % P)) + (wrap64 ((Int.tmod (wrap64 (P - (Int.tmod (x / P ^ i) P))) P) * P ^ i))) = val P (i + 1) (fun j => (P - dg P x j) % P) := by
    rw [Int.tmod_eq_emod_of_nonneg hbx.1]
    show wrap64 ((val P i (fun j => (P - dg P x j) % P)) + (wrap64 ((Int.tmod (wrap64 (P - dg P x i)) P) * P ^ i))) = _
    rw [w64_id (n := P - dg P x i) (by omega) (by omega), Int.tmod_eq_emod_of_nonneg (by omega), w64_id (n := (P - dg P x i) % P * P ^ i) (by omega) (by omega), w64_id (by omega) (by omega)]
    rfl
   have e4 : wrap64 (P ^ i * P) = P ^ (i + 1) := by rw [w64_id (by omega) (by omega), Int.pow_succ]
   simp only [field_GF_Neg.l0, e1, e3, e4]
   rw [if_pos hxy, if_neg (by omega)]
  by_cases hz : x / P ^ i = 0
  ·have hv : val P M (fun j => (P - dg P x j) % P) = val P i (fun j => (P - dg P x j) % P) := by
    have := val_pre P (fun j => (P - dg P x j) % P) i d (fun j h1 _ => by
     show (P - dg P x j) % P = 0
     rw [dg_left (by omega) hz h1]; simp)
    rwa [h] at this
   refine Ev.step (f := fun _ => some (neg P M x, P, m, q)) (fun k => ?_) (Ev.now _)
   simp only [field_GF_Neg.l0]
   rw [if_neg (by omega), ← hv]; rfl
  ·by_cases hd : d = 0
   ·subst hd
    refine absurd ?_ hz
    rw [show i = M by omega]; exact Int.ediv_eq_zero_of_lt hx0 hx1
   ·exact step (by omega) (by omega)
 termination_by d => d
end
section
variable {P m : Int} {M q : Nat} {Mod M' E G : List Int}
theorem add_ev (s : Sized P M q Mod) (x y : Int) : Ev (fun k => field_GF_Add.f k P m M' (q : Int) E G x y) (add P M (c q x) (c q y), P, m, (q : Int)) := by
 have h1 := s.hP; have h2 := s.hP1; have h3 := s.hM1; have h4 := s.hq; have h5 := s.hq1; have h6 := s.hM
 have hq0 := one_pos s
 have hx := c_range (q := (q : Int)) (by omega) x
 have hy := c_range (q := (q : Int)) (by omega) y
 by_cases h : P = 2
 ·subst h
  refine Ev.congr (f := fun _ => some (add 2 M (c q x) (c q y), 2, m, (q : Int))) (fun k => ?_) (Ev.now _)
  unfold field_GF_Add.f
  rw [in_ev]; dsimp only [Option.bind_some]
  rw [in_ev]; dsimp only [Option.bind_some]
  rw [if_pos rfl]
  obtain ⟨a, ha⟩ := Int.eq_ofNat_of_zero_le hx.1
  obtain ⟨b, hb⟩ := Int.eq_ofNat_of_zero_le hy.1
  rw [ha, hb, bits_xor a b (by omega) (by omega), xor_val M a b (by omega) (by omega)]
 ·refine Ev.congr (fun k => ?_) (add_l0 (m := m) (q := (q : Int)) (Mod := M') (E := E) (G := G) h1 h2 h3 (by omega) hx.1 (show c q x < P ^ M by omega) hy.1 (show c q y < P ^ M by omega) M 0 (by omega))
  unfold field_GF_Add.f
  rw [in_ev]; dsimp only [Option.bind_some]
  rw [in_ev]; dsimp only [Option.bind_some]
  rw [if_neg h, Int.pow_zero, Int.ediv_one, Int.ediv_one]; rfl
theorem neg_ev (s : Sized P M q Mod) (x : Int) : Ev (fun k => field_GF_Neg.f k P m M' (q : Int) E G x) (neg P M (c q x), P, m, (q : Int)) := by
 have h1 := s.hP; have h2 := s.hP1; have h3 := s.hM1; have h4 := s.hq; have h5 := s.hq1; have h6 := s.hM
 have hq0 := one_pos s
 have hx := c_range (q := (q : Int)) (by omega) x
 refine Ev.congr (fun k => ?_) (neg_l0 (m := m) (q := (q : Int)) (Mod := M') (E := E) (G := G) h1 h2 h3 (by omega) hx.1 (show c q x < P ^ M by omega) M 0 (by omega))
 unfold field_GF_Neg.f
 rw [in_ev]; dsimp only [Option.bind_some]
 rw [Int.pow_zero, Int.ediv_one]; rfl
theorem c_elt (s : Sized P M q Mod) (x : Int) : 0 ≤ c q x ∧ c q x < P ^ M := by
 have h4 := s.hq
 have hq0 := one_pos s
 have hx := c_range (q := (q : Int)) (by omega) x
 omega
theorem sub_ev (s : Sized P M q Mod) (x y : Int) : Ev (fun k => field_GF_Sub.f k P m M' (q : Int) E G x y) (sub P M (c q x) (c q y), P, m, (q : Int)) := by
 have h4 := s.hq
 have hP := s.hP
 have hr := neg_range (M := M) (show 0 < P by omega) (c q y)
 unfold field_GF_Sub.f
 refine (neg_ev s y).bind ?_
 dsimp only
 refine (add_ev s x _).bind ?_
 dsimp only
 rw [c_id (x := neg P M (c q y)) hr.1 (by omega)]
 exact Ev.now _
end
end Go.Proofs.Ythgaihhlbgccoaa.Ad
