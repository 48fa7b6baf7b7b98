import Derived.Test.YthgaihhlbgccoaaZCl
import Derived.Test.YthgaihhlbgccoaaZF2
import Derived.Test.YthgaihhlbgccoaaZQh
import Derived.Test.YthgaihhlbgccoaaZQa
import Derived.Test.YthgaihhlbgccoaaZQb
/- What the printed Count, Index and FromIndex compute. -/
namespace Go.Proofs.Ythgaihhlbgccoaa.Nm
open Go.RowKit Go.Proofs.Ythgaihhlbgccoaa.Q Go.Proofs.YthgaihhlbgccoaaW.PrintWords Go.Proofs.YthgaihhlbgccoaaW.PrintLast Go.Proofs.Ythgaihhlbgccoaa.Dig Go.Proofs.Ythgaihhlbgccoaa.Fv Go.Proofs.Ythgaihhlbgccoaa.Fo Go.Proofs.Ythgaihhlbgccoaa.Ker Go.Proofs.Ythgaihhlbgccoaa.Cl Go.Proofs.Ythgaihhlbgccoaa.Lex

/-- The number of words of length n. -/
def cnt (q n : Int) : Int × Int := if n < 0 ∨ 64 < n then (0, 6) else if 65536 < q ^ n.toNat then (0, 8) else (q ^ n.toNat, 0)
section
variable {P m q : Int} {Mod E G : List Int}
theorem exp_l0 (hq : 2 ≤ q) (hq1 : q ≤ 65536) (n : Nat) (hn : n ≤ 64) : ∀ d i : Nat, i + d = n → q ^ i ≤ 65536 →
  Ev (fun k => number_Exp.l0 k q (d : Int) 65536 (q ^ i)) (if 65536 < q ^ n then (0, 8) else (q ^ n, 0))
 | 0, i, h, hi => by
  have e : i = n := by omega
  subst e
  rw [if_neg (by omega)]
  refine Ev.step (f := fun k => number_Exp.j3 k q ((0 : Nat) : Int) 65536 (q ^ i) false) (fun k => ?_) (Ev.step (f := fun _ => some (q ^ i, 0)) (fun k => ?_) (Ev.now _))
  ·simp only [number_Exp.l0]; rw [if_neg (by omega)]
  ·simp only [number_Exp.j3]; rw [if_neg (by simp)]
 | d + 1, i, h, hi => by
  have h0 := pow_pos (show 0 < q by omega) i
  have hd : wrap64 (Int.tdiv (65536 : Int) q) = 65536 / q := by
   rw [Int.tdiv_eq_ediv_of_nonneg (by omega), w64_id (by have := Int.ediv_nonneg (show 0 ≤ (65536 : Int) by omega) (show 0 ≤ q by omega); omega) (by have := Int.ediv_le_self (a := 65536) q (by omega); omega)]
  have hiff : q ^ i > 65536 / q ↔ 65536 < q ^ (i + 1) := by
   rw [Int.pow_succ]
   exact Int.ediv_lt_iff_lt_mul (by omega)
  have start : ∀ r, Ev (fun k => number_Exp.j3 k q ((d + 1 : Nat) : Int) 65536 (q ^ i) true) r → Ev (fun k => number_Exp.l0 k q ((d + 1 : Nat) : Int) 65536 (q ^ i)) r := fun r hr =>
   Ev.step (fun k => by simp only [number_Exp.l0]; rw [if_pos (by omega), decide_eq_true (by omega)]) hr
  refine start _ ?_
  by_cases hb : 65536 < q ^ (i + 1)
  ·have hm := pow_mono (show 1 ≤ q by omega) (show i + 1 ≤ n by omega)
   rw [if_pos (by omega)]
   refine Ev.step (f := fun _ => some (0, 8)) (fun k => ?_) (Ev.now _)
   simp only [number_Exp.j3]
   rw [if_pos trivial, if_neg (by omega), hd, if_pos (hiff.2 hb)]
  ·have hq2 : q ^ i * q ≤ 65536 := by rw [← Int.pow_succ]; exact Int.not_lt.1 hb
   have hnn : 0 ≤ q ^ i * q := Int.mul_nonneg (by omega) (by omega)
   have ew : wrap64 (q ^ i * q) = q ^ (i + 1) := by rw [w64_id (by omega) (by omega), Int.pow_succ]
   refine Ev.step (fun k => ?_) (exp_l0 hq hq1 n hn d (i + 1) (by omega) (by omega))
   simp only [number_Exp.j3]
   rw [if_pos trivial, if_neg (by omega), hd, if_neg (fun h => hb (hiff.1 h)), ew, w64_id (by omega) (by omega)]
   congr 1
   omega
theorem count_ev (hq : 2 ≤ q) (hq1 : q ≤ 65536) (n : Int) : Ev (fun k => word_Count.f k P m Mod q E G n) ((cnt q n).1, (cnt q n).2, P, m, q) := by
 have hj : Ev (fun k => word_Count.j0 k n true P m Mod q E G) (0, 6, P, m, q) := Ev.step (f := fun _ => some (0, 6, P, m, q)) (fun k => by simp only [word_Count.j0]; rw [if_pos trivial]) (Ev.now _)
 by_cases h0 : n < 0
 ·have e : cnt q n = (0, 6) := if_pos (.inl h0)
  rw [e]
  refine Ev.congr (fun k => ?_) hj
  unfold word_Count.f; rw [if_pos h0]
 by_cases h1 : 64 < n
 ·have e : cnt q n = (0, 6) := if_pos (.inr h1)
  rw [e]
  refine Ev.congr (fun k => ?_) hj
  unfold word_Count.f; rw [if_neg h0, decide_eq_true h1]
 obtain ⟨t, rfl⟩ := Int.eq_ofNat_of_zero_le (show 0 ≤ n by omega)
 have h := exp_l0 hq hq1 t (by omega) t 0 (by omega) (by simp)
 have e : cnt q (t : Int) = if 65536 < q ^ t then (0, 8) else (q ^ t, 0) := by
  unfold cnt; rw [if_neg (by omega), Int.toNat_natCast]
 rw [← e] at h
 have hx : Ev (fun k => number_Exp.f k q t 65536) (cnt q t) := by
  refine Ev.congr (f := fun k => number_Exp.j0 k q t 65536 false) (fun k => ?_) (Ev.step (f := fun k => number_Exp.j1 k q t 65536 false) (fun k => ?_) (Ev.step (fun k => ?_) h))
  ·unfold number_Exp.f; rw [if_neg (by omega), if_neg (by omega), decide_eq_false (by omega)]
  ·simp only [number_Exp.j0]; rw [if_neg (by simp), if_neg (by omega)]
  ·simp only [number_Exp.j1]; rw [if_neg (by simp), if_neg (by omega), Int.pow_zero]
 refine Ev.congr (f := fun k => word_Count.j0 k t false P m Mod q E G) (fun k => ?_) (Ev.step (f := fun k => (number_Exp.f k q t 65536).bind fun u => some (u.1, u.2, P, m, q)) (fun k => ?_) (hx.bind (Ev.now _)))
 ·unfold word_Count.f; rw [if_neg h0, decide_eq_false h1]
 ·simp only [word_Count.j0, field_GF_Order.f, Option.bind_some]; rw [if_neg (by simp)]
theorem rcount_l0 (hq : 2 ≤ q) (hq1 : q ≤ 65536) (n : Nat) (hn : n ≤ 64) : ∀ d i : Nat, i + d = n → q ^ i ≤ 65536 →
  Ev (fun k => crB_Count.l0 k (n : Int) q (q ^ i) (i : Int)) (if 65536 < q ^ n then (0, 8) else (q ^ n, 0))
 | 0, i, h, hi => by
  have e : i = n := by omega
  subst e
  rw [if_neg (by omega)]
  refine Ev.step (f := fun _ => some (q ^ i, 0)) (fun k => ?_) (Ev.now _)
  simp only [crB_Count.l0]; rw [if_neg (by omega)]
 | d + 1, i, h, hi => by
  have h0 := pow_pos (show 0 < q by omega) i
  have hd : wrap64 (Int.tdiv (65536 : Int) q) = 65536 / q := by
   rw [Int.tdiv_eq_ediv_of_nonneg (by omega), w64_id (by have := Int.ediv_nonneg (show 0 ≤ (65536 : Int) by omega) (show 0 ≤ q by omega); omega) (by have := Int.ediv_le_self (a := 65536) q (by omega); omega)]
  have hiff : q ^ i > 65536 / q ↔ 65536 < q ^ (i + 1) := by
   rw [Int.pow_succ]
   exact Int.ediv_lt_iff_lt_mul (by omega)
  by_cases hb : 65536 < q ^ (i + 1)
  ·have hm := pow_mono (show 1 ≤ q by omega) (show i + 1 ≤ n by omega)
   rw [if_pos (by omega)]
   refine Ev.step (f := fun _ => some (0, 8)) (fun k => ?_) (Ev.now _)
   simp only [crB_Count.l0]
   rw [if_pos (by omega), if_neg (by omega), hd, if_pos (hiff.2 hb)]
  ·have hq2 : q ^ i * q ≤ 65536 := by rw [← Int.pow_succ]; exact Int.not_lt.1 hb
   have hnn : 0 ≤ q ^ i * q := Int.mul_nonneg (by omega) (by omega)
   have ew : wrap64 (q ^ i * q) = q ^ (i + 1) := by rw [w64_id (by omega) (by omega), Int.pow_succ]
   refine Ev.step (fun k => ?_) (rcount_l0 hq hq1 n hn d (i + 1) (by omega) (by omega))
   simp only [crB_Count.l0]
   rw [if_pos (by omega), if_neg (by omega), hd, if_neg (fun h => hb (hiff.1 h)), ew, w64_id (by omega) (by omega)]; rfl
theorem rcount_ev (hP : P ≤ 9223372036854775807) (ho : ord P m = q) (hq : 2 ≤ q) (hq1 : q ≤ 65536) (n : Int) : Ev (fun k => crB_Count.f k P m Mod n) (cnt q n) := by
 have hj : Ev (fun k => crB_Count.j0 k n true P m Mod) (0, 6) := Ev.step (f := fun _ => some (0, 6)) (fun k => by simp only [crB_Count.j0]; rw [if_pos trivial]) (Ev.now _)
 by_cases h0 : n < 0
 ·have e : cnt q n = (0, 6) := if_pos (.inl h0)
  rw [e]
  refine Ev.congr (fun k => ?_) hj
  unfold crB_Count.f; rw [if_pos h0]
 by_cases h1 : 64 < n
 ·have e : cnt q n = (0, 6) := if_pos (.inr h1)
  rw [e]
  refine Ev.congr (fun k => ?_) hj
  unfold crB_Count.f; rw [if_neg h0, decide_eq_true h1]
 obtain ⟨t, rfl⟩ := Int.eq_ofNat_of_zero_le (show 0 ≤ n by omega)
 have h := rcount_l0 hq hq1 t (by omega) t 0 (by omega) (by simp)
 have e : cnt q (t : Int) = if 65536 < q ^ t then (0, 8) else (q ^ t, 0) := by
  unfold cnt; rw [if_neg (by omega), Int.toNat_natCast]
 rw [← e] at h
 have hor := rorder_ev P m Mod hP
 rw [ho] at hor
 refine Ev.congr (f := fun k => crB_Count.j0 k t false P m Mod) (fun k => ?_) (Ev.step (f := fun k => (cr4_Order.f k P m Mod).bind fun u => crB_Count.l0 k t u 1 0) (fun k => ?_) (hor.bind (Ev.congr (fun k => ?_) h)))
 ·unfold crB_Count.f; rw [if_neg h0, decide_eq_false h1]
 ·simp only [crB_Count.j0]; rw [if_neg (by simp)]
 ·rw [Int.pow_zero]; rfl
/-- The number of a word, behind acc. -/
def ixl (q : Int) : Int → List Int → Int
 | acc, [] => acc
 | acc, x :: l => ixl q (acc * q + x) l
/-- Entries are elements. -/
def El (q : Int) (l : List Int) : Prop := ∀ x ∈ l, 0 ≤ x ∧ x < q
theorem El.cons {x : Int} {l : List Int} (h : El q (x :: l)) : (0 ≤ x ∧ x < q) ∧ El q l := ⟨h x (by simp), fun y hy => h y (by simp [hy])⟩
/-- What Index answers. -/
def idx (q : Int) (l : List Int) : Int × Int := if (cnt q (l.length : Int)).2 = 0 then (ixl q 0 (cl q l), 0) else (0, (cnt q (l.length : Int)).2)
theorem cnt_ok {q : Int} {n : Nat} (h : (cnt q (n : Int)).2 = 0) : n ≤ 64 ∧ q ^ n ≤ 65536 ∧ (cnt q (n : Int)).1 = q ^ n := by
 unfold cnt at h ⊢
 by_cases h1 : (n : Int) < 0 ∨ 64 < (n : Int)
 ·rw [if_pos h1] at h; exact absurd h (by decide)
 ·rw [if_neg h1] at h ⊢
  rw [Int.toNat_natCast] at h ⊢
  by_cases h2 : 65536 < q ^ n
  ·rw [if_pos h2] at h; exact absurd h (by decide)
  ·rw [if_neg h2]; exact ⟨by omega, by omega, rfl⟩
/-- The word with number x. -/
def wd (q : Int) (n : Nat) (x : Int) : List Int := L n (fun k => dg q x (n - 1 - k))
/-- What FromIndex answers. -/
def frm (q n x : Int) : List Int × Int := if (cnt q n).2 = 0 then (if x < 0 ∨ (cnt q n).1 ≤ x then ([], 6) else (wd q n.toNat x, 0)) else ([], (cnt q n).2)
end
end Go.Proofs.Ythgaihhlbgccoaa.Nm
