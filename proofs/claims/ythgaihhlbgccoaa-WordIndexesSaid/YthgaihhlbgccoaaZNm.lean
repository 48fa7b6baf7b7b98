import Derived.Test.YthgaihhlbgccoaaZCl
import Derived.Test.YthgaihhlbgccoaaZF2
import Derived.Test.YthgaihhlbgccoaaZQh
import Derived.Test.YthgaihhlbgccoaaZQi
import Derived.Test.YthgaihhlbgccoaaZQk
/- What the printed Count, Index and FromIndex compute. -/
namespace Go.Proofs.Ythgaihhlbgccoaa.Nm
open Go.RowKit Go.Proofs.Ythgaihhlbgccoaa.Q Go.Proofs.YthgaihhlbgccoaaW.PrintWords Go.Proofs.YthgaihhlbgccoaaW.PrintLast Go.Proofs.Ythgaihhlbgccoaa.Dig Go.Proofs.Ythgaihhlbgccoaa.Fv Go.Proofs.Ythgaihhlbgccoaa.Fo Go.Proofs.Ythgaihhlbgccoaa.Ker Go.Proofs.Ythgaihhlbgccoaa.Cl Go.Proofs.Ythgaihhlbgccoaa.Lex

/-- The number of words of length n. -/
def cnt (q n : Int) : Int × Int := if n < 0 ∨ 64 < n then (0, 6) else if 65536 < q ^ n.toNat then (0, 8) else (q ^ n.toNat, 0)
section
variable {P m q : Int} {Mod E G : List Int}
theorem exp_l0 (hq : 2 ≤ q) (hq1 : q ≤ 65536) (n : Nat) (hn : n ≤ 64) : ∀ d i : Nat, i + d = n → q ^ i ≤ 65536 →
    Ev (fun k => number_Exp.l0 k q (d : Int) 65536 (q ^ i)) (if 65536 < q ^ n then (0, 8) else (q ^ n, 0))
  | 0, i, h, hi => by
    have e : i = n := by omega
    subst e
    rw [if_neg (by omega)]
    refine Ev.step (f := fun k => number_Exp.j3 k q ((0 : Nat) : Int) 65536 (q ^ i) false) (fun k => ?_) (Ev.step (f := fun _ => some (q ^ i, 0)) (fun k => ?_) (Ev.now _))
    · simp only [number_Exp.l0]; rw [if_neg (by omega)]
    · simp only [number_Exp.j3]; rw [if_neg (by simp)]
  | d + 1, i, h, hi => by
    have h0 := pow_pos (show 0 < q by omega) i
    have hd : wrap64 (Int.tdiv (65536 : Int) q) = 65536 / q := by
      rw [Int.tdiv_eq_ediv_of_nonneg (by omega), w64_id (by have := Int.ediv_nonneg (show 0 ≤ (65536 : Int) by omega) (show 0 ≤ q by omega); omega) (by have := Int.ediv_le_self (a := 65536) q (by omega); omega)]
    have hiff : q ^ i > 65536 / q ↔ 65536 < q ^ (i + 1) := by
      rw [Int.pow_succ]
      exact Int.ediv_lt_iff_lt_mul (by omega)
    have start : ∀ r, Ev (fun k => number_Exp.j3 k q ((d + 1 : Nat) : Int) 65536 (q ^ i) true) r → Ev (fun k => number_Exp.l0 k q ((d + 1 : Nat) : Int) 65536 (q ^ i)) r := fun r hr =>
      Ev.step (fun k => by simp only [number_Exp.l0]; rw [if_pos (by omega), decide_eq_true (by omega)]) hr
    refine start _ ?_
    by_cases hb : 65536 < q ^ (i + 1)
    · have hm := pow_mono (show 1 ≤ q by omega) (show i + 1 ≤ n by omega)
      rw [if_pos (by omega)]
      refine Ev.step (f := fun _ => some (0, 8)) (fun k => ?_) (Ev.now _)
      simp only [number_Exp.j3]
      rw [if_pos trivial, if_neg (by omega), hd, if_pos (hiff.2 hb)]
    · have hq2 : q ^ i * q ≤ 65536 := by rw [← Int.pow_succ]; exact Int.not_lt.1 hb
      have hnn : 0 ≤ q ^ i * q := Int.mul_nonneg (by omega) (by omega)
      have ew : wrap64 (q ^ i * q) = q ^ (i + 1) := by rw [w64_id (by omega) (by omega), Int.pow_succ]
      refine Ev.step (fun k => ?_) (exp_l0 hq hq1 n hn d (i + 1) (by omega) (by omega))
      simp only [number_Exp.j3]
      rw [if_pos trivial, if_neg (by omega), hd, if_neg (fun h => hb (hiff.1 h)), ew, w64_id (by omega) (by omega)]
      congr 1
      omega
theorem count_ev (hq : 2 ≤ q) (hq1 : q ≤ 65536) (n : Int) : Ev (fun k => word_Count.f k P m Mod q E G n) ((cnt q n).1, (cnt q n).2, P, m, q) := by
  have hj : Ev (fun k => word_Count.j0 k n true P m Mod q E G) (0, 6, P, m, q) := Ev.step (f := fun _ => some (0, 6, P, m, q)) (fun k => by simp only [word_Count.j0]; rw [if_pos trivial]) (Ev.now _)
  by_cases h0 : n < 0
  · have e : cnt q n = (0, 6) := if_pos (.inl h0)
    rw [e]
    refine Ev.congr (fun k => ?_) hj
    unfold word_Count.f; rw [if_pos h0]
  by_cases h1 : 64 < n
  · have e : cnt q n = (0, 6) := if_pos (.inr h1)
    rw [e]
    refine Ev.congr (fun k => ?_) hj
    unfold word_Count.f; rw [if_neg h0, decide_eq_true h1]
  obtain ⟨t, rfl⟩ := Int.eq_ofNat_of_zero_le (show 0 ≤ n by omega)
  have h := exp_l0 hq hq1 t (by omega) t 0 (by omega) (by simp)
  have e : cnt q (t : Int) = if 65536 < q ^ t then (0, 8) else (q ^ t, 0) := by
    unfold cnt; rw [if_neg (by omega), Int.toNat_natCast]
  rw [← e] at h
  have hx : Ev (fun k => number_Exp.f k q t 65536) (cnt q t) := by
    refine Ev.congr (f := fun k => number_Exp.j0 k q t 65536 false) (fun k => ?_) (Ev.step (f := fun k => number_Exp.j1 k q t 65536 false) (fun k => ?_) (Ev.step (fun k => ?_) h))
    · unfold number_Exp.f; rw [if_neg (by omega), if_neg (by omega), decide_eq_false (by omega)]
    · simp only [number_Exp.j0]; rw [if_neg (by simp), if_neg (by omega)]
    · simp only [number_Exp.j1]; rw [if_neg (by simp), if_neg (by omega), Int.pow_zero]
  refine Ev.congr (f := fun k => word_Count.j0 k t false P m Mod q E G) (fun k => ?_) (Ev.step (f := fun k => (number_Exp.f k q t 65536).bind fun u => some (u.1, u.2, P, m, q)) (fun k => ?_) (hx.bind (Ev.now _)))
  · unfold word_Count.f; rw [if_neg h0, decide_eq_false h1]
  · simp only [word_Count.j0, field_GF_Order.f, Option.bind_some]; rw [if_neg (by simp)]
theorem rcount_l0 (hq : 2 ≤ q) (hq1 : q ≤ 65536) (n : Nat) (hn : n ≤ 64) : ∀ d i : Nat, i + d = n → q ^ i ≤ 65536 →
    Ev (fun k => codewrightref11_Count.l0 k (n : Int) q (q ^ i) (i : Int)) (if 65536 < q ^ n then (0, 8) else (q ^ n, 0))
  | 0, i, h, hi => by
    have e : i = n := by omega
    subst e
    rw [if_neg (by omega)]
    refine Ev.step (f := fun _ => some (q ^ i, 0)) (fun k => ?_) (Ev.now _)
    simp only [codewrightref11_Count.l0]; rw [if_neg (by omega)]
  | d + 1, i, h, hi => by
    have h0 := pow_pos (show 0 < q by omega) i
    have hd : wrap64 (Int.tdiv (65536 : Int) q) = 65536 / q := by
      rw [Int.tdiv_eq_ediv_of_nonneg (by omega), w64_id (by have := Int.ediv_nonneg (show 0 ≤ (65536 : Int) by omega) (show 0 ≤ q by omega); omega) (by have := Int.ediv_le_self (a := 65536) q (by omega); omega)]
    have hiff : q ^ i > 65536 / q ↔ 65536 < q ^ (i + 1) := by
      rw [Int.pow_succ]
      exact Int.ediv_lt_iff_lt_mul (by omega)
    by_cases hb : 65536 < q ^ (i + 1)
    · have hm := pow_mono (show 1 ≤ q by omega) (show i + 1 ≤ n by omega)
      rw [if_pos (by omega)]
      refine Ev.step (f := fun _ => some (0, 8)) (fun k => ?_) (Ev.now _)
      simp only [codewrightref11_Count.l0]
      rw [if_pos (by omega), if_neg (by omega), hd, if_pos (hiff.2 hb)]
    · have hq2 : q ^ i * q ≤ 65536 := by rw [← Int.pow_succ]; exact Int.not_lt.1 hb
      have hnn : 0 ≤ q ^ i * q := Int.mul_nonneg (by omega) (by omega)
      have ew : wrap64 (q ^ i * q) = q ^ (i + 1) := by rw [w64_id (by omega) (by omega), Int.pow_succ]
      refine Ev.step (fun k => ?_) (rcount_l0 hq hq1 n hn d (i + 1) (by omega) (by omega))
      simp only [codewrightref11_Count.l0]
      rw [if_pos (by omega), if_neg (by omega), hd, if_neg (fun h => hb (hiff.1 h)), ew, w64_id (by omega) (by omega)]; rfl
theorem rcount_ev (hP : P ≤ 9223372036854775807) (ho : ord P m = q) (hq : 2 ≤ q) (hq1 : q ≤ 65536) (n : Int) : Ev (fun k => codewrightref11_Count.f k P m Mod n) (cnt q n) := by
  have hj : Ev (fun k => codewrightref11_Count.j0 k n true P m Mod) (0, 6) := Ev.step (f := fun _ => some (0, 6)) (fun k => by simp only [codewrightref11_Count.j0]; rw [if_pos trivial]) (Ev.now _)
  by_cases h0 : n < 0
  · have e : cnt q n = (0, 6) := if_pos (.inl h0)
    rw [e]
    refine Ev.congr (fun k => ?_) hj
    unfold codewrightref11_Count.f; rw [if_pos h0]
  by_cases h1 : 64 < n
  · have e : cnt q n = (0, 6) := if_pos (.inr h1)
    rw [e]
    refine Ev.congr (fun k => ?_) hj
    unfold codewrightref11_Count.f; rw [if_neg h0, decide_eq_true h1]
  obtain ⟨t, rfl⟩ := Int.eq_ofNat_of_zero_le (show 0 ≤ n by omega)
  have h := rcount_l0 hq hq1 t (by omega) t 0 (by omega) (by simp)
  have e : cnt q (t : Int) = if 65536 < q ^ t then (0, 8) else (q ^ t, 0) := by
    unfold cnt; rw [if_neg (by omega), Int.toNat_natCast]
  rw [← e] at h
  have hor := rorder_ev P m Mod hP
  rw [ho] at hor
  refine Ev.congr (f := fun k => codewrightref11_Count.j0 k t false P m Mod) (fun k => ?_) (Ev.step (f := fun k => (codewrightref04_Order.f k P m Mod).bind fun u => codewrightref11_Count.l0 k t u 1 0) (fun k => ?_) (hor.bind (Ev.congr (fun k => ?_) h)))
  · unfold codewrightref11_Count.f; rw [if_neg h0, decide_eq_false h1]
  · simp only [codewrightref11_Count.j0]; rw [if_neg (by simp)]
  · rw [Int.pow_zero]; rfl
/-- The number of a word, behind acc. -/
def ixl (q : Int) : Int → List Int → Int
  | acc, [] => acc
  | acc, x :: l => ixl q (acc * q + x) l
/-- Entries are elements. -/
def El (q : Int) (l : List Int) : Prop := ∀ x ∈ l, 0 ≤ x ∧ x < q
theorem El.cons {x : Int} {l : List Int} (h : El q (x :: l)) : (0 ≤ x ∧ x < q) ∧ El q l := ⟨h x (by simp), fun y hy => h y (by simp [hy])⟩
theorem el_L (n : Nat) (f : Nat → Int) (h : ∀ i, i < n → 0 ≤ f i ∧ f i < q) : El q (L n f) := by
  intro x hx
  simp only [L, List.mem_map, List.mem_range] at hx
  obtain ⟨i, hi, rfl⟩ := hx
  exact h i hi
theorem el_cl (hq : 0 < q) (l : List Int) : El q (cl q l) := el_L _ _ (fun _ _ => c_range hq _)
theorem step_range {i : Nat} {acc x : Int} (hq : 0 < q) (ha : 0 ≤ acc ∧ acc < q ^ i) (hx : 0 ≤ x ∧ x < q) : 0 ≤ acc * q + x ∧ acc * q + x < q ^ (i + 1) := by
  have h1 := Int.mul_nonneg ha.1 (show 0 ≤ q by omega)
  have h2 : acc * q ≤ (q ^ i - 1) * q := Int.mul_le_mul_of_nonneg_right (by omega) (by omega)
  rw [Int.sub_mul, Int.one_mul] at h2
  rw [Int.pow_succ]
  omega
theorem index_l0 (hq : 2 ≤ q) (l : List Int) (hl : El q l) (hb : q ^ l.length ≤ 65536) (hn : l.length ≤ 64) : ∀ d i : Nat, i + d = l.length → ∀ acc : Int, 0 ≤ acc ∧ acc < q ^ i →
    Ev (fun k => word_Index.l0 k acc l (l.length : Int) (i : Int) P m Mod q E G) (ixl q acc (l.drop i), 0, P, m, q)
  | 0, i, h, acc, ha => by
    rw [List.drop_of_length_le (by omega)]
    refine Ev.step (f := fun _ => some (acc, 0, P, m, q)) (fun k => ?_) (Ev.now _)
    simp only [word_Index.l0]
    rw [if_neg (by omega)]
  | d + 1, i, h, acc, ha => by
    have hi : i < l.length := by omega
    have e1 : rd l (i : Int) = l[i] := rd_at l i hi
    have hx : 0 ≤ l[i] ∧ l[i] < q := hl _ (List.getElem_mem hi)
    have hr := step_range (show 0 < q by omega) ha hx
    have hm := pow_mono (show 1 ≤ q by omega) (show i + 1 ≤ l.length by omega)
    have hnn := Int.mul_nonneg ha.1 (show 0 ≤ q by omega)
    rw [List.drop_eq_getElem_cons hi]
    refine Ev.step (fun k => ?_) (index_l0 hq l hl hb hn d (i + 1) (by omega) (acc * q + l[i]) hr)
    simp only [word_Index.l0, field_GF_Order.f, Option.bind_some]
    rw [if_pos (by omega), if_pos (by omega), if_pos (by omega), e1, w64_id (n := acc * q) (by omega) (by omega), w64_id (by omega) (by omega), w64_id (by omega) (by omega)]; rfl
theorem rindex_l0 (hq : 2 ≤ q) (l : List Int) (hl : El q l) (hb : q ^ l.length ≤ 65536) (hn : l.length ≤ 64) : ∀ d i : Nat, i + d = l.length → ∀ acc : Int, 0 ≤ acc ∧ acc < q ^ i →
    Ev (fun k => codewrightref11_Index.l0 k q l acc (i : Int)) (ixl q acc (l.drop i), 0)
  | 0, i, h, acc, ha => by
    rw [List.drop_of_length_le (by omega)]
    refine Ev.step (f := fun _ => some (acc, 0)) (fun k => ?_) (Ev.now _)
    simp only [codewrightref11_Index.l0]
    rw [if_neg (by omega)]
  | d + 1, i, h, acc, ha => by
    have hi : i < l.length := by omega
    have e1 : rd l (i : Int) = l[i] := rd_at l i hi
    have hx : 0 ≤ l[i] ∧ l[i] < q := hl _ (List.getElem_mem hi)
    have hr := step_range (show 0 < q by omega) ha hx
    have hm := pow_mono (show 1 ≤ q by omega) (show i + 1 ≤ l.length by omega)
    have hnn := Int.mul_nonneg ha.1 (show 0 ≤ q by omega)
    rw [List.drop_eq_getElem_cons hi]
    refine Ev.step (fun k => ?_) (rindex_l0 hq l hl hb hn d (i + 1) (by omega) (acc * q + l[i]) hr)
    simp only [codewrightref11_Index.l0]
    rw [if_pos (by omega), if_pos (by omega), e1, w64_id (n := acc * q) (by omega) (by omega), w64_id (by omega) (by omega), w64_id (by omega) (by omega)]; rfl
/-- What Index answers. -/
def idx (q : Int) (l : List Int) : Int × Int := if (cnt q (l.length : Int)).2 = 0 then (ixl q 0 (cl q l), 0) else (0, (cnt q (l.length : Int)).2)
theorem cnt_ok {q : Int} {n : Nat} (h : (cnt q (n : Int)).2 = 0) : n ≤ 64 ∧ q ^ n ≤ 65536 ∧ (cnt q (n : Int)).1 = q ^ n := by
  unfold cnt at h ⊢
  by_cases h1 : (n : Int) < 0 ∨ 64 < (n : Int)
  · rw [if_pos h1] at h; exact absurd h (by decide)
  · rw [if_neg h1] at h ⊢
    rw [Int.toNat_natCast] at h ⊢
    by_cases h2 : 65536 < q ^ n
    · rw [if_pos h2] at h; exact absurd h (by decide)
    · rw [if_neg h2]; exact ⟨by omega, by omega, rfl⟩
theorem index_ev (hq : 2 ≤ q) (hq1 : q ≤ 65536) (l : List Int) : Ev (fun k => word_Index.f k P m Mod q E G l) ((idx q l).1, (idx q l).2, P, m, q) := by
  unfold word_Index.f idx
  refine (count_ev hq hq1 _).bind ?_
  dsimp only
  by_cases h : (cnt q (l.length : Int)).2 = 0
  · obtain ⟨h1, h2, h3⟩ := cnt_ok h
    rw [if_pos h]
    refine Ev.congr (fun k => if_pos h) ?_
    refine (clean_ev l (by omega)).bind ?_
    dsimp only
    exact index_l0 hq (cl q l) (el_cl (by omega) l) (by rw [cl_length]; exact h2) (by rw [cl_length]; omega) (cl q l).length 0 (by omega) 0 (by simp)
  · rw [if_neg h]
    exact Ev.congr (fun k => if_neg h) (Ev.now _)
theorem rindex_ev (hP : P ≤ 9223372036854775807) (ho : ord P m = q) (hq : 2 ≤ q) (hq1 : q ≤ 65536) (l : List Int) : Ev (fun k => codewrightref11_Index.f k P m Mod l) (idx q l) := by
  unfold codewrightref11_Index.f idx
  refine (rcount_ev hP ho hq hq1 _).bind ?_
  by_cases h : (cnt q (l.length : Int)).2 = 0
  · obtain ⟨h1, h2, h3⟩ := cnt_ok h
    rw [if_pos h]
    refine Ev.congr (fun k => if_pos h) ?_
    have hor := rorder_ev P m Mod hP
    rw [ho] at hor
    refine hor.bind ((rclean_ev hP ho l (by omega)).bind ?_)
    exact rindex_l0 hq (cl q l) (el_cl (by omega) l) (by rw [cl_length]; exact h2) (by rw [cl_length]; omega) (cl q l).length 0 (by omega) 0 (by simp)
  · rw [if_neg h]
    exact Ev.congr (fun k => if_neg h) (Ev.now _)
/-- The word with number x. -/
def wd (q : Int) (n : Nat) (x : Int) : List Int := L n (fun k => dg q x (n - 1 - k))
theorem from_l0 (hq : 2 ≤ q) (hq1 : q ≤ 65536) (n : Nat) (hn : n ≤ 64) {x : Int} (hx : 0 ≤ x) (hx1 : x ≤ 65536) : ∀ i d : Nat, i + d = n →
    Ev (fun k => word_FromIndex.l0 k (x / q ^ d) (L n (fun t => if i ≤ t then dg q x (n - 1 - t) else 0)) ((i : Int) - 1) P m Mod q E G) (wd q n x, 0, P, m, q)
  | 0, d, h => by
    refine Ev.step (f := fun _ => some (wd q n x, 0, P, m, q)) (fun k => ?_) (Ev.now _)
    simp only [word_FromIndex.l0]
    rw [if_neg (by omega)]
    congr 2
  | i + 1, d, h => by
    have hb := div_bounds (x := x) (show 0 < q by omega) hx d
    have hb2 := div_bounds (x := x) (show 0 < q by omega) hx (d + 1)
    refine Ev.step (fun k => ?_) (from_l0 hq hq1 n hn hx hx1 i (d + 1) (by omega))
    have e1 : ((i + 1 : Nat) : Int) - 1 = (i : Int) := by omega
    simp only [word_FromIndex.l0, field_GF_Order.f, Option.bind_some, e1]
    rw [if_pos (by omega), if_neg (by omega), if_pos (by omega), L_length, if_pos (by omega), if_neg (by omega), Int.tdiv_eq_ediv_of_nonneg hb.1, Int.tmod_eq_emod_of_nonneg hb.1, div_step (by omega), w64_id (n := x / q ^ (d + 1)) (by omega) (by omega), w64_id (by omega) (by omega), L_set, Int.toNat_natCast]
    congr 1
    refine L_congr _ _ _ (fun t ht => ?_)
    by_cases e : t = i
    · subst e; rw [if_pos rfl, if_pos (by omega)]; unfold dg; rw [show n - 1 - t = d by omega]
    · rw [if_neg e]
      by_cases e2 : i + 1 ≤ t
      · rw [if_pos e2, if_pos (by omega)]
      · rw [if_neg e2, if_neg (by omega)]
theorem rfrom_l0 (hq : 2 ≤ q) (hq1 : q ≤ 65536) (n : Nat) (hn : n ≤ 64) {x : Int} (hx : 0 ≤ x) (hx1 : x ≤ 65536) : ∀ i d : Nat, i + d = n →
    Ev (fun k => codewrightref11_FromIndex.l0 k (x / q ^ d) q (L n (fun t => if i ≤ t then dg q x (n - 1 - t) else 0)) ((i : Int) - 1)) (wd q n x, 0)
  | 0, d, h => by
    refine Ev.step (f := fun _ => some (wd q n x, 0)) (fun k => ?_) (Ev.now _)
    simp only [codewrightref11_FromIndex.l0]
    rw [if_neg (by omega)]
    congr 2
  | i + 1, d, h => by
    have hb := div_bounds (x := x) (show 0 < q by omega) hx d
    have hb2 := div_bounds (x := x) (show 0 < q by omega) hx (d + 1)
    refine Ev.step (fun k => ?_) (rfrom_l0 hq hq1 n hn hx hx1 i (d + 1) (by omega))
    have e1 : ((i + 1 : Nat) : Int) - 1 = (i : Int) := by omega
    simp only [codewrightref11_FromIndex.l0, e1]
    rw [if_pos (by omega), if_neg (by omega), if_pos (by omega), L_length, if_pos (by omega), Int.tdiv_eq_ediv_of_nonneg hb.1, Int.tmod_eq_emod_of_nonneg hb.1, div_step (by omega), w64_id (n := x / q ^ (d + 1)) (by omega) (by omega), w64_id (by omega) (by omega), L_set, Int.toNat_natCast]
    congr 1
    refine L_congr _ _ _ (fun t ht => ?_)
    by_cases e : t = i
    · subst e; rw [if_pos rfl, if_pos (by omega)]; unfold dg; rw [show n - 1 - t = d by omega]
    · rw [if_neg e]
      by_cases e2 : i + 1 ≤ t
      · rw [if_pos e2, if_pos (by omega)]
      · rw [if_neg e2, if_neg (by omega)]
/-- What FromIndex answers. -/
def frm (q n x : Int) : List Int × Int := if (cnt q n).2 = 0 then (if x < 0 ∨ (cnt q n).1 ≤ x then ([], 6) else (wd q n.toNat x, 0)) else ([], (cnt q n).2)
theorem cnt_ok' {q n : Int} (h : (cnt q n).2 = 0) : 0 ≤ n ∧ n ≤ 64 ∧ q ^ n.toNat ≤ 65536 ∧ (cnt q n).1 = q ^ n.toNat := by
  have h0 : 0 ≤ n := by
    unfold cnt at h
    by_cases h1 : n < 0 ∨ 64 < n
    · rw [if_pos h1] at h; exact absurd h (by decide)
    · omega
  obtain ⟨t, rfl⟩ := Int.eq_ofNat_of_zero_le h0
  have h1 := cnt_ok h
  rw [Int.toNat_natCast]
  exact ⟨by omega, by omega, h1.2.1, h1.2.2⟩
theorem from_ev (hq : 2 ≤ q) (hq1 : q ≤ 65536) (n x : Int) : Ev (fun k => word_FromIndex.f k P m Mod q E G n x) ((frm q n x).1, (frm q n x).2, P, m, q) := by
  unfold word_FromIndex.f frm
  refine (count_ev hq hq1 _).bind ?_
  dsimp only
  by_cases h : (cnt q n).2 = 0
  · obtain ⟨h0, h1, h2, h3⟩ := cnt_ok' h
    rw [if_pos h]
    refine Ev.congr (fun k => if_pos h) ?_
    by_cases hx : x < 0
    · rw [if_pos (.inl hx)]
      refine Ev.congr (fun k => if_pos hx) (Ev.step (f := fun _ => some ([], 6, P, m, q)) (fun k => ?_) (Ev.now _))
      simp only [word_FromIndex.j0]; rw [if_pos trivial]
    refine Ev.congr (fun k => if_neg hx) ?_
    by_cases hx1 : (cnt q n).1 ≤ x
    · rw [if_pos (.inr hx1), decide_eq_true hx1]
      refine Ev.step (f := fun _ => some ([], 6, P, m, q)) (fun k => ?_) (Ev.now _)
      simp only [word_FromIndex.j0]; rw [if_pos trivial]
    · rw [if_neg (by omega), decide_eq_false hx1]
      obtain ⟨t, rfl⟩ := Int.eq_ofNat_of_zero_le h0
      rw [Int.toNat_natCast] at h2 h3 ⊢
      refine Ev.step (fun k => ?_) (from_l0 (P := P) (m := m) (Mod := Mod) (E := E) (G := G) hq hq1 t (by omega) (x := x) (by omega) (by omega) t 0 (by omega))
      simp only [word_FromIndex.j0]
      rw [if_neg (by simp), if_pos (by omega), if_pos (by omega), w64_id (by omega) (by omega), Int.pow_zero, Int.ediv_one, Int.toNat_natCast, L_rep]
      congr 1
      exact L_congr _ _ _ (fun i hi => by rw [if_neg (by omega)])
  · rw [if_neg h]
    exact Ev.congr (fun k => if_neg h) (Ev.now _)
theorem rfrom_ev (hP : P ≤ 9223372036854775807) (ho : ord P m = q) (hq : 2 ≤ q) (hq1 : q ≤ 65536) (n x : Int) : Ev (fun k => codewrightref11_FromIndex.f k P m Mod n x) (frm q n x) := by
  unfold codewrightref11_FromIndex.f frm
  refine (rcount_ev hP ho hq hq1 _).bind ?_
  by_cases h : (cnt q n).2 = 0
  · obtain ⟨h0, h1, h2, h3⟩ := cnt_ok' h
    rw [if_pos h]
    refine Ev.congr (fun k => if_pos h) ?_
    by_cases hx : x < 0
    · rw [if_pos (.inl hx)]
      refine Ev.congr (fun k => if_pos hx) (Ev.step (f := fun _ => some ([], 6)) (fun k => ?_) (Ev.now _))
      simp only [codewrightref11_FromIndex.j0]; rw [if_pos trivial]
    refine Ev.congr (fun k => if_neg hx) ?_
    by_cases hx1 : (cnt q n).1 ≤ x
    · rw [if_pos (.inr hx1), decide_eq_true hx1]
      refine Ev.step (f := fun _ => some ([], 6)) (fun k => ?_) (Ev.now _)
      simp only [codewrightref11_FromIndex.j0]; rw [if_pos trivial]
    · rw [if_neg (by omega), decide_eq_false hx1]
      obtain ⟨t, rfl⟩ := Int.eq_ofNat_of_zero_le h0
      rw [Int.toNat_natCast] at h2 h3 ⊢
      have hor := rorder_ev P m Mod hP
      rw [ho] at hor
      refine Ev.step (f := fun k => (codewrightref04_Order.f k P m Mod).bind fun t561 => (if 0 ≤ (t : Int) then (if ((t : Int) : Int).toNat ≤ 35184372088832 then (codewrightref11_FromIndex.l0 k x t561 (List.replicate ((t : Int) : Int).toNat 0) (wrap64 ((t : Int) - 1))) else (none)) else (none))) (fun k => ?_) (hor.bind (Ev.congr (fun k => ?_) (rfrom_l0 hq hq1 t (by omega) (x := x) (by omega) (by omega) t 0 (by omega))))
      · simp only [codewrightref11_FromIndex.j0]
        rw [if_neg (by simp)]
      · rw [if_pos (by omega), if_pos (by omega), w64_id (by omega) (by omega), Int.pow_zero, Int.ediv_one, Int.toNat_natCast, L_rep]
        congr 1
        exact L_congr _ _ _ (fun i hi => by rw [if_neg (by omega)])
  · rw [if_neg h]
    exact Ev.congr (fun k => if_neg h) (Ev.now _)
theorem ixl_wd (hq : 0 < q) (x : Int) : ∀ n : Nat, ixl q (x / q ^ n) (wd q n x) = x
  | 0 => by unfold wd; rw [L_nil, Int.pow_zero, Int.ediv_one]; rfl
  | n + 1 => by
    have ih := ixl_wd hq x n
    unfold wd at ih ⊢
    rw [L_cons]
    have e1 : (fun t => dg q x (n + 1 - 1 - (t + 1))) = fun t => dg q x (n - 1 - t) := by
      funext t
      rw [show n + 1 - 1 - (t + 1) = n - 1 - t by omega]
    have e2 : x / q ^ (n + 1) * q + dg q x (n + 1 - 1 - 0) = x / q ^ n := by
      rw [← div_step hq, show n + 1 - 1 - 0 = n by omega]
      unfold dg
      rw [Int.mul_comm, Int.mul_ediv_add_emod]
    show ixl q (x / q ^ (n + 1) * q + dg q x (n + 1 - 1 - 0)) (L n (fun t => dg q x (n + 1 - 1 - (t + 1)))) = x
    rw [e1, e2, ih]
/-- Index undoes FromIndex. -/
theorem idx_wd (hq : 2 ≤ q) {n : Nat} {x : Int} (hx0 : 0 ≤ x) (hx1 : x < q ^ n) (h : (cnt q (n : Int)).2 = 0) : idx q (wd q n x) = (x, 0) := by
  have hl : (wd q n x).length = n := L_length _ _
  unfold idx
  rw [hl, if_pos h]
  have e : cl q (wd q n x) = wd q n x := by
    show L (wd q n x).length _ = L n _
    rw [hl]
    refine L_congr _ _ _ (fun i hi => ?_)
    have h1 := dg_range (show 0 < q by omega) x (n - 1 - i)
    have e1 : rd (wd q n x) (i : Int) = dg q x (n - 1 - i) := rd_L _ _ _ hi
    rw [e1, c_id h1.1 h1.2]
  have e2 := ixl_wd (show 0 < q by omega) x n
  rw [Int.ediv_eq_zero_of_lt hx0 hx1] at e2
  rw [e, e2]
/-- Numbers are in the order of the words. -/
theorem ixl_lt (hq : 2 ≤ q) : ∀ (a b : List Int), a.length = b.length → El q a → El q b → ∀ x y : Int, x < y → ixl q x a < ixl q y b
  | [], [], _, _, _, x, y, h => h
  | [], _ :: _, h, _, _, _, _, _ => by simp at h
  | _ :: _, [], h, _, _, _, _, _ => by simp at h
  | u :: a, v :: b, h, ha, hb, x, y, hxy => by
    obtain ⟨hu, ha⟩ := El.cons ha
    obtain ⟨hv, hb⟩ := El.cons hb
    refine ixl_lt hq a b (by simpa using h) ha hb _ _ ?_
    have h1 : x * q ≤ (y - 1) * q := Int.mul_le_mul_of_nonneg_right (by omega) (by omega)
    rw [Int.sub_mul, Int.one_mul] at h1
    omega
theorem ixl_lex (hq : 2 ≤ q) : ∀ (a b : List Int), a.length = b.length → El q a → El q b → ∀ x : Int, (lex a b < 0 ↔ ixl q x a < ixl q x b) ∧ (lex a b = 0 ↔ ixl q x a = ixl q x b)
  | [], [], _, _, _, x => by
    have e : lex ([] : List Int) [] = 0 := rfl
    rw [e]; exact ⟨by simp, by simp⟩
  | [], _ :: _, h, _, _, _ => by simp at h
  | _ :: _, [], h, _, _, _ => by simp at h
  | u :: a, v :: b, h, ha, hb, x => by
    obtain ⟨hu, ha2⟩ := El.cons ha
    obtain ⟨hv, hb2⟩ := El.cons hb
    have hl : a.length = b.length := by simpa using h
    have e : lex (u :: a) (v :: b) = if u < v then -1 else if u > v then 1 else lex a b := rfl
    rw [e]
    show (_ ↔ ixl q (x * q + u) a < ixl q (x * q + v) b) ∧ (_ ↔ ixl q (x * q + u) a = ixl q (x * q + v) b)
    by_cases h1 : u < v
    · have h2 := ixl_lt hq a b hl ha2 hb2 (x * q + u) (x * q + v) (by omega)
      rw [if_pos h1]
      exact ⟨⟨fun _ => h2, fun _ => by decide⟩, ⟨fun h => absurd h (by decide), fun h => by omega⟩⟩
    · rw [if_neg h1]
      by_cases h3 : u > v
      · have h2 := ixl_lt hq b a hl.symm hb2 ha2 (x * q + v) (x * q + u) (by omega)
        rw [if_pos h3]
        exact ⟨⟨fun h => absurd h (by decide), fun h => by omega⟩, ⟨fun h => absurd h (by decide), fun h => by omega⟩⟩
      · have e2 : u = v := by omega
        subst e2
        rw [if_neg h3]
        exact ixl_lex hq a b hl ha2 hb2 _
end
end Go.Proofs.Ythgaihhlbgccoaa.Nm
