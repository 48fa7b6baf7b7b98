/- What the printed choose and Binomial of this law compute: binomial coefficients, wherever n is from 0 to 64. -/
import Derived.Test.YtekojgilikoegaaMath
import Derived.Test.YtekojgilikoegaaQx1
import Derived.Test.YtekojgilikoegaaQx3
namespace Go.Proofs.Ytekojgilikoegaa.ChQ
open Go.RowKit Go.Proofs.Ytekojgilikoegaa.Q Go.Proofs.YtekojgilikoegaaW.PrintWords Go.Proofs.YtekojgilikoegaaW.PrintLast Go.Proofs.Ytekojgilikoegaa.Math

theorem choose_l1 (n i : Nat) (kk : Int) (r : Int) (hi : i + 1 ≤ n) (hn : n ≤ 64) : ∀ j, j ≤ i + 1 →
    Ev (fun k => word_choose.l0 k n kk (R n (i + 1)) ((i : Int) + 1 + 1)) r → Ev (fun k => word_choose.l1 k n kk (M n (i + 1) j) ((i : Int) + 1) (j : Int)) r
  | 0, _, h => by
    refine Ev.step (fun k => ?_) h
    simp only [word_choose.l1]
    rw [if_neg (by omega), w64_id (by omega) (by omega), M_zero]
  | j + 1, hj, h => by
    refine Ev.step (fun k => ?_) (choose_l1 n i kk r hi hn j (by omega) h)
    have e1 : ((j + 1 : Nat) : Int).toNat = j + 1 := by omega
    have e2 : wrap64 (((j + 1 : Nat) : Int) - 1) = (j : Int) := by rw [w64_id (by omega) (by omega)]; omega
    have e3 : rd (M n (i + 1) (j + 1)) ((j + 1 : Nat) : Int) = (C i (j + 1) : Int) := by rw [rd_M _ _ _ _ (by omega), if_pos (by omega)]; rfl
    have e4 : rd (M n (i + 1) (j + 1)) (j : Int) = (C i j : Int) := by rw [rd_M _ _ _ _ (by omega), if_pos (by omega)]; rfl
    have e5 : wrap64 ((C i (j + 1) : Int) + (C i j : Int)) = (C i (j + 1) : Int) + (C i j : Int) := by
      have := wrap_C (i + 1) (j + 1) (by omega); rw [C_succ] at this
      have e : ((C i j + C i (j + 1) : Nat) : Int) = (C i (j + 1) : Int) + (C i j : Int) := by omega
      rw [e] at this; exact this
    simp only [word_choose.l1]
    rw [M_length, if_pos (by omega), if_pos (by omega), if_pos (by omega), e2, if_pos (by omega), if_pos (by omega), e1, e3, e4, e5, M_step n i j (by omega)]
theorem choose_l0 (n kk : Nat) (hn : n ≤ 64) (hk : kk ≤ n) : ∀ d i, i + d = n →
    Ev (fun k => word_choose.l0 k n kk (R n i) ((i : Int) + 1)) (C n kk : Int)
  | 0, i, h => by
    have : i = n := by omega
    subst this
    refine Ev.step (f := fun _ => some (C i kk : Int)) (fun k => ?_) (Ev.now _)
    simp only [word_choose.l0]
    rw [if_neg (by omega), R_length, if_pos (by omega), if_pos (by omega), rd_R i i kk hk]
  | d + 1, i, h => by
    have h1 := choose_l1 n i kk (C n kk : Int) (by omega) hn (i + 1) (by omega) (by simpa using choose_l0 n kk hn hk d (i + 1) (by omega))
    rw [M_top] at h1
    refine Ev.step (fun k => ?_) h1
    simp only [word_choose.l0]
    rw [if_pos (by omega)]; rfl

/-- What choose tells at n from 0 to 64 and any k. -/
def B (n k : Int) : Int := if k < 0 then 0 else (C n.toNat k.toNat : Int)
theorem choose_ev (n k : Int) (h0 : 0 ≤ n) (hn : n ≤ 64) : Ev (fun r => word_choose.f r n k) (B n k) := by
  unfold B
  by_cases hk : k < 0
  · rw [if_pos hk]
    refine Ev.congr (f := fun r => word_choose.j0 r n k true) (fun r => ?_) (Ev.step (f := fun _ => some 0) (fun r => ?_) (Ev.now _))
    · unfold word_choose.f; rw [if_pos hk]
    · simp only [word_choose.j0]; rw [if_pos trivial]
  · rw [if_neg hk]
    by_cases hg : k > n
    · rw [C_gt _ _ (by omega)]
      refine Ev.congr (f := fun r => word_choose.j0 r n k true) (fun r => ?_) (Ev.step (f := fun _ => some 0) (fun r => ?_) (Ev.now _))
      · unfold word_choose.f; rw [if_neg hk, decide_eq_true hg]
      · simp only [word_choose.j0]; rw [if_pos trivial]
    · obtain ⟨m, rfl⟩ := Int.eq_ofNat_of_zero_le h0
      obtain ⟨q, rfl⟩ := Int.eq_ofNat_of_zero_le (show 0 ≤ k by omega)
      have h := choose_l0 m q (by omega) (by omega) m 0 (by omega)
      refine Ev.congr (f := fun r => word_choose.j0 r m q false) (fun r => ?_) (Ev.step (fun r => ?_) h)
      · unfold word_choose.f; rw [if_neg hk, decide_eq_false hg]
      · simp only [word_choose.j0]
        rw [if_neg (by simp), w64_id (by omega) (by omega), if_pos (by omega), if_pos (by omega)]
        simp only [Option.bind_some, List.length_replicate]
        rw [if_pos (by omega)]
        have e : ((m : Int) + 1).toNat = m + 1 := by omega
        rw [e]
        have := R_zero m
        simp only [Int.toNat_zero]
        rw [this]; rfl

theorem ref_l1 (n i : Nat) (kk : Int) (r : Int × Int) (hi : i + 1 ≤ n) (hn : n ≤ 64) : ∀ j, j ≤ i + 1 →
    Ev (fun k => codewrightref11_Binomial.l0 k n kk (R n (i + 1)) ((i : Int) + 1 + 1)) r → Ev (fun k => codewrightref11_Binomial.l1 k n kk (M n (i + 1) j) ((i : Int) + 1) (j : Int)) r
  | 0, _, h => by
    refine Ev.step (fun k => ?_) h
    simp only [codewrightref11_Binomial.l1]
    rw [if_neg (by omega), w64_id (by omega) (by omega), M_zero]
  | j + 1, hj, h => by
    refine Ev.step (fun k => ?_) (ref_l1 n i kk r hi hn j (by omega) h)
    have e1 : ((j + 1 : Nat) : Int).toNat = j + 1 := by omega
    have e2 : wrap64 (((j + 1 : Nat) : Int) - 1) = (j : Int) := by rw [w64_id (by omega) (by omega)]; omega
    have e3 : rd (M n (i + 1) (j + 1)) ((j + 1 : Nat) : Int) = (C i (j + 1) : Int) := by rw [rd_M _ _ _ _ (by omega), if_pos (by omega)]; rfl
    have e4 : rd (M n (i + 1) (j + 1)) (j : Int) = (C i j : Int) := by rw [rd_M _ _ _ _ (by omega), if_pos (by omega)]; rfl
    have e5 : wrap64 ((C i (j + 1) : Int) + (C i j : Int)) = (C i (j + 1) : Int) + (C i j : Int) := by
      have := wrap_C (i + 1) (j + 1) (by omega); rw [C_succ] at this
      have e : ((C i j + C i (j + 1) : Nat) : Int) = (C i (j + 1) : Int) + (C i j : Int) := by omega
      rw [e] at this; exact this
    simp only [codewrightref11_Binomial.l1]
    rw [M_length, if_pos (by omega), if_pos (by omega), if_pos (by omega), e2, if_pos (by omega), if_pos (by omega), e1, e3, e4, e5, M_step n i j (by omega)]
theorem ref_l0 (n kk : Nat) (hn : n ≤ 64) (hk : kk ≤ n) : ∀ d i, i + d = n →
    Ev (fun k => codewrightref11_Binomial.l0 k n kk (R n i) ((i : Int) + 1)) ((C n kk : Int), 0)
  | 0, i, h => by
    have : i = n := by omega
    subst this
    refine Ev.step (f := fun _ => some ((C i kk : Int), 0)) (fun k => ?_) (Ev.now _)
    simp only [codewrightref11_Binomial.l0]
    rw [if_neg (by omega), R_length, if_pos (by omega), if_pos (by omega), rd_R i i kk hk]
  | d + 1, i, h => by
    have h1 := ref_l1 n i kk ((C n kk : Int), 0) (by omega) hn (i + 1) (by omega) (by simpa using ref_l0 n kk hn hk d (i + 1) (by omega))
    rw [M_top] at h1
    refine Ev.step (fun k => ?_) h1
    simp only [codewrightref11_Binomial.l0]
    rw [if_pos (by omega)]; rfl

theorem ref_ev (n k : Int) (h0 : 0 ≤ n) (hn : n ≤ 64) : Ev (fun r => codewrightref11_Binomial.f r n k) (B n k, 0) := by
  unfold B
  refine Ev.congr (f := fun r => codewrightref11_Binomial.j0 r n k false) (fun r => ?_) ?_
  · unfold codewrightref11_Binomial.f; rw [if_neg (by omega), decide_eq_false (by omega)]
  by_cases hk : k < 0
  · rw [if_pos hk]
    refine Ev.step (f := fun r => codewrightref11_Binomial.j1 r n k true) (fun r => ?_) (Ev.step (f := fun _ => some (0, 0)) (fun r => ?_) (Ev.now _))
    · simp only [codewrightref11_Binomial.j0]; rw [if_neg (by simp), if_pos hk]
    · simp only [codewrightref11_Binomial.j1]; rw [if_pos trivial]
  · rw [if_neg hk]
    by_cases hg : k > n
    · rw [C_gt _ _ (by omega)]
      refine Ev.step (f := fun r => codewrightref11_Binomial.j1 r n k true) (fun r => ?_) (Ev.step (f := fun _ => some (0, 0)) (fun r => ?_) (Ev.now _))
      · simp only [codewrightref11_Binomial.j0]; rw [if_neg (by simp), if_neg hk, decide_eq_true hg]
      · simp only [codewrightref11_Binomial.j1]; rw [if_pos trivial]
    · obtain ⟨m, rfl⟩ := Int.eq_ofNat_of_zero_le h0
      obtain ⟨q, rfl⟩ := Int.eq_ofNat_of_zero_le (show 0 ≤ k by omega)
      have h := ref_l0 m q (by omega) (by omega) m 0 (by omega)
      refine Ev.step (f := fun r => codewrightref11_Binomial.j1 r m q false) (fun r => ?_) (Ev.step (fun r => ?_) h)
      · simp only [codewrightref11_Binomial.j0]; rw [if_neg (by simp), if_neg hk, decide_eq_false hg]
      · simp only [codewrightref11_Binomial.j1]
        rw [if_neg (by simp), w64_id (by omega) (by omega), if_pos (by omega), if_pos (by omega)]
        simp only [Option.bind_some, List.length_replicate]
        rw [if_pos (by omega)]
        have e : ((m : Int) + 1).toNat = m + 1 := by omega
        rw [e]
        have := R_zero m
        simp only [Int.toNat_zero]
        rw [this]; rfl
theorem ref_out (n k : Int) (h : n < 0 ∨ 64 < n) : Ev (fun r => codewrightref11_Binomial.f r n k) (0, 6) := by
  refine Ev.congr (f := fun r => codewrightref11_Binomial.j0 r n k true) (fun r => ?_) (Ev.step (f := fun _ => some (0, 6)) (fun r => ?_) (Ev.now _))
  · unfold codewrightref11_Binomial.f
    by_cases hn : n < 0
    · rw [if_pos hn]
    · rw [if_neg hn, decide_eq_true (by omega)]
  · simp only [codewrightref11_Binomial.j0]; rw [if_pos trivial]

end Go.Proofs.Ytekojgilikoegaa.ChQ
