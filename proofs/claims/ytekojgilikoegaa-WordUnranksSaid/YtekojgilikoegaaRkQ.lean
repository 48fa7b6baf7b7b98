/- What the printed Rank and Unrank functions compute: the rank of an ascending list, the list of a rank. Condition: n is from 0 to 64 where it is named. -/
import Derived.Test.YtekojgilikoegaaSub
import Derived.Test.YtekojgilikoegaaChQ
import Derived.Test.YtekojgilikoegaaQx2
import Derived.Test.YtekojgilikoegaaQx5
import Derived.Test.YtekojgilikoegaaQx6
import Derived.Test.YtekojgilikoegaaQx10
namespace Go.Proofs.Ytekojgilikoegaa.RkQ
open Go.RowKit Go.Proofs.Ytekojgilikoegaa.Q Go.Proofs.YtekojgilikoegaaW.PrintWords Go.Proofs.YtekojgilikoegaaW.PrintLast Go.Proofs.Ytekojgilikoegaa.Math Go.Proofs.Ytekojgilikoegaa.ChQ Go.Proofs.Ytekojgilikoegaa.Sub

theorem w64_zero : wrap64 0 = 0 := by unfold wrap64; omega
theorem Bc_B (n k : Int) : Bc n k = B n k := rfl
theorem rd_drop (s : List Int) (i : Nat) (h : i < s.length) : s.drop i = rd s i :: s.drop (i + 1) := by
  rw [List.drop_eq_getElem_cons h]; congr 1
  unfold rd; rw [List.getD_eq_getElem?_getD]; simp only [Int.toNat_natCast]; rw [List.getElem?_eq_getElem h]; rfl
/-- Rank's inner loop: the sum over y from y to x - 1. -/
theorem rank_l1 (n : Int) (s : List Int) (i : Nat) (x : Int) (r : Int × Int) (h0 : 0 ≤ n) (hn : n ≤ 64) (hi : i < s.length) (hs : s.length < 4611686018427387904) (hx : x ≤ n) : ∀ (c : Nat) (y q : Int), 0 ≤ y → x - y = c →
    Ev (fun k => word_Rank.l0 k n s (x + 1) (wrap64 (q + sm n (s.length - 1 - i) c y)) s (s.length : Int) ((i : Int) + 1)) r →
    Ev (fun k => word_Rank.l1 k n s (wrap64 q) (i : Int) x y s (s.length : Int) (i : Int)) r
  | 0, y, q, hy, hc, h => by
    refine Ev.step (fun k => ?_) h
    simp only [word_Rank.l1]
    have e1 : wrap64 (x + 1) = x + 1 := w64_id (by omega) (by omega)
    have e2 : wrap64 ((i : Int) + 1) = (i : Int) + 1 := w64_id (by omega) (by omega)
    rw [if_neg (by omega), e1, e2]; simp [sm]
  | c + 1, y, q, hy, hc, h => by
    have e1 : wrap64 (wrap64 (n - 1) - y) = n - 1 - y := by unfold wrap64; omega
    have e2 : wrap64 (wrap64 ((s.length : Int) - 1) - (i : Int)) = ((s.length - 1 - i : Nat) : Int) := by unfold wrap64; omega
    have e3 : wrap64 (y + 1) = y + 1 := w64_id (by omega) (by omega)
    refine Ev.step (f := fun k => (word_choose.f k (n - 1 - y) ((s.length - 1 - i : Nat) : Int)).bind fun t => word_Rank.l1 k n s (wrap64 (wrap64 q + t)) (i : Int) x (y + 1) s (s.length : Int) (i : Int)) (fun k => ?_) ((choose_ev _ _ (by omega) (by omega)).bind ?_)
    · simp only [word_Rank.l1]; rw [if_pos (by omega), e1, e2, e3]
    · rw [wrap_add]
      refine rank_l1 n s i x r h0 hn hi hs hx c (y + 1) _ (by omega) (by omega) ?_
      have e : q + B (n - 1 - y) ((s.length - 1 - i : Nat) : Int) + sm n (s.length - 1 - i) c (y + 1) = q + sm n (s.length - 1 - i) (c + 1) y := by
        simp only [sm]; rw [Bc_B]; omega
      rw [e]; exact h
/-- Rank's loop. -/
theorem rank_l0 (n : Int) (s : List Int) (h0 : 0 ≤ n) (hn : n ≤ 64) (hs : s.length < 4611686018427387904) : ∀ (d i : Nat) (lo q : Int), i + d = s.length → 0 ≤ lo →
    Ev (fun k => word_Rank.l0 k n s lo (wrap64 q) s (s.length : Int) (i : Int)) (if V n lo (s.drop i) then (wrap64 (q + rkL n lo (s.drop i)), 0) else (0, 5))
  | 0, i, lo, q, hd, hl => by
    refine Ev.step (f := fun _ => some (wrap64 q, 0)) (fun k => ?_) ?_
    · simp only [word_Rank.l0]; rw [if_neg (by omega)]
    · rw [List.drop_of_length_le (by omega)]; simp only [V, rkL, if_true, Int.add_zero]; exact Ev.now _
  | d + 1, i, lo, q, hd, hl => by
    have hi : i < s.length := by omega
    rw [rd_drop s i hi]
    by_cases c1 : rd s i < lo
    · have hv : V n lo (rd s i :: s.drop (i + 1)) = false := by simp [V]; intro h; omega
      rw [hv]
      refine Ev.step (f := fun k => word_Rank.j2 k n s lo (wrap64 q) (i : Int) (rd s i) s (s.length : Int) (i : Int) true) (fun k => ?_) (Ev.step (f := fun _ => some (0, 5)) (fun k => ?_) (Ev.now _))
      · simp only [word_Rank.l0]; rw [if_pos (by omega), if_pos (by omega), if_pos (by omega), if_pos c1]
      · simp only [word_Rank.j2]; rw [if_pos trivial]
    · by_cases c2 : rd s i ≥ n
      · have hv : V n lo (rd s i :: s.drop (i + 1)) = false := by simp [V]; intro _ h; omega
        rw [hv]
        refine Ev.step (f := fun k => word_Rank.j2 k n s lo (wrap64 q) (i : Int) (rd s i) s (s.length : Int) (i : Int) true) (fun k => ?_) (Ev.step (f := fun _ => some (0, 5)) (fun k => ?_) (Ev.now _))
        · simp only [word_Rank.l0]; rw [if_pos (by omega), if_pos (by omega), if_pos (by omega), if_neg c1, decide_eq_true c2]
        · simp only [word_Rank.j2]; rw [if_pos trivial]
      · refine Ev.step (f := fun k => word_Rank.j2 k n s lo (wrap64 q) (i : Int) (rd s i) s (s.length : Int) (i : Int) false) (fun k => ?_) (Ev.step (f := fun k => word_Rank.l1 k n s (wrap64 q) (i : Int) (rd s i) lo s (s.length : Int) (i : Int)) (fun k => ?_) ?_)
        · simp only [word_Rank.l0]; rw [if_pos (by omega), if_pos (by omega), if_pos (by omega), if_neg c1, decide_eq_false c2]
        · simp only [word_Rank.j2]; rw [if_neg (by simp)]
        refine rank_l1 n s i (rd s i) _ h0 hn hi hs (by omega) (rd s i - lo).toNat lo q hl (by omega) ?_
        have ih := rank_l0 n s h0 hn hs d (i + 1) (rd s i + 1) (q + sm n (s.length - 1 - i) (rd s i - lo).toNat lo) (by omega) (by omega)
        have e1 : V n lo (rd s i :: s.drop (i + 1)) = V n (rd s i + 1) (s.drop (i + 1)) := by simp only [V]; rw [decide_eq_true (by omega), decide_eq_true (by omega)]; rfl
        have e2 : q + rkL n lo (rd s i :: s.drop (i + 1)) = q + sm n (s.length - 1 - i) (rd s i - lo).toNat lo + rkL n (rd s i + 1) (s.drop (i + 1)) := by
          simp only [rkL, List.length_drop]
          have : s.length - (i + 1) = s.length - 1 - i := by omega
          rw [this]; omega
        rw [e1, e2]; exact ih
theorem rank_ev (n : Int) (s : List Int) (h0 : 0 ≤ n) (hn : n ≤ 64) (hs : s.length < 4611686018427387904) :
    Ev (fun k => word_Rank.f k n s) (if V n 0 s then (wrap64 (rkL n 0 s), 0) else (0, 5)) := by
  have h := rank_l0 n s h0 hn hs s.length 0 0 0 (by omega) (by omega)
  rw [List.drop_zero, Int.zero_add, w64_zero] at h
  refine Ev.congr (f := fun k => word_Rank.j0 k n s false) (fun k => ?_) (Ev.step (fun k => ?_) h)
  · unfold word_Rank.f; rw [if_neg (by omega), decide_eq_false (by omega)]
  · simp only [word_Rank.j0]; rw [if_neg (by simp)]; rfl
theorem rank_out (n : Int) (s : List Int) (h : n < 0 ∨ 64 < n) : Ev (fun k => word_Rank.f k n s) (0, 6) := by
  refine Ev.congr (f := fun k => word_Rank.j0 k n s true) (fun k => ?_) (Ev.step (f := fun _ => some (0, 6)) (fun k => ?_) (Ev.now _))
  · unfold word_Rank.f
    by_cases c : n < 0
    · rw [if_pos c]
    · rw [if_neg c, decide_eq_true (by omega)]
  · simp only [word_Rank.j0]; rw [if_pos trivial]

/-- The document's inner loop. -/
theorem ref_l1 (n : Int) (s : List Int) (i : Nat) (r : Int × Int) (h0 : 0 ≤ n) (hn : n ≤ 64) (hi : i < s.length) (hs : s.length < 4611686018427387904) (hx : rd s i ≤ n) : ∀ (c : Nat) (y q : Int), 0 ≤ y → rd s i - y = c →
    Ev (fun k => codewrightref11_Rank.l0 k n s (wrap64 (q + sm n (s.length - 1 - i) c y)) (rd s i + 1) ((i : Int) + 1)) r →
    Ev (fun k => codewrightref11_Rank.l1 k n s (wrap64 q) (i : Int) y) r
  | 0, y, q, hy, hc, h => by
    refine Ev.step (fun k => ?_) h
    simp only [codewrightref11_Rank.l1]
    have e1 : wrap64 (rd s i + 1) = rd s i + 1 := w64_id (by omega) (by omega)
    have e2 : wrap64 ((i : Int) + 1) = (i : Int) + 1 := w64_id (by omega) (by omega)
    rw [if_pos (by omega), if_pos (by omega), if_neg (by omega), e1, e2]; simp [sm]
  | c + 1, y, q, hy, hc, h => by
    have e1 : wrap64 (wrap64 (n - 1) - y) = n - 1 - y := by unfold wrap64; omega
    have e2 : wrap64 (wrap64 ((s.length : Int) - 1) - (i : Int)) = ((s.length - 1 - i : Nat) : Int) := by unfold wrap64; omega
    have e3 : wrap64 (y + 1) = y + 1 := w64_id (by omega) (by omega)
    refine Ev.step (f := fun k => (codewrightref11_Binomial.f k (n - 1 - y) ((s.length - 1 - i : Nat) : Int)).bind fun t => codewrightref11_Rank.l1 k n s (wrap64 (wrap64 q + t.1)) (i : Int) (y + 1)) (fun k => ?_) ((ref_ev _ _ (by omega) (by omega)).bind ?_)
    · simp only [codewrightref11_Rank.l1]; rw [if_pos (by omega), if_pos (by omega), if_pos (by omega), e1, e2, e3]
    · simp only []
      rw [wrap_add]
      refine ref_l1 n s i r h0 hn hi hs hx c (y + 1) _ (by omega) (by omega) ?_
      have e : q + B (n - 1 - y) ((s.length - 1 - i : Nat) : Int) + sm n (s.length - 1 - i) c (y + 1) = q + sm n (s.length - 1 - i) (c + 1) y := by
        simp only [sm]; rw [Bc_B]; omega
      rw [e]; exact h
theorem ref_l0 (n : Int) (s : List Int) (h0 : 0 ≤ n) (hn : n ≤ 64) (hs : s.length < 4611686018427387904) : ∀ (d i : Nat) (lo q : Int), i + d = s.length → 0 ≤ lo → V n lo (s.drop i) = true →
    Ev (fun k => codewrightref11_Rank.l0 k n s (wrap64 q) lo (i : Int)) (wrap64 (q + rkL n lo (s.drop i)), 0)
  | 0, i, lo, q, hd, hl, hv => by
    refine Ev.step (f := fun _ => some (wrap64 q, 0)) (fun k => ?_) ?_
    · simp only [codewrightref11_Rank.l0]; rw [if_neg (by omega)]
    · rw [List.drop_of_length_le (by omega)]; simp only [rkL, Int.add_zero]; exact Ev.now _
  | d + 1, i, lo, q, hd, hl, hv => by
    have hi : i < s.length := by omega
    rw [rd_drop s i hi] at hv ⊢
    have hv' := V_cons.1 hv
    refine Ev.step (f := fun k => codewrightref11_Rank.l1 k n s (wrap64 q) (i : Int) lo) (fun k => ?_) ?_
    · simp only [codewrightref11_Rank.l0]; rw [if_pos (by omega)]
    refine ref_l1 n s i _ h0 hn hi hs (by omega) (rd s i - lo).toNat lo q hl (by omega) ?_
    have ih := ref_l0 n s h0 hn hs d (i + 1) (rd s i + 1) (q + sm n (s.length - 1 - i) (rd s i - lo).toNat lo) (by omega) (by omega) hv'.2.2
    have e2 : q + rkL n lo (rd s i :: s.drop (i + 1)) = q + sm n (s.length - 1 - i) (rd s i - lo).toNat lo + rkL n (rd s i + 1) (s.drop (i + 1)) := by
      simp only [rkL, List.length_drop]
      have : s.length - (i + 1) = s.length - 1 - i := by omega
      rw [this]; omega
    rw [e2]; exact ih
/-- The document's IsSubset: behind the first entry it asks of each that it is greater than the one before. -/
theorem sub_l0 (n : Int) (s : List Int) (h0 : 0 ≤ n) (hn : n ≤ 64) (hs : s.length < 4611686018427387904) : ∀ (d i : Nat) (lo : Int), i + d = s.length → 0 ≤ lo → (i = 0 → lo = 0) → (0 < i → lo = rd s ((i : Int) - 1) + 1) →
    Ev (fun k => codewrightref11_IsSubset.l0 k n s (i : Int)) (V n lo (s.drop i))
  | 0, i, lo, hd, hl, hz, hp => by
    refine Ev.step (f := fun _ => some true) (fun k => ?_) ?_
    · simp only [codewrightref11_IsSubset.l0]; rw [if_neg (by omega)]
    · rw [List.drop_of_length_le (by omega)]; exact Ev.now _
  | d + 1, i, lo, hd, hl, hz, hp => by
    have hi : i < s.length := by omega
    rw [rd_drop s i hi]
    by_cases c1 : rd s i < 0
    · have hv : V n lo (rd s i :: s.drop (i + 1)) = false := by simp [V]; intro h; omega
      rw [hv]
      refine Ev.step (f := fun k => codewrightref11_IsSubset.j1 k n s (i : Int) true) (fun k => ?_) (Ev.step (f := fun _ => some false) (fun k => ?_) (Ev.now _))
      · simp only [codewrightref11_IsSubset.l0]; rw [if_pos (by omega), if_pos (by omega), if_pos c1]
      · simp only [codewrightref11_IsSubset.j1]; rw [if_pos trivial]
    · by_cases c2 : rd s i ≥ n
      · have hv : V n lo (rd s i :: s.drop (i + 1)) = false := by simp [V]; intro _ h; omega
        rw [hv]
        refine Ev.step (f := fun k => codewrightref11_IsSubset.j1 k n s (i : Int) true) (fun k => ?_) (Ev.step (f := fun _ => some false) (fun k => ?_) (Ev.now _))
        · simp only [codewrightref11_IsSubset.l0]; rw [if_pos (by omega), if_pos (by omega), if_neg c1, decide_eq_true c2]
        · simp only [codewrightref11_IsSubset.j1]; rw [if_pos trivial]
      · have e3 : wrap64 ((i : Int) + 1) = ((i + 1 : Nat) : Int) := by rw [w64_id (by omega) (by omega)]; omega
        have e4 : wrap64 ((i : Int) - 1) = (i : Int) - 1 := w64_id (by omega) (by omega)
        have e5 : ((i + 1 : Nat) : Int) - 1 = (i : Int) := by omega
        refine Ev.step (f := fun k => codewrightref11_IsSubset.j1 k n s (i : Int) false) (fun k => ?_) ?_
        · simp only [codewrightref11_IsSubset.l0]; rw [if_pos (by omega), if_pos (by omega), if_neg c1, decide_eq_false c2]
        have ih := sub_l0 n s h0 hn hs d (i + 1) (rd s i + 1) (by omega) (by omega) (fun h => by omega) (fun _ => by rw [e5])
        by_cases hz0 : i = 0
        · have hlo := hz hz0
          have e1 : V n lo (rd s i :: s.drop (i + 1)) = V n (rd s i + 1) (s.drop (i + 1)) := by simp only [V]; rw [decide_eq_true (by omega), decide_eq_true (by omega)]; rfl
          rw [e1]
          refine Ev.step (fun k => ?_) ih
          simp only [codewrightref11_IsSubset.j1]; rw [if_neg (by simp), if_neg (by omega), e3]
        · have hlo := hp (by omega)
          by_cases c3 : rd s i ≤ rd s ((i : Int) - 1)
          · have hv : V n lo (rd s i :: s.drop (i + 1)) = false := by simp [V]; intro h; omega
            rw [hv]
            refine Ev.step (f := fun _ => some false) (fun k => ?_) (Ev.now _)
            simp only [codewrightref11_IsSubset.j1]; rw [if_neg (by simp), if_pos (by omega), if_pos (by omega), if_pos (by omega), e4, if_pos (by omega), if_pos (by omega), if_pos c3]
          · have e1 : V n lo (rd s i :: s.drop (i + 1)) = V n (rd s i + 1) (s.drop (i + 1)) := by simp only [V]; rw [decide_eq_true (by omega), decide_eq_true (by omega)]; rfl
            rw [e1]
            refine Ev.step (fun k => ?_) ih
            simp only [codewrightref11_IsSubset.j1]; rw [if_neg (by simp), if_pos (by omega), if_pos (by omega), if_pos (by omega), e4, if_pos (by omega), if_pos (by omega), if_neg c3, e3]
theorem refrank_ev (n : Int) (s : List Int) (h0 : 0 ≤ n) (hn : n ≤ 64) (hs : s.length < 4611686018427387904) :
    Ev (fun k => codewrightref11_Rank.f k n s) (if V n 0 s then (wrap64 (rkL n 0 s), 0) else (0, 5)) := by
  have hsub := sub_l0 n s h0 hn hs s.length 0 0 (by omega) (by omega) (fun _ => rfl) (fun h => by omega)
  rw [List.drop_zero] at hsub
  refine Ev.congr (f := fun k => codewrightref11_Rank.j0 k n s false) (fun k => ?_) (Ev.step (f := fun k => (codewrightref11_IsSubset.f k n s).bind fun t => if t = true then codewrightref11_Rank.l0 k n s 0 0 0 else some (0, 5)) (fun k => ?_) (Ev.bind (a := V n 0 s) ?_ ?_))
  · unfold codewrightref11_Rank.f; rw [if_neg (by omega), decide_eq_false (by omega)]
  · simp only [codewrightref11_Rank.j0]; rw [if_neg (by simp)]
  · exact Ev.congr (fun k => rfl) hsub
  · by_cases hv : V n 0 s = true
    · rw [hv]
      have h := ref_l0 n s h0 hn hs s.length 0 0 0 (by omega) (by omega) (by rw [List.drop_zero]; exact hv)
      rw [List.drop_zero, Int.zero_add, w64_zero] at h
      rw [if_pos rfl]
      exact Ev.congr (fun k => if_pos rfl) h
    · have hv' : V n 0 s = false := by simpa using hv
      rw [hv']; exact Ev.congr (fun k => if_neg (by simp)) (Ev.now _)
theorem refrank_out (n : Int) (s : List Int) (h : n < 0 ∨ 64 < n) : Ev (fun k => codewrightref11_Rank.f k n s) (0, 6) := by
  refine Ev.congr (f := fun k => codewrightref11_Rank.j0 k n s true) (fun k => ?_) (Ev.step (f := fun _ => some (0, 6)) (fun k => ?_) (Ev.now _))
  · unfold codewrightref11_Rank.f
    by_cases c : n < 0
    · rw [if_pos c]
    · rw [if_neg c, decide_eq_true (by omega)]
  · simp only [codewrightref11_Rank.j0]; rw [if_pos trivial]

/-- Unrank's loop: what is found so far, and the list of the rank that is left. -/
theorem unrank_l0 (n : Nat) (hn : n ≤ 64) (kk : Nat) (hk : kk ≤ n) : ∀ (m : Nat) (out : List Int) (x r : Int), x + m = n → 0 ≤ x → out.length ≤ kk → 0 ≤ r → r < (C m (kk - out.length) : Int) →
    Ev (fun k => word_Unrank.l0 k (n : Int) (kk : Int) r out x) (out ++ un m x (kk - out.length) r, 0)
  | m, out, x, r, hx, hx0, ho, h0, h1 => by
    by_cases hl : out.length = kk
    · have e : kk - out.length = 0 := by omega
      rw [e]
      refine Ev.step (f := fun _ => some (out, 0)) (fun k => ?_) ?_
      · simp only [word_Unrank.l0]; rw [if_neg (by omega)]
      · have : un m x 0 r = [] := by cases m <;> rfl
        rw [this, List.append_nil]; exact Ev.now _
    · obtain ⟨q, hq⟩ : ∃ q, kk - out.length = q + 1 := ⟨kk - out.length - 1, by omega⟩
      rw [hq] at h1 ⊢
      match m, hx, h1 with
      | 0, _, h1 => have : C 0 (q + 1) = 0 := rfl
                    rw [this] at h1; omega
      | m + 1, hx, h1 =>
        have e1 : wrap64 (wrap64 ((n : Int) - 1) - x) = (m : Int) := by unfold wrap64; omega
        have e2 : wrap64 (wrap64 ((kk : Int) - 1) - (out.length : Int)) = (q : Int) := by unfold wrap64; omega
        have e3 : wrap64 (x + 1) = x + 1 := w64_id (by omega) (by omega)
        have e4 : B (m : Int) (q : Int) = (C m q : Int) := by unfold B; rw [if_neg (by omega)]; simp
        have hb := C_bound (m + 1) (q + 1) (by omega)
        have hc := choose_ev (m : Int) (q : Int) (by omega) (by omega)
        rw [e4] at hc
        refine Ev.step (f := fun k => (word_choose.f k (m : Int) (q : Int)).bind fun t => if r < t then (if out.length < 17592186044416 then word_Unrank.l0 k (n : Int) (kk : Int) r (out ++ [x]) (x + 1) else none) else word_Unrank.l0 k (n : Int) (kk : Int) (wrap64 (r - t)) out (x + 1)) (fun k => ?_) (hc.bind ?_)
        · simp only [word_Unrank.l0]; rw [if_pos (by omega), e1, e2, e3]
        · by_cases hr : r < (C m q : Int)
          · have ih := unrank_l0 n hn kk hk m (out ++ [x]) (x + 1) r (by omega) (by omega) (by simp; omega) h0 (by
              have : kk - (out ++ [x]).length = q := by simp; omega
              rw [this]; exact hr)
            have e5 : kk - (out ++ [x]).length = q := by simp; omega
            rw [e5, List.append_assoc] at ih
            simp only [un]; rw [if_pos hr]
            refine Ev.congr (fun k => ?_) ih
            rw [if_pos hr, if_pos (by omega)]
          · have ih := unrank_l0 n hn kk hk m out (x + 1) (r - C m q) (by omega) (by omega) ho (by omega) (by
              rw [hq]; rw [C_succ] at h1; omega)
            rw [hq] at ih
            simp only [un]; rw [if_neg hr]
            refine Ev.congr (fun k => ?_) ih
            rw [if_neg hr, w64_id (by omega) (by omega)]
theorem unrank_ev (n kk : Nat) (hn : n ≤ 64) (hk : kk ≤ n) (r : Int) (h0 : 0 ≤ r) (h1 : r < (C n kk : Int)) :
    Ev (fun k => word_Unrank.f k (n : Int) (kk : Int) r) (un n 0 kk r, 0) := by
  have h := unrank_l0 n hn kk hk n [] 0 r (by omega) (by omega) (by simp) h0 h1
  have e4 : B (n : Int) (kk : Int) = (C n kk : Int) := by unfold B; rw [if_neg (by omega)]; simp
  have hc := choose_ev (n : Int) (kk : Int) (by omega) (by omega)
  rw [e4] at hc
  refine Ev.congr (f := fun k => (word_choose.f k (n : Int) (kk : Int)).bind fun t => word_Unrank.j0 k (n : Int) (kk : Int) r (decide (r ≥ t))) (fun k => ?_) (hc.bind ?_)
  · unfold word_Unrank.f; rw [if_neg (by omega), if_neg (by omega), if_neg (by omega), if_neg (by omega), if_neg (by omega)]
  · refine Ev.step (fun k => ?_) h
    rw [decide_eq_false (by omega)]
    simp only [word_Unrank.j0]; rw [if_neg (by simp), if_pos (by omega), if_pos (by omega)]
/-- Where Unrank refuses. -/
theorem unrank_out (n kk r : Int) (h : n < 0 ∨ 64 < n ∨ kk < 0 ∨ n < kk ∨ r < 0 ∨ B n kk ≤ r) : Ev (fun k => word_Unrank.f k n kk r) ([], 6) := by
  have hj : Ev (fun k => word_Unrank.j0 k n kk r true) (([] : List Int), 6) := Ev.step (f := fun _ => some (([] : List Int), 6)) (fun k => by simp only [word_Unrank.j0]; rw [if_pos trivial]) (Ev.now _)
  by_cases c1 : n < 0
  · exact Ev.congr (fun k => by unfold word_Unrank.f; rw [if_pos c1]) hj
  by_cases c2 : n > 64
  · exact Ev.congr (fun k => by unfold word_Unrank.f; rw [if_neg c1, if_pos c2]) hj
  by_cases c3 : kk < 0
  · exact Ev.congr (fun k => by unfold word_Unrank.f; rw [if_neg c1, if_neg c2, if_pos c3]) hj
  by_cases c4 : kk > n
  · exact Ev.congr (fun k => by unfold word_Unrank.f; rw [if_neg c1, if_neg c2, if_neg c3, if_pos c4]) hj
  by_cases c5 : r < 0
  · exact Ev.congr (fun k => by unfold word_Unrank.f; rw [if_neg c1, if_neg c2, if_neg c3, if_neg c4, if_pos c5]) hj
  refine Ev.congr (f := fun k => (word_choose.f k n kk).bind fun t => word_Unrank.j0 k n kk r (decide (r ≥ t))) (fun k => ?_) ((choose_ev n kk (by omega) (by omega)).bind ?_)
  · unfold word_Unrank.f; rw [if_neg c1, if_neg c2, if_neg c3, if_neg c4, if_neg c5]
  · rw [decide_eq_true (by omega)]; exact hj
end Go.Proofs.Ytekojgilikoegaa.RkQ
