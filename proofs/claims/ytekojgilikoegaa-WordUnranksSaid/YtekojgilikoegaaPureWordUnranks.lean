/- Unrank returns the subset of each rank, as the document's answer does, and Rank undoes it: for all n, k and r. No condition. -/
import Derived.Test.YtekojgilikoegaaQx11
import Derived.Test.YtekojgilikoegaaRkQ
import Derived.Test.YtekojgilikoegaaCmQ
namespace Go.Proofs.Ytekojgilikoegaa.Pure
open Go.RowKit Go.Proofs.Ytekojgilikoegaa.Q Go.Proofs.YtekojgilikoegaaW.PrintWords Go.Proofs.YtekojgilikoegaaW.PrintLast
open Go.Proofs.Ytekojgilikoegaa.Math Go.Proofs.Ytekojgilikoegaa.ChQ Go.Proofs.Ytekojgilikoegaa.Sub Go.Proofs.Ytekojgilikoegaa.RkQ Go.Proofs.Ytekojgilikoegaa.Lex Go.Proofs.Ytekojgilikoegaa.CmQ

theorem B_nat (n k : Nat) : B (n : Int) (k : Int) = (C n k : Int) := by unfold B; rw [if_neg (by omega)]; simp
/-- The document's loop. -/
theorem refun_l0 (n : Nat) (hn : n ≤ 64) (kk : Nat) (hk : kk ≤ n) : ∀ (m : Nat) (out : List Int) (x r : Int), x + m = n → 0 ≤ x → out.length ≤ kk → 0 ≤ r → r < (C m (kk - out.length) : Int) →
    Ev (fun k => codewrightref11_Unrank.l0 k (n : Int) (kk : Int) r out x) (out ++ un m x (kk - out.length) r, 0)
  | m, out, x, r, hx, hx0, ho, h0, h1 => by
    by_cases hl : out.length = kk
    · have e : kk - out.length = 0 := by omega
      rw [e]
      refine Ev.step (f := fun k => codewrightref11_Unrank.j2 k (n : Int) (kk : Int) r out x false) (fun k => ?_) (Ev.step (f := fun _ => some (out, 0)) (fun k => ?_) ?_)
      · simp only [codewrightref11_Unrank.l0]
        by_cases c : x < n
        · rw [if_pos c, decide_eq_false (by omega)]
        · rw [if_neg c]
      · simp only [codewrightref11_Unrank.j2]; rw [if_neg (by simp)]
      · have : un m x 0 r = [] := by cases m <;> rfl
        rw [this, List.append_nil]; exact Ev.now _
    · obtain ⟨q, hq⟩ : ∃ q, kk - out.length = q + 1 := ⟨kk - out.length - 1, by omega⟩
      rw [hq] at h1 ⊢
      match m, hx, h1 with
      | 0, _, h1 => have : C 0 (q + 1) = 0 := rfl
                    rw [this] at h1; omega
      | m + 1, hx, h1 =>
        have e1 : wrap64 (wrap64 ((n : Int) - 1) - x) = (m : Int) := by unfold wrap64; omega
        have e2 : wrap64 (wrap64 ((kk : Int) - 1) - (out.length : Int)) = (q : Int) := by unfold wrap64; omega
        have e3 : wrap64 (x + 1) = x + 1 := w64_id (by omega) (by omega)
        have hb := C_bound (m + 1) (q + 1) (by omega)
        have hc := ref_ev (m : Int) (q : Int) (by omega) (by omega)
        rw [B_nat] at hc
        refine Ev.step (f := fun k => codewrightref11_Unrank.j2 k (n : Int) (kk : Int) r out x true) (fun k => ?_) ?_
        · simp only [codewrightref11_Unrank.l0]; rw [if_pos (by omega), decide_eq_true (by omega)]
        refine Ev.step (f := fun k => (codewrightref11_Binomial.f k (m : Int) (q : Int)).bind fun t => if r < t.1 then (if out.length < 17592186044416 then codewrightref11_Unrank.l0 k (n : Int) (kk : Int) r (out ++ [x]) (x + 1) else none) else codewrightref11_Unrank.l0 k (n : Int) (kk : Int) (wrap64 (r - t.1)) out (x + 1)) (fun k => ?_) (hc.bind ?_)
        · simp only [codewrightref11_Unrank.j2]; rw [if_pos trivial, e1, e2, e3]
        · by_cases hr : r < (C m q : Int)
          · have e5 : kk - (out ++ [x]).length = q := by simp; omega
            have ih := refun_l0 n hn kk hk m (out ++ [x]) (x + 1) r (by omega) (by omega) (by simp; omega) h0 (by rw [e5]; exact hr)
            rw [e5, List.append_assoc] at ih
            simp only [un]; rw [if_pos hr]
            refine Ev.congr (fun k => ?_) ih
            rw [if_pos hr, if_pos (by omega)]
          · have ih := refun_l0 n hn kk hk m out (x + 1) (r - C m q) (by omega) (by omega) ho (by omega) (by
              rw [hq]; rw [C_succ] at h1; omega)
            rw [hq] at ih
            simp only [un]; rw [if_neg hr]
            refine Ev.congr (fun k => ?_) ih
            rw [if_neg hr, w64_id (by omega) (by omega)]
theorem refun_ev (n kk : Nat) (hn : n ≤ 64) (hk : kk ≤ n) (r : Int) (h0 : 0 ≤ r) (h1 : r < (C n kk : Int)) :
    Ev (fun k => codewrightref11_Unrank.f k (n : Int) (kk : Int) r) (un n 0 kk r, 0) := by
  have h := refun_l0 n hn kk hk n [] 0 r (by omega) (by omega) (by simp) h0 h1
  have hc := ref_ev (n : Int) (kk : Int) (by omega) (by omega)
  rw [B_nat] at hc
  refine Ev.congr (f := fun k => (codewrightref11_Binomial.f k (n : Int) (kk : Int)).bind _) (fun k => rfl) (hc.bind ?_)
  refine Ev.congr (f := fun k => codewrightref11_Unrank.j0 k (n : Int) (kk : Int) r false) (fun k => ?_) (Ev.step (fun k => ?_) h)
  · rw [if_pos rfl, if_neg (by omega), if_neg (by omega), if_neg (by omega), decide_eq_false (by omega)]
  · simp only [codewrightref11_Unrank.j0]; rw [if_neg (by simp)]
theorem refun_out (n kk r : Int) (h : n < 0 ∨ 64 < n ∨ kk < 0 ∨ n < kk ∨ r < 0 ∨ B n kk ≤ r) : Ev (fun k => codewrightref11_Unrank.f k n kk r) ([], 6) := by
  have hj : Ev (fun k => codewrightref11_Unrank.j0 k n kk r true) (([] : List Int), 6) := Ev.step (f := fun _ => some (([] : List Int), 6)) (fun k => by simp only [codewrightref11_Unrank.j0]; rw [if_pos trivial]) (Ev.now _)
  by_cases c : n < 0 ∨ 64 < n
  · refine Ev.congr (f := fun k => (codewrightref11_Binomial.f k n kk).bind _) (fun k => rfl) ((ref_out n kk c).bind ?_)
    exact Ev.congr (fun k => if_neg (by omega)) (Ev.now _)
  · refine Ev.congr (f := fun k => (codewrightref11_Binomial.f k n kk).bind _) (fun k => rfl) ((ref_ev n kk (by omega) (by omega)).bind ?_)
    refine Ev.congr (fun k => if_pos rfl) ?_
    by_cases c3 : kk < 0
    · exact Ev.congr (fun k => if_pos c3) hj
    by_cases c4 : kk > n
    · exact Ev.congr (fun k => by rw [if_neg c3, if_pos c4]) hj
    by_cases c5 : r < 0
    · exact Ev.congr (fun k => by rw [if_neg c3, if_neg c4, if_pos c5]) hj
    exact Ev.congr (fun k => by rw [if_neg c3, if_neg c4, if_neg c5, decide_eq_true (by omega)]) hj
theorem same_ev (a : List Int) (h : a.length < 4611686018427387904) : Ev (fun k => codewrightref11_Same.f k a a) true := by
  refine Ev.congr (f := fun k => (codewrightref11_Compare.f k a a).bind fun t => some (t == 0)) (fun k => rfl) ((refcompare_ev a a h).bind ?_)
  rw [lex_self]; exact Ev.now _
theorem WordUnranks_last : Ev (fun k => (word_Unrank.f k 4 2 3).bind fun t => if t.2 = 0 then ((codewrightref11_Same.f k t.1 (([1, 2] : List Int))).bind fun u => some u) else some false) true := by
  refine (unrank_ev 4 2 (by omega) (by omega) 3 (by omega) (by decide)).bind ?_
  have e : un 4 0 2 3 = [1, 2] := by decide
  rw [e]
  refine Ev.congr (fun k => if_pos rfl) ((same_ev [1, 2] (by decide)).bind (Ev.now _))
/-- For all n, k and r. -/
theorem WordUnranks : codewrightlaw11_WordUnranks.Pure := by
  intro n kk r w0 w1 w2
  refine Ev.rounds (g := fun k => codewrightlaw11_WordUnranks.f k n kk r) ?_
  by_cases h : n < 0 ∨ 64 < n ∨ kk < 0 ∨ n < kk ∨ r < 0 ∨ B n kk ≤ r
  · refine Ev.congr (f := fun k => (word_Unrank.f k n kk r).bind _) (fun k => rfl) ((unrank_out n kk r h).bind ?_)
    refine Ev.congr (f := fun k => (codewrightref11_Unrank.f k n kk r).bind _) (fun k => rfl) ((refun_out n kk r h).bind ?_)
    refine Ev.congr (fun k => if_pos rfl) ((same_ev [] (by decide)).bind ?_)
    refine Ev.step (fun k => ?_) WordUnranks_last
    simp only [codewrightlaw11_WordUnranks.j0]; rw [if_neg (by simp), if_neg (by omega)]
  · obtain ⟨m, rfl⟩ := Int.eq_ofNat_of_zero_le (show 0 ≤ n by omega)
    obtain ⟨q, rfl⟩ := Int.eq_ofNat_of_zero_le (show 0 ≤ kk by omega)
    rw [B_nat] at h
    obtain ⟨i1, i2, i3⟩ := un_rank (m : Int) m 0 q r (by omega) (by omega) (by omega)
    refine Ev.congr (f := fun k => (word_Unrank.f k (m : Int) (q : Int) r).bind _) (fun k => rfl) ((unrank_ev m q (by omega) (by omega) r (by omega) (by omega)).bind ?_)
    refine Ev.congr (f := fun k => (codewrightref11_Unrank.f k (m : Int) (q : Int) r).bind _) (fun k => rfl) ((refun_ev m q (by omega) (by omega) r (by omega) (by omega)).bind ?_)
    refine Ev.congr (fun k => if_pos rfl) ((same_ev _ (by rw [i2]; omega)).bind ?_)
    have hb := C_bound m q (by omega)
    have hr := rank_ev (m : Int) (un m 0 q r) (by omega) (by omega) (by rw [i2]; omega)
    rw [if_pos i1, i3, w64_id (by omega) (by omega)] at hr
    refine Ev.step (f := fun k => (word_Rank.f k (m : Int) (un m 0 q r)).bind fun t => if t.2 = 0 then codewrightlaw11_WordUnranks.j1 k (t.1 != r) else codewrightlaw11_WordUnranks.j1 k true) (fun k => ?_) (hr.bind ?_)
    · simp only [codewrightlaw11_WordUnranks.j0]; rw [if_neg (by simp), if_pos trivial]
    · refine Ev.congr (f := fun k => codewrightlaw11_WordUnranks.j1 k false) (fun k => by rw [if_pos rfl]; simp) (Ev.step (fun k => ?_) WordUnranks_last)
      simp only [codewrightlaw11_WordUnranks.j1]; rw [if_neg (by simp)]
end Go.Proofs.Ytekojgilikoegaa.Pure
