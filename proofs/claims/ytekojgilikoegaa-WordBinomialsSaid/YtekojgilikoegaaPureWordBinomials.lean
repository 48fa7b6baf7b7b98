/- Binomial tells the number of subsets, as the document's answer does, and obeys Pascal's rule: for all n and k. No condition. -/
import Derived.Test.YtekojgilikoegaaPWordBinomialsx3
import Derived.Test.YtekojgilikoegaaChWordBinomials
namespace Go.Proofs.Ytekojgilikoegaa.Pure
open Go.RowKit Go.Proofs.Ytekojgilikoegaa.PWordBinomials Go.Proofs.YtekojgilikoegaaW.PrintWords Go.Proofs.YtekojgilikoegaaW.PrintLast
open Go.Proofs.Ytekojgilikoegaa.Math Go.Proofs.Ytekojgilikoegaa.ChWordBinomials

theorem WordBinomials_last (x0 x1 x5 : Int) : Ev (fun k => codewrightlaw11_WordBinomials.j1 k x0 x1 x5 false) true := by
  refine Ev.step (f := fun k => (word_Binomial.f k 5 2).bind fun t => if t.1 = 10 then some (t.2 == 0) else some false) (fun k => ?_) ?_
  · simp only [codewrightlaw11_WordBinomials.j1]; rw [if_neg (by simp)]
  · refine (bin_ev 5 2 (by omega) (by omega)).bind ?_
    have e : B 5 2 = 10 := by decide
    rw [e]; exact Ev.now _
theorem B_pascal (n k : Int) (h0 : 1 ≤ n) (hn : n ≤ 64) (hk : 1 ≤ k) : B (n - 1) (k - 1) + B (n - 1) k = B n k ∧ wrap64 (B n k) = B n k := by
  unfold B
  rw [if_neg (by omega), if_neg (by omega), if_neg (by omega)]
  obtain ⟨m, rfl⟩ : ∃ m : Nat, n = (m : Int) + 1 := ⟨(n - 1).toNat, by omega⟩
  obtain ⟨q, rfl⟩ : ∃ q : Nat, k = (q : Int) + 1 := ⟨(k - 1).toNat, by omega⟩
  have e1 : ((m : Int) + 1).toNat = m + 1 := by omega
  have e2 : ((m : Int) + 1 - 1).toNat = m := by omega
  have e3 : ((q : Int) + 1).toNat = q + 1 := by omega
  have e4 : ((q : Int) + 1 - 1).toNat = q := by omega
  rw [e1, e2, e3, e4]
  refine ⟨?_, wrap_C _ _ (by omega)⟩
  rw [C_succ]; omega
/-- For all n and k. -/
theorem WordBinomials : codewrightlaw11_WordBinomials.Pure := by
  intro a0 a1 w0 w1
  refine Ev.rounds (g := fun k => codewrightlaw11_WordBinomials.f k a0 a1) ?_
  by_cases hn : a0 < 0 ∨ 64 < a0
  · refine Ev.congr (f := fun k => (word_Binomial.f k a0 a1).bind _) (fun k => rfl) ((bin_out a0 a1 hn).bind ?_)
    refine (ref_out a0 a1 hn).bind (f := fun k t => if (0 : Int) = t.1 then codewrightlaw11_WordBinomials.j0 k a0 a1 0 t.2 ((6 : Int) != t.2) else codewrightlaw11_WordBinomials.j0 k a0 a1 0 t.2 true) ?_
    refine Ev.congr (f := fun k => codewrightlaw11_WordBinomials.j0 k a0 a1 0 6 false) (fun k => by rw [if_pos rfl]; rfl) ?_
    refine Ev.step (fun k => ?_) (WordBinomials_last a0 a1 0)
    simp only [codewrightlaw11_WordBinomials.j0]; rw [if_neg (by simp), if_neg (by omega)]
  · refine Ev.congr (f := fun k => (word_Binomial.f k a0 a1).bind _) (fun k => rfl) ((bin_ev a0 a1 (by omega) (by omega)).bind ?_)
    refine (ref_ev a0 a1 (by omega) (by omega)).bind (f := fun k t => if B a0 a1 = t.1 then codewrightlaw11_WordBinomials.j0 k a0 a1 (B a0 a1) t.2 ((0 : Int) != t.2) else codewrightlaw11_WordBinomials.j0 k a0 a1 (B a0 a1) t.2 true) ?_
    refine Ev.congr (f := fun k => codewrightlaw11_WordBinomials.j0 k a0 a1 (B a0 a1) 0 false) (fun k => by rw [if_pos rfl]; rfl) ?_
    by_cases h1 : a0 ≥ 1
    · by_cases h2 : a1 ≥ 1
      · by_cases h3 : a1 ≤ a0
        · obtain ⟨hp, hw⟩ := B_pascal a0 a1 h1 (by omega) h2
          have b0 := wf_bounds w0
          have b1 := wf_bounds w1
          refine Ev.step (f := fun k => codewrightlaw11_WordBinomials.j1 k a0 a1 (B a0 a1) true) (fun k => ?_) ?_
          · simp only [codewrightlaw11_WordBinomials.j0]; rw [if_neg (by simp), if_pos trivial, if_pos h1, if_pos h2, decide_eq_true h3]
          refine Ev.step (f := fun k => (word_Binomial.f k (a0 - 1) (a1 - 1)).bind fun s => (word_Binomial.f k (a0 - 1) a1).bind fun t => if s.2 = 0 then (if t.2 = 0 then (if wrap64 (s.1 + t.1) = B a0 a1 then (word_Binomial.f k 5 2).bind (fun u => if u.1 = 10 then some (u.2 == 0) else some false) else some false) else some false) else some false) (fun k => ?_) ?_
          · simp only [codewrightlaw11_WordBinomials.j1]; rw [if_pos trivial, w64_id (by omega) (by omega), w64_id (by omega) (by omega)]
          refine (bin_ev (a0 - 1) (a1 - 1) (by omega) (by omega)).bind ?_
          refine (bin_ev (a0 - 1) a1 (by omega) (by omega)).bind (f := fun k t => if (0 : Int) = 0 then (if t.2 = 0 then (if wrap64 (B (a0 - 1) (a1 - 1) + t.1) = B a0 a1 then (word_Binomial.f k 5 2).bind (fun u => if u.1 = 10 then some (u.2 == 0) else some false) else some false) else some false) else some false) ?_
          refine Ev.congr (f := fun k => (word_Binomial.f k 5 2).bind (fun u => if u.1 = 10 then some (u.2 == 0) else some false)) (fun k => by rw [if_pos rfl, if_pos rfl, hp, hw, if_pos rfl]) ?_
          refine (bin_ev 5 2 (by omega) (by omega)).bind ?_
          have e : B 5 2 = 10 := by decide
          rw [e]; exact Ev.now _
        · refine Ev.step (fun k => ?_) (WordBinomials_last a0 a1 (B a0 a1))
          simp only [codewrightlaw11_WordBinomials.j0]; rw [if_neg (by simp), if_pos trivial, if_pos h1, if_pos h2, decide_eq_false h3]
      · refine Ev.step (fun k => ?_) (WordBinomials_last a0 a1 (B a0 a1))
        simp only [codewrightlaw11_WordBinomials.j0]; rw [if_neg (by simp), if_pos trivial, if_pos h1, if_neg h2]
    · refine Ev.step (fun k => ?_) (WordBinomials_last a0 a1 (B a0 a1))
      simp only [codewrightlaw11_WordBinomials.j0]; rw [if_neg (by simp), if_pos trivial, if_neg h1]

end Go.Proofs.Ytekojgilikoegaa.Pure
