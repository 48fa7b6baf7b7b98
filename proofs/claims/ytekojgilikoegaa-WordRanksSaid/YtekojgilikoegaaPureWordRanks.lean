/- Rank numbers the subsets of each size in lexicographic order, as the document's answer does, and Unrank undoes it: for every n and every list. No condition. -/
import Derived.Test.YtekojgilikoegaaQx9
import Derived.Test.YtekojgilikoegaaRkQ
import Derived.Test.YtekojgilikoegaaCmQ
namespace Go.Proofs.Ytekojgilikoegaa.Pure
open Go.RowKit Go.Proofs.Ytekojgilikoegaa.Q Go.Proofs.YtekojgilikoegaaW.PrintWords Go.Proofs.YtekojgilikoegaaW.PrintLast
open Go.Proofs.Ytekojgilikoegaa.Math Go.Proofs.Ytekojgilikoegaa.ChQ Go.Proofs.Ytekojgilikoegaa.Sub Go.Proofs.Ytekojgilikoegaa.RkQ Go.Proofs.Ytekojgilikoegaa.Lex Go.Proofs.Ytekojgilikoegaa.CmQ

theorem WordRanks_last : Ev (fun k => (word_Rank.f k 4 (([1, 2] : List Int))).bind fun t => if t.1 = 3 then some (t.2 == 0) else some false) true := by
  refine (rank_ev 4 [1, 2] (by omega) (by omega) (by decide)).bind ?_
  have e : (if V 4 0 [1, 2] then (wrap64 (rkL 4 0 [1, 2]), (0 : Int)) else (0, 5)) = (3, 0) := by
    have e1 : V 4 0 [1, 2] = true := by decide
    have e2 : rkL 4 0 [1, 2] = 3 := by decide
    rw [if_pos e1, e2, w64_id (by omega) (by omega)]
  rw [e]; exact Ev.now _
theorem same_ev (a : List Int) (h : a.length < 4611686018427387904) : Ev (fun k => codewrightref11_Same.f k a a) true := by
  refine Ev.congr (f := fun k => (codewrightref11_Compare.f k a a).bind fun t => some (t == 0)) (fun k => rfl) ((refcompare_ev a a h).bind ?_)
  rw [lex_self]; exact Ev.now _
/-- For every n and every list. -/
theorem WordRanks : codewrightlaw11_WordRanks.Pure := by
  intro n s w0 _ hs _
  have hs' : s.length < 4611686018427387904 := by omega
  refine Ev.rounds (g := fun k => codewrightlaw11_WordRanks.f k n s) ?_
  have tail : ∀ r x : Int, ¬ x = 0 → Ev (fun k => codewrightlaw11_WordRanks.j0 k n s r x false) true := by
    intro r x hx
    refine Ev.step (fun k => ?_) WordRanks_last
    simp only [codewrightlaw11_WordRanks.j0]; rw [if_neg (by simp), if_neg hx]
  by_cases hn : n < 0 ∨ 64 < n
  · refine Ev.congr (f := fun k => (word_Rank.f k n s).bind _) (fun k => rfl) ((rank_out n s hn).bind ?_)
    refine Ev.congr (f := fun k => (codewrightref11_Rank.f k n s).bind _) (fun k => rfl) ((refrank_out n s hn).bind ?_)
    exact Ev.congr (fun k => if_pos rfl) (tail 0 6 (by omega))
  · refine Ev.congr (f := fun k => (word_Rank.f k n s).bind _) (fun k => rfl) ((rank_ev n s (by omega) (by omega) hs').bind ?_)
    refine Ev.congr (f := fun k => (codewrightref11_Rank.f k n s).bind _) (fun k => rfl) ((refrank_ev n s (by omega) (by omega) hs').bind ?_)
    by_cases hv : V n 0 s = true
    · rw [if_pos hv]
      obtain ⟨m, rfl⟩ := Int.eq_ofNat_of_zero_le (show 0 ≤ n by omega)
      obtain ⟨i1, i2, i3⟩ := rank_un (m : Int) m 0 s (by omega) hv
      have hb := C_bound m s.length (by omega)
      have ew : wrap64 (rkL (m : Int) 0 s) = rkL (m : Int) 0 s := w64_id (by omega) (by omega)
      have hle : s.length ≤ m := by
        rcases Nat.lt_or_ge m s.length with h | h
        · rw [C_gt m s.length h] at i2; omega
        · exact h
      rw [ew]
      refine Ev.congr (fun k => if_pos rfl) ?_
      have hu := unrank_ev m s.length (by omega) hle (rkL (m : Int) 0 s) i1 i2
      rw [i3] at hu
      refine Ev.step (f := fun k => (word_Unrank.f k (m : Int) (s.length : Int) (rkL (m : Int) 0 s)).bind fun t => if t.2 = 0 then ((codewrightref11_Same.f k t.1 s).bind fun u => if u = true then ((word_Rank.f k 4 (([1, 2] : List Int))).bind fun t => if t.1 = 3 then some (t.2 == 0) else some false) else some false) else some false) (fun k => ?_) (hu.bind ?_)
      · simp only [codewrightlaw11_WordRanks.j0]; rw [if_neg (by simp), if_pos trivial]
      · refine Ev.congr (fun k => if_pos rfl) ?_
        refine (same_ev s hs').bind ?_
        exact Ev.congr (fun k => if_pos rfl) WordRanks_last
    · have hv' : V n 0 s = false := by simpa using hv
      rw [hv']
      exact Ev.congr (fun k => if_pos rfl) (tail 0 5 (by omega))
end Go.Proofs.Ytekojgilikoegaa.Pure
