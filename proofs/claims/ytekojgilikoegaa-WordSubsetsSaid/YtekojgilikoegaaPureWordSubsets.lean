/- Subsets lists all subsets of a size in lexicographic order, as the document's answer does: for all n and k. No condition. -/
import Derived.Test.YtekojgilikoegaaQx16
import Derived.Test.YtekojgilikoegaaSbQ
import Derived.Test.YtekojgilikoegaaCmQ
namespace Go.Proofs.Ytekojgilikoegaa.Pure
open Go.RowKit Go.Proofs.Ytekojgilikoegaa.Q Go.Proofs.YtekojgilikoegaaW.PrintWords Go.Proofs.YtekojgilikoegaaW.PrintLast
open Go.Proofs.Ytekojgilikoegaa.Math Go.Proofs.Ytekojgilikoegaa.ChQ Go.Proofs.Ytekojgilikoegaa.Sub Go.Proofs.Ytekojgilikoegaa.Nxt Go.Proofs.Ytekojgilikoegaa.SbQ Go.Proofs.Ytekojgilikoegaa.Lex Go.Proofs.Ytekojgilikoegaa.CmQ

theorem same_ev (a : List Int) (h : a.length < 4611686018427387904) : Ev (fun k => codewrightref11_Same.f k a a) true := by
  refine Ev.congr (f := fun k => (codewrightref11_Compare.f k a a).bind fun t => some (t == 0)) (fun k => rfl) ((refcompare_ev a a h).bind ?_)
  rw [lex_self]; exact Ev.now _
theorem lists_l0 (l : List (List Int)) (hl : l.length < 4611686018427387904) (hs : ∀ i : Int, (rd_L1 l i).length < 4611686018427387904) : ∀ (d i : Nat), i + d = l.length →
    Ev (fun k => codewrightref11_SameLists.l0 k l l (i : Int)) true
  | 0, i, hd => by
    refine Ev.step (f := fun _ => some true) (fun k => ?_) (Ev.now _)
    simp only [codewrightref11_SameLists.l0]; rw [if_neg (by omega)]
  | d + 1, i, hd => by
    have e : wrap64 ((i : Int) + 1) = ((i + 1 : Nat) : Int) := by rw [w64_id (by omega) (by omega)]; omega
    refine Ev.step (f := fun k => (codewrightref11_Compare.f k (rd_L1 l i) (rd_L1 l i)).bind fun t => if t = 0 then codewrightref11_SameLists.l0 k l l ((i + 1 : Nat) : Int) else some false) (fun k => ?_) ((refcompare_ev _ _ (hs i)).bind ?_)
    · simp only [codewrightref11_SameLists.l0]; rw [if_pos (by omega), if_pos (by omega), if_pos (by omega), e]
    · rw [lex_self]; exact Ev.congr (fun k => if_pos rfl) (lists_l0 l hl hs d (i + 1) (by omega))
theorem lists_ev (l : List (List Int)) (hl : l.length < 4611686018427387904) (hs : ∀ i : Int, (rd_L1 l i).length < 4611686018427387904) : Ev (fun k => codewrightref11_SameLists.f k l l) true := by
  refine Ev.congr (fun k => ?_) (lists_l0 l hl hs l.length 0 (by omega))
  unfold codewrightref11_SameLists.f; rw [if_pos rfl]; rfl
theorem All_short (n k : Int) : (All n k).1.length ≤ 65536 ∧ ∀ i : Int, (rd_L1 (All n k).1 i).length ≤ 64 := by
  have hnil : ∀ i : Int, (rd_L1 ([] : List (List Int)) i).length ≤ 64 := fun i => by unfold rd_L1; simp
  unfold All
  by_cases h : n < 0 ∨ 64 < n ∨ k < 0 ∨ n < k
  · rw [if_pos h]; exact ⟨by simp, hnil⟩
  · rw [if_neg h]
    by_cases hb : 65536 < C n.toNat k.toNat
    · rw [if_pos hb]; exact ⟨by simp, hnil⟩
    · rw [if_neg hb]
      refine ⟨by simp only [firsts_length]; omega, fun i => ?_⟩
      simp only []
      unfold rd_L1 firsts
      rw [List.getD_eq_getElem?_getD, List.getElem?_map]
      by_cases hi : i.toNat < C n.toNat k.toNat
      · rw [List.getElem?_range hi]; simp only [Option.map_some, Option.getD_some]
        have := (un_rank (n.toNat : Int) n.toNat 0 k.toNat (i.toNat : Int) (by omega) (by omega) (by omega)).2.1
        omega
      · rw [List.getElem?_eq_none (by simp; omega)]; simp
theorem WordSubsets_last : Ev (fun k => (word_Subsets.f k 3 2).bind fun t => if t.2 = 0 then (if (t.1.length : Int) = 3 then (if 1 < (t.1.length : Int) then ((codewrightref11_Same.f k (rd_L1 t.1 1) (([0, 2] : List Int))).bind fun u => some u) else none) else some false) else some false) true := by
  refine (word_ev 3 2).bind ?_
  have e : All 3 2 = ([[0, 1], [0, 2], [1, 2]], 0) := by decide
  rw [e]
  refine Ev.congr (f := fun k => (codewrightref11_Same.f k [0, 2] [0, 2]).bind fun u => some u) (fun k => ?_) ((same_ev [0, 2] (by decide)).bind (Ev.now _))
  rfl
/-- For all n and k. -/
theorem WordSubsets : codewrightlaw11_WordSubsets.Pure := by
  intro n k _ _
  refine Ev.rounds (g := fun r => codewrightlaw11_WordSubsets.f r n k) ?_
  obtain ⟨h1, h2⟩ := All_short n k
  refine Ev.congr (f := fun r => (word_Subsets.f r n k).bind _) (fun r => rfl) ((word_ev n k).bind ?_)
  refine Ev.congr (f := fun r => (codewrightref11_Subsets.f r n k).bind _) (fun r => rfl) ((refs_ev n k).bind ?_)
  refine Ev.congr (fun r => if_pos rfl) ((lists_ev _ (by omega) (fun i => by have := h2 i; omega)).bind ?_)
  refine Ev.step (fun r => ?_) WordSubsets_last
  simp only [codewrightlaw11_WordSubsets.j0]; rw [if_neg (by simp)]
end Go.Proofs.Ytekojgilikoegaa.Pure
