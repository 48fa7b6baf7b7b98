/- Compare is the lexicographic order of raw lists of integers, as the document's answer is, and it is a total order: for all three lists. No condition. -/
import Derived.Test.YtekojgilikoegaaPWordOrderx1
import Derived.Test.YtekojgilikoegaaCmWordOrder
import Derived.Test.YtekojgilikoegaaWSized
namespace Go.Proofs.Ytekojgilikoegaa.PrintWords
/-- The word's bound under the short name that the row uses. -/
theorem sized_ints {H : Type} {enc : TypeId × Value → H} {P : Program} {W : World} {base : Nat} {spare : Nat → Bool} {held : Bool} {t e : TypeId} {k : IntKind} {a : Option Addr} {len cap : Nat} {d : DataW H} {ps : List MemPlace} {ts : List TypeId} {ds : List (DataW H)} {j : Nat}
    (hsz : (DataW.weightsEach P ts ds).all (· ≤ reachBytes) = true) (ht : ts[j]? = some t) (hd : ds[j]? = some d) (hu : P.underlying t = some (.slice e)) (he : P.underlying e = some (.int k)) (hc : P.cellsOf e = 1) {B : Nat} (hB : P.bytesOf e = B)
    (h : DataW.Trod enc P W base spare held t (.slice a len cap) d ps) : len * B ≤ 140737488351232 :=
  Go.Proofs.YtekojgilikoegaaW.PrintWords.sized_ints hsz ht hd hu he hc hB h
end Go.Proofs.Ytekojgilikoegaa.PrintWords
namespace Go.Proofs.Ytekojgilikoegaa.Pure
open Go.RowKit Go.Proofs.Ytekojgilikoegaa.PWordOrder Go.Proofs.YtekojgilikoegaaW.PrintWords Go.Proofs.YtekojgilikoegaaW.PrintLast
open Go.Proofs.Ytekojgilikoegaa.Lex Go.Proofs.Ytekojgilikoegaa.CmWordOrder

theorem WordOrder_last : Ev (fun k => (word_Compare.f k (([1, 2] : List Int)) (([1, 2, 0] : List Int))).bind fun t => some (t == (-1))) true := by
  refine (compare_ev [1, 2] [1, 2, 0] (by decide)).bind ?_
  have e : lex [1, 2] [1, 2, 0] = -1 := by decide
  rw [e]; exact Ev.now _
/-- For all three lists. -/
theorem WordOrder : codewrightlaw11_WordOrder.Pure := by
  intro l0 l1 l2 _ n0 _ _ n1 _ _ n2 _
  have h0 : l0.length < 4611686018427387904 := by omega
  have h1 : l1.length < 4611686018427387904 := by omega
  refine Ev.rounds (g := fun k => codewrightlaw11_WordOrder.f k l0 l1 l2) ?_
  refine Ev.congr (f := fun k => (word_Compare.f k l0 l1).bind _) (fun k => rfl) ((compare_ev l0 l1 h0).bind ?_)
  refine Ev.congr (f := fun k => (codewrightref11_Compare.f k l0 l1).bind _) (fun k => rfl) ((refcompare_ev l0 l1 h0).bind ?_)
  refine Ev.congr (fun k => if_pos rfl) ?_
  refine (compare_ev l1 l0 h1).bind ?_
  have r := lex_range l0 l1
  have e : lex l1 l0 = wrap64 (- lex l0 l1) := by rw [lex_swap l0 l1]; unfold wrap64; omega
  refine Ev.congr (fun k => if_pos e) ?_
  refine (compare_ev l0 l0 h0).bind ?_
  rw [lex_self]
  refine Ev.step (f := fun k => (word_Compare.f k l1 l2).bind _) (fun k => ?_) ((compare_ev l1 l2 h1).bind (f := fun k t => if lex l0 l1 ≤ 0 then (if t ≤ 0 then ((word_Compare.f k l0 l2).bind fun t116 => if t116 > 0 then some false else (word_Compare.f k (([1, 2] : List Int)) (([1, 2, 0] : List Int))).bind fun t => some (t == (-1))) else (word_Compare.f k (([1, 2] : List Int)) (([1, 2, 0] : List Int))).bind fun t => some (t == (-1))) else (word_Compare.f k (([1, 2] : List Int)) (([1, 2, 0] : List Int))).bind fun t => some (t == (-1))) ?_)
  · simp only [codewrightlaw11_WordOrder.j0]; rw [if_neg (by simp)]
  by_cases c1 : lex l0 l1 ≤ 0
  · refine Ev.congr (fun k => if_pos c1) ?_
    by_cases c2 : lex l1 l2 ≤ 0
    · refine Ev.congr (fun k => if_pos c2) ?_
      refine (compare_ev l0 l2 h0).bind ?_
      have := lex_trans l0 l1 l2 c1 c2
      exact Ev.congr (fun k => if_neg (by omega)) WordOrder_last
    · exact Ev.congr (fun k => if_neg c2) WordOrder_last
  · exact Ev.congr (fun k => if_neg c1) WordOrder_last
end Go.Proofs.Ytekojgilikoegaa.Pure
