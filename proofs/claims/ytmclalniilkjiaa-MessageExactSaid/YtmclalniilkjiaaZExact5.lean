-- Joined by pack.py, a program of this work: Rw WSized
import Derived.Test.YtmclalniilkjiaaZExact0
import Derived.Deep.Matrix
import Derived.Lib.SmallJoins
import Derived.SizedLaws
import Derived.ChangeSlices
/- An argument of rows of whole numbers, opened as a list of lists. No condition. -/
namespace Go.Proofs.Ytmclalniilkjiaa.Rw
open Go.ChangeShapes Go.WideShapes Go.ChangeAt Go.RowKit Go.Joins Go.Deep Go.Proofs.YtmclalniilkjiaaW.PrintWords
theorem open_rows {H : Type} {enc : TypeId × Value → H} {P : Program} {w : World} {base : Nat} {held : Bool} {t e q : TypeId} {fuel : Nat} {v : Value} {x : DataW H × List MemPlace} (ht : P.underlying t = some (.slice e)) (he : P.underlying e = some (.slice q)) (hq : P.underlying q = some (.int .i64))
  (ce : P.cellsOf e = 1) (cq : P.cellsOf q = 1) (d : Nat) (h : DataW.trod enc P w base (fun _ => true) held fuel t [v] = some x) :
  ∃ (a : Option Addr) (cap : Nat) (rows : List (List Int)), v = .slice a rows.length cap ∧ rows.length ≤ cap ∧ Kd.C (Kd.slice d (Kd.int .i64)) w a rows.length rows := by
 rcases open_int_rows ht he hq ce cq h with ⟨hcs, _⟩ | ⟨a, len, cap, A, L, C, Z, hcs, _, hl, hm, _, hrow⟩
 ·simp only [List.cons.injEq, and_true] at hcs
  exact ⟨none, 0, [], hcs, Nat.le_refl _, Kd.C_nil _ _⟩
 ·simp only [List.cons.injEq, and_true] at hcs
  have each : ∀ r, r < len → ∃ l : List Int, L r = l.length ∧ ReadsInt w .i64 (A r) l.length l ∧ l.length ≤ C r := by
   intro r hr
   obtain ⟨_, h2, h3, h4, h5, h6, h7⟩ := hrow r (by omega)
   have hi : (A r = none ∧ L r = 0 ∧ C r = 0 ∧ Z r = []) ∨ ∃ x, A r = some x ∧ L r ≤ C r ∧ C r ≤ maxLen ∧ (Z r).length = C r ∧ (∀ i, i < (Z r).length → w.cell? (x.add i) = some (.int .i64 ((Z r).getD i 0))) ∧ ∀ n ∈ Z r, (Lit.int .i64 n).wf = true := by
    cases ha : A r with
    | none =>
     have hc := h6 ha
     exact Or.inl ⟨rfl, by omega, hc, List.eq_nil_of_length_eq_zero (by omega)⟩
    | some x => exact Or.inr ⟨x, rfl, h2, h3, h4, fun i hi => (h7 x ha).2 i (by omega), h5⟩
   obtain ⟨l, e1, e2, _, _, e3⟩ := ReadsInt.ofRowC hi
   exact ⟨l, e1, e2, e3⟩
  obtain ⟨y, hy⟩ := choose_lt each
  have hlen : ((List.range len).map y).length = len := by simp
  refine ⟨some a, cap, (List.range len).map y, by rw [hlen]; exact hcs, by rw [hlen]; exact hl, rfl, ?_, fun _ => ⟨a, rfl, fun j p hj => ?_⟩⟩
  ·rw [hlen]; have : maxLen = 9223372036854775807 := rfl; omega
  ·obtain ⟨hj1, hj2⟩ := List.getElem?_eq_some_iff.1 hj
   have hjl : j < len := by rw [hlen] at hj1; exact hj1
   have ep : p = y j := by rw [← hj2]; simp
   subst ep
   obtain ⟨h1, _⟩ := hrow j (by omega)
   obtain ⟨e1, e2, e3⟩ := hy j hjl
   refine ⟨[.slice (A j) (y j).length (C j)], rfl, ⟨A j, C j, rfl, e3, Kd.C_of_reads (d := (0 : Int)) (h1 := fun _ => rfl) e2⟩, fun i u hi => ?_⟩
   cases i with
   | zero =>
    simp only [List.getElem?_cons_zero, Option.some.injEq] at hi
    subst hi
    show w.cell? (a.add (j * 1 + 0)) = _
    rw [Nat.mul_one, Nat.add_zero, h1, e1]
   | succ i => simp at hi
end Go.Proofs.Ytmclalniilkjiaa.Rw
namespace Go.Proofs.YtmclalniilkjiaaW.PrintWords
open Go.ChangeShapes Go.WideShapes
theorem sized_ints {H : Type} {enc : TypeId × Value → H} {P : Program} {W : World} {base : Nat} {spare : Nat → Bool} {held : Bool} {t e : TypeId} {k : IntKind} {a : Option Addr} {len cap : Nat} {d : DataW H} {ps : List MemPlace} {ts : List TypeId} {ds : List (DataW H)} {j : Nat}
  (hsz : (DataW.weightsEach P ts ds).all (· ≤ reachBytes) = true) (ht : ts[j]? = some t) (hd : ds[j]? = some d) (hu : P.underlying t = some (.slice e)) (he : P.underlying e = some (.int k)) (hc : P.cellsOf e = 1) {B : Nat} (hB : P.bytesOf e = B)
  (h : DataW.Trod enc P W base spare held t (.slice a len cap) d ps) : len * B ≤ 140737488351232 := by
 obtain ⟨fuel, hf⟩ := h
 rcases open_ints hu he hc hf with ⟨hcs, _⟩ | ⟨x, l, c, zs, hcs, _, hl, _, hz, hx, _, _⟩
 ·simp [Value.cells] at hcs
  obtain ⟨rfl, rfl, rfl⟩ := hcs
  simp
 ·simp [Value.cells] at hcs
  obtain ⟨rfl, rfl, rfl⟩ := hcs
  obtain ⟨hx, _⟩ := Prod.mk.inj hx
  subst hx
  have z := sized_slice hsz ht hd hu
  rw [hB] at z
  have hl2 : len ≤ zs.length := by
   rw [hz]
   split
   ·exact hl
   ·exact Nat.le_refl _
  have h1 : (lits (H := H) k (zs.take len)).length + (lits (H := H) k (zs.drop len)).length = zs.length := by
   simp [lits]
   omega
  rw [h1] at z
  exact Nat.le_trans (Nat.mul_le_mul_right _ hl2) z
end Go.Proofs.YtmclalniilkjiaaW.PrintWords
