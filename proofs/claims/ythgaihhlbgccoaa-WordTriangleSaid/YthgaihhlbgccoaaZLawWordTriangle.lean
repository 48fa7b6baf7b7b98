import Derived.Test.YthgaihhlbgccoaaRows
import Derived.Test.YthgaihhlbgccoaaZPWordTriangle
import Derived.WalkKit
import Derived.ProofKit
import Derived.OpenShut
import Derived.ShutString
import Derived.ChangeOld
import Derived.Below
import Derived.SizedLaws
import Derived.Lib.SmallJoins
import Derived.Test.YthgaihhlbgccoaaZW0
-- Written by mkrow.py, a program of this work after the form of the printer's rows; Lean checks it.
namespace Go.Proofs.Ythgaihhlbgccoaa.wordTriangle
open Go.ChangeShapes Go.WideShapes Go.ChangeAt Go.RowKit Go.Joins
open Go.ChangeMaps (open_string shut_string)
set_option linter.unusedVariables false
set_option linter.unusedSimpArgs false
theorem own : ownKnob Try.prog.godebug = none := by kernel_rfl
theorem laidOut : laidOutB Try.prog = true := by kernel_rfl
def IsRow (k : IntKind) (w : World) (a : Option Addr) (len cap : Nat) (zs : List Int) : Prop :=
 (a = none ∧ len = 0 ∧ cap = 0 ∧ zs = []) ∨
 ∃ x, a = some x ∧ len ≤ cap ∧ cap ≤ maxLen ∧ zs.length = cap ∧ (∀ i, i < zs.length → w.cell? (x.add i) = some (.int k (zs.getD i 0))) ∧ ∀ n ∈ zs, (Lit.int k n).wf = true
theorem array6 {α : Type} {cs : Array α} (h : cs.size = 6) : ∃ c0 c1 c2 c3 c4 c5, cs = #[c0, c1, c2, c3, c4, c5] := by
 obtain ⟨l⟩ := cs
 match l, h with
 | [c0, c1, c2, c3, c4, c5], _ => exact ⟨c0, c1, c2, c3, c4, c5, rfl⟩
open Go.Proofs.YthgaihhlbgccoaaW.PrintWords in
theorem walk (W : World) (a0_0 a0_1 : Int) (w0_0 : (Lit.int .i64 a0_0).wf = true) (a0_2 : Option Addr) (len0_2 cap0_2 : Nat) (z0_2 : List Int) (w0_2 : IsRow .i64 W a0_2 len0_2 cap0_2 z0_2) (a0_3 : Option Addr) (len0_3 cap0_3 : Nat) (z0_3 : List Int) (w0_3 : IsRow .i64 W a0_3 len0_3 cap0_3 z0_3) (y0_3 : len0_3 * 8 ≤ 140737488351232) (a0_4 : Option Addr) (len0_4 cap0_4 : Nat) (z0_4 : List Int) (w0_4 : IsRow .i64 W a0_4 len0_4 cap0_4 z0_4) (y0_4 : len0_4 * 8 ≤ 140737488351232) (a0_5 : Option Addr) (len0_5 cap0_5 : Nat) (z0_5 : List Int) (w0_5 : IsRow .i64 W a0_5 len0_5 cap0_5 z0_5) (y0_5 : len0_5 * 8 ≤ 140737488351232) :
  Calls Try.prog 8 #[.agg #[.int .i64 a0_0, .int .i64 a0_1, .slice a0_2 len0_2 cap0_2, .slice a0_3 len0_3 cap0_3, .slice a0_4 len0_4 cap0_4, .slice a0_5 len0_5 cap0_5]] W fun e w' => e = .returned (.bool true) ∧ Below W.heap.size W w' := by
 obtain ⟨l0_2, rfl, hr0_2, hm0_2, hw0_2, hc0_2⟩ := ReadsInt.ofRowC w0_2
 obtain ⟨l0_3, rfl, hr0_3, hm0_3, hw0_3, hc0_3⟩ := ReadsInt.ofRowC w0_3
 obtain ⟨l0_4, rfl, hr0_4, hm0_4, hw0_4, hc0_4⟩ := ReadsInt.ofRowC w0_4
 obtain ⟨l0_5, rfl, hr0_5, hm0_5, hw0_5, hc0_5⟩ := ReadsInt.ofRowC w0_5
 have hP : a0_0 ≤ 9223372036854775807 := by have h1 := w0_0; simp [Lit.wf] at h1; exact h1.2
 exact Pure.WordTriangle a0_0 a0_1 _ _ l0_2 _ _ l0_3 _ _ l0_4 _ _ l0_5 W hP (Kd.C_of_reads (d := (0 : Int)) (h1 := fun _ => rfl) hr0_2) hc0_2 (Kd.C_of_reads (d := (0 : Int)) (h1 := fun _ => rfl) hr0_3) hc0_3 (Kd.C_of_reads (d := (0 : Int)) (h1 := fun _ => rfl) hr0_4) hc0_4 (Kd.C_of_reads (d := (0 : Int)) (h1 := fun _ => rfl) hr0_5) hc0_5 y0_3 y0_4 y0_5
set_option maxRecDepth 100000 in
theorem lifted (os : Os) (started : os.Started) (H : Type) (enc : TypeId × Value → H) :
  ReturnsInHanded {} Try.checked os 8 .any (Rows.wordTriangleSpec.pre6 enc Try.prog Try.f8 Rows.wordTriangleRow.domain false) (Rows.wordTriangleSpec.post enc Try.prog Try.f8 false true false false) := by
 refine returnsInHanded_of_change_sized (C := Try.checked) own started (by kernel_rfl) Try.func8
  (ChangeSpec.witness6 (enc := enc) (C := Try.checked) false ⟨#[], #[.agg #[.int .i64 0, .int .i64 0, .slice none 0 0, .slice none 0 0, .slice none 0 0, .slice none 0 0]], []⟩ 8 (by kernel_rfl) (by kernel_rfl) (by kernel_rfl) (by kernel_rfl)) ?_
 intro W base args ds gs before hval0 hW hcnd hsz0 _
 have hsz : (DataW.weightsEach Try.prog (Try.f8.params.toList ++ Rows.wordTriangleSpec.plain.varTypes Try.prog) (ds ++ gs)).all (· ≤ reachBytes) = true := hsz0
 have hval : ∀ (j : Nat) t v, Try.f8.params[j]? = some t → args[j]? = some v → Value.okWide Try.prog W .any base t v := hval0
 have hW' := hW
 obtain ⟨p, q, hA0, hV, rfl, hfz, hnd⟩ := hW
 have hA : DataW.TrodAll enc Try.prog W 0 (fun _ => true) true Try.f8.params.toList args.toList ds p := hA0
 rw [Try.params8] at hA hval hsz
 obtain ⟨v0, vs0, d0, ds0, p0, q0, hargs, rfl, rfl, h0, r0⟩ := trodAll_cons hA
 obtain ⟨rfl, rfl, rfl⟩ := trodAll_nil r0
 obtain rfl : args = #[v0] := by cases args; simp_all
 obtain ⟨rfl, rfl⟩ := trodVars_none hV
 have k0 := h0
 have lt0 : ∀ x ∈ p0, x.block < W.heap.size := by obtain ⟨m, hm⟩ := k0; exact DataW.trod_lt m _ _ _ hm
 obtain ⟨cs, rfl, hcsz⟩ := okWide_struct Try.underlying49 (hval 0 49 v0 rfl rfl)
 have hC6 : cs.size = 6 := hcsz.trans (by kernel_rfl)
 obtain ⟨c0_0, c0_1, c0_2, c0_3, c0_4, c0_5, rfl⟩ := array6 hC6
 obtain ⟨fuel, hf⟩ := h0
 obtain ⟨yF, y3, y4, y5, n, hx, _, hF, hy3, hy4, hy5⟩ := trod_struct4 Try.underlying49 hf
 have e24 : Try.prog.cellsOf 24 = 3 := by kernel_rfl
 have e22 : Try.prog.cellsOf 22 = 1 := by kernel_rfl
 have e3 : Try.prog.cellsOf 3 = 1 := by kernel_rfl
 simp [Value.cells, e24, e22] at hF hy3 hy4 hy5
 obtain ⟨x0_0, x0_1, x0_2, nF, hxF, _, hy0, hy1, hy2⟩ := Go.Deep.trod_struct3 Try.underlying24 hF
 simp [e22, e3] at hy0 hy1 hy2
 obtain ⟨rfl, rfl⟩ := Prod.mk.inj hx
 have hsz2 : (DataW.weightsEach Try.prog [24, 22, 22, 22] [yF.1, y3.1, y4.1, y5.1]).all (· ≤ reachBytes) = true := by
  refine List.all_eq_true.2 (fun x hx => List.all_eq_true.1 hsz x (DataW.weights_mem_each (j := 0) (t := 49) rfl rfl x ?_))
  simp only [DataW.weights, Try.underlying49]
  exact hx
 obtain ⟨a0_0, e0, _, w0_0⟩ := DataW.trod_int Try.underlying3 hy0
 obtain ⟨a0_1, e1, _, w0_1⟩ := DataW.trod_int Try.underlying3 hy1
 simp at e0 e1
 subst e0 e1
 obtain ⟨a0_2, len0_2, cap0_2, e2⟩ := slice_form Try.underlying22 hy2
 simp only [List.cons.injEq, and_true] at e2
 subst e2
 obtain ⟨z0_2, w0_2⟩ : ∃ zs, IsRow .i64 W a0_2 len0_2 cap0_2 zs := by
  rcases open_ints Try.underlying22 Try.underlying3 (by kernel_rfl) hy2 with ⟨hcs, _⟩ | ⟨x, l, c, zs, hcs, _, hl, hm, hz, _, hcell, hwz⟩
  ·simp [Value.cells] at hcs
   obtain ⟨rfl, rfl, rfl⟩ := hcs
   exact ⟨[], .inl ⟨rfl, rfl, rfl, rfl⟩⟩
  ·simp [Value.cells] at hcs
   obtain ⟨rfl, rfl, rfl⟩ := hcs
   exact ⟨zs, .inr ⟨_, rfl, hl, hm, by simpa using hz, hcell, hwz⟩⟩
 obtain ⟨a0_3, len0_3, cap0_3, e2⟩ := slice_form Try.underlying22 hy3
 simp only [List.cons.injEq, and_true] at e2
 subst e2
 obtain ⟨z0_3, w0_3⟩ : ∃ zs, IsRow .i64 W a0_3 len0_3 cap0_3 zs := by
  rcases open_ints Try.underlying22 Try.underlying3 (by kernel_rfl) hy3 with ⟨hcs, _⟩ | ⟨x, l, c, zs, hcs, _, hl, hm, hz, _, hcell, hwz⟩
  ·simp [Value.cells] at hcs
   obtain ⟨rfl, rfl, rfl⟩ := hcs
   exact ⟨[], .inl ⟨rfl, rfl, rfl, rfl⟩⟩
  ·simp [Value.cells] at hcs
   obtain ⟨rfl, rfl, rfl⟩ := hcs
   exact ⟨zs, .inr ⟨_, rfl, hl, hm, by simpa using hz, hcell, hwz⟩⟩
 have y0_3 : len0_3 * 8 ≤ 140737488351232 := Go.Proofs.YthgaihhlbgccoaaW.PrintWords.sized_ints hsz2 (j := 1) (t := 22) rfl rfl Try.underlying22 Try.underlying3 (by kernel_rfl) (by kernel_rfl) ⟨_, hy3⟩
 obtain ⟨a0_4, len0_4, cap0_4, e2⟩ := slice_form Try.underlying22 hy4
 simp only [List.cons.injEq, and_true] at e2
 subst e2
 obtain ⟨z0_4, w0_4⟩ : ∃ zs, IsRow .i64 W a0_4 len0_4 cap0_4 zs := by
  rcases open_ints Try.underlying22 Try.underlying3 (by kernel_rfl) hy4 with ⟨hcs, _⟩ | ⟨x, l, c, zs, hcs, _, hl, hm, hz, _, hcell, hwz⟩
  ·simp [Value.cells] at hcs
   obtain ⟨rfl, rfl, rfl⟩ := hcs
   exact ⟨[], .inl ⟨rfl, rfl, rfl, rfl⟩⟩
  ·simp [Value.cells] at hcs
   obtain ⟨rfl, rfl, rfl⟩ := hcs
   exact ⟨zs, .inr ⟨_, rfl, hl, hm, by simpa using hz, hcell, hwz⟩⟩
 have y0_4 : len0_4 * 8 ≤ 140737488351232 := Go.Proofs.YthgaihhlbgccoaaW.PrintWords.sized_ints hsz2 (j := 2) (t := 22) rfl rfl Try.underlying22 Try.underlying3 (by kernel_rfl) (by kernel_rfl) ⟨_, hy4⟩
 obtain ⟨a0_5, len0_5, cap0_5, e2⟩ := slice_form Try.underlying22 hy5
 simp only [List.cons.injEq, and_true] at e2
 subst e2
 obtain ⟨z0_5, w0_5⟩ : ∃ zs, IsRow .i64 W a0_5 len0_5 cap0_5 zs := by
  rcases open_ints Try.underlying22 Try.underlying3 (by kernel_rfl) hy5 with ⟨hcs, _⟩ | ⟨x, l, c, zs, hcs, _, hl, hm, hz, _, hcell, hwz⟩
  ·simp [Value.cells] at hcs
   obtain ⟨rfl, rfl, rfl⟩ := hcs
   exact ⟨[], .inl ⟨rfl, rfl, rfl, rfl⟩⟩
  ·simp [Value.cells] at hcs
   obtain ⟨rfl, rfl, rfl⟩ := hcs
   exact ⟨zs, .inr ⟨_, rfl, hl, hm, by simpa using hz, hcell, hwz⟩⟩
 have y0_5 : len0_5 * 8 ≤ 140737488351232 := Go.Proofs.YthgaihhlbgccoaaW.PrintWords.sized_ints hsz2 (j := 3) (t := 22) rfl rfl Try.underlying22 Try.underlying3 (by kernel_rfl) (by kernel_rfl) ⟨_, hy5⟩
 clear hA0 hval0 hsz0 hsz
 refine (walk W a0_0 a0_1 w0_0 a0_2 len0_2 cap0_2 z0_2 w0_2 a0_3 len0_3 cap0_3 z0_3 w0_3 y0_3 a0_4 len0_4 cap0_4 z0_4 w0_4 y0_4 a0_5 len0_5 cap0_5 z0_5 w0_5 y0_5).mono fun e W' ⟨he, bel⟩ => ?_
 subst he
 exact ⟨_, rfl, _, _, _, [], _, [], hW', trodAll_mk1 (shut_bool Try.underlying4 _), (trodAll_cons_mk (Below.trod laidOut (by kernel_rfl) (of_decide_eq_true (by kernel_rfl)) k0 bel lt0) trodAll_mk0), rfl, bel.frame _, fun h => by cases h⟩
theorem over : Rows.wordTriangleRow.holds Try.pinned (OpenSpec.ofChange Rows.wordTriangleSpec) :=
 OpenClaim.holds_of_wide 8 Try.f8 rfl rfl rfl rfl rfl rfl rfl ⟨rfl, rfl, rfl, rfl, rfl⟩ rfl rfl rfl rfl rfl (by kernel_rfl) Try.func8 (by kernel_rfl)
  (of_decide_eq_true (by kernel_rfl)) (by unfold Func.isWrapper; first | (rw [if_pos (by decide +kernel)]; kernel_rfl) | (rw [if_neg (by decide +kernel)]; exact ⟨rfl, rfl⟩))
  (fun os started H enc _ => lifted os started H enc)
theorem proved : Rows.WordTriangleSaid := over
#print axioms proved
end Go.Proofs.Ythgaihhlbgccoaa.wordTriangle
namespace Go.Proofs.Ythgaihhlbgccoaa
/-- The row, under a short name, for the claim. -/
theorem wordTriangle_holds : Rows.WordTriangleSaid := wordTriangle.proved
end Go.Proofs.Ythgaihhlbgccoaa
