import Derived.Test.YthgaihhlbgccoaaRows
import Derived.Test.YthgaihhlbgccoaaZPWordWalks
import Derived.WalkKit
import Derived.ProofKit
import Derived.OpenShut
import Derived.ShutString
import Derived.ChangeOld
import Derived.Below
import Derived.SizedLaws
import Derived.Lib.SmallJoins
import Derived.Test.YthgaihhlbgccoaaZW0
-- Written by mkrow.py, a program of this work after the form of the printer's rows; Lean checks it.
namespace Go.Proofs.Ythgaihhlbgccoaa.wordWalks
open Go.ChangeShapes Go.WideShapes Go.ChangeAt Go.RowKit Go.Joins
open Go.ChangeMaps (open_string shut_string)
set_option linter.unusedVariables false
set_option linter.unusedSimpArgs false
theorem own : ownKnob Try.prog.godebug = none := by kernel_rfl
theorem laidOut : laidOutB Try.prog = true := by kernel_rfl
def IsRow (k : IntKind) (w : World) (a : Option Addr) (len cap : Nat) (zs : List Int) : Prop :=
 (a = none ∧ len = 0 ∧ cap = 0 ∧ zs = []) ∨
 ∃ x, a = some x ∧ len ≤ cap ∧ cap ≤ maxLen ∧ zs.length = cap ∧ (∀ i, i < zs.length → w.cell? (x.add i) = some (.int k (zs.getD i 0))) ∧ ∀ n ∈ zs, (Lit.int k n).wf = true
open Go.Proofs.YthgaihhlbgccoaaW.PrintWords in
theorem walk (W : World) (a0_0 a0_1 : Int) (a0_2 : Option Addr) (len0_2 cap0_2 : Nat) (z0_2 : List Int) (w0_0 : (Lit.int .i64 a0_0).wf = true) (w0_2 : IsRow .i64 W a0_2 len0_2 cap0_2 z0_2) (a1 : Int) (w1 : (Lit.int .i64 a1).wf = true) :
  Calls Try.prog 10 #[.agg #[.int .i64 a0_0, .int .i64 a0_1, .slice a0_2 len0_2 cap0_2], .int .i64 a1] W fun e w' => e = .returned (.bool true) ∧ Below W.heap.size W w' := by
 obtain ⟨l0_2, rfl, hr0_2, hm0_2, hw0_2, hc0_2⟩ := ReadsInt.ofRowC w0_2
 have hP : a0_0 ≤ 9223372036854775807 := by have h1 := w0_0; simp [Lit.wf] at h1; exact h1.2
 exact Pure.WordWalks a0_0 a0_1 _ _ l0_2 a1 W hP (Kd.C_of_reads (d := (0 : Int)) (h1 := fun _ => rfl) hr0_2) hc0_2 w1
set_option maxRecDepth 100000 in
theorem lifted (os : Os) (started : os.Started) (H : Type) (enc : TypeId × Value → H) :
  ReturnsInHanded {} Try.checked os 10 .any (Rows.wordWalksSpec.pre6 enc Try.prog Try.f10 Rows.wordWalksRow.domain false) (Rows.wordWalksSpec.post enc Try.prog Try.f10 false true false false) := by
 refine returnsInHanded_of_change_sized (C := Try.checked) own started (by kernel_rfl) Try.func10
  (ChangeSpec.witness6 (enc := enc) (C := Try.checked) false ⟨#[], #[.agg #[.int .i64 0, .int .i64 0, .slice none 0 0], .int .i64 0], []⟩ 8 (by kernel_rfl) (by kernel_rfl) (by kernel_rfl) (by kernel_rfl)) ?_
 intro W base args ds gs before hval0 hW hcnd hsz0 _
 have hsz : (DataW.weightsEach Try.prog (Try.f10.params.toList ++ Rows.wordWalksSpec.plain.varTypes Try.prog) (ds ++ gs)).all (· ≤ reachBytes) = true := hsz0
 have hval : ∀ (j : Nat) t v, Try.f10.params[j]? = some t → args[j]? = some v → Value.okWide Try.prog W .any base t v := hval0
 have hW' := hW
 obtain ⟨p, q, hA0, hV, rfl, hfz, hnd⟩ := hW
 have hA : DataW.TrodAll enc Try.prog W 0 (fun _ => true) true Try.f10.params.toList args.toList ds p := hA0
 rw [Try.params10] at hA hval hsz
 obtain ⟨v0, vs0, d0, ds0, p0, q0, hargs, rfl, rfl, h0, r0⟩ := trodAll_cons hA
 obtain ⟨v1, vs1, d1, ds1, p1, q1, rfl, rfl, rfl, h1, r1⟩ := trodAll_cons r0
 obtain ⟨rfl, rfl, rfl⟩ := trodAll_nil r1
 obtain rfl : args = #[v0, v1] := by cases args; simp_all
 obtain ⟨rfl, rfl⟩ := trodVars_none hV
 have k0 := h0
 have lt0 : ∀ x ∈ p0, x.block < W.heap.size := by obtain ⟨m, hm⟩ := k0; exact DataW.trod_lt m _ _ _ hm
 obtain ⟨c0_0, c0_1, c0_2, x0_0, x0_1, x0_2, m0, rfl, rfl, rfl, hy0, hy1, hy2⟩ := open_agg3 Try.underlying24 (by kernel_rfl) (by kernel_rfl) (hval 0 24 v0 rfl rfl) h0
 obtain ⟨a0_0, e0, rfl, w0_0⟩ := DataW.trod_int Try.underlying3 hy0
 obtain ⟨a0_1, e1, rfl, w0_1⟩ := DataW.trod_int Try.underlying3 hy1
 simp at e0 e1
 subst e0 e1
 obtain ⟨a0_2, len0_2, cap0_2, e2⟩ := slice_form Try.underlying22 hy2
 simp only [List.cons.injEq, and_true] at e2
 subst e2
 obtain ⟨z0_2, w0_2⟩ : ∃ zs, IsRow .i64 W a0_2 len0_2 cap0_2 zs := by
  rcases open_ints Try.underlying22 Try.underlying3 (by kernel_rfl) hy2 with ⟨hcs, _⟩ | ⟨x, l, c, zs, hcs, _, hl, hm, hz, _, hcell, hwz⟩
  ·simp [Value.cells] at hcs
   obtain ⟨rfl, rfl, rfl⟩ := hcs
   exact ⟨[], .inl ⟨rfl, rfl, rfl, rfl⟩⟩
  ·simp [Value.cells] at hcs
   obtain ⟨rfl, rfl, rfl⟩ := hcs
   exact ⟨zs, .inr ⟨_, rfl, hl, hm, by simpa using hz, hcell, hwz⟩⟩
 obtain ⟨a1, rfl, rfl, rfl, w1⟩ := open_int Try.underlying3 (hval 1 3 v1 rfl rfl) h1
 clear hA0 hval0 hsz0 hsz
 refine (walk W a0_0 a0_1 a0_2 len0_2 cap0_2 z0_2 w0_0 w0_2 a1 w1).mono fun e W' ⟨he, bel⟩ => ?_
 subst he
 exact ⟨_, rfl, _, _, _, [], _, [], hW', trodAll_mk1 (shut_bool Try.underlying4 _), (trodAll_cons_mk (Below.trod laidOut (by kernel_rfl) (of_decide_eq_true (by kernel_rfl)) k0 bel lt0) (trodAll_cons_mk (shut_int Try.underlying3 w1) trodAll_mk0)), rfl, bel.frame _, fun h => by cases h⟩
theorem over : Rows.wordWalksRow.holds Try.pinned (OpenSpec.ofChange Rows.wordWalksSpec) :=
 OpenClaim.holds_of_wide 10 Try.f10 rfl rfl rfl rfl rfl rfl rfl ⟨rfl, rfl, rfl, rfl, rfl⟩ rfl rfl rfl rfl rfl (by kernel_rfl) Try.func10 (by kernel_rfl)
  (of_decide_eq_true (by kernel_rfl)) (by unfold Func.isWrapper; first | (rw [if_pos (by decide +kernel)]; kernel_rfl) | (rw [if_neg (by decide +kernel)]; exact ⟨rfl, rfl⟩))
  (fun os started H enc _ => lifted os started H enc)
theorem proved : Rows.WordWalksSaid := over
#print axioms proved
end Go.Proofs.Ythgaihhlbgccoaa.wordWalks
namespace Go.Proofs.Ythgaihhlbgccoaa
/-- The row, under a short name, for the claim. -/
theorem wordWalks_holds : Rows.WordWalksSaid := wordWalks.proved
end Go.Proofs.Ythgaihhlbgccoaa
