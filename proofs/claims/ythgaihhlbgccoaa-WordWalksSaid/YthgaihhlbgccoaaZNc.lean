import Derived.Test.YthgaihhlbgccoaaZQa
-- Written by hand after printed texts; Lean checks it.
namespace Go.Proofs.Ythgaihhlbgccoaa.Q
open Go.RowKit Go.Proofs.YthgaihhlbgccoaaW.PrintWords Go.Proofs.YthgaihhlbgccoaaW.PrintLast Go.Proofs.YthgaihhlbgccoaaW.PrintMore
attribute [local go_sem] max2_int min2_int max_two min_two max_three min_three max_four min_four
set_option linter.unusedVariables false
set_option linter.unusedSimpArgs false
def slices_Clone_int_int.f (l0 : List Int) : Option (List Int) := if l0.length < 17592186044416 then some l0 else none
set_option maxHeartbeats 8000000 in
set_option maxRecDepth 100000 in
theorem slices_Clone_int_int.calls (A0 : Option Addr) (c0 : Nat) (l0 : List Int) (r : List Int) (w : World) (hr0 : Kd.C (Kd.int .i64) w A0 l0.length l0) (hc0 : l0.length ≤ c0) (h : slices_Clone_int_int.f l0 = some r) :
  Calls Try.prog 57 #[.slice A0 l0.length c0] w fun e w' => ∃ v0_ : Value, e = .returned (v0_) ∧ Kd.R (Kd.int .i64) 3 w' w.heap.size (fun _ => True) v0_ r ∧ Below w.heap.size w w' := by
 have hlim : l0.length < 17592186044416 := by
  unfold slices_Clone_int_int.f at h
  by_cases c : l0.length < 17592186044416
  ·exact c
  ·rw [if_neg c] at h; cases h
 have hres : r = l0 := by unfold slices_Clone_int_int.f at h; rw [if_pos hlim] at h; injection h with h; exact h.symm
 subst hres
 clear h
 have heq := fun (W : World) => Lib.run_eql_slice_nil (P := Try.prog) W 22 3 A0 r.length c0 0 0 Try.underlying22
 rcases A0 with _ | ad
 ·have hl : r = [] := by
   rcases Nat.eq_zero_or_pos r.length with h0 | h0
   ·exact List.eq_nil_of_length_eq_zero h0
   ·obtain ⟨ad, h, _⟩ := hr0.2.2 h0
    cases h
  subst hl
  simp only [Option.isNone_none, List.length_nil] at heq ⊢
  have HQ := Aside0.mk hr0
  clear hr0
  go_enter Try.func57, Try.ntmps57
  go_wp2
  go_ret
  exact ⟨_, rfl, Kd.R_nil _ _ _ _ _, Below.refl _ _⟩
 ·simp only [Option.isNone_some] at heq
  have HR := Aside0.mk hr0
  clear hr0
  have HB := Aside0.mk (Below.refl w.heap.size w)
  have HL := Aside0.mk hlim
  clear hlim
  go_enter Try.func57, Try.ntmps57
  go_wp2_with (first | ((with_reducible refine gate_dst (N := 5) rfl ?_); refine Kd.R_lit (Kd.int .i64) _ 3 ?hg (N := 5) ?hd (xs := ([] : List Int)) (inner := []) (ok := fun _ => True) (okp := fun _ => True) ?hr ?hp (fun _ hk => hk) trivial (Below.refl _ _) (Nat.le_refl _) (by simp) ?_; (case hd => rfl); (case hg => rfl); (case hr => first | (go_simp; done) | (go_simp; rfl)); (case hp => exact (Reps.none _ _)); intro v1 w1 ho hb hg_ hnew_; clear hg_ hnew_; have HO := Aside0.mk ho; have HB1 := Aside0.mk hb; clear hb ho) | ((with_reducible refine gate_builtin (b := .append) (xs := #[.tmp 5, .tmp 6]) rfl ?_); at_builtin; refine Kd.R_append_rows (Kd.int .i64) (w0 := w) w.heap.size rfl (.tmp 5) (.tmp 6) 22 3 (.int .i64 0) 8 rfl Try.underlying22 info3 rfl (by decide) (by omega) v1 [] r _ _ _ (fun _ => True) (fun _ => False) rfl rfl HO.out (Kd.C_below HR.out HB1.out) (fun _ _ h => h) (fun _ h => h.elim) (fun _ _ => trivial) HB1.out HB1.out.size (by have := HL.out; simp; omega) ?_; intro v2 w2 ho2 hb2 hg_ hat_; have HO2 := Aside0.mk ho2; have HB2 := Aside0.mk hb2; clear hg_ hat_ ho2 hb2))
  go_ret
  exact ⟨_, rfl, HO2.out, HB2.out⟩

end Go.Proofs.Ythgaihhlbgccoaa.Q
