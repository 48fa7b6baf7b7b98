import Derived.Test.YthgaihhlbgccoaaZNt
import Derived.Test.YthgaihhlbgccoaaZNc
import Derived.RangeFuncNested
import Derived.RangeFuncBound
import Derived.RangeFuncCalls
import Derived.RangeFuncLeaves
import Derived.Shelf.Abstract
import Derived.OwnWalkIn
import Derived.TacticsInMore
import Derived.LoopIn
import Derived.Sort.LoopGhostIn
/- The iterator that word.Walk hands back, walked inside a fence: whatever the loop's body does that keeps the walker's blocks. -/
namespace Go.Proofs.Ythgaihhlbgccoaa.Q
open Go.RowKit Go.Shelf Go.Proofs.YthgaihhlbgccoaaW.PrintWords Go.Proofs.YthgaihhlbgccoaaW.PrintLast Go.Proofs.YthgaihhlbgccoaaW.PrintMore
attribute [local go_sem] Oper.semAt_some
set_option linter.unusedVariables false
set_option linter.unusedSimpArgs false

/-- What the iterator's own steps keep. -/
structure Mv (B g : Nat) (W W' : World) : Prop where
 os : W'.os = W.os
 tape : W'.tape = W.tape
 output : W'.output = W.output
 size : W.heap.size ≤ W'.heap.size
 block : ∀ k, k < B → k ≠ g → W'.heap[k]? = W.heap[k]?
theorem Mv.refl (B g : Nat) (W : World) : Mv B g W W := ⟨rfl, rfl, rfl, Nat.le_refl _, fun _ _ _ => rfl⟩
theorem Mv.trans {B g : Nat} {A C E : World} (h : Mv B g A C) (k : Mv B g C E) : Mv B g A E := ⟨k.os.trans h.os, k.tape.trans h.tape, k.output.trans h.output, Nat.le_trans h.size k.size, fun i h1 h2 => (k.block i h1 h2).trans (h.block i h1 h2)⟩
theorem Mv.of_below {B g b : Nat} {W W' : World} (h : Below b W W') (hB : B ≤ b) : Mv B g W W' := ⟨h.os, h.tape, h.output, h.size, fun k hk _ => h.block k (by omega)⟩
/-- What the loop's body keeps. -/
def Kp (B : Nat) (W W' : World) : Prop := W.heap.size ≤ W'.heap.size ∧ ∀ k, B ≤ k → k < W.heap.size → W'.heap[k]? = W.heap[k]?
theorem Kp.trans {B : Nat} {A C E : World} (h : Kp B A C) (k : Kp B C E) : Kp B A E := ⟨Nat.le_trans h.1 k.1, fun i h1 h2 => (k.2 i h1 (by have := h.1; omega)).trans (h.2 i h1 h2)⟩
theorem Wk.kept {u W W' : World} {gw B : Nat} {v1 v2 : Value} {q : Int} {l1 : List Int} {l2 : List Bool} (h : Wk u W gw v1 v2 q l1 l2) (hB : B ≤ u.heap.size) (hk : Kp B W W') : ∃ u' : World, u'.heap.size = u.heap.size ∧ Wk u' W' gw v1 v2 q l1 l2 := by
 obtain ⟨h1, h2, h3, h4, h5⟩ := h
 obtain ⟨u', hs, _, _, _, _, hb⟩ := cut_world W' (b := u.heap.size) (Nat.le_trans h1.size hk.1)
 refine ⟨u', hs, hb, by rw [hs]; exact h2, (hk.2 gw (Nat.le_trans hB h2) (blk_lt h3)).trans h3, ?_, ?_⟩
 ·rw [hs]
  exact Kd.R_mono (Kd.R_move (Kd.R_bound h4) (fun k hk2 => hk.2 k (Nat.le_trans hB hk2.2.1) hk2.2.2.1)) (fun _ _ => trivial)
 ·rw [hs]
  exact Kd.R_mono (Kd.R_move (Kd.R_bound h5) (fun k hk2 => hk.2 k (Nat.le_trans hB hk2.2.1) hk2.2.2.1)) (fun _ _ => trivial)
theorem Wk.cells {u W : World} {gw : Nat} {v1 v2 : Value} {q : Int} {l1 : List Int} {l2 : List Bool} (h : Wk u W gw v1 v2 q l1 l2) : W.cell? ⟨gw, 1, none⟩ = some v1 := (blk_cell h.2.2.1 1).trans rfl
/-- What the loop's body owes the iterator, round by round. -/
def Owes (n l B c : Nat) (Wt : Nat → List Int) (J : Nat → World → Prop) : Prop :=
 ∀ (t : Nat) (W : World) (v : Value), t < c → J t W → B ≤ W.heap.size → Kd.R (Kd.int .i64) 3 W B (fun _ => True) v (Wt t) →
  YieldAt Fence.wide (n - 1) Try.prog l #[v] W fun e W' => e = .returned (.bool true) ∧ J (t + 1) W' ∧ Kp B W W'

set_option maxHeartbeats 4000000 in
set_option maxRecDepth 100000 in
theorem word_Walk1_in (n l B c k g bg bn : Nat) (J : Nat → World → Prop) (Wt : Nat → List Int) (Dt : Nat → List Bool) (r1 r2 r3 : Nat → Int)
  (s0_0 s0_1 : Int) (s0_2 : List Int) (s0_3 : Int) (s0_4 s0_5 : List Int) (a1 : Int) (cc p0 p1 p3 q p4 p5 p6 : Int) (w0 W : World)
  (hn : 1 ≤ n) (hc : 1 ≤ c)
  (hJ : ∀ t A C, J t A → Mv B g A C → J t C) (hY : Owes n l B c Wt J) (h0 : J 0 W)
  (hBW : B ≤ W.heap.size) (hI : IsS87 w0 W g s0_0 s0_1 s0_2 s0_3 s0_4 s0_5) (hB0 : Below w0.heap.size w0 W)
  (hbg : W.cell? ⟨bg, 0, none⟩ = some (.pointer (some ⟨g, 0, none⟩))) (hbn : W.cell? ⟨bn, 0, none⟩ = some (.int .i64 a1)) (hng : bg ≠ g) (hnn : bn ≠ g)
  (A1 : word_Count.f k s0_0 s0_1 s0_2 s0_3 s0_4 s0_5 a1 = some (cc, 0, p0, p1, p3))
  (A2 : word_start.f p0 p1 s0_2 p3 s0_4 s0_5 a1 = some (q, p4, p5, p6))
  (hW0 : Wt 0 = List.replicate a1.toNat 0) (hD0 : Dt 0 = List.replicate a1.toNat false) (hWl : ∀ t, (Wt t).length < 17592186044416)
  (A3 : ∀ t, t < c → word_walker_next.f k q (Wt t) (Dt t) = some (r1 t, r2 t, r3 t, decide (t + 1 < c), Wt (t + 1), Dt (t + 1))) :
  CallsIn Fence.wide n Try.prog 56 #[.func (.yield l) #[] #[], .pointer (some ⟨bg, 0, none⟩), .pointer (some ⟨bn, 0, none⟩)] W fun e W' => (∃ v, e = .returned v) ∧ J c W' := by
 have hu84 := Try.underlying84
 refine callsIn_of_wp Try.func56 rfl trivial ?_ rfl
 simp only [Try.ntmps56, List.size_toArray, List.length_cons, List.length_nil, Nat.reduceAdd, Nat.reduceSub, Array.replicate_succ, Array.replicate_zero, List.push_toArray, List.append_toArray, List.nil_append, List.cons_append]
 gi_wp2_with (first
  | (refine ⟨trivial, ?_⟩; gi_at_call 30; refine (callsIn_wide.2 (word_Count.calls k g s0_0 s0_1 s0_2 s0_3 s0_4 s0_5 a1 cc 0 p0 p1 p3 w0 _ hI hB0 A1)).mono ?_; rintro e W1 ⟨rfl, hI1, hB1, hK1⟩; have hbg1 := keep_cell hK1 hbg hng; have hbn1 := keep_cell hK1 hbn hnn)
  | (refine ⟨trivial, ?_⟩; gi_at_call 47; refine (callsIn_wide.2 (word_start.calls g p0 p1 s0_2 p3 s0_4 s0_5 a1 q p4 p5 p6 w0 _ hI1 hB1 A2)).mono ?_; rintro e W2 ⟨gw, v1, v2, u, rfl, hsu, hIu, hBu, hKu, hwk⟩))
 have hM0 : Mv B g W W2 := by
  have h1 := hwk.1
  have hs1 := hK1.1
  refine ⟨h1.os.trans (hBu.os.trans hB0.os.symm), h1.tape.trans (hBu.tape.trans hB0.tape.symm), h1.output.trans (hBu.output.trans hB0.output.symm), by have := h1.size; omega, fun j hj hne => ?_⟩
  exact (h1.block j (by omega)).trans ((hKu.2 j (by omega) hne (by simp)).trans (hK1.2 j (by omega) hne (by simp)))
 have hJ0 := hJ 0 _ _ h0 hM0
 have hBu2 : B ≤ u.heap.size := by have := hK1.1; omega
 rw [← hW0, ← hD0] at hwk
 clear hM0 h0 hW0 hD0 hbg hbn hbg1 hbn1 hI hB0 A1 A2 hI1 hB1 hK1 hIu hBu hKu hsu hBW
 gi_wp2
 gi_loopg [7] c (fun m v7 wr => ∃ (t : Nat) (u' : World), v7 = .bool (decide (t < c)) ∧ Aside0 (m + t = c) ∧ Aside0 (J t wr) ∧ Aside0 (B ≤ u'.heap.size) ∧ Aside0 (Wk u' wr gw v1 v2 q (Wt t) (Dt t)))
 case atStart => exact ⟨0, u, by rw [decide_eq_true (by omega)], ⟨rfl⟩, ⟨hJ0⟩, ⟨hBu2⟩, ⟨hwk⟩⟩
 case round =>
  obtain ⟨t, u', rfl, hm, hJt, hBt, hWk⟩ := hrel
  by_cases ht : t < c
  ·have hd : decide (t < c) = true := decide_eq_true ht
   rw [hd]
   obtain ⟨A, cA, hv1⟩ := Kd.R_slice hWk.out.2.2.2.1
   have hcell := hWk.out.cells
   rw [hv1] at hcell
   have hR1 := hWk.out.2.2.2.1
   rw [hv1] at hR1
   obtain ⟨hl1, hl2, hC1⟩ := Kd.R_reads' hR1
   have hcl : slices_Clone_int_int.f (Wt t) = some (Wt t) := by unfold slices_Clone_int_int.f; rw [if_pos (hWl t)]
   have hBw : B ≤ wr.heap.size := by have := hWk.out.1.size; have := hBt.out; omega
   gi_wp2_with (refine ⟨trivial, ?_⟩; gi_at_call 57; refine (callsIn_wide.2 (slices_Clone_int_int.calls A cA (Wt t) (Wt t) _ hC1 hl2 hcl)).mono ?_; rintro e W3 ⟨v3, rfl, hR3, hB3⟩; have hJ3 := hJ t _ _ hJt.out (Mv.of_below hB3 hBw); obtain ⟨fy, ty, ay, by_, hy, hRy⟩ := hY t W3 v3 ht hJ3 (Nat.le_trans hBw hB3.size) (Kd.R_lower hR3 hBw))
   refine hRy.mono ?_
   rintro e W4 ⟨rfl, hJ4, hk4⟩
   obtain ⟨u4, hs4, hWk4⟩ := (hWk.out.below hB3).kept hBt.out hk4
   gi_wp2_with (refine ⟨trivial, ?_⟩; gi_at_call 48; refine (callsIn_wide.2 (word_walker_next.calls k gw v1 v2 q (Wt t) (Dt t) (r1 t) (r2 t) (r3 t) _ _ _ u4 _ hWk4 (A3 t ht))).mono ?_; rintro e W5 ⟨rfl, hWk5, hkt5⟩)
   have hm_ := hm.out
   gi_roundg (c - (t + 1))
   case measure => omega
   case rel =>
    have hJ5 := hJ (t + 1) _ _ hJ4 (show Mv B g W4 W5 from ⟨hWk5.1.os.trans hWk4.1.os.symm, hWk5.1.tape.trans hWk4.1.tape.symm, hWk5.1.output.trans hWk4.1.output.symm, hkt5.1, fun j hj _ => by
     have := hBt.out
     exact (hWk5.1.block j (by omega)).trans (hWk4.1.block j (by omega)).symm⟩)
    exact ⟨t + 1, u4, rfl, ⟨by omega⟩, ⟨hJ5⟩, ⟨by rw [hs4]; exact hBt.out⟩, ⟨hWk5⟩⟩
  ·have hd : decide (t < c) = false := decide_eq_false ht
   have hm_ := hm.out
   obtain rfl : t = c := by omega
   rw [hd]
   gi_wp2
   go_end0
   exact ⟨⟨_, rfl⟩, hJt.out⟩
set_option maxHeartbeats 4000000 in
set_option maxRecDepth 100000 in
theorem word_Walk1_err (n l B k g bg bn : Nat) (hn : 1 ≤ n) (J : Nat → World → Prop) (s0_0 s0_1 : Int) (s0_2 : List Int) (s0_3 : Int) (s0_4 s0_5 : List Int) (a1 : Int) (cc ee p0 p1 p3 : Int) (w0 W : World)
  (hJ : ∀ t A C, J t A → Mv B g A C → J t C) (h0 : J 0 W) (hBW : B ≤ W.heap.size) (hI : IsS87 w0 W g s0_0 s0_1 s0_2 s0_3 s0_4 s0_5) (hB0 : Below w0.heap.size w0 W)
  (hbg : W.cell? ⟨bg, 0, none⟩ = some (.pointer (some ⟨g, 0, none⟩))) (hbn : W.cell? ⟨bn, 0, none⟩ = some (.int .i64 a1))
  (A1 : word_Count.f k s0_0 s0_1 s0_2 s0_3 s0_4 s0_5 a1 = some (cc, ee, p0, p1, p3)) (he : ee ≠ 0) :
  CallsIn Fence.wide n Try.prog 56 #[.func (.yield l) #[] #[], .pointer (some ⟨bg, 0, none⟩), .pointer (some ⟨bn, 0, none⟩)] W fun e W' => (∃ v, e = .returned v) ∧ J 0 W' := by
 have he1 : (ee == 0) = false := beq_eq_false_iff_ne.mpr he
 have he2 : (ee != 0) = true := bne_iff_ne.mpr he
 refine callsIn_of_wp Try.func56 rfl trivial ?_ rfl
 simp only [Try.ntmps56, List.size_toArray, List.length_cons, List.length_nil, Nat.reduceAdd, Nat.reduceSub, Array.replicate_succ, Array.replicate_zero, List.push_toArray, List.append_toArray, List.nil_append, List.cons_append]
 gi_wp2_with (refine ⟨trivial, ?_⟩; gi_at_call 30; refine (callsIn_wide.2 (word_Count.calls k g s0_0 s0_1 s0_2 s0_3 s0_4 s0_5 a1 cc ee p0 p1 p3 w0 _ hI hB0 A1)).mono ?_; rintro e W1 ⟨rfl, hI1, hB1, hK1⟩)
 refine bodyPost_ret (results_none rfl _ _ _) rfl ?_
 exact ⟨⟨_, rfl⟩, hJ 0 _ _ h0 ⟨hB1.os.trans hB0.os.symm, hB1.tape.trans hB0.tape.symm, hB1.output.trans hB0.output.symm, hK1.1, fun j hj hne => hK1.2 j (by omega) hne (by simp)⟩⟩
end Go.Proofs.Ythgaihhlbgccoaa.Q
