import Derived.Test.YthgaihhlbgccoaaZWb
import Derived.Test.YthgaihhlbgccoaaZQc
import Derived.Test.YthgaihhlbgccoaaZQd
import Derived.Test.YthgaihhlbgccoaaZQh
import Derived.Test.YthgaihhlbgccoaaZQx51
/- The law WordWalks, walked. -/
namespace Go.Proofs.Ythgaihhlbgccoaa.Q
open Go.RowKit Go.Shelf Go.Proofs.YthgaihhlbgccoaaW.PrintWords Go.Proofs.YthgaihhlbgccoaaW.PrintLast Go.Proofs.YthgaihhlbgccoaaW.PrintMore
attribute [local go_sem] Oper.semAt_some
set_option linter.unusedVariables false
set_option linter.unusedSimpArgs false
/-- The iterator's side, as the law wants it. -/
def Gives (c g : Nat) (a1 p1 p2 : Int) (r3 : List Int) (p4 : Int) (r5 r6 : List Int) (Wt : Nat → List Int) : Prop :=
 ∀ (n l B bg bn : Nat) (J : Nat → World → Prop) (w0 W : World), 1 ≤ n → (∀ t A C, J t A → Mv B g A C → J t C) → Owes n l B c Wt J → J 0 W → B ≤ W.heap.size → IsS87 w0 W g p1 p2 r3 p4 r5 r6 → Below w0.heap.size w0 W →
  W.cell? ⟨bg, 0, none⟩ = some (.pointer (some ⟨g, 0, none⟩)) → W.cell? ⟨bn, 0, none⟩ = some (.int .i64 a1) → bg ≠ g → bn ≠ g →
  CallsIn Fence.wide n Try.prog 56 #[.func (.yield l) #[] #[], .pointer (some ⟨bg, 0, none⟩), .pointer (some ⟨bn, 0, none⟩)] W fun e W' => (∃ v, e = .returned v) ∧ J c W'
set_option maxHeartbeats 4000000 in
set_option maxRecDepth 100000 in
theorem cw_WordWalks.calls (k c : Nat) (a0_0 a0_1 : Int) (A0_2 : Option Addr) (c0_2 : Nat) (l0_2 : List Int) (a1 : Int) (w : World) (hr0_2 : Kd.C (Kd.int .i64) w A0_2 l0_2.length l0_2) (hc0_2 : l0_2.length ≤ c0_2)
  (r1 r2 : Int) (r3 : List Int) (r4 : Int) (r5 r6 : List Int) (p1 p2 p4 cR xR qq : Int) (Wt Rt : Nat → List Int)
  (Ao : cw_open.f k a0_0 a0_1 l0_2 = some (r1, r2, r3, r4, r5, r6, false, true))
  (Ac : word_Count.f k r1 r2 r3 r4 r5 r6 0 = some (1, 0, p1, p2, p4))
  (Ar : crB_Count.f k a0_0 a0_1 l0_2 a1 = some (cR, xR)) (hcv : (if xR = 0 then cR else 0) = (c : Int))
  (Aq : cr4_Order.f k a0_0 a0_1 l0_2 = some qq)
  (hit : ∀ g, Gives c g a1 p1 p2 r3 p4 r5 r6 Wt) (hc9 : c < 9223372036854775807)
  (AR : ∀ t : Nat, t < c → crB_Reflected.f k qq a1 t = some (Rt t)) (AS : ∀ t, t < c → crB_Same.f k (Wt t) (Rt t) = some true) :
  Calls Try.prog 10 #[.agg #[.int .i64 a0_0, .int .i64 a0_1, .slice A0_2 l0_2.length c0_2], .int .i64 a1] w fun e w' => e = .returned (.bool true) ∧ Below w.heap.size w w' := by
 have hu24 := Try.underlying24
 have hef := run_eql_func_nil
 refine (callsIn_wide (n := 5)).1 ?_
 refine callsIn_of_wp_marks Try.func10 rfl trivial ?_ rfl
 simp only [Try.ntmps10, List.size_toArray, List.length_cons, List.length_nil, Nat.reduceAdd, Nat.reduceSub, Array.replicate_succ, Array.replicate_zero, List.push_toArray, List.append_toArray, List.nil_append, List.cons_append]
 obtain ⟨W1, hW1⟩ : ∃ W1, (((w.alloc (.cells #[.int .i64 a0_0, .int .i64 a0_1, .slice A0_2 l0_2.length c0_2] 24)).alloc (.cells #[.int .i64 a1] 3)).alloc (.cells #[.bool false] 4)) = W1 := ⟨_, rfl⟩
 have hs1 : W1.heap.size = w.heap.size + 3 := by rw [← hW1]; simp
 have b1 : Below w.heap.size w W1 := by rw [← hW1]; exact below_alloc (below_alloc (below_alloc (Below.refl _ _) _) _) _
 have x1 : W1.heap[w.heap.size]? = some (.cells #[.int .i64 a0_0, .int .i64 a0_1, .slice A0_2 l0_2.length c0_2] 24 (0, 0)) := by rw [← hW1]; exact blk_alloc (blk_alloc (blk_new w _) _) _
 have y1 : W1.heap[w.heap.size + 1]? = some (.cells #[.int .i64 a1] 3 (0, 0)) := by
  have h := blk_new (w.alloc (.cells #[.int .i64 a0_0, .int .i64 a0_1, .slice A0_2 l0_2.length c0_2] 24)) (.cells #[.int .i64 a1] 3)
  rw [World.size_alloc] at h
  rw [← hW1]; exact blk_alloc h _
 have z1 : W1.heap[w.heap.size + 2]? = some (.cells #[.bool false] 4 (0, 0)) := by
  have h := blk_new ((w.alloc (.cells #[.int .i64 a0_0, .int .i64 a0_1, .slice A0_2 l0_2.length c0_2] 24)).alloc (.cells #[.int .i64 a1] 3)) (.cells #[.bool false] 4)
  rw [World.size_alloc, World.size_alloc] at h
  rw [← hW1]; exact h
 have cw0 : W1.cell? ⟨w.heap.size, 0, none⟩ = some (.int .i64 a0_0) := (blk_cell x1 0).trans rfl
 have cw1 : W1.cell? ⟨w.heap.size, 1, none⟩ = some (.int .i64 a0_1) := (blk_cell x1 1).trans rfl
 have cw2 : W1.cell? ⟨w.heap.size, 2, none⟩ = some (.slice A0_2 l0_2.length c0_2) := (blk_cell x1 2).trans rfl
 gi_wp2
 clear hW1 cw0 cw1 cw2
 refine ⟨trivial, (callsIn_wide.2 (cw_open.calls k a0_0 a0_1 A0_2 c0_2 l0_2 r1 r2 r3 r4 r5 r6 false true w W1 b1 hr0_2 hc0_2 Ao)).mono ?_⟩
 rintro e W2 ⟨-, g, rfl, ub, hub1, hI2, hub2, hB2⟩
 have x2 := blk_below x1 hB2
 have y2 := blk_below y1 hB2
 have z2 := blk_below z1 hB2
 have gx : w.heap.size ≠ g := fun e => (IsS87.ne_blk hI2 x2 (by decide)) e.symm
 have gy : w.heap.size + 1 ≠ g := fun e => (IsS87.ne_blk hI2 y2 (by decide)) e.symm
 have gz : w.heap.size + 2 ≠ g := fun e => (IsS87.ne_blk hI2 z2 (by decide)) e.symm
 have bub : Below w.heap.size w ub := below_step b1 hub1
 clear x1 y1 z1
 gi_wp2
 refine ⟨trivial, (callsIn_wide.2 (word_Count.calls k g r1 r2 r3 r4 r5 r6 0 1 0 p1 p2 p4 ub W2 hI2 hub2 Ac)).mono ?_⟩
 rintro e W3 ⟨rfl, hI3, hub3, hK3⟩
 have x3 := (hK3.2 _ (blk_lt x2) gx (by simp)).trans x2
 have y3 := (hK3.2 _ (blk_lt y2) gy (by simp)).trans y2
 have z3 := (hK3.2 _ (blk_lt z2) gz (by simp)).trans z2
 have b3 : Below w.heap.size w W3 := below_step bub hub3
 clear x2 y2 z2 hI2 hub2 hB2 hK3 W2
 have cx0 : W3.cell? ⟨w.heap.size, 0, none⟩ = some (.int .i64 a0_0) := (blk_cell x3 0).trans rfl
 have cx1 : W3.cell? ⟨w.heap.size, 1, none⟩ = some (.int .i64 a0_1) := (blk_cell x3 1).trans rfl
 have cx2 : W3.cell? ⟨w.heap.size, 2, none⟩ = some (.slice A0_2 l0_2.length c0_2) := (blk_cell x3 2).trans rfl
 have cy : W3.cell? ⟨w.heap.size + 1, 0, none⟩ = some (.int .i64 a1) := (blk_cell y3 0).trans rfl
 gi_wp2
 refine ⟨trivial, (callsIn_wide.2 (crB_Count.calls k a0_0 a0_1 A0_2 c0_2 l0_2 a1 cR xR W3 (Kd.C_below hr0_2 b3) hc0_2 Ar)).mono ?_⟩
 rintro e W4 ⟨rfl, hB4⟩
 have x4 := blk_below x3 hB4
 have y4 := blk_below y3 hB4
 have z4 := blk_below z3 hB4
 have hI4 := IsS87.below hI3 hB4
 have b4 : Below w.heap.size w W4 := below_step b3 hB4
 have ub4 : Below ub.heap.size ub W4 := below_step hub3 hB4
 clear x3 y3 z3 hI3 hub3 b3 hB4 cx0 cx1 cx2 cy
 have s4 := b4.size
 have lx := blk_lt x4
 have ly := blk_lt y4
 have lz := blk_lt z4
 by_cases hx : xR = 0
 ·rw [if_pos hx] at hcv
  subst hcv
  subst hx
  obtain ⟨W5, hW5⟩ : ∃ W5, (W4.alloc (.cells #[.int .i64 0] 3)).setCell ⟨W4.heap.size, 0, none⟩ (.int .i64 (c : Int)) = W5 := ⟨_, rfl⟩
  have q5 : W5.heap[W4.heap.size]? = some (.cells #[.int .i64 (c : Int)] 3 (0, 0)) := by rw [← hW5]; exact blk_put (blk_new W4 _) 0 _ rfl
  have b5 : Below W4.heap.size W4 W5 := by rw [← hW5]; exact below_set (below_alloc (Below.refl _ _) _) (Nat.le_refl _)
  have x5 := blk_below x4 b5
  have cx0 : W5.cell? ⟨w.heap.size, 0, none⟩ = some (.int .i64 a0_0) := (blk_cell x5 0).trans rfl
  have cx1 : W5.cell? ⟨w.heap.size, 1, none⟩ = some (.int .i64 a0_1) := (blk_cell x5 1).trans rfl
  have cx2 : W5.cell? ⟨w.heap.size, 2, none⟩ = some (.slice A0_2 l0_2.length c0_2) := (blk_cell x5 2).trans rfl
  gi_wp2
  refine ⟨trivial, (callsIn_wide.2 (cr4_Order.calls k a0_0 a0_1 A0_2 c0_2 l0_2 qq W5 (Kd.C_below hr0_2 (below_step b4 b5)) hc0_2 Aq)).mono ?_⟩
  rintro e W6 ⟨rfl, hB6⟩
  have y6 := blk_below (blk_below y4 b5) hB6
  have z6 := blk_below (blk_below z4 b5) hB6
  have q6 := blk_below q5 hB6
  have hI6 := IsS87.below (IsS87.below hI4 b5) hB6
  have b6 := below_step (below_step b4 b5) hB6
  have ub6 := below_step (below_step ub4 b5) hB6
  have lg4 := IsS87.lt hI4
  have lq6 := blk_lt q6
  clear hW5 x5 cx0 cx1 cx2 x4 y4 z4 q5 hI4 b4 ub4 b5 hB6
  obtain ⟨W7, hW7⟩ : ∃ W7, (W6.alloc (.cells #[.int .i64 0] 3)).setCell ⟨W6.heap.size, 0, none⟩ (.int .i64 qq) = W7 := ⟨_, rfl⟩
  have r7 : W7.heap[W6.heap.size]? = some (.cells #[.int .i64 qq] 3 (0, 0)) := by rw [← hW7]; exact blk_put (blk_new W6 _) 0 _ rfl
  have b7 : Below W6.heap.size W6 W7 := by rw [← hW7]; exact below_set (below_alloc (Below.refl _ _) _) (Nat.le_refl _)
  have cy7 : W7.cell? ⟨w.heap.size + 1, 0, none⟩ = some (.int .i64 a1) := (blk_cell (blk_below y6 b7) 0).trans rfl
  gi_wp2
  refine ⟨trivial, (callsIn_wide.2 (word_Walk.calls (some ⟨g, 0, none⟩) a1 W7)).mono ?_⟩
  rintro e W8 ⟨rfl, hbg8, hbn8, hs8, hB8⟩
  have y8 := blk_below (blk_below y6 b7) hB8
  have z8 := blk_below (blk_below z6 b7) hB8
  have q8 := blk_below (blk_below q6 b7) hB8
  have r8 := blk_below r7 hB8
  have hI8 := IsS87.below (IsS87.below hI6 b7) hB8
  have b8 := below_step (below_step b6 b7) hB8
  have ub8 := below_step (below_step ub6 b7) hB8
  have lr8 := blk_lt r7
  have lg7 := IsS87.lt (IsS87.below hI6 b7)
  clear hW7 cy7 y6 z6 q6 r7 hI6 b6 ub6 b7 hB8
  gi_wp2
  obtain ⟨W9, hW9⟩ : ∃ W9, W8.alloc (.cells #[.int .i64 0] 3) = W9 := ⟨_, rfl⟩
  have t9 : W9.heap[W7.heap.size + 2]? = some (.cells #[.int .i64 0] 3 (0, 0)) := by rw [← hW9, ← hs8]; exact blk_new W8 _
  have b9 : Below W8.heap.size W8 W9 := by rw [← hW9]; exact below_alloc (Below.refl _ _) _
  have s9 : W9.heap.size = W8.heap.size + 1 := by rw [← hW9]; simp
  rw [hW9]
  clear hW9
  have y9 := blk_below y8 b9
  have z9 := blk_below z8 b9
  have q9 := blk_below q8 b9
  have r9 := blk_below r8 b9
  have hI9 := IsS87.below hI8 b9
  have hbw9 := below_step b8 b9
  have ub9 := below_step ub8 b9
  have hbg9 := (b9.cell (p := ⟨W7.heap.size, 0, none⟩) (by show W7.heap.size < W8.heap.size; omega)).trans hbg8
  have hbn9 := (b9.cell (p := ⟨W7.heap.size + 1, 0, none⟩) (by show W7.heap.size + 1 < W8.heap.size; omega)).trans hbn8
  have gge : w.heap.size ≤ g := Nat.le_trans bub.size (IsS87.ge hI9)
  have lg9 := IsS87.lt hI9
  clear y8 z8 q8 r8 hI8 b8 ub8 hbg8 hbn8
  refine wpIn_rangeFunc_rows (n := 5) (by decide) (gf := 56) (lb := #[.pointer (some ⟨W7.heap.size, 0, none⟩), .pointer (some ⟨W7.heap.size + 1, 0, none⟩)]) rfl (enters_of Try.func56 (by kernel_rfl) rfl) g lg9 (by rfl)
   (fun t W => Below w.heap.size w W ∧ W.heap[w.heap.size + 1]? = some (.cells #[.int .i64 a1] 3 (0, 0)) ∧ (∃ rv, W.heap[w.heap.size + 2]? = some (.cells #[.bool rv] 4 (0, 0))) ∧ W.heap[W4.heap.size]? = some (.cells #[.int .i64 (c : Int)] 3 (0, 0)) ∧ W.heap[W6.heap.size]? = some (.cells #[.int .i64 qq] 3 (0, 0)) ∧ W.heap[W7.heap.size + 2]? = some (.cells #[.int .i64 (t : Int)] 3 (0, 0)))
   c Wt ?hI ⟨hbw9, y9, ⟨_, z9⟩, q9, r9, t9⟩ ?hseq ?assign ?body ?done
  case hI =>
   rintro t A C ⟨h1, h2, ⟨rv, h3⟩, h4, h5, h6⟩ hm
   exact ⟨⟨hm.os.trans h1.os, hm.tape.trans h1.tape, hm.output.trans h1.output, Nat.le_trans h1.size hm.size, fun j hj => (hm.block j (by omega) (by omega)).trans (h1.block j hj)⟩,
    (hm.block _ (by omega) gy).trans h2, ⟨rv, (hm.block _ (by omega) gz).trans h3⟩, (hm.block _ (by omega) (by omega)).trans h4, (hm.block _ (by omega) (by omega)).trans h5, (hm.block _ (by omega) (by omega)).trans h6⟩
  case hseq =>
   intro l J W hs hb hJ hO h0
   exact hit g 4 l (W9.heap.size + 2) W7.heap.size (W7.heap.size + 1) J ub W (by omega) hJ hO h0 (by omega) (IsS87.below hI9 hb) (below_step ub9 hb) ((hb.cell (p := ⟨W7.heap.size, 0, none⟩) (by show W7.heap.size < W9.heap.size; omega)).trans hbg9) ((hb.cell (p := ⟨W7.heap.size + 1, 0, none⟩) (by show W7.heap.size + 1 < W9.heap.size; omega)).trans hbn9) (by omega) (by omega)
  case assign =>
   intro l v W K hK
   gi_wp2
   exact hK
  case body =>
   rintro l t v W ht ⟨h1, h2, ⟨rv, h3⟩, h4, h5, h6⟩ hWs hR
   obtain ⟨A, cA, rfl⟩ := Kd.R_slice hR
   obtain ⟨-, hl2, hC⟩ := Kd.R_reads' hR
   have kt : W.cell? ⟨W7.heap.size + 2, 0, none⟩ = some (.int .i64 (t : Int)) := (blk_cell h6 0).trans rfl
   have kc : W.cell? ⟨W4.heap.size, 0, none⟩ = some (.int .i64 (c : Int)) := (blk_cell h4 0).trans rfl
   have kq : W.cell? ⟨W6.heap.size, 0, none⟩ = some (.int .i64 qq) := (blk_cell h5 0).trans rfl
   have kn : W.cell? ⟨w.heap.size + 1, 0, none⟩ = some (.int .i64 a1) := (blk_cell h2 0).trans rfl
   have hge : decide ((c : Int) ≤ (t : Int)) = false := decide_eq_false (by omega)
   simp only [List.setIfInBounds_toArray, List.set_cons_zero, List.set_cons_succ]
   gi_wp2_with (first
    | (refine ⟨trivial, ?_⟩; gi_at_call 26; refine (CallsIn.inRound l (callsIn_wide.2 (crB_Reflected.calls k qq a1 (t : Int) (Rt t) _ (AR t ht)))).mono ?_; rintro e Wr ⟨vr, rfl, hRr, hBr⟩; obtain ⟨A2, c2, rfl⟩ := Kd.R_slice hRr; obtain ⟨-, hl3, hC2⟩ := Kd.R_reads' hRr; have hC3 := Kd.C_below hC hBr))
   refine ⟨trivial, (CallsIn.inRound l (callsIn_wide.2 (crB_Same.calls k A cA (Wt t) A2 c2 (Rt t) true Wr hC3 hl2 hC2 hl3 (AS t ht)))).mono ?_⟩
   rintro e Ws ⟨rfl, hdr⟩
   have hBs := Drawn0.below hdr
   have j6 := blk_below (blk_below h6 hBr) hBs
   have kt2 : Ws.cell? ⟨W7.heap.size + 2, 0, none⟩ = some (.int .i64 (t : Int)) := (blk_cell j6 0).trans rfl
   have kf2 := blk_frozen j6 0
   gi_wp2
   have hw64 : wrap64 ((t : Int) + 1) = ((t + 1 : Nat) : Int) := by unfold wrap64; omega
   have hBB := below_step hBr hBs
   have hlW := blk_lt h6
   have hB2 : Below w.heap.size w Ws := below_step h1 hBB
   refine ⟨⟨below_set hB2 (by omega), blk_far (blk_below h2 hBB) (by show w.heap.size + 1 ≠ W7.heap.size + 2; omega) _, ⟨rv, blk_far (blk_below h3 hBB) (by show w.heap.size + 2 ≠ W7.heap.size + 2; omega) _⟩, blk_far (blk_below h4 hBB) (by show W4.heap.size ≠ W7.heap.size + 2; omega) _, blk_far (blk_below h5 hBB) (by show W6.heap.size ≠ W7.heap.size + 2; omega) _, ?_⟩, ?_⟩
   ·have he64 : (t : Int) + 1 = ((t + 1 : Nat) : Int) := by omega
    first | rw [hw64] | rw [he64]
    exact blk_put j6 0 _ rfl
   ·refine ⟨by have := hBB.size; simpa [World.setCell] using this, fun j hj hjl => ?_⟩
    exact (Below.heap_setCell Ws _ _ j (by show j ≠ W7.heap.size + 2; omega)).trans (hBB.block j hjl)
  case done =>
   rintro W ⟨h1, h2, ⟨rv, h3⟩, h4, h5, h6⟩ hWs hK
   have kt : W.cell? ⟨W7.heap.size + 2, 0, none⟩ = some (.int .i64 (c : Int)) := (blk_cell h6 0).trans rfl
   have kc : W.cell? ⟨W4.heap.size, 0, none⟩ = some (.int .i64 (c : Int)) := (blk_cell h4 0).trans rfl
   have kz : W.cell? ⟨w.heap.size + 1 + 1, 0, none⟩ = some (.bool rv) := (blk_cell h3 0).trans rfl
   have kf := blk_frozen h3 0
   gi_wp2
   obtain ⟨Wd, hWd⟩ : ∃ Wd, W.setCell ⟨w.heap.size + 1 + 1, 0, none⟩ (.bool true) = Wd := ⟨_, rfl⟩
   have hKd : Wd.heap[W9.heap.size]? = some (.deferred (some [])) := by rw [← hWd]; exact (KeepsOthers.setCell W _ _).same _ _ hK rfl
   have hBd : Below w.heap.size w Wd := by rw [← hWd]; exact below_set h1 (by omega)
   have hzd : Wd.heap[w.heap.size + 2]? = some (.cells #[.bool true] 4 (0, 0)) := by rw [← hWd]; exact blk_put h3 0 _ rfl
   rw [hWd]
   clear hWd
   obtain ⟨We, hWe⟩ : ∃ We, Wd.putObj W9.heap.size (.deferred none) = We := ⟨_, rfl⟩
   have hze : We.cell? ⟨w.heap.size + 1 + 1, 0, none⟩ = some (.bool true) := by
    rw [← hWe]; exact (blk_cell ((World.putObj_heap_other (by omega)).trans hzd) 0).trans rfl
   have hBe : Below w.heap.size w We := by rw [← hWe]; exact hBd.trans (belowK_b (w := w) (Nat.le_refl _) Wd _ _ _ (by omega) hKd rfl rfl)
   have hrun := run_takeDeferred (P := Try.prog) hKd
   rw [hWe] at hrun
   refine ⟨by simp, .inl ⟨_, _, rfl, hrun, ?_⟩⟩
   have hr : Try.f10.results = #[.cell 4 4] := rfl
   have hu4 := Try.underlying4
   refine ⟨.bool true, ?_, rfl, hBe⟩
   simp only [results, hr]
   go_simp
 ·rw [if_neg hx] at hcv
  have hx1 : (xR == 0) = false := beq_eq_false_iff_ne.mpr hx
  have hx2 : (xR != 0) = true := bne_iff_ne.mpr hx
  obtain rfl : c = 0 := by omega
  clear hcv
  have b5' : Below W4.heap.size W4 (W4.alloc (.cells #[.int .i64 0] 3)) := below_alloc (Below.refl _ _) _
  have x5' := blk_below x4 b5'
  have cx0 : (W4.alloc (.cells #[.int .i64 0] 3)).cell? ⟨w.heap.size, 0, none⟩ = some (.int .i64 a0_0) := (blk_cell x5' 0).trans rfl
  have cx1 : (W4.alloc (.cells #[.int .i64 0] 3)).cell? ⟨w.heap.size, 1, none⟩ = some (.int .i64 a0_1) := (blk_cell x5' 1).trans rfl
  have cx2 : (W4.alloc (.cells #[.int .i64 0] 3)).cell? ⟨w.heap.size, 2, none⟩ = some (.slice A0_2 l0_2.length c0_2) := (blk_cell x5' 2).trans rfl
  clear b5' x5'
  gi_wp2
  obtain ⟨W5, hW5⟩ : ∃ W5, (W4.alloc (.cells #[.int .i64 0] 3)) = W5 := ⟨_, rfl⟩
  rw [hW5]
  have q5 : W5.heap[W4.heap.size]? = some (.cells #[.int .i64 ((0 : Nat) : Int)] 3 (0, 0)) := by rw [← hW5]; exact blk_new W4 _
  have b5 : Below W4.heap.size W4 W5 := by rw [← hW5]; exact below_alloc (Below.refl _ _) _
  have x5 := blk_below x4 b5
  refine ⟨trivial, (callsIn_wide.2 (cr4_Order.calls k a0_0 a0_1 A0_2 c0_2 l0_2 qq W5 (Kd.C_below hr0_2 (below_step b4 b5)) hc0_2 Aq)).mono ?_⟩
  rintro e W6 ⟨rfl, hB6⟩
  have y6 := blk_below (blk_below y4 b5) hB6
  have z6 := blk_below (blk_below z4 b5) hB6
  have q6 := blk_below q5 hB6
  have hI6 := IsS87.below (IsS87.below hI4 b5) hB6
  have b6 := below_step (below_step b4 b5) hB6
  have ub6 := below_step (below_step ub4 b5) hB6
  have lg4 := IsS87.lt hI4
  have lq6 := blk_lt q6
  clear hW5 x5 cx0 cx1 cx2 x4 y4 z4 q5 hI4 b4 ub4 b5 hB6
  obtain ⟨W7, hW7⟩ : ∃ W7, (W6.alloc (.cells #[.int .i64 0] 3)).setCell ⟨W6.heap.size, 0, none⟩ (.int .i64 qq) = W7 := ⟨_, rfl⟩
  have r7 : W7.heap[W6.heap.size]? = some (.cells #[.int .i64 qq] 3 (0, 0)) := by rw [← hW7]; exact blk_put (blk_new W6 _) 0 _ rfl
  have b7 : Below W6.heap.size W6 W7 := by rw [← hW7]; exact below_set (below_alloc (Below.refl _ _) _) (Nat.le_refl _)
  have cy7 : W7.cell? ⟨w.heap.size + 1, 0, none⟩ = some (.int .i64 a1) := (blk_cell (blk_below y6 b7) 0).trans rfl
  gi_wp2
  refine ⟨trivial, (callsIn_wide.2 (word_Walk.calls (some ⟨g, 0, none⟩) a1 W7)).mono ?_⟩
  rintro e W8 ⟨rfl, hbg8, hbn8, hs8, hB8⟩
  have y8 := blk_below (blk_below y6 b7) hB8
  have z8 := blk_below (blk_below z6 b7) hB8
  have q8 := blk_below (blk_below q6 b7) hB8
  have r8 := blk_below r7 hB8
  have hI8 := IsS87.below (IsS87.below hI6 b7) hB8
  have b8 := below_step (below_step b6 b7) hB8
  have ub8 := below_step (below_step ub6 b7) hB8
  have lr8 := blk_lt r7
  have lg7 := IsS87.lt (IsS87.below hI6 b7)
  clear hW7 cy7 y6 z6 q6 r7 hI6 b6 ub6 b7 hB8
  gi_wp2
  obtain ⟨W9, hW9⟩ : ∃ W9, W8.alloc (.cells #[.int .i64 0] 3) = W9 := ⟨_, rfl⟩
  have t9 : W9.heap[W7.heap.size + 2]? = some (.cells #[.int .i64 0] 3 (0, 0)) := by rw [← hW9, ← hs8]; exact blk_new W8 _
  have b9 : Below W8.heap.size W8 W9 := by rw [← hW9]; exact below_alloc (Below.refl _ _) _
  have s9 : W9.heap.size = W8.heap.size + 1 := by rw [← hW9]; simp
  rw [hW9]
  clear hW9
  have y9 := blk_below y8 b9
  have z9 := blk_below z8 b9
  have q9 := blk_below q8 b9
  have r9 := blk_below r8 b9
  have hI9 := IsS87.below hI8 b9
  have hbw9 := below_step b8 b9
  have ub9 := below_step ub8 b9
  have hbg9 := (b9.cell (p := ⟨W7.heap.size, 0, none⟩) (by show W7.heap.size < W8.heap.size; omega)).trans hbg8
  have hbn9 := (b9.cell (p := ⟨W7.heap.size + 1, 0, none⟩) (by show W7.heap.size + 1 < W8.heap.size; omega)).trans hbn8
  have gge : w.heap.size ≤ g := Nat.le_trans bub.size (IsS87.ge hI9)
  have lg9 := IsS87.lt hI9
  clear y8 z8 q8 r8 hI8 b8 ub8 hbg8 hbn8
  refine wpIn_rangeFunc_rows (n := 5) (by decide) (gf := 56) (lb := #[.pointer (some ⟨W7.heap.size, 0, none⟩), .pointer (some ⟨W7.heap.size + 1, 0, none⟩)]) rfl (enters_of Try.func56 (by kernel_rfl) rfl) g lg9 (by rfl)
   (fun t W => Below w.heap.size w W ∧ W.heap[w.heap.size + 1]? = some (.cells #[.int .i64 a1] 3 (0, 0)) ∧ (∃ rv, W.heap[w.heap.size + 2]? = some (.cells #[.bool rv] 4 (0, 0))) ∧ W.heap[W4.heap.size]? = some (.cells #[.int .i64 ((0 : Nat) : Int)] 3 (0, 0)) ∧ W.heap[W6.heap.size]? = some (.cells #[.int .i64 qq] 3 (0, 0)) ∧ W.heap[W7.heap.size + 2]? = some (.cells #[.int .i64 (t : Int)] 3 (0, 0)))
   0 Wt ?hI ⟨hbw9, y9, ⟨_, z9⟩, q9, r9, t9⟩ ?hseq ?assign ?body ?done
  case hI =>
   rintro t A C ⟨h1, h2, ⟨rv, h3⟩, h4, h5, h6⟩ hm
   exact ⟨⟨hm.os.trans h1.os, hm.tape.trans h1.tape, hm.output.trans h1.output, Nat.le_trans h1.size hm.size, fun j hj => (hm.block j (by omega) (by omega)).trans (h1.block j hj)⟩,
    (hm.block _ (by omega) gy).trans h2, ⟨rv, (hm.block _ (by omega) gz).trans h3⟩, (hm.block _ (by omega) (by omega)).trans h4, (hm.block _ (by omega) (by omega)).trans h5, (hm.block _ (by omega) (by omega)).trans h6⟩
  case hseq =>
   intro l J W hs hb hJ hO h0
   exact hit g 4 l (W9.heap.size + 2) W7.heap.size (W7.heap.size + 1) J ub W (by omega) hJ hO h0 (by omega) (IsS87.below hI9 hb) (below_step ub9 hb) ((hb.cell (p := ⟨W7.heap.size, 0, none⟩) (by show W7.heap.size < W9.heap.size; omega)).trans hbg9) ((hb.cell (p := ⟨W7.heap.size + 1, 0, none⟩) (by show W7.heap.size + 1 < W9.heap.size; omega)).trans hbn9) (by omega) (by omega)
  case assign =>
   intro l v W K hK
   gi_wp2
   exact hK
  case body =>
   rintro l t v W ht
   exact absurd ht (Nat.not_lt_zero t)
  case done =>
   rintro W ⟨h1, h2, ⟨rv, h3⟩, h4, h5, h6⟩ hWs hK
   have kt : W.cell? ⟨W7.heap.size + 2, 0, none⟩ = some (.int .i64 ((0 : Nat) : Int)) := (blk_cell h6 0).trans rfl
   have kc : W.cell? ⟨W4.heap.size, 0, none⟩ = some (.int .i64 ((0 : Nat) : Int)) := (blk_cell h4 0).trans rfl
   have kz : W.cell? ⟨w.heap.size + 1 + 1, 0, none⟩ = some (.bool rv) := (blk_cell h3 0).trans rfl
   have kf := blk_frozen h3 0
   gi_wp2
   obtain ⟨Wd, hWd⟩ : ∃ Wd, W.setCell ⟨w.heap.size + 1 + 1, 0, none⟩ (.bool true) = Wd := ⟨_, rfl⟩
   have hKd : Wd.heap[W9.heap.size]? = some (.deferred (some [])) := by rw [← hWd]; exact (KeepsOthers.setCell W _ _).same _ _ hK rfl
   have hBd : Below w.heap.size w Wd := by rw [← hWd]; exact below_set h1 (by omega)
   have hzd : Wd.heap[w.heap.size + 2]? = some (.cells #[.bool true] 4 (0, 0)) := by rw [← hWd]; exact blk_put h3 0 _ rfl
   rw [hWd]
   clear hWd
   obtain ⟨We, hWe⟩ : ∃ We, Wd.putObj W9.heap.size (.deferred none) = We := ⟨_, rfl⟩
   have hze : We.cell? ⟨w.heap.size + 1 + 1, 0, none⟩ = some (.bool true) := by
    rw [← hWe]; exact (blk_cell ((World.putObj_heap_other (by omega)).trans hzd) 0).trans rfl
   have hBe : Below w.heap.size w We := by rw [← hWe]; exact hBd.trans (belowK_b (w := w) (Nat.le_refl _) Wd _ _ _ (by omega) hKd rfl rfl)
   have hrun := run_takeDeferred (P := Try.prog) hKd
   rw [hWe] at hrun
   refine ⟨by simp, .inl ⟨_, _, rfl, hrun, ?_⟩⟩
   have hr : Try.f10.results = #[.cell 4 4] := rfl
   have hu4 := Try.underlying4
   refine ⟨.bool true, ?_, rfl, hBe⟩
   simp only [results, hr]
   go_simp
end Go.Proofs.Ythgaihhlbgccoaa.Q
