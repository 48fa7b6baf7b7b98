import Derived.Test.YthgaihhlbgccoaaZNk
import Derived.Test.YthgaihhlbgccoaaZNs
import Derived.Test.YthgaihhlbgccoaaZQh
-- Turned by mksteps.py, a program of this work, from a printed text; Lean checks it.
namespace Go.Proofs.Ythgaihhlbgccoaa.Q
open Go.RowKit Go.Proofs.YthgaihhlbgccoaaW.PrintWords Go.Proofs.YthgaihhlbgccoaaW.PrintLast Go.Proofs.YthgaihhlbgccoaaW.PrintMore
attribute [local go_sem] max2_int min2_int max_two min_two max_three min_three max_four min_four
set_option linter.unusedVariables false
set_option linter.unusedSimpArgs false
/-- The walker, while block p is a change's. -/
def WkB (u W : World) (g : Nat) (v1 v2 : Value) (q : Int) (l1 : List Int) (l2 : List Bool) (p : Nat) : Prop := Wk u W g v1 v2 q l1 l2 ∧ u.heap.size ≤ p ∧ ∃ cs, W.heap[p]? = some (.cells cs 45 (0, 0))
section
variable {u W : World} {g : Nat} {v1 v2 : Value} {q : Int} {l1 : List Int} {l2 : List Bool} {p : Nat}
theorem Wk.drew (h : Wk u W g v1 v2 q l1 l2) : Wk u W.drew g v1 v2 q l1 l2 := ⟨below_drew1 h.1, h.2.1, blk_drew h.2.2.1, Kd.R_drew h.2.2.2.1, Kd.R_drew h.2.2.2.2⟩
theorem Wk.drewN (h : Wk u W g v1 v2 q l1 l2) (n : Nat) : Wk u (W.drewN n) g v1 v2 q l1 l2 := ⟨pw_below_drewN h.1 n, h.2.1, blk_drewN h.2.2.1 n, Kd.R_drewN h.2.2.2.1 n, Kd.R_drewN h.2.2.2.2 n⟩
theorem Wk.below {W1 : World} (h : Wk u W g v1 v2 q l1 l2) (hb : Below W.heap.size W W1) : Wk u W1 g v1 v2 q l1 l2 := ⟨below_step h.1 hb, h.2.1, blk_below h.2.2.1 hb, Kd.R_below h.2.2.2.1 hb, Kd.R_below h.2.2.2.2 hb⟩
theorem Wk.grown {W1 : World} {v : Value} (h : Wk u W g v1 v2 q l1 l2) (hb : Below u.heap.size W W1) (hg : W.grownBy W1 v.ownBlock) (hty : ∀ k, v.ownBlock = some k → ∃ cells, W.heap[k]? = some (.cells cells 45 (0, 0))) : Wk u W1 g v1 v2 q l1 l2 :=
 ⟨below_weaken h.1 (Nat.le_refl _) hb, h.2.1, blk_grown h.2.2.1 hg (fun e => by
  obtain ⟨cs, hc⟩ := hty g e.symm
  have := h.2.2.1.symm.trans hc
  simp at this), Kd.R_over' h.2.2.2.1 hty (by decide) hg, Kd.R_over' h.2.2.2.2 hty (by decide) hg⟩
theorem WkB.drew (h : WkB u W g v1 v2 q l1 l2 p) : WkB u W.drew g v1 v2 q l1 l2 p := ⟨h.1.drew, h.2.1, h.2.2⟩
theorem WkB.drewN (h : WkB u W g v1 v2 q l1 l2 p) (n : Nat) : WkB u (W.drewN n) g v1 v2 q l1 l2 p := ⟨h.1.drewN n, h.2.1, h.2.2⟩
theorem WkB.set (h : WkB u W g v1 v2 q l1 l2 p) (j : Nat) (x : Value) : WkB u (W.setCell ⟨p, j, none⟩ x) g v1 v2 q l1 l2 p := by
 obtain ⟨h, hp, cs, hc⟩ := h
 have hm : ∀ k, k ≠ p → (W.setCell ⟨p, j, none⟩ x).heap[k]? = W.heap[k]? := fun k hk => Below.heap_setCell W ⟨p, j, none⟩ x k hk
 refine ⟨⟨below_set h.1 hp, h.2.1, (hm g (blk_ne h.2.2.1 hc (by decide))).trans h.2.2.1, R_but h.2.2.2.1 hc (by decide) hm, R_but h.2.2.2.2 hc (by decide) hm⟩, hp, _, blk_put hc j x rfl⟩
theorem R_KT {xs : List S45} {w w1 : World} {base : Nat} {ok : Nat → Prop} {v : Value} (h : Kd.R k45 45 w base ok v xs) (hk : KT w w1) : Kd.R k45 45 w1 base ok v xs :=
 Kd.R_mono (Kd.R_move (Kd.R_bound h) (fun k hk2 => by
  obtain ⟨_, _, _, q, hq, cells, hc⟩ := hk2
  have h2 : ∀ q, q ∈ 45 :: k45.E → q ≠ 3 ∧ q ≠ 4 := by decide
  rw [hc]; exact hk.2 k cells q hc (h2 q hq).1 (h2 q hq).2)) (fun _ h => h.1)
end
def word_Steps.l0 : Nat → Int → List S45 → Bool → Int → Int → Int → List Int → List Bool → Option (List S45)
 | 0, _, _, _, _, _, _, _, _ => none
 | k + 1, q, x8, x11, c0, c1, c2, l1, l2 => if x11 = true then (if x8.length < 5864062014805 then ((word_walker_next.f k q l1 l2).bind fun t => word_Steps.l0 k q (x8 ++ [(⟨c0, c1, c2⟩ : S45)]) t.2.2.2.1 t.1 t.2.1 t.2.2.1 t.2.2.2.2.1 t.2.2.2.2.2) else none) else some x8
def word_Steps.f (k : Nat) (s0_0 : Int) (s0_1 : Int) (s0_2 : List Int) (s0_3 : Int) (s0_4 : List Int) (s0_5 : List Int) (a1 : Int) : Option (List S45 × Int × Int × Int × Int) := (word_Count.f k s0_0 s0_1 s0_2 s0_3 s0_4 s0_5 a1).bind fun bt194 => (if bt194.2.1 = 0 then ((word_start.f bt194.2.2.1 bt194.2.2.2.1 s0_2 bt194.2.2.2.2 s0_4 s0_5 a1).bind fun bt199 => ((word_walker_next.f k bt199.1 (List.replicate a1.toNat 0) (List.replicate a1.toNat false)).bind fun bt203 => ((word_Steps.l0 k bt199.1 ([] : List S45) bt203.2.2.2.1 bt203.1 bt203.2.1 bt203.2.2.1 bt203.2.2.2.2.1 bt203.2.2.2.2.2).bind fun r => some (r, 0, bt199.2.1, bt199.2.2.1, bt199.2.2.2)))) else (some (([] : List S45), bt194.2.1, bt194.2.2.1, bt194.2.2.2.1, bt194.2.2.2.2)))
theorem word_Steps.mono_l : ∀ k, (∀ y0 y1 y2 y3 y4 y5 y6 y7, LeO (word_Steps.l0 k y0 y1 y2 y3 y4 y5 y6 y7) (word_Steps.l0 (k + 1) y0 y1 y2 y3 y4 y5 y6 y7))
 | 0 => fun _ _ _ _ _ _ _ _ r h => by simp [word_Steps.l0] at h
 | k + 1 => by
  have ih0 := word_Steps.mono_l k
  ·intro y0 y1 y2 y3 y4 y5 y6 y7
   unfold word_Steps.l0
   repeat' first
   | (with_reducible exact ih0 _ _ _ _ _ _ _ _)
   | (with_reducible exact word_walker_next.mono _ _ _ _)
   | (with_reducible exact LeO.refl _)
   | (with_reducible exact LeO.none _)
   | (with_reducible refine LeO.ite ?_ ?_)
   | (with_reducible refine LeO.bind ?_ (fun _ => ?_))
theorem word_Steps.mono : ∀ a0 a1 a2 a3 a4 a5 a6 k, LeO (word_Steps.f k a0 a1 a2 a3 a4 a5 a6) (word_Steps.f (k + 1) a0 a1 a2 a3 a4 a5 a6) := by
 intro a0 a1 a2 a3 a4 a5 a6 k
 have ih0 := word_Steps.mono_l k
 unfold word_Steps.f
 repeat' first
   | (with_reducible exact ih0 _ _ _ _ _ _ _ _)
   | (with_reducible exact word_Count.mono _ _ _ _ _ _ _ _)
   | (with_reducible exact word_walker_next.mono _ _ _ _)
   | (with_reducible exact LeO.refl _)
   | (with_reducible exact LeO.none _)
   | (with_reducible refine LeO.ite ?_ ?_)
   | (with_reducible refine LeO.bind ?_ (fun _ => ?_))
set_option maxHeartbeats 8000000 in
set_option maxRecDepth 100000 in
theorem word_Steps.calls (k : Nat) (g : Nat) (s0_0 : Int) (s0_1 : Int) (s0_2 : List Int) (s0_3 : Int) (s0_4 : List Int) (s0_5 : List Int) (a1 : Int) (r1 : List (S45)) (r2 : Int) (r3 : Int) (r4 : Int) (r5 : Int) (w0 w : World) (hI : IsS87 w0 w g s0_0 s0_1 s0_2 s0_3 s0_4 s0_5) (hB : Below w0.heap.size w0 w) (h : word_Steps.f k s0_0 s0_1 s0_2 s0_3 s0_4 s0_5 a1 = some (r1, r2, r3, r4, r5)) :
  Calls Try.prog 23 #[.pointer (some ⟨g, 0, none⟩), .int .i64 a1] w fun e w' => ∃ v0_ : Value, e = .returned (.tuple #[v0_, .int .i64 r2]) ∧ Kd.R k45 45 w' w.heap.size (fun _ => True) v0_ r1 ∧ IsS87 w0 w' g r3 r4 s0_2 r5 s0_4 s0_5 ∧ Below w0.heap.size w0 w' ∧ KeepBut w w' g none := by
 have hu45 := Try.underlying45
 have HI0 := Aside0.mk hI
 have HK := Aside0.mk (KeepBut.refl w g none)
 have HL := Aside0.mk hB.size
 clear hI
 have HW0 := Aside0.mk hB.size
 have HB := Aside0.mk hB
 clear hB
 have H := h
 clear h
 unfold word_Steps.f at H
 replace H := Option.bind_eq_some_iff.mp H
 obtain ⟨⟨t194, t195, t196, t197, t198⟩, A30, H⟩ := H
 dsimp only at H
 have A3 := Aside0.mk A30
 clear A30
 by_cases c4 : t195 = 0
 ·rw [if_pos c4] at H
  have c4b0 : (t195 == 0) = true := beq_iff_eq.mpr c4
  have c4b1 : (t195 != 0) = false := bne_eq_false_iff_eq.mpr c4
  clear c4
  replace H := Option.bind_eq_some_iff.mp H
  obtain ⟨⟨t199, t200, t201, t202⟩, A50, H⟩ := H
  dsimp only at H
  have A5 := Aside0.mk A50
  clear A50
  replace H := Option.bind_eq_some_iff.mp H
  obtain ⟨⟨t203, t204, t205, t206, t207, t208⟩, A60, H⟩ := H
  dsimp only at H
  have A6 := Aside0.mk A60
  clear A60
  replace H := Option.bind_eq_some_iff.mp H
  obtain ⟨rr, A70, H⟩ := H
  simp only [Option.some.injEq, Prod.mk.injEq] at H
  obtain ⟨rfl, rfl, rfl, rfl, rfl⟩ := H
  have H' := Aside0.mk A70
  clear A70
  go_enter Try.func23, Try.ntmps23
  go_wp2_with (first | ((with_reducible refine gate_callee (f := 30) rfl ?_); refine goesL_ (some 15) rfl rfl Try.func30 (by kernel_rfl) rfl #[.pointer (some ⟨g, 0, none⟩), .int .i64 a1] rfl (by (try simp only [List.map_toArray, List.map_cons, List.map_nil]); first | done | rfl | (simp only [List.length_drop, List.length_take]; rfl)) ?_; (with_reducible refine (word_Count.calls k g s0_0 s0_1 s0_2 s0_3 s0_4 s0_5 a1 t194 t195 t196 t197 t198 w0 _ ?side1 ?side2 A3.out).mono ?_); (case side1 => repeat (first | (with_reducible first | exact HI0.out | apply IsS87.alloc | apply IsS87.drewN | apply IsS87.drew | apply IsS87.set_0 | apply IsS87.set_1 | apply IsS87.set_3) | exact HI0.out)); (case side2 => repeat (first | (with_reducible first | exact HB.out | apply below_alloc | apply pw_below_drewN | apply below_drew1 | refine below_set ?_ (IsS87.ge HI0.out)) | exact HB.out)); rintro e w7 ⟨rfl, hi, hb, hk⟩; refine ⟨_, rfl, ?_⟩; have n0_ := Aside0.mk (KeepBut.trans (by repeat (first | (with_reducible first | exact HK.out | apply KeepBut.set_ | apply keep_drewN | apply keep_drew | apply keep_alloc) | exact HK.out)) hk (.inl rfl)); have n1_ := Aside0.mk (hb); have n2_ := Aside0.mk (hi); clear HK; clear HB; clear HI0; have HK := n0_; have HB := n1_; have HI0 := n2_; clear n0_ n1_ n2_; (try clear hb); (try clear hb2); (try clear hk); (try clear hi)) | ((with_reducible refine gate_callee (f := 47) rfl ?_); refine goesL_ (some 23) rfl rfl Try.func47 (by kernel_rfl) rfl #[.pointer (some ⟨g, 0, none⟩), .int .i64 a1] rfl (by (try simp only [List.map_toArray, List.map_cons, List.map_nil]); first | done | rfl | (simp only [List.length_drop, List.length_take]; rfl)) ?_; (with_reducible refine (word_start.calls g t196 t197 s0_2 t198 s0_4 s0_5 a1 t199 t200 t201 t202 w0 _ ?side1 ?side2 A5.out).mono ?_); (case side1 => repeat (first | (with_reducible first | exact HI0.out | apply IsS87.alloc | apply IsS87.drewN | apply IsS87.drew | apply IsS87.set_0 | apply IsS87.set_1 | apply IsS87.set_3) | exact HI0.out)); (case side2 => repeat (first | (with_reducible first | exact HB.out | apply below_alloc | apply pw_below_drewN | apply below_drew1 | refine below_set ?_ (IsS87.ge HI0.out)) | exact HB.out)); rintro e w8 ⟨gw, v1, v2, u, rfl, hs_, hIu_, hBu_, hKu_, hwk_⟩; refine ⟨_, rfl, ?_⟩; have HKU := Aside0.mk (KeepBut.trans (by repeat (first | (with_reducible first | exact HK.out | apply KeepBut.set_ | apply keep_drewN | apply keep_drew | apply keep_alloc) | exact HK.out)) hKu_ (.inl rfl)); have HIU := Aside0.mk hIu_; have HBU := Aside0.mk hBu_; have HWK := Aside0.mk hwk_; have HSU := Aside0.mk (show w.heap.size ≤ u.heap.size from HKU.out.1); clear HK HB HI0 hs_ hIu_ hBu_ hKu_ hwk_) | ((with_reducible refine gate_callee (f := 48) rfl ?_); refine goesL_ (some 26) rfl rfl Try.func48 (by kernel_rfl) rfl #[.pointer (some ⟨gw, 0, none⟩)] rfl (by (try simp only [List.map_toArray, List.map_cons, List.map_nil]); first | done | rfl) ?_; (with_reducible refine (word_walker_next.calls k gw v1 v2 t199 _ _ t203 t204 t205 t206 t207 t208 u _ ?side1 A6.out).mono ?_); (case side1 => repeat (first | exact HWK.out | apply Wk.drewN | apply Wk.drew)); rintro e w9 ⟨rfl, hwk_, hkt_⟩; refine ⟨_, rfl, ?_⟩; have n0_ := Aside0.mk hwk_; clear HWK; have HWK := n0_; clear n0_ hwk_ hkt_) | ((with_reducible refine gate_dst (N := 10) rfl ?_); refine box_event ?hg (N := 10) ?hd (cs := #[.int .i64 0, .int .i64 0, .int .i64 0]) (t := 45) ?hr ?_; (case hd => rfl); (case hg => rfl); (case hr => first | (go_simp; done) | (go_simp; rfl)); intro gb207 hg w10 hbox hb; have nb_ := Aside0.mk (by rw [hg]; exact (show Wk u _ gw v1 v2 _ _ _ from by repeat (first | exact HWK.out | apply Wk.drewN | apply Wk.drew)).1.size : u.heap.size ≤ gb207); have nw_ := Aside0.mk (Wk.below (by repeat (first | exact HWK.out | apply Wk.drewN | apply Wk.drew)) hb); clear HWK; have HWK := nw_; have GEgb207 := nb_; have BKgb207 := Aside0.mk hbox; have HWB := Aside0.mk (show WkB u w10 gw v1 v2 _ _ _ gb207 from ⟨HWK.out, GEgb207.out, _, BKgb207.out⟩); clear nb_ nw_ hbox hb hg; have hczgb207_0 : w10.cell? ⟨gb207, 0, none⟩ = some (.int .i64 0) := (blk_cell BKgb207.out 0).trans rfl; have hczgb207_1 : w10.cell? ⟨gb207, 1, none⟩ = some (.int .i64 0) := (blk_cell BKgb207.out 1).trans rfl; have hczgb207_2 : w10.cell? ⟨gb207, 2, none⟩ = some (.int .i64 0) := (blk_cell BKgb207.out 2).trans rfl; have hfzgb207_0 := blk_frozen BKgb207.out 0; have hfzgb207_1 := blk_frozen BKgb207.out 1; have hfzgb207_2 := blk_frozen BKgb207.out 2))
  go_loopg [8, 10, 11] k (fun kq v8 v10 v11 w' => ∃ (x8_1 : List S45) (x11_1 : Bool) (gc : Nat) (c0 c1 c2 : Int) (y1 : List Int) (y2 : List Bool), v10 = .pointer (some ⟨gc, 0, none⟩) ∧ v11 = .bool x11_1 ∧ Aside0 (word_Steps.l0 kq t199 x8_1 x11_1 c0 c1 c2 y1 y2 = some rr) ∧ Aside0 (kq ≤ k) ∧ Aside0 (Kd.R k45 45 w' u.heap.size (fun k_ => k_ ≠ gc) v8 x8_1) ∧ Aside0 (w'.heap[gc]? = some (.cells #[.int .i64 c0, .int .i64 c1, .int .i64 c2] 45 (0, 0))) ∧ Aside0 (Wk u w' gw v1 v2 t199 y1 y2))
  case atStart => exact ⟨[], t206, gb207, t203, t204, t205, t207, t208, by first | rfl | (simp; done) | (simp [*]; done), by first | rfl | (simp; done) | (simp [*]; done), H', ⟨Nat.le_refl _⟩, ⟨Kd.R_nil _ _ _ _ _⟩, ⟨by (with_reducible repeat (first | refine blk_drewN ?_ _ | refine blk_drew ?_ | refine blk_alloc ?_ _)); refine blk_put (cs := #[.int .i64 t203, .int .i64 t204, .int .i64 0]) ?_ 2 _ rfl; (with_reducible repeat (first | refine blk_drewN ?_ _ | refine blk_drew ?_ | refine blk_alloc ?_ _)); refine blk_put (cs := #[.int .i64 t203, .int .i64 0, .int .i64 0]) ?_ 1 _ rfl; (with_reducible repeat (first | refine blk_drewN ?_ _ | refine blk_drew ?_ | refine blk_alloc ?_ _)); refine blk_put (cs := #[.int .i64 0, .int .i64 0, .int .i64 0]) ?_ 0 _ rfl; (with_reducible repeat (first | refine blk_drewN ?_ _ | refine blk_drew ?_ | refine blk_alloc ?_ _)); exact BKgb207.out⟩, ⟨by refine (show WkB u _ gw v1 v2 _ _ _ gb207 from ?_).1; repeat (first | exact HWB.out | apply WkB.drewN | apply WkB.drew | refine WkB.set ?_ _ _)⟩⟩
  case round =>
   clear H'
   obtain ⟨x8_1, x11_1, gc, c0, c1, c2, y1, y2, rfl, rfl, HA, HK1, HO_8, BKgc, HWK⟩ := hrel
   cases gk with
   | zero => exact absurd HA.out (by simp [word_Steps.l0])
   | succ k1 =>
    have H := HA.out
    clear HA
    simp only [word_Steps.l0] at H
    by_cases c13 : x11_1 = true
    ·subst c13
     rw [if_pos rfl] at H
     by_cases c14 : x8_1.length < 5864062014805
     ·rw [if_pos c14] at H
      have LMc14 := Aside0.mk c14
      clear c14
      obtain ⟨y208, hy208⟩ : ∃ y_ : List (S45), y_ = (x8_1 ++ [(⟨c0, c1, c2⟩ : S45)]) := ⟨_, rfl⟩
      rw [← hy208] at H
      have Ny208 := Aside0.mk hy208
      clear hy208
      replace H := Option.bind_eq_some_iff.mp H
      obtain ⟨⟨t212, t213, t214, t215, t216, t217⟩, A150, H⟩ := H
      dsimp only at H
      have A15 := Aside0.mk A150
      clear A150
      have H' := Aside0.mk H
      clear H
      have hcz17_0 : wr.cell? ⟨gc, 0, none⟩ = some (.int .i64 c0) := (blk_cell BKgc.out 0).trans rfl
      have hfz17_0 := blk_frozen BKgc.out 0
      have hcz17_1 : wr.cell? ⟨gc, 1, none⟩ = some (.int .i64 c1) := (blk_cell BKgc.out 1).trans rfl
      have hfz17_1 := blk_frozen BKgc.out 1
      have hcz17_2 : wr.cell? ⟨gc, 2, none⟩ = some (.int .i64 c2) := (blk_cell BKgc.out 2).trans rfl
      have hfz17_2 := blk_frozen BKgc.out 2
      go_wp2_with (first | ((with_reducible refine gate_builtin (b := .append) (xs := #[.tmp 35, .tmp 37]) rfl ?_); at_builtin; refine Kd.R_append k45 u.heap.size rfl (.tmp 35) (.tmp 37) 38 45 (.agg #[(.int .i64 0), (.int .i64 0), (.int .i64 0)]) 24 rfl Try.underlying38 info45 rfl (by decide) (by omega) u8 x8_1 (⟨c0, c1, c2⟩ : S45) [.int .i64 c0, .int .i64 c1, .int .i64 c2] (fun k_ => k_ ≠ gc) (fun _ => False) rfl rfl ?aP (fun _ hk => hk.elim) ?aF ?aO (Below.refl _ _) ?aS ?aL ?_; (case aP => exact k45_mkM _ _ _ (⟨c0, c1, c2⟩ : S45)); (case aF => exact (fun k_ hk => Kd.freshB (g := gc) (o := .cells #[.int .i64 c0, .int .i64 c1, .int .i64 c2] 45 (0, 0)) (by (with_reducible repeat (first | refine blk_drewN ?_ _ | refine blk_drew ?_ | refine blk_alloc ?_ _)); exact BKgc.out) k_ hk)); (case aO => exact (by (with_reducible repeat (first | apply Kd.R_alloc | apply Kd.R_drewN | apply Kd.R_drew)); exact HO_8.out)); (case aS => exact (show Wk u _ gw v1 v2 _ _ _ from by repeat (first | exact HWK.out | apply Wk.drewN | apply Wk.drew)).1.size); (case aL => have := LMc14.out; omega); intro v209 w18 ho hb hg hat; rw [← Ny208.out] at ho; have n0_ := Aside0.mk (blk_grown (g := gc) (o := .cells #[.int .i64 c0, .int .i64 c1, .int .i64 c2] 45 (0, 0)) (by (with_reducible repeat (first | refine blk_drewN ?_ _ | refine blk_drew ?_ | refine blk_alloc ?_ _)); exact BKgc.out) hg (Kd.R_away HO_8.out (fun _ hk => hk))); have n1_ := Aside0.mk (Wk.grown (by repeat (first | exact HWK.out | apply Wk.drewN | apply Wk.drew)) hb hg (Kd.R_typed (by (with_reducible repeat (first | apply Kd.R_alloc | apply Kd.R_drewN | apply Kd.R_drew)); exact HO_8.out))); have n4_ := Aside0.mk (ho); clear BKgc; clear HWK; clear HO_8; have BKgc := n0_; have HWK := n1_; have HO210 := n4_; clear n0_ n1_ n4_; clear ho hb hg hat; have hcz19_0 : w18.cell? ⟨gc, 0, none⟩ = some (.int .i64 c0) := (blk_cell BKgc.out 0).trans rfl; have hcz19_1 : w18.cell? ⟨gc, 1, none⟩ = some (.int .i64 c1) := (blk_cell BKgc.out 1).trans rfl; have hcz19_2 : w18.cell? ⟨gc, 2, none⟩ = some (.int .i64 c2) := (blk_cell BKgc.out 2).trans rfl; have hfz19_0 := blk_frozen BKgc.out 0; have hfz19_1 := blk_frozen BKgc.out 1; have hfz19_2 := blk_frozen BKgc.out 2) | ((with_reducible refine gate_dst (N := 10) rfl ?_); refine box_event ?hg (N := 10) ?hd (cs := #[.int .i64 0, .int .i64 0, .int .i64 0]) (t := 45) ?hr ?_; (case hd => rfl); (case hg => rfl); (case hr => first | (go_simp; done) | (go_simp; rfl)); intro gb211 hg w20 hbox hb; have n0_ := Aside0.mk (Kd.R_below (Kd.R_elderB (by (with_reducible repeat (first | apply Kd.R_alloc | apply Kd.R_drewN | apply Kd.R_drew)); exact HO210.out) gb211 (Nat.le_of_eq hg.symm)) hb); have nb_ := Aside0.mk (by rw [hg]; exact (show Wk u _ gw v1 v2 _ _ _ from by repeat (first | exact HWK.out | apply Wk.drewN | apply Wk.drew)).1.size : u.heap.size ≤ gb211); have nw_ := Aside0.mk (Wk.below (by repeat (first | exact HWK.out | apply Wk.drewN | apply Wk.drew)) hb); clear HO210; clear BKgc; clear HWK; have HO210 := n0_; clear n0_; have HWK := nw_; have GEgb211 := nb_; have BKgb211 := Aside0.mk hbox; have HWB := Aside0.mk (show WkB u w20 gw v1 v2 _ _ _ gb211 from ⟨HWK.out, GEgb211.out, _, BKgb211.out⟩); clear nb_ nw_ hbox hb hg; have hczgb211_0 : w20.cell? ⟨gb211, 0, none⟩ = some (.int .i64 0) := (blk_cell BKgb211.out 0).trans rfl; have hczgb211_1 : w20.cell? ⟨gb211, 1, none⟩ = some (.int .i64 0) := (blk_cell BKgb211.out 1).trans rfl; have hczgb211_2 : w20.cell? ⟨gb211, 2, none⟩ = some (.int .i64 0) := (blk_cell BKgb211.out 2).trans rfl; have hfzgb211_0 := blk_frozen BKgb211.out 0; have hfzgb211_1 := blk_frozen BKgb211.out 1; have hfzgb211_2 := blk_frozen BKgb211.out 2) | ((with_reducible refine gate_callee (f := 48) rfl ?_); refine goesL_ (some 32) rfl rfl Try.func48 (by kernel_rfl) rfl #[.pointer (some ⟨gw, 0, none⟩)] rfl (by (try simp only [List.map_toArray, List.map_cons, List.map_nil]); first | done | rfl) ?_; (with_reducible refine (word_walker_next.calls k1 gw v1 v2 t199 _ _ t212 t213 t214 t215 t216 t217 u _ ?side1 A15.out).mono ?_); (case side1 => refine (show WkB u _ gw v1 v2 _ _ _ gb211 from ?_).1; repeat (first | exact HWB.out | apply WkB.drewN | apply WkB.drew | refine WkB.set ?_ _ _)); rintro e w24 ⟨rfl, hwk_, hkt_⟩; refine ⟨_, rfl, ?_⟩; have na_ := Aside0.mk (R_KT (by (with_reducible repeat (first | apply Kd.R_alloc | apply Kd.R_drewN | apply Kd.R_drew)); exact (Kd.R_mono (Kd.R_far (p := ⟨gb211, 2, none⟩) (Kd.R_far (p := ⟨gb211, 1, none⟩) (Kd.R_far (p := ⟨gb211, 0, none⟩) (Kd.R_mono HO210.out (fun k_ hk => (⟨hk, hk.2⟩ : _ ∧ k_ ≠ gb211))) (fun _ hk => hk.2) (.int .i64 c0)) (fun _ hk => hk.2) (.int .i64 c1)) (fun _ hk => hk.2) (.int .i64 c2)) (fun _ h_ => h_.1))) hkt_); have nc_ := Aside0.mk (hkt_.2 gb211 #[.int .i64 c0, .int .i64 c1, .int .i64 c2] 45 (by (with_reducible repeat (first | refine blk_drewN ?_ _ | refine blk_drew ?_ | refine blk_alloc ?_ _)); refine blk_put (cs := #[.int .i64 c0, .int .i64 c1, .int .i64 0]) ?_ 2 _ rfl; (with_reducible repeat (first | refine blk_drewN ?_ _ | refine blk_drew ?_ | refine blk_alloc ?_ _)); refine blk_put (cs := #[.int .i64 c0, .int .i64 0, .int .i64 0]) ?_ 1 _ rfl; (with_reducible repeat (first | refine blk_drewN ?_ _ | refine blk_drew ?_ | refine blk_alloc ?_ _)); refine blk_put (cs := #[.int .i64 0, .int .i64 0, .int .i64 0]) ?_ 0 _ rfl; (with_reducible repeat (first | refine blk_drewN ?_ _ | refine blk_drew ?_ | refine blk_alloc ?_ _)); exact BKgb211.out) (by decide) (by decide)); have n0_ := Aside0.mk hwk_; clear HWK; have HWK := n0_; clear n0_ hwk_ hkt_; clear HO210 BKgb211 HWB; have HO210 := na_; have BKgb211 := nc_; clear na_ nc_; have HWB := Aside0.mk (show WkB u w24 gw v1 v2 _ _ _ gb211 from ⟨HWK.out, GEgb211.out, _, BKgb211.out⟩); have hcz25_0 : w24.cell? ⟨gb211, 0, none⟩ = some (.int .i64 c0) := (blk_cell BKgb211.out 0).trans rfl; have hcz25_1 : w24.cell? ⟨gb211, 1, none⟩ = some (.int .i64 c1) := (blk_cell BKgb211.out 1).trans rfl; have hcz25_2 : w24.cell? ⟨gb211, 2, none⟩ = some (.int .i64 c2) := (blk_cell BKgb211.out 2).trans rfl; have hfz25_0 := blk_frozen BKgb211.out 0; have hfz25_1 := blk_frozen BKgb211.out 1; have hfz25_2 := blk_frozen BKgb211.out 2))
      go_roundg k1
      case measure => have := HK1.out; omega
      case rel => exact ⟨y208, t215, gb211, t212, t213, t214, t216, t217, by first | rfl | (simp; done) | (simp [*]; done), by first | rfl | (simp; done) | (simp [*]; done), H', ⟨by have := HK1.out; omega⟩, ⟨by (with_reducible repeat (first | apply Kd.R_alloc | apply Kd.R_drewN | apply Kd.R_drew)); exact Kd.R_mono (Kd.R_mono (Kd.R_far (p := ⟨gb211, 2, none⟩) (Kd.R_far (p := ⟨gb211, 1, none⟩) (Kd.R_far (p := ⟨gb211, 0, none⟩) (Kd.R_mono HO210.out (fun k_ hk => (⟨hk, hk.2⟩ : _ ∧ k_ ≠ gb211))) (fun _ hk => hk.2) (.int .i64 t212)) (fun _ hk => hk.2) (.int .i64 t213)) (fun _ hk => hk.2) (.int .i64 t214)) (fun _ h_ => h_.1)) (fun _ hk => hk.2)⟩, ⟨by (with_reducible repeat (first | refine blk_drewN ?_ _ | refine blk_drew ?_ | refine blk_alloc ?_ _)); refine blk_put (cs := #[.int .i64 t212, .int .i64 t213, .int .i64 c2]) ?_ 2 _ rfl; (with_reducible repeat (first | refine blk_drewN ?_ _ | refine blk_drew ?_ | refine blk_alloc ?_ _)); refine blk_put (cs := #[.int .i64 t212, .int .i64 c1, .int .i64 c2]) ?_ 1 _ rfl; (with_reducible repeat (first | refine blk_drewN ?_ _ | refine blk_drew ?_ | refine blk_alloc ?_ _)); refine blk_put (cs := #[.int .i64 c0, .int .i64 c1, .int .i64 c2]) ?_ 0 _ rfl; (with_reducible repeat (first | refine blk_drewN ?_ _ | refine blk_drew ?_ | refine blk_alloc ?_ _)); exact BKgb211.out⟩, ⟨by refine (show WkB u _ gw v1 v2 _ _ _ gb211 from ?_).1; repeat (first | exact HWB.out | apply WkB.drewN | apply WkB.drew | refine WkB.set ?_ _ _)⟩⟩
     ·rw [if_neg c14] at H
      exact absurd H (by simp)
    ·replace c13 := Bool.eq_false_iff.mpr c13
     subst c13
     rw [if_neg (show ¬ (false = true) by decide)] at H
     obtain rfl := Option.some.inj H
     go_wp2
     go_ret2
     have hW_ := HWK.out.1
     exact ⟨_, by first | rfl | (simp [errW_none, errW_some] <;> rfl) | (simp [*, errW_none, errW_some] <;> rfl), Kd.R_lower (Kd.R_mono HO_8.out (fun _ _ => trivial)) HSU.out, IsS87.below HIU.out hW_, below_step HBU.out hW_, KeepBut.trans HKU.out (KeepBut.of_below hW_ g none) (.inl rfl)⟩
 ·rw [if_neg c4] at H
  have c4b0 : (t195 == 0) = false := beq_eq_false_iff_ne.mpr c4
  have c4b1 : (t195 != 0) = true := bne_iff_ne.mpr c4
  simp only [Option.some.injEq, Prod.mk.injEq] at H
  obtain ⟨rfl, rfl, rfl, rfl, rfl⟩ := H
  go_enter Try.func23, Try.ntmps23
  go_wp2_with (first | ((with_reducible refine gate_callee (f := 30) rfl ?_); refine goesL_ (some 15) rfl rfl Try.func30 (by kernel_rfl) rfl #[.pointer (some ⟨g, 0, none⟩), .int .i64 a1] rfl (by (try simp only [List.map_toArray, List.map_cons, List.map_nil]); first | done | rfl | (simp only [List.length_drop, List.length_take]; rfl)) ?_; (with_reducible refine (word_Count.calls k g s0_0 s0_1 s0_2 s0_3 s0_4 s0_5 a1 t194 t195 t196 t197 t198 w0 _ ?side1 ?side2 A3.out).mono ?_); (case side1 => repeat (first | (with_reducible first | exact HI0.out | apply IsS87.alloc | apply IsS87.drewN | apply IsS87.drew | apply IsS87.set_0 | apply IsS87.set_1 | apply IsS87.set_3) | exact HI0.out)); (case side2 => repeat (first | (with_reducible first | exact HB.out | apply below_alloc | apply pw_below_drewN | apply below_drew1 | refine below_set ?_ (IsS87.ge HI0.out)) | exact HB.out)); rintro e w26 ⟨rfl, hi, hb, hk⟩; refine ⟨_, rfl, ?_⟩; have n0_ := Aside0.mk (KeepBut.trans (by repeat (first | (with_reducible first | exact HK.out | apply KeepBut.set_ | apply keep_drewN | apply keep_drew | apply keep_alloc) | exact HK.out)) hk (.inl rfl)); have n1_ := Aside0.mk (hb); have n2_ := Aside0.mk (hi); clear HK; clear HB; clear HI0; have HK := n0_; have HB := n1_; have HI0 := n2_; clear n0_ n1_ n2_; (try clear hb); (try clear hb2); (try clear hk); (try clear hi)))
  go_ret2
  exact ⟨_, by first | rfl | (simp [errW_none, errW_some] <;> rfl) | (simp [*, errW_none, errW_some] <;> rfl), by first | exact Kd.R_nil _ _ _ _ _ | exact Kd.N_nil _ _ _ _ _ | exact Kd.V_nil _ _ _ _ _ | exact Kd.Q_nil _ _ _ _ _ | exact Kd.S_nil _ _ _ _ _, by repeat (first | (with_reducible first | exact HI0.out | apply IsS87.alloc | apply IsS87.drewN | apply IsS87.drew | apply IsS87.set_0 | apply IsS87.set_1 | apply IsS87.set_3) | exact HI0.out), by repeat (first | (with_reducible first | exact HB.out | apply below_alloc | apply pw_below_drewN | apply below_drew1 | refine below_set ?_ (IsS87.ge HI0.out)) | exact HB.out), by repeat (first | (with_reducible first | exact HK.out | apply KeepBut.set_ | apply keep_drewN | apply keep_drew | apply keep_alloc) | exact HK.out)⟩
end Go.Proofs.Ythgaihhlbgccoaa.Q
