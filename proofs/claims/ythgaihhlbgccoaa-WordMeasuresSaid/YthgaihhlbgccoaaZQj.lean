-- Joined by pack.py, a program of this work: Qx63 Qx65
import Derived.Test.YthgaihhlbgccoaaZQa
import Derived.Test.YthgaihhlbgccoaaZQb
import Derived.Test.YthgaihhlbgccoaaZQd
import Derived.Test.YthgaihhlbgccoaaZQx31
-- Written by a program of this work over the kit's printer; Lean checks it.
namespace Go.Proofs.Ythgaihhlbgccoaa.Q
open Go.RowKit Go.Proofs.YthgaihhlbgccoaaW.PrintWords Go.Proofs.YthgaihhlbgccoaaW.PrintLast Go.Proofs.YthgaihhlbgccoaaW.PrintMore
attribute [local go_sem] max2_int min2_int max_two min_two max_three min_three max_four min_four   -- for this text's walks alone
set_option linter.unusedVariables false
set_option linter.unusedSimpArgs false

/-! ### word_Distance: function 34 -/
def word_Distance.f (k : Nat) (s0_0 : Int) (s0_1 : Int) (s0_2 : List Int) (s0_3 : Int) (s0_4 : List Int) (s0_5 : List Int) (l1 : List Int) (l2 : List Int) : Option (Int × Int × Int × Int × Int) := (word_pairwise_Sub.f k s0_0 s0_1 s0_2 s0_3 s0_4 s0_5 l1 l2).bind fun bt670 => ((word_Weight.f k bt670.2.2.1 bt670.2.2.2.1 s0_2 bt670.2.2.2.2 s0_4 s0_5 bt670.1).bind fun bt677 => (some (bt677.1, bt670.2.1, bt677.2.1, bt677.2.2.1, bt677.2.2.2)))
theorem word_Distance.mono : ∀ a0 a1 a2 a3 a4 a5 a6 a7 k, LeO (word_Distance.f k a0 a1 a2 a3 a4 a5 a6 a7) (word_Distance.f (k + 1) a0 a1 a2 a3 a4 a5 a6 a7) := by
 intro a0 a1 a2 a3 a4 a5 a6 a7 k
 unfold word_Distance.f
 repeat' first
   | (with_reducible exact word_Weight.mono _ _ _ _ _ _ _ _)
   | (with_reducible exact word_pairwise_Sub.mono _ _ _ _ _ _ _ _ _)
   | (with_reducible exact LeO.refl _)
   | (with_reducible exact LeO.none _)
   | (with_reducible refine LeO.ite ?_ ?_)
   | (with_reducible refine LeO.bind ?_ (fun _ => ?_))
   | exact word_Weight.mono _ _ _ _ _ _ _ _
   | exact word_pairwise_Sub.mono _ _ _ _ _ _ _ _ _
   | exact LeO.none _
   | refine LeO.ite ?_ ?_
   | refine LeO.bind ?_ (fun _ => ?_)
set_option maxHeartbeats 8000000 in
set_option maxRecDepth 100000 in
theorem word_Distance.calls (k : Nat) (g : Nat) (s0_0 : Int) (s0_1 : Int) (s0_2 : List Int) (s0_3 : Int) (s0_4 : List Int) (s0_5 : List Int) (A1 : Option Addr) (c1 : Nat) (l1 : List Int) (A2 : Option Addr) (c2 : Nat) (l2 : List Int) (r1 : Int) (r2 : Int) (r3 : Int) (r4 : Int) (r5 : Int) (w0 w : World) (hI : IsS87 w0 w g s0_0 s0_1 s0_2 s0_3 s0_4 s0_5) (hB : Below w0.heap.size w0 w) (hr1 : Kd.C (Kd.int .i64) w A1 l1.length l1) (hc1 : l1.length ≤ c1) (hf1 : ∀ ad, A1 = some ad → 0 < l1.length → ad.block ≠ g) (hr2 : Kd.C (Kd.int .i64) w A2 l2.length l2) (hc2 : l2.length ≤ c2) (hf2 : ∀ ad, A2 = some ad → 0 < l2.length → ad.block ≠ g) (h : word_Distance.f k s0_0 s0_1 s0_2 s0_3 s0_4 s0_5 l1 l2 = some (r1, r2, r3, r4, r5)) :
  Calls Try.prog 34 #[.pointer (some ⟨g, 0, none⟩), .slice A1 l1.length c1, .slice A2 l2.length c2] w fun e w' => e = .returned (.tuple #[.int .i64 r1, .int .i64 r2]) ∧ IsS87 w0 w' g r3 r4 s0_2 r5 s0_4 s0_5 ∧ Below w0.heap.size w0 w' ∧ KeepBut w w' g none := by
 have HR1 := Aside0.mk hr1
 have HC1 := Aside0.mk hc1
 clear hr1 hc1
 have HR2 := Aside0.mk hr2
 have HC2 := Aside0.mk hc2
 clear hr2 hc2
 have HI0 := Aside0.mk hI
 have HK := Aside0.mk (KeepBut.refl w g none)
 have HL := Aside0.mk hB.size
 clear hI
 have HW0 := Aside0.mk hB.size
 have HB := Aside0.mk hB
 clear hB
 have H : ((word_pairwise_Sub.f k s0_0 s0_1 s0_2 s0_3 s0_4 s0_5 l1 l2).bind fun bt670 => ((word_Weight.f k bt670.2.2.1 bt670.2.2.2.1 s0_2 bt670.2.2.2.2 s0_4 s0_5 bt670.1).bind fun bt677 => (some (bt677.1, bt670.2.1, bt677.2.1, bt677.2.2.1, bt677.2.2.2)))) = some (r1, r2, r3, r4, r5) := h
 clear h
 replace H := Option.bind_eq_some_iff.mp H
 obtain ⟨⟨t670, t673, t674, t675, t676⟩, A40, H⟩ := H
 replace H : ((word_Weight.f k t674 t675 s0_2 t676 s0_4 s0_5 t670).bind fun bt677 => (some (bt677.1, t673, bt677.2.1, bt677.2.2.1, bt677.2.2.2))) = some (r1, r2, r3, r4, r5) := H
 have A4 := Aside0.mk A40
 clear A40
 replace H := Option.bind_eq_some_iff.mp H
 obtain ⟨⟨t677, t678, t679, t680⟩, A50, H⟩ := H
 replace H : (some (t677, t673, t678, t679, t680)) = some (r1, r2, r3, r4, r5) := H
 have A5 := Aside0.mk A50
 clear A50
 simp only [Option.some.injEq, Prod.mk.injEq] at H
 obtain ⟨rfl, rfl, rfl, rfl, rfl⟩ := H
 go_enter Try.func34, Try.ntmps34
 go_wp2_with (first | ((with_reducible refine gate_callee (f := 43) rfl ?_); refine goesL_ (some 16) rfl rfl Try.func43 (by kernel_rfl) rfl #[.pointer (some ⟨g, 0, none⟩), .slice A1 l1.length c1, .slice A2 l2.length c2, .func (.func 45) #[.pointer (some ⟨g, 0, none⟩)] #[]] rfl (by (try simp only [List.map_toArray, List.map_cons, List.map_nil]); first | done | rfl | (simp only [List.length_drop, List.length_take]; rfl)) ?_; (with_reducible refine (word_pairwise_Sub.calls k g s0_0 s0_1 s0_2 s0_3 s0_4 s0_5 _ _ l1 _ _ l2 t670 t673 t674 t675 t676 w0 _ ?side1 ?side2 ?side3 ?side4 ?side5 ?side6 ?side7 ?side8 A4.out).mono ?_); (case side1 => repeat (first | (with_reducible first | exact HI0.out | apply IsS87.alloc | apply IsS87.drewN | apply IsS87.drew | apply IsS87.set_0 | apply IsS87.set_1 | apply IsS87.set_3) | exact HI0.out)); (case side2 => repeat (first | (with_reducible first | exact HB.out | apply below_alloc | apply pw_below_drewN | apply below_drew1 | refine below_set ?_ (IsS87.ge HI0.out)) | exact HB.out)); (case side3 => exact Kd.C_keep 0 HR1.out (by repeat (first | (with_reducible first | exact HK.out | apply KeepBut.set_ | apply keep_drewN | apply keep_drew | apply keep_alloc) | exact HK.out)) hf1); (case side4 => exact HC1.out); (case side5 => exact hf1); (case side6 => exact Kd.C_keep 0 HR2.out (by repeat (first | (with_reducible first | exact HK.out | apply KeepBut.set_ | apply keep_drewN | apply keep_drew | apply keep_alloc) | exact HK.out)) hf2); (case side7 => exact HC2.out); (case side8 => exact hf2); rintro e w6 ⟨v671, rfl, ho0, hi, hb, hk⟩; refine ⟨_, rfl, ?_⟩; have n0_ := Aside0.mk (Kd.R_lower ho0 (keep_size (w := w) (g := g) (row := none) (by repeat (first | (with_reducible first | exact HK.out | apply KeepBut.set_ | apply keep_drewN | apply keep_drew | apply keep_alloc) | exact HK.out)))); have n1_ := Aside0.mk (KeepBut.trans (by repeat (first | (with_reducible first | exact HK.out | apply KeepBut.set_ | apply keep_drewN | apply keep_drew | apply keep_alloc) | exact HK.out)) hk (.inl rfl)); have n2_ := Aside0.mk (hb); have n3_ := Aside0.mk (hi); clear HK; clear HB; clear HI0; have HO672 := n0_; have HK := n1_; have HB := n2_; have HI0 := n3_; clear n0_ n1_ n2_ n3_; (try clear hb); (try clear hb2); (try clear hk); (try clear hi); (try clear ho0); obtain ⟨Ao7, co7, eo7⟩ := Kd.R_slice HO672.out; subst eo7) | ((with_reducible refine gate_callee (f := 18) rfl ?_); refine goesL_ (some 21) rfl rfl Try.func18 (by kernel_rfl) rfl #[.pointer (some ⟨g, 0, none⟩), .slice Ao7 t670.length co7] rfl (by (try simp only [List.map_toArray, List.map_cons, List.map_nil]); first | done | rfl | (simp only [List.length_drop, List.length_take]; rfl)) ?_; (with_reducible refine (word_Weight.calls k g t674 t675 s0_2 t676 s0_4 s0_5 _ _ t670 t677 t678 t679 t680 w0 _ ?side1 ?side2 ?side3 ?side4 ?side5 A5.out).mono ?_); (case side1 => repeat (first | (with_reducible first | exact HI0.out | apply IsS87.alloc | apply IsS87.drewN | apply IsS87.drew | apply IsS87.set_0 | apply IsS87.set_1 | apply IsS87.set_3) | exact HI0.out)); (case side2 => repeat (first | (with_reducible first | exact HB.out | apply below_alloc | apply pw_below_drewN | apply below_drew1 | refine below_set ?_ (IsS87.ge HI0.out)) | exact HB.out)); (case side3 => repeat (first | exact (Kd.R_reads' HO672.out).2.2 | (with_reducible refine Kd.C_alloc ?_ _) | (with_reducible refine Kd.C_drewN ?_ _) | (with_reducible refine Kd.C_drew ?_))); (case side4 => exact (Kd.R_reads' HO672.out).2.1); (case side5 => exact far_slice (IsS87.own_ne HI0.out HO672.out (by decide))); rintro e w8 ⟨rfl, hi, hb, hk⟩; refine ⟨_, rfl, ?_⟩; have n0_ := Aside0.mk (Kd.R_mono (Kd.R_keep (IsS87.apart (show IsS87 w0 _ g t674 t675 s0_2 t676 s0_4 s0_5 from by repeat (first | (with_reducible first | exact HI0.out | apply IsS87.alloc | apply IsS87.drewN | apply IsS87.drew | apply IsS87.set_0 | apply IsS87.set_1 | apply IsS87.set_3) | exact HI0.out)) (by (with_reducible repeat (first | apply Kd.R_alloc | apply Kd.R_drewN | apply Kd.R_drew)); exact HO672.out) (by decide)) hk (fun _ h => h.2)) (fun _ h => h.1)); have n1_ := Aside0.mk (KeepBut.trans (by repeat (first | (with_reducible first | exact HK.out | apply KeepBut.set_ | apply keep_drewN | apply keep_drew | apply keep_alloc) | exact HK.out)) hk (.inl rfl)); have n2_ := Aside0.mk (hb); have n3_ := Aside0.mk (hi); clear HO672; clear HK; clear HB; clear HI0; have HO672 := n0_; have HK := n1_; have HB := n2_; have HI0 := n3_; clear n0_ n1_ n2_ n3_; (try clear hb); (try clear hb2); (try clear hk); (try clear hi)))
 go_ret2
 exact ⟨by first | rfl | (simp [errW_none, errW_some] <;> rfl) | (simp [*, errW_none, errW_some] <;> rfl), by repeat (first | (with_reducible first | exact HI0.out | apply IsS87.alloc | apply IsS87.drewN | apply IsS87.drew | apply IsS87.set_0 | apply IsS87.set_1 | apply IsS87.set_3) | exact HI0.out), by repeat (first | (with_reducible first | exact HB.out | apply below_alloc | apply pw_below_drewN | apply below_drew1 | refine below_set ?_ (IsS87.ge HI0.out)) | exact HB.out), by repeat (first | (with_reducible first | exact HK.out | apply KeepBut.set_ | apply keep_drewN | apply keep_drew | apply keep_alloc) | exact HK.out)⟩


end Go.Proofs.Ythgaihhlbgccoaa.Q
-- Written by a program of this work over the kit's printer; Lean checks it.
namespace Go.Proofs.Ythgaihhlbgccoaa.Q
open Go.RowKit Go.Proofs.YthgaihhlbgccoaaW.PrintWords Go.Proofs.YthgaihhlbgccoaaW.PrintLast Go.Proofs.YthgaihhlbgccoaaW.PrintMore
attribute [local go_sem] max2_int min2_int max_two min_two max_three min_three max_four min_four   -- for this text's walks alone
set_option linter.unusedVariables false
set_option linter.unusedSimpArgs false

/-! ### codewrightref11_Distance: function 35 -/
def codewrightref11_Distance.l0 : Nat → List Int → List Int → Int → Int → Option (Int × Int)
 | 0, _, _, _, _ => none
 | k + 1, x8, x9, x10, x11 => if x11 < (x8.length : Int) then (if 0 ≤ x11 then (if x11 < (x9.length : Int) then (if (rd x8 x11) = (rd x9 x11) then (codewrightref11_Distance.l0 k x8 x9 x10 (wrap64 (x11 + 1))) else (codewrightref11_Distance.l0 k x8 x9 (wrap64 (x10 + 1)) (wrap64 (x11 + 1)))) else (none)) else (none)) else (some (x10, 0))
def codewrightref11_Distance.f (k : Nat) (a0_0 : Int) (a0_1 : Int) (l0_2 : List Int) (l1 : List Int) (l2 : List Int) : Option (Int × Int) := if (l1.length : Int) = (l2.length : Int) then ((codewrightref11_Clean.f k a0_0 a0_1 l0_2 l1).bind fun t675 => ((codewrightref11_Clean.f k a0_0 a0_1 l0_2 l2).bind fun t678 => (codewrightref11_Distance.l0 k t675 t678 0 0))) else (some (0, 4))
theorem codewrightref11_Distance.mono_l : ∀ k, (∀ y0 y1 y2 y3, LeO (codewrightref11_Distance.l0 k y0 y1 y2 y3) (codewrightref11_Distance.l0 (k + 1) y0 y1 y2 y3))
 | 0 => fun _ _ _ _ r h => by simp [codewrightref11_Distance.l0] at h
 | k + 1 => by
  have ih0 := codewrightref11_Distance.mono_l k
  ·intro y0 y1 y2 y3
   unfold codewrightref11_Distance.l0
   repeat' first
   | (with_reducible exact ih0 _ _ _ _)
   | (with_reducible exact codewrightref11_Clean.mono _ _ _ _ _)
   | (with_reducible exact LeO.refl _)
   | (with_reducible exact LeO.none _)
   | (with_reducible refine LeO.ite ?_ ?_)
   | (with_reducible refine LeO.bind ?_ (fun _ => ?_))
   | exact ih0 _ _ _ _
   | exact codewrightref11_Clean.mono _ _ _ _ _
   | exact LeO.none _
   | refine LeO.ite ?_ ?_
   | refine LeO.bind ?_ (fun _ => ?_)
theorem codewrightref11_Distance.mono : ∀ a0 a1 a2 a3 a4 k, LeO (codewrightref11_Distance.f k a0 a1 a2 a3 a4) (codewrightref11_Distance.f (k + 1) a0 a1 a2 a3 a4) := by
 intro a0 a1 a2 a3 a4 k
 have ih0 := codewrightref11_Distance.mono_l k
 unfold codewrightref11_Distance.f
 repeat' first
   | (with_reducible exact ih0 _ _ _ _)
   | (with_reducible exact codewrightref11_Clean.mono _ _ _ _ _)
   | (with_reducible exact LeO.refl _)
   | (with_reducible exact LeO.none _)
   | (with_reducible refine LeO.ite ?_ ?_)
   | (with_reducible refine LeO.bind ?_ (fun _ => ?_))
   | exact ih0 _ _ _ _
   | exact codewrightref11_Clean.mono _ _ _ _ _
   | exact LeO.none _
   | refine LeO.ite ?_ ?_
   | refine LeO.bind ?_ (fun _ => ?_)
set_option maxHeartbeats 8000000 in
set_option maxRecDepth 100000 in
theorem codewrightref11_Distance.calls (k : Nat) (a0_0 : Int) (a0_1 : Int) (A0_2 : Option Addr) (c0_2 : Nat) (l0_2 : List Int) (A1 : Option Addr) (c1 : Nat) (l1 : List Int) (A2 : Option Addr) (c2 : Nat) (l2 : List Int) (r1 : Int) (r2 : Int) (w : World) (hr0_2 : Kd.C (Kd.int .i64) w A0_2 l0_2.length l0_2) (hc0_2 : l0_2.length ≤ c0_2) (hr1 : Kd.C (Kd.int .i64) w A1 l1.length l1) (hc1 : l1.length ≤ c1) (hr2 : Kd.C (Kd.int .i64) w A2 l2.length l2) (hc2 : l2.length ≤ c2) (h : codewrightref11_Distance.f k a0_0 a0_1 l0_2 l1 l2 = some (r1, r2)) :
  Calls Try.prog 35 #[.agg #[.int .i64 a0_0, .int .i64 a0_1, .slice A0_2 l0_2.length c0_2], .slice A1 l1.length c1, .slice A2 l2.length c2] w fun e w' => e = .returned (.tuple #[.int .i64 r1, .int .i64 r2]) ∧ Below w.heap.size w w' := by
 have hu24 := Try.underlying24
 have HR0_2 := Aside0.mk hr0_2
 have HC0_2 := Aside0.mk hc0_2
 clear hr0_2 hc0_2
 have HR1 := Aside0.mk hr1
 have HC1 := Aside0.mk hc1
 clear hr1 hc1
 have HR2 := Aside0.mk hr2
 have HC2 := Aside0.mk hc2
 clear hr2 hc2
 have HB := Aside0.mk (Below.refl w.heap.size w)
 have H : (if (l1.length : Int) = (l2.length : Int) then ((codewrightref11_Clean.f k a0_0 a0_1 l0_2 l1).bind fun t675 => ((codewrightref11_Clean.f k a0_0 a0_1 l0_2 l2).bind fun t678 => (codewrightref11_Distance.l0 k t675 t678 0 0))) else (some (0, 4))) = some (r1, r2) := h
 clear h
 by_cases c4 : (l1.length : Int) = (l2.length : Int)
 ·rw [if_pos c4] at H
  have c4b0 : ((l1.length : Int) == (l2.length : Int)) = true := beq_iff_eq.mpr c4
  have c4b1 : ((l1.length : Int) != (l2.length : Int)) = false := bne_eq_false_iff_eq.mpr c4
  have c4b2 : (l1.length == l2.length) = true := by first | simpa using c4 | (simp at c4 ⊢; omega)
  clear c4
  replace H := Option.bind_eq_some_iff.mp H
  obtain ⟨t675, A50, H⟩ := H
  replace H : ((codewrightref11_Clean.f k a0_0 a0_1 l0_2 l2).bind fun t678 => (codewrightref11_Distance.l0 k t675 t678 0 0)) = some (r1, r2) := H
  have A5 := Aside0.mk A50
  clear A50
  replace H := Option.bind_eq_some_iff.mp H
  obtain ⟨t678, A60, H⟩ := H
  replace H : (codewrightref11_Distance.l0 k t675 t678 0 0) = some (r1, r2) := H
  have A6 := Aside0.mk A60
  clear A60
  have H' := Aside0.mk H
  clear H
  go_enter Try.func35, Try.ntmps35
  go_wp2_with (first | ((with_reducible refine gate_dst (N := 3) rfl ?_); refine box_event ?hg (N := 3) ?hd (cs := #[.int .i64 a0_0, .int .i64 a0_1, .slice A0_2 l0_2.length c0_2]) (t := 24) ?hr ?_; (case hd => rfl); (case hg => rfl); (case hr => first | (go_simp; done) | (go_simp; rfl)); intro gb674 hg w7 hbox hb; have n0_ := Aside0.mk (below_step (by repeat (first | (with_reducible first | exact HB.out | apply below_alloc | apply pw_below_drewN | apply below_drew1) | exact HB.out)) hb); have n1_ := Aside0.mk (hbox); have n2_ := Aside0.mk ((by rw [hg]; exact (below_size (by repeat (first | (with_reducible first | exact HB.out | apply below_alloc | apply pw_below_drewN | apply below_drew1) | exact HB.out))) : w.heap.size ≤ gb674)); have n3_ := Aside0.mk ((by rw [hg]; exact (below_size (by repeat (first | (with_reducible first | exact HB.out | apply below_alloc | apply pw_below_drewN | apply below_drew1) | exact HB.out))) : w.heap.size ≤ gb674)); clear HB; have HB := n0_; have BK674 := n1_; have GW674 := n2_; have GE674 := n3_; clear n0_ n1_ n2_ n3_; clear hb hbox hg; have hcz8_0 : w7.cell? ⟨gb674, 0, none⟩ = some (.int .i64 a0_0) := (blk_cell BK674.out 0).trans rfl; have hcz8_1 : w7.cell? ⟨gb674, 1, none⟩ = some (.int .i64 a0_1) := (blk_cell BK674.out 1).trans rfl; have hcz8_2 : w7.cell? ⟨gb674, 2, none⟩ = some (.slice A0_2 l0_2.length c0_2) := (blk_cell BK674.out 2).trans rfl; have hfz8_0 := blk_frozen BK674.out 0; have hfz8_1 := blk_frozen BK674.out 1; have hfz8_2 := blk_frozen BK674.out 2) | (go_at_call 15; (with_reducible refine (codewrightref11_Clean.calls k a0_0 a0_1 _ _ l0_2 _ _ l1 t675 _ ?side1 ?side2 ?side3 ?side4 A5.out).mono ?_); (case side1 => repeat (first | exact (Kd.C_below HR0_2.out HB.out) | (with_reducible refine Kd.C_alloc ?_ _) | (with_reducible refine Kd.C_drewN ?_ _) | (with_reducible refine Kd.C_drew ?_))); (case side2 => exact HC0_2.out); (case side3 => repeat (first | exact (Kd.C_below HR1.out HB.out) | (with_reducible refine Kd.C_alloc ?_ _) | (with_reducible refine Kd.C_drewN ?_ _) | (with_reducible refine Kd.C_drew ?_))); (case side4 => exact HC1.out); rintro e w9 ⟨v676, rfl, ho0, hb⟩; have n0_ := Aside0.mk (Kd.R_lower ho0 (below_size (by repeat (first | (with_reducible first | exact HB.out | apply below_alloc | apply pw_below_drewN | apply below_drew1 | refine below_set ?_ GE674.out) | exact HB.out)))); have n1_ := Aside0.mk (blk_below (g := gb674) (o := .cells #[.int .i64 a0_0, .int .i64 a0_1, .slice A0_2 l0_2.length c0_2] 24 (0, 0)) (by (with_reducible repeat (first | refine blk_drewN ?_ _ | refine blk_drew ?_ | refine blk_alloc ?_ _)); exact BK674.out) hb); have n2_ := Aside0.mk (below_step (by repeat (first | (with_reducible first | exact HB.out | apply below_alloc | apply pw_below_drewN | apply below_drew1 | refine below_set ?_ GE674.out) | exact HB.out)) hb); clear BK674; clear HB; have HO677 := n0_; have BK674 := n1_; have HB := n2_; clear n0_ n1_ n2_; (try clear hb); (try clear hb2); (try clear hk); (try clear hi); (try clear ho0); have hcz10_0 : w9.cell? ⟨gb674, 0, none⟩ = some (.int .i64 a0_0) := (blk_cell BK674.out 0).trans rfl; have hcz10_1 : w9.cell? ⟨gb674, 1, none⟩ = some (.int .i64 a0_1) := (blk_cell BK674.out 1).trans rfl; have hcz10_2 : w9.cell? ⟨gb674, 2, none⟩ = some (.slice A0_2 l0_2.length c0_2) := (blk_cell BK674.out 2).trans rfl; have hfz10_0 := blk_frozen BK674.out 0; have hfz10_1 := blk_frozen BK674.out 1; have hfz10_2 := blk_frozen BK674.out 2) | (go_at_call 15; (with_reducible refine (codewrightref11_Clean.calls k a0_0 a0_1 _ _ l0_2 _ _ l2 t678 _ ?side1 ?side2 ?side3 ?side4 A6.out).mono ?_); (case side1 => repeat (first | exact (Kd.C_below HR0_2.out HB.out) | (with_reducible refine Kd.C_alloc ?_ _) | (with_reducible refine Kd.C_drewN ?_ _) | (with_reducible refine Kd.C_drew ?_))); (case side2 => exact HC0_2.out); (case side3 => repeat (first | exact (Kd.C_below HR2.out HB.out) | (with_reducible refine Kd.C_alloc ?_ _) | (with_reducible refine Kd.C_drewN ?_ _) | (with_reducible refine Kd.C_drew ?_))); (case side4 => exact HC2.out); rintro e w11 ⟨v679, rfl, ho0, hb⟩; have n0_ := Aside0.mk (Kd.R_elder' (by (with_reducible repeat (first | apply Kd.R_alloc | apply Kd.R_drewN | apply Kd.R_drew)); exact HO677.out) (Kd.R_base ho0) hb); have n1_ := Aside0.mk (Kd.R_lower (Kd.R_new' ho0 (Kd.R_lt (by (with_reducible repeat (first | apply Kd.R_alloc | apply Kd.R_drewN | apply Kd.R_drew)); exact HO677.out))) (below_size (by repeat (first | (with_reducible first | exact HB.out | apply below_alloc | apply pw_below_drewN | apply below_drew1 | refine below_set ?_ GE674.out) | exact HB.out)))); have n2_ := Aside0.mk (blk_below (g := gb674) (o := .cells #[.int .i64 a0_0, .int .i64 a0_1, .slice A0_2 l0_2.length c0_2] 24 (0, 0)) (by (with_reducible repeat (first | refine blk_drewN ?_ _ | refine blk_drew ?_ | refine blk_alloc ?_ _)); exact BK674.out) hb); have n3_ := Aside0.mk (below_step (by repeat (first | (with_reducible first | exact HB.out | apply below_alloc | apply pw_below_drewN | apply below_drew1 | refine below_set ?_ GE674.out) | exact HB.out)) hb); clear HO677; clear BK674; clear HB; have HO677 := n0_; have HO680 := n1_; have BK674 := n2_; have HB := n3_; clear n0_ n1_ n2_ n3_; (try clear hb); (try clear hb2); (try clear hk); (try clear hi); (try clear ho0)))
  repeat (go_quiet (first | ((with_reducible refine gate_dst (N := 3) rfl ?_); refine box_event ?hg (N := 3) ?hd (cs := #[.int .i64 a0_0, .int .i64 a0_1, .slice A0_2 l0_2.length c0_2]) (t := 24) ?hr ?_; (case hd => rfl); (case hg => rfl); (case hr => first | (go_simp; done) | (go_simp; rfl)); intro gb674 hg w7 hbox hb; have n0_ := Aside0.mk (below_step (by repeat (first | (with_reducible first | exact HB.out | apply below_alloc | apply pw_below_drewN | apply below_drew1) | exact HB.out)) hb); have n1_ := Aside0.mk (hbox); have n2_ := Aside0.mk ((by rw [hg]; exact (below_size (by repeat (first | (with_reducible first | exact HB.out | apply below_alloc | apply pw_below_drewN | apply below_drew1) | exact HB.out))) : w.heap.size ≤ gb674)); have n3_ := Aside0.mk ((by rw [hg]; exact (below_size (by repeat (first | (with_reducible first | exact HB.out | apply below_alloc | apply pw_below_drewN | apply below_drew1) | exact HB.out))) : w.heap.size ≤ gb674)); clear HB; have HB := n0_; have BK674 := n1_; have GW674 := n2_; have GE674 := n3_; clear n0_ n1_ n2_ n3_; clear hb hbox hg; have hcz8_0 : w7.cell? ⟨gb674, 0, none⟩ = some (.int .i64 a0_0) := (blk_cell BK674.out 0).trans rfl; have hcz8_1 : w7.cell? ⟨gb674, 1, none⟩ = some (.int .i64 a0_1) := (blk_cell BK674.out 1).trans rfl; have hcz8_2 : w7.cell? ⟨gb674, 2, none⟩ = some (.slice A0_2 l0_2.length c0_2) := (blk_cell BK674.out 2).trans rfl; have hfz8_0 := blk_frozen BK674.out 0; have hfz8_1 := blk_frozen BK674.out 1; have hfz8_2 := blk_frozen BK674.out 2) | (go_at_call 15; (with_reducible refine (codewrightref11_Clean.calls k a0_0 a0_1 _ _ l0_2 _ _ l1 t675 _ ?side1 ?side2 ?side3 ?side4 A5.out).mono ?_); (case side1 => repeat (first | exact (Kd.C_below HR0_2.out HB.out) | (with_reducible refine Kd.C_alloc ?_ _) | (with_reducible refine Kd.C_drewN ?_ _) | (with_reducible refine Kd.C_drew ?_))); (case side2 => exact HC0_2.out); (case side3 => repeat (first | exact (Kd.C_below HR1.out HB.out) | (with_reducible refine Kd.C_alloc ?_ _) | (with_reducible refine Kd.C_drewN ?_ _) | (with_reducible refine Kd.C_drew ?_))); (case side4 => exact HC1.out); rintro e w9 ⟨v676, rfl, ho0, hb⟩; have n0_ := Aside0.mk (Kd.R_lower ho0 (below_size (by repeat (first | (with_reducible first | exact HB.out | apply below_alloc | apply pw_below_drewN | apply below_drew1 | refine below_set ?_ GE674.out) | exact HB.out)))); have n1_ := Aside0.mk (blk_below (g := gb674) (o := .cells #[.int .i64 a0_0, .int .i64 a0_1, .slice A0_2 l0_2.length c0_2] 24 (0, 0)) (by (with_reducible repeat (first | refine blk_drewN ?_ _ | refine blk_drew ?_ | refine blk_alloc ?_ _)); exact BK674.out) hb); have n2_ := Aside0.mk (below_step (by repeat (first | (with_reducible first | exact HB.out | apply below_alloc | apply pw_below_drewN | apply below_drew1 | refine below_set ?_ GE674.out) | exact HB.out)) hb); clear BK674; clear HB; have HO677 := n0_; have BK674 := n1_; have HB := n2_; clear n0_ n1_ n2_; (try clear hb); (try clear hb2); (try clear hk); (try clear hi); (try clear ho0); have hcz10_0 : w9.cell? ⟨gb674, 0, none⟩ = some (.int .i64 a0_0) := (blk_cell BK674.out 0).trans rfl; have hcz10_1 : w9.cell? ⟨gb674, 1, none⟩ = some (.int .i64 a0_1) := (blk_cell BK674.out 1).trans rfl; have hcz10_2 : w9.cell? ⟨gb674, 2, none⟩ = some (.slice A0_2 l0_2.length c0_2) := (blk_cell BK674.out 2).trans rfl; have hfz10_0 := blk_frozen BK674.out 0; have hfz10_1 := blk_frozen BK674.out 1; have hfz10_2 := blk_frozen BK674.out 2) | (go_at_call 15; (with_reducible refine (codewrightref11_Clean.calls k a0_0 a0_1 _ _ l0_2 _ _ l2 t678 _ ?side1 ?side2 ?side3 ?side4 A6.out).mono ?_); (case side1 => repeat (first | exact (Kd.C_below HR0_2.out HB.out) | (with_reducible refine Kd.C_alloc ?_ _) | (with_reducible refine Kd.C_drewN ?_ _) | (with_reducible refine Kd.C_drew ?_))); (case side2 => exact HC0_2.out); (case side3 => repeat (first | exact (Kd.C_below HR2.out HB.out) | (with_reducible refine Kd.C_alloc ?_ _) | (with_reducible refine Kd.C_drewN ?_ _) | (with_reducible refine Kd.C_drew ?_))); (case side4 => exact HC2.out); rintro e w11 ⟨v679, rfl, ho0, hb⟩; have n0_ := Aside0.mk (Kd.R_elder' (by (with_reducible repeat (first | apply Kd.R_alloc | apply Kd.R_drewN | apply Kd.R_drew)); exact HO677.out) (Kd.R_base ho0) hb); have n1_ := Aside0.mk (Kd.R_lower (Kd.R_new' ho0 (Kd.R_lt (by (with_reducible repeat (first | apply Kd.R_alloc | apply Kd.R_drewN | apply Kd.R_drew)); exact HO677.out))) (below_size (by repeat (first | (with_reducible first | exact HB.out | apply below_alloc | apply pw_below_drewN | apply below_drew1 | refine below_set ?_ GE674.out) | exact HB.out)))); have n2_ := Aside0.mk (blk_below (g := gb674) (o := .cells #[.int .i64 a0_0, .int .i64 a0_1, .slice A0_2 l0_2.length c0_2] 24 (0, 0)) (by (with_reducible repeat (first | refine blk_drewN ?_ _ | refine blk_drew ?_ | refine blk_alloc ?_ _)); exact BK674.out) hb); have n3_ := Aside0.mk (below_step (by repeat (first | (with_reducible first | exact HB.out | apply below_alloc | apply pw_below_drewN | apply below_drew1 | refine below_set ?_ GE674.out) | exact HB.out)) hb); clear HO677; clear BK674; clear HB; have HO677 := n0_; have HO680 := n1_; have BK674 := n2_; have HB := n3_; clear n0_ n1_ n2_ n3_; (try clear hb); (try clear hb2); (try clear hk); (try clear hi); (try clear ho0))); try go_wp2_with (first | ((with_reducible refine gate_dst (N := 3) rfl ?_); refine box_event ?hg (N := 3) ?hd (cs := #[.int .i64 a0_0, .int .i64 a0_1, .slice A0_2 l0_2.length c0_2]) (t := 24) ?hr ?_; (case hd => rfl); (case hg => rfl); (case hr => first | (go_simp; done) | (go_simp; rfl)); intro gb674 hg w7 hbox hb; have n0_ := Aside0.mk (below_step (by repeat (first | (with_reducible first | exact HB.out | apply below_alloc | apply pw_below_drewN | apply below_drew1) | exact HB.out)) hb); have n1_ := Aside0.mk (hbox); have n2_ := Aside0.mk ((by rw [hg]; exact (below_size (by repeat (first | (with_reducible first | exact HB.out | apply below_alloc | apply pw_below_drewN | apply below_drew1) | exact HB.out))) : w.heap.size ≤ gb674)); have n3_ := Aside0.mk ((by rw [hg]; exact (below_size (by repeat (first | (with_reducible first | exact HB.out | apply below_alloc | apply pw_below_drewN | apply below_drew1) | exact HB.out))) : w.heap.size ≤ gb674)); clear HB; have HB := n0_; have BK674 := n1_; have GW674 := n2_; have GE674 := n3_; clear n0_ n1_ n2_ n3_; clear hb hbox hg; have hcz8_0 : w7.cell? ⟨gb674, 0, none⟩ = some (.int .i64 a0_0) := (blk_cell BK674.out 0).trans rfl; have hcz8_1 : w7.cell? ⟨gb674, 1, none⟩ = some (.int .i64 a0_1) := (blk_cell BK674.out 1).trans rfl; have hcz8_2 : w7.cell? ⟨gb674, 2, none⟩ = some (.slice A0_2 l0_2.length c0_2) := (blk_cell BK674.out 2).trans rfl; have hfz8_0 := blk_frozen BK674.out 0; have hfz8_1 := blk_frozen BK674.out 1; have hfz8_2 := blk_frozen BK674.out 2) | (go_at_call 15; (with_reducible refine (codewrightref11_Clean.calls k a0_0 a0_1 _ _ l0_2 _ _ l1 t675 _ ?side1 ?side2 ?side3 ?side4 A5.out).mono ?_); (case side1 => repeat (first | exact (Kd.C_below HR0_2.out HB.out) | (with_reducible refine Kd.C_alloc ?_ _) | (with_reducible refine Kd.C_drewN ?_ _) | (with_reducible refine Kd.C_drew ?_))); (case side2 => exact HC0_2.out); (case side3 => repeat (first | exact (Kd.C_below HR1.out HB.out) | (with_reducible refine Kd.C_alloc ?_ _) | (with_reducible refine Kd.C_drewN ?_ _) | (with_reducible refine Kd.C_drew ?_))); (case side4 => exact HC1.out); rintro e w9 ⟨v676, rfl, ho0, hb⟩; have n0_ := Aside0.mk (Kd.R_lower ho0 (below_size (by repeat (first | (with_reducible first | exact HB.out | apply below_alloc | apply pw_below_drewN | apply below_drew1 | refine below_set ?_ GE674.out) | exact HB.out)))); have n1_ := Aside0.mk (blk_below (g := gb674) (o := .cells #[.int .i64 a0_0, .int .i64 a0_1, .slice A0_2 l0_2.length c0_2] 24 (0, 0)) (by (with_reducible repeat (first | refine blk_drewN ?_ _ | refine blk_drew ?_ | refine blk_alloc ?_ _)); exact BK674.out) hb); have n2_ := Aside0.mk (below_step (by repeat (first | (with_reducible first | exact HB.out | apply below_alloc | apply pw_below_drewN | apply below_drew1 | refine below_set ?_ GE674.out) | exact HB.out)) hb); clear BK674; clear HB; have HO677 := n0_; have BK674 := n1_; have HB := n2_; clear n0_ n1_ n2_; (try clear hb); (try clear hb2); (try clear hk); (try clear hi); (try clear ho0); have hcz10_0 : w9.cell? ⟨gb674, 0, none⟩ = some (.int .i64 a0_0) := (blk_cell BK674.out 0).trans rfl; have hcz10_1 : w9.cell? ⟨gb674, 1, none⟩ = some (.int .i64 a0_1) := (blk_cell BK674.out 1).trans rfl; have hcz10_2 : w9.cell? ⟨gb674, 2, none⟩ = some (.slice A0_2 l0_2.length c0_2) := (blk_cell BK674.out 2).trans rfl; have hfz10_0 := blk_frozen BK674.out 0; have hfz10_1 := blk_frozen BK674.out 1; have hfz10_2 := blk_frozen BK674.out 2) | (go_at_call 15; (with_reducible refine (codewrightref11_Clean.calls k a0_0 a0_1 _ _ l0_2 _ _ l2 t678 _ ?side1 ?side2 ?side3 ?side4 A6.out).mono ?_); (case side1 => repeat (first | exact (Kd.C_below HR0_2.out HB.out) | (with_reducible refine Kd.C_alloc ?_ _) | (with_reducible refine Kd.C_drewN ?_ _) | (with_reducible refine Kd.C_drew ?_))); (case side2 => exact HC0_2.out); (case side3 => repeat (first | exact (Kd.C_below HR2.out HB.out) | (with_reducible refine Kd.C_alloc ?_ _) | (with_reducible refine Kd.C_drewN ?_ _) | (with_reducible refine Kd.C_drew ?_))); (case side4 => exact HC2.out); rintro e w11 ⟨v679, rfl, ho0, hb⟩; have n0_ := Aside0.mk (Kd.R_elder' (by (with_reducible repeat (first | apply Kd.R_alloc | apply Kd.R_drewN | apply Kd.R_drew)); exact HO677.out) (Kd.R_base ho0) hb); have n1_ := Aside0.mk (Kd.R_lower (Kd.R_new' ho0 (Kd.R_lt (by (with_reducible repeat (first | apply Kd.R_alloc | apply Kd.R_drewN | apply Kd.R_drew)); exact HO677.out))) (below_size (by repeat (first | (with_reducible first | exact HB.out | apply below_alloc | apply pw_below_drewN | apply below_drew1 | refine below_set ?_ GE674.out) | exact HB.out)))); have n2_ := Aside0.mk (blk_below (g := gb674) (o := .cells #[.int .i64 a0_0, .int .i64 a0_1, .slice A0_2 l0_2.length c0_2] 24 (0, 0)) (by (with_reducible repeat (first | refine blk_drewN ?_ _ | refine blk_drew ?_ | refine blk_alloc ?_ _)); exact BK674.out) hb); have n3_ := Aside0.mk (below_step (by repeat (first | (with_reducible first | exact HB.out | apply below_alloc | apply pw_below_drewN | apply below_drew1 | refine below_set ?_ GE674.out) | exact HB.out)) hb); clear HO677; clear BK674; clear HB; have HO677 := n0_; have HO680 := n1_; have BK674 := n2_; have HB := n3_; clear n0_ n1_ n2_ n3_; (try clear hb); (try clear hb2); (try clear hk); (try clear hi); (try clear ho0))))
  go_loopg [10, 11] k (fun kq v10 v11 w' => ∃ (x10_1 : Int) (x11_1 : Int), v10 = .int .i64 x10_1 ∧ v11 = .int .i64 x11_1 ∧ Aside0 (codewrightref11_Distance.l0 kq t675 t678 x10_1 x11_1 = some (r1, r2)) ∧ Aside0 (kq ≤ k) ∧ Aside0 (Kd.R (Kd.int .i64) 3 w' w.heap.size (fun k_ => some k_ ≠ (v679 : Value).ownBlock) v676 t675) ∧ Aside0 (Kd.R (Kd.int .i64) 3 w' w.heap.size (fun k_ => some k_ ≠ (v676 : Value).ownBlock) v679 t678) ∧ Aside0 (w'.heap[gb674]? = some (.cells #[.int .i64 a0_0, .int .i64 a0_1, (.slice A0_2 l0_2.length c0_2)] 24 (0, 0))) ∧ Aside0 (Below w.heap.size w w'))
  case atStart => exact ⟨(0), (0), (by first | rfl | (simp; done) | (simp [*]; done)), (by first | rfl | (simp; done) | (simp [*]; done)), H', ⟨Nat.le_refl _⟩, ⟨by (with_reducible repeat (first | apply Kd.R_alloc | apply Kd.R_drewN | apply Kd.R_drew)); exact Kd.R_mono HO677.out (fun _ hk => hk.2)⟩, ⟨by (with_reducible repeat (first | apply Kd.R_alloc | apply Kd.R_drewN | apply Kd.R_drew)); exact Kd.R_mono HO680.out (fun _ hk => hk.2)⟩, ⟨by (with_reducible repeat (first | refine blk_drewN ?_ _ | refine blk_drew ?_ | refine blk_alloc ?_ _)); exact BK674.out⟩, ⟨by repeat (first | (with_reducible first | exact HB.out | apply below_alloc | apply pw_below_drewN | apply below_drew1 | refine below_set ?_ GE674.out) | exact HB.out)⟩⟩
  case round =>
   clear H'
   try clear c1
   try clear c2
   try clear p2
   try clear c3
   try clear c4
   try clear c4b0
   try clear c4b1
   try clear c4b2
   try clear hcz10_0
   try clear hcz10_1
   try clear hcz10_2
   try clear hcz8_0
   try clear hcz8_1
   try clear hcz8_2
   try clear hfz10_0
   try clear hfz10_1
   try clear hfz10_2
   try clear hfz8_0
   try clear hfz8_1
   try clear hfz8_2
   obtain ⟨x10_1, x11_1, rfl, rfl, HA, HK1, HO_8, HO_9, BK674, HB⟩ := hrel
   cases gk with
   | zero => exact absurd HA.out (by simp [codewrightref11_Distance.l0])
   | succ k1 =>
    have H := HA.out
    clear HA
    simp only [codewrightref11_Distance.l0] at H
    by_cases c12 : x11_1 < (t675.length : Int)
    ·rw [if_pos c12] at H
     have c12b0 : decide (x11_1 < (t675.length : Int)) = true := decide_eq_true c12
     clear c12
     by_cases c13 : 0 ≤ x11_1
     ·rw [if_pos c13] at H
      have c13b0 : decide (0 ≤ x11_1) = true := decide_eq_true c13
      clear c13
      by_cases c14 : x11_1 < (t678.length : Int)
      ·rw [if_pos c14] at H
       have c14b0 : decide (x11_1 < (t678.length : Int)) = true := decide_eq_true c14
       clear c14
       by_cases c15 : (rd t675 x11_1) = (rd t678 x11_1)
       ·rw [if_pos c15] at H
        have c15b0 : ((rd t675 x11_1) == (rd t678 x11_1)) = true := beq_iff_eq.mpr c15
        have c15b1 : ((rd t675 x11_1) != (rd t678 x11_1)) = false := bne_eq_false_iff_eq.mpr c15
        clear c15
        have H' := Aside0.mk H
        clear H
        obtain ⟨Ao16, co16, eo16⟩ := Kd.R_slice HO_8.out
        subst eo16
        have p681 : 0 ≤ (x11_1 : Int) := of_decide_eq_true (by first | (with_reducible assumption) | assumption)
        have q681 : x11_1 < (t675.length : Int) := of_decide_eq_true (by first | (with_reducible assumption) | assumption)
        obtain ⟨ad681, e681, hx681_0⟩ := Kd.at_int (Kd.R_reads' HO_8.out).2.2 x11_1 p681 q681
        cases e681
        replace p681 := eq_true p681
        replace q681 := eq_true q681
        obtain ⟨Ao17, co17, eo17⟩ := Kd.R_slice HO_9.out
        subst eo17
        have p682 : 0 ≤ (x11_1 : Int) := of_decide_eq_true (by first | (with_reducible assumption) | assumption)
        have q682 : x11_1 < (t678.length : Int) := of_decide_eq_true (by first | (with_reducible assumption) | assumption)
        obtain ⟨ad682, e682, hx682_0⟩ := Kd.at_int (Kd.R_reads' HO_9.out).2.2 x11_1 p682 q682
        cases e682
        replace p682 := eq_true p682
        replace q682 := eq_true q682
        go_wp2
        repeat (go_quiet (fail); try go_wp2)
        go_roundg k1
        case measure => have := HK1.out; omega
        case rel => exact ⟨(x10_1), (wrap64 (x11_1 + 1)), (by first | rfl | (simp; done) | (simp [*]; done)), (by first | rfl | (simp; done) | (simp [*]; done)), H', ⟨by have := HK1.out; omega⟩, ⟨by (with_reducible repeat (first | apply Kd.R_alloc | apply Kd.R_drewN | apply Kd.R_drew)); exact HO_8.out⟩, ⟨by (with_reducible repeat (first | apply Kd.R_alloc | apply Kd.R_drewN | apply Kd.R_drew)); exact HO_9.out⟩, ⟨by (with_reducible repeat (first | refine blk_drewN ?_ _ | refine blk_drew ?_ | refine blk_alloc ?_ _)); exact BK674.out⟩, ⟨by repeat (first | (with_reducible first | exact HB.out | apply below_alloc | apply pw_below_drewN | apply below_drew1 | refine below_set ?_ GE674.out) | exact HB.out)⟩⟩
       ·rw [if_neg c15] at H
        have c15b0 : ((rd t675 x11_1) == (rd t678 x11_1)) = false := beq_eq_false_iff_ne.mpr c15
        have c15b1 : ((rd t675 x11_1) != (rd t678 x11_1)) = true := bne_iff_ne.mpr c15
        have H' := Aside0.mk H
        clear H
        obtain ⟨Ao18, co18, eo18⟩ := Kd.R_slice HO_8.out
        subst eo18
        have p681 : 0 ≤ (x11_1 : Int) := of_decide_eq_true (by first | (with_reducible assumption) | assumption)
        have q681 : x11_1 < (t675.length : Int) := of_decide_eq_true (by first | (with_reducible assumption) | assumption)
        obtain ⟨ad681, e681, hx681_0⟩ := Kd.at_int (Kd.R_reads' HO_8.out).2.2 x11_1 p681 q681
        cases e681
        replace p681 := eq_true p681
        replace q681 := eq_true q681
        obtain ⟨Ao19, co19, eo19⟩ := Kd.R_slice HO_9.out
        subst eo19
        have p682 : 0 ≤ (x11_1 : Int) := of_decide_eq_true (by first | (with_reducible assumption) | assumption)
        have q682 : x11_1 < (t678.length : Int) := of_decide_eq_true (by first | (with_reducible assumption) | assumption)
        obtain ⟨ad682, e682, hx682_0⟩ := Kd.at_int (Kd.R_reads' HO_9.out).2.2 x11_1 p682 q682
        cases e682
        replace p682 := eq_true p682
        replace q682 := eq_true q682
        go_wp2
        repeat (go_quiet (fail); try go_wp2)
        go_roundg k1
        case measure => have := HK1.out; omega
        case rel => exact ⟨(wrap64 (x10_1 + 1)), (wrap64 (x11_1 + 1)), (by first | rfl | (simp; done) | (simp [*]; done)), (by first | rfl | (simp; done) | (simp [*]; done)), H', ⟨by have := HK1.out; omega⟩, ⟨by (with_reducible repeat (first | apply Kd.R_alloc | apply Kd.R_drewN | apply Kd.R_drew)); exact HO_8.out⟩, ⟨by (with_reducible repeat (first | apply Kd.R_alloc | apply Kd.R_drewN | apply Kd.R_drew)); exact HO_9.out⟩, ⟨by (with_reducible repeat (first | refine blk_drewN ?_ _ | refine blk_drew ?_ | refine blk_alloc ?_ _)); exact BK674.out⟩, ⟨by repeat (first | (with_reducible first | exact HB.out | apply below_alloc | apply pw_below_drewN | apply below_drew1 | refine below_set ?_ GE674.out) | exact HB.out)⟩⟩
      ·rw [if_neg c14] at H
       exact absurd H (by simp)
     ·rw [if_neg c13] at H
      exact absurd H (by simp)
    ·rw [if_neg c12] at H
     have c12b0 : decide (x11_1 < (t675.length : Int)) = false := decide_eq_false c12
     clear c12
     simp only [Option.some.injEq, Prod.mk.injEq] at H
     obtain ⟨rfl, rfl⟩ := H
     obtain ⟨Ao20, co20, eo20⟩ := Kd.R_slice HO_8.out
     subst eo20
     go_wp2
     repeat (go_quiet (fail); try go_wp2)
     go_ret2
     exact ⟨by first | rfl | (simp [errW_none, errW_some] <;> rfl) | (simp [*, errW_none, errW_some] <;> rfl), by repeat (first | (with_reducible first | exact HB.out | apply below_alloc | apply pw_below_drewN | apply below_drew1 | refine below_set ?_ GE674.out) | exact HB.out)⟩
 ·rw [if_neg c4] at H
  have c4b0 : ((l1.length : Int) == (l2.length : Int)) = false := beq_eq_false_iff_ne.mpr c4
  have c4b1 : ((l1.length : Int) != (l2.length : Int)) = true := bne_iff_ne.mpr c4
  have c4b2 : (l1.length == l2.length) = false := by first | simpa using c4 | (simp at c4 ⊢; omega)
  simp only [Option.some.injEq, Prod.mk.injEq] at H
  obtain ⟨rfl, rfl⟩ := H
  go_enter Try.func35, Try.ntmps35
  go_wp2_with (first | ((with_reducible refine gate_dst (N := 3) rfl ?_); refine box_event ?hg (N := 3) ?hd (cs := #[.int .i64 a0_0, .int .i64 a0_1, .slice A0_2 l0_2.length c0_2]) (t := 24) ?hr ?_; (case hd => rfl); (case hg => rfl); (case hr => first | (go_simp; done) | (go_simp; rfl)); intro gb674 hg w21 hbox hb; have n0_ := Aside0.mk (below_step (by repeat (first | (with_reducible first | exact HB.out | apply below_alloc | apply pw_below_drewN | apply below_drew1) | exact HB.out)) hb); have n1_ := Aside0.mk (hbox); have n2_ := Aside0.mk ((by rw [hg]; exact (below_size (by repeat (first | (with_reducible first | exact HB.out | apply below_alloc | apply pw_below_drewN | apply below_drew1) | exact HB.out))) : w.heap.size ≤ gb674)); have n3_ := Aside0.mk ((by rw [hg]; exact (below_size (by repeat (first | (with_reducible first | exact HB.out | apply below_alloc | apply pw_below_drewN | apply below_drew1) | exact HB.out))) : w.heap.size ≤ gb674)); clear HB; have HB := n0_; have BK674 := n1_; have GW674 := n2_; have GE674 := n3_; clear n0_ n1_ n2_ n3_; clear hb hbox hg))
  repeat (go_quiet (first | ((with_reducible refine gate_dst (N := 3) rfl ?_); refine box_event ?hg (N := 3) ?hd (cs := #[.int .i64 a0_0, .int .i64 a0_1, .slice A0_2 l0_2.length c0_2]) (t := 24) ?hr ?_; (case hd => rfl); (case hg => rfl); (case hr => first | (go_simp; done) | (go_simp; rfl)); intro gb674 hg w21 hbox hb; have n0_ := Aside0.mk (below_step (by repeat (first | (with_reducible first | exact HB.out | apply below_alloc | apply pw_below_drewN | apply below_drew1) | exact HB.out)) hb); have n1_ := Aside0.mk (hbox); have n2_ := Aside0.mk ((by rw [hg]; exact (below_size (by repeat (first | (with_reducible first | exact HB.out | apply below_alloc | apply pw_below_drewN | apply below_drew1) | exact HB.out))) : w.heap.size ≤ gb674)); have n3_ := Aside0.mk ((by rw [hg]; exact (below_size (by repeat (first | (with_reducible first | exact HB.out | apply below_alloc | apply pw_below_drewN | apply below_drew1) | exact HB.out))) : w.heap.size ≤ gb674)); clear HB; have HB := n0_; have BK674 := n1_; have GW674 := n2_; have GE674 := n3_; clear n0_ n1_ n2_ n3_; clear hb hbox hg)); try go_wp2_with (first | ((with_reducible refine gate_dst (N := 3) rfl ?_); refine box_event ?hg (N := 3) ?hd (cs := #[.int .i64 a0_0, .int .i64 a0_1, .slice A0_2 l0_2.length c0_2]) (t := 24) ?hr ?_; (case hd => rfl); (case hg => rfl); (case hr => first | (go_simp; done) | (go_simp; rfl)); intro gb674 hg w21 hbox hb; have n0_ := Aside0.mk (below_step (by repeat (first | (with_reducible first | exact HB.out | apply below_alloc | apply pw_below_drewN | apply below_drew1) | exact HB.out)) hb); have n1_ := Aside0.mk (hbox); have n2_ := Aside0.mk ((by rw [hg]; exact (below_size (by repeat (first | (with_reducible first | exact HB.out | apply below_alloc | apply pw_below_drewN | apply below_drew1) | exact HB.out))) : w.heap.size ≤ gb674)); have n3_ := Aside0.mk ((by rw [hg]; exact (below_size (by repeat (first | (with_reducible first | exact HB.out | apply below_alloc | apply pw_below_drewN | apply below_drew1) | exact HB.out))) : w.heap.size ≤ gb674)); clear HB; have HB := n0_; have BK674 := n1_; have GW674 := n2_; have GE674 := n3_; clear n0_ n1_ n2_ n3_; clear hb hbox hg)))
  go_ret2
  exact ⟨by first | rfl | (simp [errW_none, errW_some] <;> rfl) | (simp [*, errW_none, errW_some] <;> rfl), by repeat (first | (with_reducible first | exact HB.out | apply below_alloc | apply pw_below_drewN | apply below_drew1 | refine below_set ?_ GE674.out) | exact HB.out)⟩

end Go.Proofs.Ythgaihhlbgccoaa.Q
