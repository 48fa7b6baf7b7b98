-- Joined by pack.py, a program of this work: Qx26 Qx27 Qx28 Qx29
import Derived.Test.YthgaihhlbgccoaaZQa
import Derived.Test.YthgaihhlbgccoaaZQb
import Derived.Test.YthgaihhlbgccoaaZQd
-- Written by a program of this work over the kit's printer; Lean checks it.
namespace Go.Proofs.Ythgaihhlbgccoaa.Q
open Go.RowKit Go.Proofs.YthgaihhlbgccoaaW.PrintWords Go.Proofs.YthgaihhlbgccoaaW.PrintLast Go.Proofs.YthgaihhlbgccoaaW.PrintMore
attribute [local go_sem] max2_int min2_int max_two min_two max_three min_three max_four min_four   -- for this text's walks alone
set_option linter.unusedVariables false
set_option linter.unusedSimpArgs false

/-! ### field_GF_in: function 64 -/
def field_GF_in.f (s0_0 : Int) (s0_1 : Int) (s0_2 : List Int) (s0_3 : Int) (s0_4 : List Int) (s0_5 : List Int) (a1 : Int) : Option (Int × Int × Int × Int) := (field_GF_Is.f s0_0 s0_1 s0_2 s0_3 s0_4 s0_5 a1).bind fun bt245 => (if bt245.1 = true then (some (a1, bt245.2.1, bt245.2.2.1, bt245.2.2.2)) else (some (0, bt245.2.1, bt245.2.2.1, bt245.2.2.2)))
set_option maxHeartbeats 8000000 in
set_option maxRecDepth 100000 in
theorem field_GF_in.calls (g : Nat) (s0_0 : Int) (s0_1 : Int) (s0_2 : List Int) (s0_3 : Int) (s0_4 : List Int) (s0_5 : List Int) (a1 : Int) (r1 : Int) (r2 : Int) (r3 : Int) (r4 : Int) (w0 w : World) (hI : IsS87 w0 w g s0_0 s0_1 s0_2 s0_3 s0_4 s0_5) (hB : Below w0.heap.size w0 w) (h : field_GF_in.f s0_0 s0_1 s0_2 s0_3 s0_4 s0_5 a1 = some (r1, r2, r3, r4)) :
  Calls Try.prog 64 #[.pointer (some ⟨g, 0, none⟩), .int .i64 a1] w fun e w' => e = .returned (.int .i64 r1) ∧ IsS87 w0 w' g r2 r3 s0_2 r4 s0_4 s0_5 ∧ Below w0.heap.size w0 w' ∧ KeepBut w w' g none := by
 have HI0 := Aside0.mk hI
 have HK := Aside0.mk (KeepBut.refl w g none)
 have HL := Aside0.mk hB.size
 clear hI
 have HW0 := Aside0.mk hB.size
 have HB := Aside0.mk hB
 clear hB
 have H : ((field_GF_Is.f s0_0 s0_1 s0_2 s0_3 s0_4 s0_5 a1).bind fun bt245 => (if bt245.1 = true then (some (a1, bt245.2.1, bt245.2.2.1, bt245.2.2.2)) else (some (0, bt245.2.1, bt245.2.2.1, bt245.2.2.2)))) = some (r1, r2, r3, r4) := h
 clear h
 replace H := Option.bind_eq_some_iff.mp H
 obtain ⟨⟨t245, t246, t247, t248⟩, A30, H⟩ := H
 replace H : (if t245 = true then (some (a1, t246, t247, t248)) else (some (0, t246, t247, t248))) = some (r1, r2, r3, r4) := H
 have A3 := Aside0.mk A30
 clear A30
 by_cases c4 : t245 = true
 ·subst c4
  have H1 : (some (a1, t246, t247, t248)) = some (r1, r2, r3, r4) := by rw [if_pos rfl] at H; exact H
  clear H
  have H := H1
  clear H1
  simp only [Option.some.injEq, Prod.mk.injEq] at H
  obtain ⟨rfl, rfl, rfl, rfl⟩ := H
  go_enter Try.func64, Try.ntmps64
  go_wp2_with (first | ((with_reducible refine gate_callee (f := 42) rfl ?_); refine goesL_ (some 7) rfl rfl Try.func42 (by kernel_rfl) rfl #[.pointer (some ⟨g, 0, none⟩), .int .i64 a1] rfl (by (try simp only [List.map_toArray, List.map_cons, List.map_nil]); first | done | rfl | (simp only [List.length_drop, List.length_take]; rfl)) ?_; (with_reducible refine (field_GF_Is.calls g s0_0 s0_1 s0_2 s0_3 s0_4 s0_5 a1 true t246 t247 t248 w0 _ ?side1 ?side2 A3.out).mono ?_); (case side1 => repeat (first | (with_reducible first | exact HI0.out | apply IsS87.alloc | apply IsS87.drewN | apply IsS87.drew | apply IsS87.set_0 | apply IsS87.set_1 | apply IsS87.set_3) | exact HI0.out)); (case side2 => repeat (first | (with_reducible first | exact HB.out | apply below_alloc | apply pw_below_drewN | apply below_drew1 | refine below_set ?_ (IsS87.ge HI0.out)) | exact HB.out)); rintro e w5 ⟨rfl, hi, hb, hk⟩; refine ⟨_, rfl, ?_⟩; have n0_ := Aside0.mk (KeepBut.trans (by repeat (first | (with_reducible first | exact HK.out | apply KeepBut.set_ | apply keep_drewN | apply keep_drew | apply keep_alloc) | exact HK.out)) hk (.inl rfl)); have n1_ := Aside0.mk (hb); have n2_ := Aside0.mk (hi); clear HK; clear HB; clear HI0; have HK := n0_; have HB := n1_; have HI0 := n2_; clear n0_ n1_ n2_; (try clear hb); (try clear hb2); (try clear hk); (try clear hi)))
  go_ret
  exact ⟨by first | rfl | (simp [errW_none, errW_some] <;> rfl) | (simp [*, errW_none, errW_some] <;> rfl), by repeat (first | (with_reducible first | exact HI0.out | apply IsS87.alloc | apply IsS87.drewN | apply IsS87.drew | apply IsS87.set_0 | apply IsS87.set_1 | apply IsS87.set_3) | exact HI0.out), by repeat (first | (with_reducible first | exact HB.out | apply below_alloc | apply pw_below_drewN | apply below_drew1 | refine below_set ?_ (IsS87.ge HI0.out)) | exact HB.out), by repeat (first | (with_reducible first | exact HK.out | apply KeepBut.set_ | apply keep_drewN | apply keep_drew | apply keep_alloc) | exact HK.out)⟩
 ·replace c4 := Bool.eq_false_iff.mpr c4
  subst c4
  have H1 : (some (0, t246, t247, t248)) = some (r1, r2, r3, r4) := by rw [if_neg (show ¬ (false = true) by decide)] at H; exact H
  clear H
  have H := H1
  clear H1
  simp only [Option.some.injEq, Prod.mk.injEq] at H
  obtain ⟨rfl, rfl, rfl, rfl⟩ := H
  go_enter Try.func64, Try.ntmps64
  go_wp2_with (first | ((with_reducible refine gate_callee (f := 42) rfl ?_); refine goesL_ (some 7) rfl rfl Try.func42 (by kernel_rfl) rfl #[.pointer (some ⟨g, 0, none⟩), .int .i64 a1] rfl (by (try simp only [List.map_toArray, List.map_cons, List.map_nil]); first | done | rfl | (simp only [List.length_drop, List.length_take]; rfl)) ?_; (with_reducible refine (field_GF_Is.calls g s0_0 s0_1 s0_2 s0_3 s0_4 s0_5 a1 false t246 t247 t248 w0 _ ?side1 ?side2 A3.out).mono ?_); (case side1 => repeat (first | (with_reducible first | exact HI0.out | apply IsS87.alloc | apply IsS87.drewN | apply IsS87.drew | apply IsS87.set_0 | apply IsS87.set_1 | apply IsS87.set_3) | exact HI0.out)); (case side2 => repeat (first | (with_reducible first | exact HB.out | apply below_alloc | apply pw_below_drewN | apply below_drew1 | refine below_set ?_ (IsS87.ge HI0.out)) | exact HB.out)); rintro e w6 ⟨rfl, hi, hb, hk⟩; refine ⟨_, rfl, ?_⟩; have n0_ := Aside0.mk (KeepBut.trans (by repeat (first | (with_reducible first | exact HK.out | apply KeepBut.set_ | apply keep_drewN | apply keep_drew | apply keep_alloc) | exact HK.out)) hk (.inl rfl)); have n1_ := Aside0.mk (hb); have n2_ := Aside0.mk (hi); clear HK; clear HB; clear HI0; have HK := n0_; have HB := n1_; have HI0 := n2_; clear n0_ n1_ n2_; (try clear hb); (try clear hb2); (try clear hk); (try clear hi)))
  go_ret
  exact ⟨by first | rfl | (simp [errW_none, errW_some] <;> rfl) | (simp [*, errW_none, errW_some] <;> rfl), by repeat (first | (with_reducible first | exact HI0.out | apply IsS87.alloc | apply IsS87.drewN | apply IsS87.drew | apply IsS87.set_0 | apply IsS87.set_1 | apply IsS87.set_3) | exact HI0.out), by repeat (first | (with_reducible first | exact HB.out | apply below_alloc | apply pw_below_drewN | apply below_drew1 | refine below_set ?_ (IsS87.ge HI0.out)) | exact HB.out), by repeat (first | (with_reducible first | exact HK.out | apply KeepBut.set_ | apply keep_drewN | apply keep_drew | apply keep_alloc) | exact HK.out)⟩

end Go.Proofs.Ythgaihhlbgccoaa.Q
-- Written by a program of this work over the kit's printer; Lean checks it.
namespace Go.Proofs.Ythgaihhlbgccoaa.Q
open Go.RowKit Go.Proofs.YthgaihhlbgccoaaW.PrintWords Go.Proofs.YthgaihhlbgccoaaW.PrintLast Go.Proofs.YthgaihhlbgccoaaW.PrintMore
attribute [local go_sem] max2_int min2_int max_two min_two max_three min_three max_four min_four   -- for this text's walks alone
set_option linter.unusedVariables false
set_option linter.unusedSimpArgs false

/-! ### field_GF_Add: function 44 -/
def field_GF_Add.l0 : Nat → Int → Int → Int → Int → Int → Int → List Int → Int → List Int → List Int → Option (Int × Int × Int × Int)
 | 0, _, _, _, _, _, _, _, _, _, _ => none
 | k + 1, x1, x2, x7, x8, x1000, x1001, x1002, x1003, x1004, x1005 => if x1 > 0 then (if x1000 = 0 then (none) else (field_GF_Add.l0 k (wrap64 (Int.tdiv x1 x1000)) (wrap64 (Int.tdiv x2 x1000)) (wrap64 (x7 + (wrap64 ((Int.tmod (wrap64 ((Int.tmod x1 x1000) + (Int.tmod x2 x1000))) x1000) * x8)))) (wrap64 (x8 * x1000)) x1000 x1001 x1002 x1003 x1004 x1005)) else (if x2 > 0 then (if x1000 = 0 then (none) else (field_GF_Add.l0 k (wrap64 (Int.tdiv x1 x1000)) (wrap64 (Int.tdiv x2 x1000)) (wrap64 (x7 + (wrap64 ((Int.tmod (wrap64 ((Int.tmod x1 x1000) + (Int.tmod x2 x1000))) x1000) * x8)))) (wrap64 (x8 * x1000)) x1000 x1001 x1002 x1003 x1004 x1005)) else (some (x7, x1000, x1001, x1003)))
def field_GF_Add.f (k : Nat) (s0_0 : Int) (s0_1 : Int) (s0_2 : List Int) (s0_3 : Int) (s0_4 : List Int) (s0_5 : List Int) (a1 : Int) (a2 : Int) : Option (Int × Int × Int × Int) := (field_GF_in.f s0_0 s0_1 s0_2 s0_3 s0_4 s0_5 a1).bind fun bt249 => ((field_GF_in.f bt249.2.1 bt249.2.2.1 s0_2 bt249.2.2.2 s0_4 s0_5 a2).bind fun bt253 => (if bt253.2.1 = 2 then (some (Go.bits .xor .i64 bt249.1 bt253.1, bt253.2.1, bt253.2.2.1, bt253.2.2.2)) else (field_GF_Add.l0 k bt249.1 bt253.1 0 1 bt253.2.1 bt253.2.2.1 s0_2 bt253.2.2.2 s0_4 s0_5)))
theorem field_GF_Add.mono_l : ∀ k, (∀ y0 y1 y2 y3 y4 y5 y6 y7 y8 y9, LeO (field_GF_Add.l0 k y0 y1 y2 y3 y4 y5 y6 y7 y8 y9) (field_GF_Add.l0 (k + 1) y0 y1 y2 y3 y4 y5 y6 y7 y8 y9))
 | 0 => fun _ _ _ _ _ _ _ _ _ _ r h => by simp [field_GF_Add.l0] at h
 | k + 1 => by
  have ih0 := field_GF_Add.mono_l k
  ·intro y0 y1 y2 y3 y4 y5 y6 y7 y8 y9
   unfold field_GF_Add.l0
   repeat' first
   | (with_reducible exact ih0 _ _ _ _ _ _ _ _ _ _)
   | (with_reducible exact LeO.refl _)
   | (with_reducible exact LeO.none _)
   | (with_reducible refine LeO.ite ?_ ?_)
   | (with_reducible refine LeO.bind ?_ (fun _ => ?_))
   | exact ih0 _ _ _ _ _ _ _ _ _ _
   | exact LeO.none _
   | refine LeO.ite ?_ ?_
   | refine LeO.bind ?_ (fun _ => ?_)
theorem field_GF_Add.mono : ∀ a0 a1 a2 a3 a4 a5 a6 a7 k, LeO (field_GF_Add.f k a0 a1 a2 a3 a4 a5 a6 a7) (field_GF_Add.f (k + 1) a0 a1 a2 a3 a4 a5 a6 a7) := by
 intro a0 a1 a2 a3 a4 a5 a6 a7 k
 have ih0 := field_GF_Add.mono_l k
 unfold field_GF_Add.f
 repeat' first
   | (with_reducible exact ih0 _ _ _ _ _ _ _ _ _ _)
   | (with_reducible exact LeO.refl _)
   | (with_reducible exact LeO.none _)
   | (with_reducible refine LeO.ite ?_ ?_)
   | (with_reducible refine LeO.bind ?_ (fun _ => ?_))
   | exact ih0 _ _ _ _ _ _ _ _ _ _
   | exact LeO.none _
   | refine LeO.ite ?_ ?_
   | refine LeO.bind ?_ (fun _ => ?_)
set_option maxHeartbeats 8000000 in
set_option maxRecDepth 100000 in
theorem field_GF_Add.calls (k : Nat) (g : Nat) (s0_0 : Int) (s0_1 : Int) (s0_2 : List Int) (s0_3 : Int) (s0_4 : List Int) (s0_5 : List Int) (a1 : Int) (a2 : Int) (r1 : Int) (r2 : Int) (r3 : Int) (r4 : Int) (w0 w : World) (hI : IsS87 w0 w g s0_0 s0_1 s0_2 s0_3 s0_4 s0_5) (hB : Below w0.heap.size w0 w) (h : field_GF_Add.f k s0_0 s0_1 s0_2 s0_3 s0_4 s0_5 a1 a2 = some (r1, r2, r3, r4)) :
  Calls Try.prog 44 #[.pointer (some ⟨g, 0, none⟩), .int .i64 a1, .int .i64 a2] w fun e w' => e = .returned (.int .i64 r1) ∧ IsS87 w0 w' g r2 r3 s0_2 r4 s0_4 s0_5 ∧ Below w0.heap.size w0 w' ∧ KeepBut w w' g none := by
 have HI0 := Aside0.mk hI
 have HK := Aside0.mk (KeepBut.refl w g none)
 have HL := Aside0.mk hB.size
 clear hI
 have HW0 := Aside0.mk hB.size
 have HB := Aside0.mk hB
 clear hB
 have H : ((field_GF_in.f s0_0 s0_1 s0_2 s0_3 s0_4 s0_5 a1).bind fun bt249 => ((field_GF_in.f bt249.2.1 bt249.2.2.1 s0_2 bt249.2.2.2 s0_4 s0_5 a2).bind fun bt253 => (if bt253.2.1 = 2 then (some (Go.bits .xor .i64 bt249.1 bt253.1, bt253.2.1, bt253.2.2.1, bt253.2.2.2)) else (field_GF_Add.l0 k bt249.1 bt253.1 0 1 bt253.2.1 bt253.2.2.1 s0_2 bt253.2.2.2 s0_4 s0_5)))) = some (r1, r2, r3, r4) := h
 clear h
 replace H := Option.bind_eq_some_iff.mp H
 obtain ⟨⟨t249, t250, t251, t252⟩, A40, H⟩ := H
 replace H : ((field_GF_in.f t250 t251 s0_2 t252 s0_4 s0_5 a2).bind fun bt253 => (if bt253.2.1 = 2 then (some (Go.bits .xor .i64 t249 bt253.1, bt253.2.1, bt253.2.2.1, bt253.2.2.2)) else (field_GF_Add.l0 k t249 bt253.1 0 1 bt253.2.1 bt253.2.2.1 s0_2 bt253.2.2.2 s0_4 s0_5))) = some (r1, r2, r3, r4) := H
 have A4 := Aside0.mk A40
 clear A40
 replace H := Option.bind_eq_some_iff.mp H
 obtain ⟨⟨t253, t254, t255, t256⟩, A50, H⟩ := H
 replace H : (if t254 = 2 then (some (Go.bits .xor .i64 t249 t253, t254, t255, t256)) else (field_GF_Add.l0 k t249 t253 0 1 t254 t255 s0_2 t256 s0_4 s0_5)) = some (r1, r2, r3, r4) := H
 have A5 := Aside0.mk A50
 clear A50
 by_cases c6 : t254 = 2
 ·rw [if_pos c6] at H
  have c6b0 : (t254 == 2) = true := beq_iff_eq.mpr c6
  have c6b1 : (t254 != 2) = false := bne_eq_false_iff_eq.mpr c6
  clear c6
  simp only [Option.some.injEq, Prod.mk.injEq] at H
  obtain ⟨rfl, rfl, rfl, rfl⟩ := H
  go_enter Try.func44, Try.ntmps44
  go_wp2_with (first | (go_at_call 64; (with_reducible refine (field_GF_in.calls g s0_0 s0_1 s0_2 s0_3 s0_4 s0_5 a1 t249 t250 t251 t252 w0 _ ?side1 ?side2 A4.out).mono ?_); (case side1 => repeat (first | (with_reducible first | exact HI0.out | apply IsS87.alloc | apply IsS87.drewN | apply IsS87.drew | apply IsS87.set_0 | apply IsS87.set_1 | apply IsS87.set_3) | exact HI0.out)); (case side2 => repeat (first | (with_reducible first | exact HB.out | apply below_alloc | apply pw_below_drewN | apply below_drew1 | refine below_set ?_ (IsS87.ge HI0.out)) | exact HB.out)); rintro e w7 ⟨rfl, hi, hb, hk⟩; have n0_ := Aside0.mk (KeepBut.trans (by repeat (first | (with_reducible first | exact HK.out | apply KeepBut.set_ | apply keep_drewN | apply keep_drew | apply keep_alloc) | exact HK.out)) hk (.inl rfl)); have n1_ := Aside0.mk (hb); have n2_ := Aside0.mk (hi); clear HK; clear HB; clear HI0; have HK := n0_; have HB := n1_; have HI0 := n2_; clear n0_ n1_ n2_; (try clear hb); (try clear hb2); (try clear hk); (try clear hi)) | (go_at_call 64; (with_reducible refine (field_GF_in.calls g t250 t251 s0_2 t252 s0_4 s0_5 a2 t253 t254 t255 t256 w0 _ ?side1 ?side2 A5.out).mono ?_); (case side1 => repeat (first | (with_reducible first | exact HI0.out | apply IsS87.alloc | apply IsS87.drewN | apply IsS87.drew | apply IsS87.set_0 | apply IsS87.set_1 | apply IsS87.set_3) | exact HI0.out)); (case side2 => repeat (first | (with_reducible first | exact HB.out | apply below_alloc | apply pw_below_drewN | apply below_drew1 | refine below_set ?_ (IsS87.ge HI0.out)) | exact HB.out)); rintro e w8 ⟨rfl, hi, hb, hk⟩; have n0_ := Aside0.mk (KeepBut.trans (by repeat (first | (with_reducible first | exact HK.out | apply KeepBut.set_ | apply keep_drewN | apply keep_drew | apply keep_alloc) | exact HK.out)) hk (.inl rfl)); have n1_ := Aside0.mk (hb); have n2_ := Aside0.mk (hi); clear HK; clear HB; clear HI0; have HK := n0_; have HB := n1_; have HI0 := n2_; clear n0_ n1_ n2_; (try clear hb); (try clear hb2); (try clear hk); (try clear hi); obtain ⟨ASz9_2, cSz9_2, ASz9_4, cSz9_4, ASz9_5, cSz9_5, HGz9, hgz9, HSz9_2, HSz9_4, HSz9_5⟩ := HI0.out; have hcz9_0 := cellS87_0 HGz9; have hcz9_1 := cellS87_1 HGz9; have hcz9_2 := cellS87_2 HGz9; have hcz9_3 := cellS87_3 HGz9; have hcz9_4 := cellS87_4 HGz9; have hcz9_5 := cellS87_5 HGz9; have hfz9_0 := blk_frozen HGz9 0; have hfz9_1 := blk_frozen HGz9 1; have hfz9_3 := blk_frozen HGz9 3; clear HGz9 hgz9))
  repeat (go_quiet (first | (go_at_call 64; (with_reducible refine (field_GF_in.calls g s0_0 s0_1 s0_2 s0_3 s0_4 s0_5 a1 t249 t250 t251 t252 w0 _ ?side1 ?side2 A4.out).mono ?_); (case side1 => repeat (first | (with_reducible first | exact HI0.out | apply IsS87.alloc | apply IsS87.drewN | apply IsS87.drew | apply IsS87.set_0 | apply IsS87.set_1 | apply IsS87.set_3) | exact HI0.out)); (case side2 => repeat (first | (with_reducible first | exact HB.out | apply below_alloc | apply pw_below_drewN | apply below_drew1 | refine below_set ?_ (IsS87.ge HI0.out)) | exact HB.out)); rintro e w7 ⟨rfl, hi, hb, hk⟩; have n0_ := Aside0.mk (KeepBut.trans (by repeat (first | (with_reducible first | exact HK.out | apply KeepBut.set_ | apply keep_drewN | apply keep_drew | apply keep_alloc) | exact HK.out)) hk (.inl rfl)); have n1_ := Aside0.mk (hb); have n2_ := Aside0.mk (hi); clear HK; clear HB; clear HI0; have HK := n0_; have HB := n1_; have HI0 := n2_; clear n0_ n1_ n2_; (try clear hb); (try clear hb2); (try clear hk); (try clear hi)) | (go_at_call 64; (with_reducible refine (field_GF_in.calls g t250 t251 s0_2 t252 s0_4 s0_5 a2 t253 t254 t255 t256 w0 _ ?side1 ?side2 A5.out).mono ?_); (case side1 => repeat (first | (with_reducible first | exact HI0.out | apply IsS87.alloc | apply IsS87.drewN | apply IsS87.drew | apply IsS87.set_0 | apply IsS87.set_1 | apply IsS87.set_3) | exact HI0.out)); (case side2 => repeat (first | (with_reducible first | exact HB.out | apply below_alloc | apply pw_below_drewN | apply below_drew1 | refine below_set ?_ (IsS87.ge HI0.out)) | exact HB.out)); rintro e w8 ⟨rfl, hi, hb, hk⟩; have n0_ := Aside0.mk (KeepBut.trans (by repeat (first | (with_reducible first | exact HK.out | apply KeepBut.set_ | apply keep_drewN | apply keep_drew | apply keep_alloc) | exact HK.out)) hk (.inl rfl)); have n1_ := Aside0.mk (hb); have n2_ := Aside0.mk (hi); clear HK; clear HB; clear HI0; have HK := n0_; have HB := n1_; have HI0 := n2_; clear n0_ n1_ n2_; (try clear hb); (try clear hb2); (try clear hk); (try clear hi); obtain ⟨ASz9_2, cSz9_2, ASz9_4, cSz9_4, ASz9_5, cSz9_5, HGz9, hgz9, HSz9_2, HSz9_4, HSz9_5⟩ := HI0.out; have hcz9_0 := cellS87_0 HGz9; have hcz9_1 := cellS87_1 HGz9; have hcz9_2 := cellS87_2 HGz9; have hcz9_3 := cellS87_3 HGz9; have hcz9_4 := cellS87_4 HGz9; have hcz9_5 := cellS87_5 HGz9; have hfz9_0 := blk_frozen HGz9 0; have hfz9_1 := blk_frozen HGz9 1; have hfz9_3 := blk_frozen HGz9 3; clear HGz9 hgz9)); try go_wp2_with (first | (go_at_call 64; (with_reducible refine (field_GF_in.calls g s0_0 s0_1 s0_2 s0_3 s0_4 s0_5 a1 t249 t250 t251 t252 w0 _ ?side1 ?side2 A4.out).mono ?_); (case side1 => repeat (first | (with_reducible first | exact HI0.out | apply IsS87.alloc | apply IsS87.drewN | apply IsS87.drew | apply IsS87.set_0 | apply IsS87.set_1 | apply IsS87.set_3) | exact HI0.out)); (case side2 => repeat (first | (with_reducible first | exact HB.out | apply below_alloc | apply pw_below_drewN | apply below_drew1 | refine below_set ?_ (IsS87.ge HI0.out)) | exact HB.out)); rintro e w7 ⟨rfl, hi, hb, hk⟩; have n0_ := Aside0.mk (KeepBut.trans (by repeat (first | (with_reducible first | exact HK.out | apply KeepBut.set_ | apply keep_drewN | apply keep_drew | apply keep_alloc) | exact HK.out)) hk (.inl rfl)); have n1_ := Aside0.mk (hb); have n2_ := Aside0.mk (hi); clear HK; clear HB; clear HI0; have HK := n0_; have HB := n1_; have HI0 := n2_; clear n0_ n1_ n2_; (try clear hb); (try clear hb2); (try clear hk); (try clear hi)) | (go_at_call 64; (with_reducible refine (field_GF_in.calls g t250 t251 s0_2 t252 s0_4 s0_5 a2 t253 t254 t255 t256 w0 _ ?side1 ?side2 A5.out).mono ?_); (case side1 => repeat (first | (with_reducible first | exact HI0.out | apply IsS87.alloc | apply IsS87.drewN | apply IsS87.drew | apply IsS87.set_0 | apply IsS87.set_1 | apply IsS87.set_3) | exact HI0.out)); (case side2 => repeat (first | (with_reducible first | exact HB.out | apply below_alloc | apply pw_below_drewN | apply below_drew1 | refine below_set ?_ (IsS87.ge HI0.out)) | exact HB.out)); rintro e w8 ⟨rfl, hi, hb, hk⟩; have n0_ := Aside0.mk (KeepBut.trans (by repeat (first | (with_reducible first | exact HK.out | apply KeepBut.set_ | apply keep_drewN | apply keep_drew | apply keep_alloc) | exact HK.out)) hk (.inl rfl)); have n1_ := Aside0.mk (hb); have n2_ := Aside0.mk (hi); clear HK; clear HB; clear HI0; have HK := n0_; have HB := n1_; have HI0 := n2_; clear n0_ n1_ n2_; (try clear hb); (try clear hb2); (try clear hk); (try clear hi); obtain ⟨ASz9_2, cSz9_2, ASz9_4, cSz9_4, ASz9_5, cSz9_5, HGz9, hgz9, HSz9_2, HSz9_4, HSz9_5⟩ := HI0.out; have hcz9_0 := cellS87_0 HGz9; have hcz9_1 := cellS87_1 HGz9; have hcz9_2 := cellS87_2 HGz9; have hcz9_3 := cellS87_3 HGz9; have hcz9_4 := cellS87_4 HGz9; have hcz9_5 := cellS87_5 HGz9; have hfz9_0 := blk_frozen HGz9 0; have hfz9_1 := blk_frozen HGz9 1; have hfz9_3 := blk_frozen HGz9 3; clear HGz9 hgz9)))
  go_ret
  exact ⟨by first | rfl | (simp [errW_none, errW_some] <;> rfl) | (simp [*, errW_none, errW_some] <;> rfl), by repeat (first | (with_reducible first | exact HI0.out | apply IsS87.alloc | apply IsS87.drewN | apply IsS87.drew | apply IsS87.set_0 | apply IsS87.set_1 | apply IsS87.set_3) | exact HI0.out), by repeat (first | (with_reducible first | exact HB.out | apply below_alloc | apply pw_below_drewN | apply below_drew1 | refine below_set ?_ (IsS87.ge HI0.out)) | exact HB.out), by repeat (first | (with_reducible first | exact HK.out | apply KeepBut.set_ | apply keep_drewN | apply keep_drew | apply keep_alloc) | exact HK.out)⟩
 ·rw [if_neg c6] at H
  have c6b0 : (t254 == 2) = false := beq_eq_false_iff_ne.mpr c6
  have c6b1 : (t254 != 2) = true := bne_iff_ne.mpr c6
  have H' := Aside0.mk H
  clear H
  go_enter Try.func44, Try.ntmps44
  go_wp2_with (first | (go_at_call 64; (with_reducible refine (field_GF_in.calls g s0_0 s0_1 s0_2 s0_3 s0_4 s0_5 a1 t249 t250 t251 t252 w0 _ ?side1 ?side2 A4.out).mono ?_); (case side1 => repeat (first | (with_reducible first | exact HI0.out | apply IsS87.alloc | apply IsS87.drewN | apply IsS87.drew | apply IsS87.set_0 | apply IsS87.set_1 | apply IsS87.set_3) | exact HI0.out)); (case side2 => repeat (first | (with_reducible first | exact HB.out | apply below_alloc | apply pw_below_drewN | apply below_drew1 | refine below_set ?_ (IsS87.ge HI0.out)) | exact HB.out)); rintro e w10 ⟨rfl, hi, hb, hk⟩; have n0_ := Aside0.mk (KeepBut.trans (by repeat (first | (with_reducible first | exact HK.out | apply KeepBut.set_ | apply keep_drewN | apply keep_drew | apply keep_alloc) | exact HK.out)) hk (.inl rfl)); have n1_ := Aside0.mk (hb); have n2_ := Aside0.mk (hi); clear HK; clear HB; clear HI0; have HK := n0_; have HB := n1_; have HI0 := n2_; clear n0_ n1_ n2_; (try clear hb); (try clear hb2); (try clear hk); (try clear hi)) | (go_at_call 64; (with_reducible refine (field_GF_in.calls g t250 t251 s0_2 t252 s0_4 s0_5 a2 t253 t254 t255 t256 w0 _ ?side1 ?side2 A5.out).mono ?_); (case side1 => repeat (first | (with_reducible first | exact HI0.out | apply IsS87.alloc | apply IsS87.drewN | apply IsS87.drew | apply IsS87.set_0 | apply IsS87.set_1 | apply IsS87.set_3) | exact HI0.out)); (case side2 => repeat (first | (with_reducible first | exact HB.out | apply below_alloc | apply pw_below_drewN | apply below_drew1 | refine below_set ?_ (IsS87.ge HI0.out)) | exact HB.out)); rintro e w11 ⟨rfl, hi, hb, hk⟩; have n0_ := Aside0.mk (KeepBut.trans (by repeat (first | (with_reducible first | exact HK.out | apply KeepBut.set_ | apply keep_drewN | apply keep_drew | apply keep_alloc) | exact HK.out)) hk (.inl rfl)); have n1_ := Aside0.mk (hb); have n2_ := Aside0.mk (hi); clear HK; clear HB; clear HI0; have HK := n0_; have HB := n1_; have HI0 := n2_; clear n0_ n1_ n2_; (try clear hb); (try clear hb2); (try clear hk); (try clear hi); obtain ⟨ASz12_2, cSz12_2, ASz12_4, cSz12_4, ASz12_5, cSz12_5, HGz12, hgz12, HSz12_2, HSz12_4, HSz12_5⟩ := HI0.out; have hcz12_0 := cellS87_0 HGz12; have hcz12_1 := cellS87_1 HGz12; have hcz12_2 := cellS87_2 HGz12; have hcz12_3 := cellS87_3 HGz12; have hcz12_4 := cellS87_4 HGz12; have hcz12_5 := cellS87_5 HGz12; have hfz12_0 := blk_frozen HGz12 0; have hfz12_1 := blk_frozen HGz12 1; have hfz12_3 := blk_frozen HGz12 3; clear HGz12 hgz12))
  repeat (go_quiet (first | (go_at_call 64; (with_reducible refine (field_GF_in.calls g s0_0 s0_1 s0_2 s0_3 s0_4 s0_5 a1 t249 t250 t251 t252 w0 _ ?side1 ?side2 A4.out).mono ?_); (case side1 => repeat (first | (with_reducible first | exact HI0.out | apply IsS87.alloc | apply IsS87.drewN | apply IsS87.drew | apply IsS87.set_0 | apply IsS87.set_1 | apply IsS87.set_3) | exact HI0.out)); (case side2 => repeat (first | (with_reducible first | exact HB.out | apply below_alloc | apply pw_below_drewN | apply below_drew1 | refine below_set ?_ (IsS87.ge HI0.out)) | exact HB.out)); rintro e w10 ⟨rfl, hi, hb, hk⟩; have n0_ := Aside0.mk (KeepBut.trans (by repeat (first | (with_reducible first | exact HK.out | apply KeepBut.set_ | apply keep_drewN | apply keep_drew | apply keep_alloc) | exact HK.out)) hk (.inl rfl)); have n1_ := Aside0.mk (hb); have n2_ := Aside0.mk (hi); clear HK; clear HB; clear HI0; have HK := n0_; have HB := n1_; have HI0 := n2_; clear n0_ n1_ n2_; (try clear hb); (try clear hb2); (try clear hk); (try clear hi)) | (go_at_call 64; (with_reducible refine (field_GF_in.calls g t250 t251 s0_2 t252 s0_4 s0_5 a2 t253 t254 t255 t256 w0 _ ?side1 ?side2 A5.out).mono ?_); (case side1 => repeat (first | (with_reducible first | exact HI0.out | apply IsS87.alloc | apply IsS87.drewN | apply IsS87.drew | apply IsS87.set_0 | apply IsS87.set_1 | apply IsS87.set_3) | exact HI0.out)); (case side2 => repeat (first | (with_reducible first | exact HB.out | apply below_alloc | apply pw_below_drewN | apply below_drew1 | refine below_set ?_ (IsS87.ge HI0.out)) | exact HB.out)); rintro e w11 ⟨rfl, hi, hb, hk⟩; have n0_ := Aside0.mk (KeepBut.trans (by repeat (first | (with_reducible first | exact HK.out | apply KeepBut.set_ | apply keep_drewN | apply keep_drew | apply keep_alloc) | exact HK.out)) hk (.inl rfl)); have n1_ := Aside0.mk (hb); have n2_ := Aside0.mk (hi); clear HK; clear HB; clear HI0; have HK := n0_; have HB := n1_; have HI0 := n2_; clear n0_ n1_ n2_; (try clear hb); (try clear hb2); (try clear hk); (try clear hi); obtain ⟨ASz12_2, cSz12_2, ASz12_4, cSz12_4, ASz12_5, cSz12_5, HGz12, hgz12, HSz12_2, HSz12_4, HSz12_5⟩ := HI0.out; have hcz12_0 := cellS87_0 HGz12; have hcz12_1 := cellS87_1 HGz12; have hcz12_2 := cellS87_2 HGz12; have hcz12_3 := cellS87_3 HGz12; have hcz12_4 := cellS87_4 HGz12; have hcz12_5 := cellS87_5 HGz12; have hfz12_0 := blk_frozen HGz12 0; have hfz12_1 := blk_frozen HGz12 1; have hfz12_3 := blk_frozen HGz12 3; clear HGz12 hgz12)); try go_wp2_with (first | (go_at_call 64; (with_reducible refine (field_GF_in.calls g s0_0 s0_1 s0_2 s0_3 s0_4 s0_5 a1 t249 t250 t251 t252 w0 _ ?side1 ?side2 A4.out).mono ?_); (case side1 => repeat (first | (with_reducible first | exact HI0.out | apply IsS87.alloc | apply IsS87.drewN | apply IsS87.drew | apply IsS87.set_0 | apply IsS87.set_1 | apply IsS87.set_3) | exact HI0.out)); (case side2 => repeat (first | (with_reducible first | exact HB.out | apply below_alloc | apply pw_below_drewN | apply below_drew1 | refine below_set ?_ (IsS87.ge HI0.out)) | exact HB.out)); rintro e w10 ⟨rfl, hi, hb, hk⟩; have n0_ := Aside0.mk (KeepBut.trans (by repeat (first | (with_reducible first | exact HK.out | apply KeepBut.set_ | apply keep_drewN | apply keep_drew | apply keep_alloc) | exact HK.out)) hk (.inl rfl)); have n1_ := Aside0.mk (hb); have n2_ := Aside0.mk (hi); clear HK; clear HB; clear HI0; have HK := n0_; have HB := n1_; have HI0 := n2_; clear n0_ n1_ n2_; (try clear hb); (try clear hb2); (try clear hk); (try clear hi)) | (go_at_call 64; (with_reducible refine (field_GF_in.calls g t250 t251 s0_2 t252 s0_4 s0_5 a2 t253 t254 t255 t256 w0 _ ?side1 ?side2 A5.out).mono ?_); (case side1 => repeat (first | (with_reducible first | exact HI0.out | apply IsS87.alloc | apply IsS87.drewN | apply IsS87.drew | apply IsS87.set_0 | apply IsS87.set_1 | apply IsS87.set_3) | exact HI0.out)); (case side2 => repeat (first | (with_reducible first | exact HB.out | apply below_alloc | apply pw_below_drewN | apply below_drew1 | refine below_set ?_ (IsS87.ge HI0.out)) | exact HB.out)); rintro e w11 ⟨rfl, hi, hb, hk⟩; have n0_ := Aside0.mk (KeepBut.trans (by repeat (first | (with_reducible first | exact HK.out | apply KeepBut.set_ | apply keep_drewN | apply keep_drew | apply keep_alloc) | exact HK.out)) hk (.inl rfl)); have n1_ := Aside0.mk (hb); have n2_ := Aside0.mk (hi); clear HK; clear HB; clear HI0; have HK := n0_; have HB := n1_; have HI0 := n2_; clear n0_ n1_ n2_; (try clear hb); (try clear hb2); (try clear hk); (try clear hi); obtain ⟨ASz12_2, cSz12_2, ASz12_4, cSz12_4, ASz12_5, cSz12_5, HGz12, hgz12, HSz12_2, HSz12_4, HSz12_5⟩ := HI0.out; have hcz12_0 := cellS87_0 HGz12; have hcz12_1 := cellS87_1 HGz12; have hcz12_2 := cellS87_2 HGz12; have hcz12_3 := cellS87_3 HGz12; have hcz12_4 := cellS87_4 HGz12; have hcz12_5 := cellS87_5 HGz12; have hfz12_0 := blk_frozen HGz12 0; have hfz12_1 := blk_frozen HGz12 1; have hfz12_3 := blk_frozen HGz12 3; clear HGz12 hgz12)))
  go_loopg [1, 2, 7, 8] k (fun kq v1 v2 v7 v8 w' => ∃ (x1_1 : Int) (x2_1 : Int) (x7_1 : Int) (x8_1 : Int), v1 = .int .i64 x1_1 ∧ v2 = .int .i64 x2_1 ∧ v7 = .int .i64 x7_1 ∧ v8 = .int .i64 x8_1 ∧ Aside0 (field_GF_Add.l0 kq x1_1 x2_1 x7_1 x8_1 t254 t255 s0_2 t256 s0_4 s0_5 = some (r1, r2, r3, r4)) ∧ Aside0 (kq ≤ k) ∧ Aside0 (IsS87 w0 w' g t254 t255 s0_2 t256 s0_4 s0_5) ∧ Aside0 (KeepBut w w' g none) ∧ Aside0 (Below w0.heap.size w0 w'))
  case atStart => exact ⟨(t249), (t253), (0), (1), (by first | rfl | (simp; done) | (simp [*]; done)), (by first | rfl | (simp; done) | (simp [*]; done)), (by first | rfl | (simp; done) | (simp [*]; done)), (by first | rfl | (simp; done) | (simp [*]; done)), H', ⟨Nat.le_refl _⟩, ⟨by repeat (first | (with_reducible first | exact HI0.out | apply IsS87.alloc | apply IsS87.drewN | apply IsS87.drew | apply IsS87.set_0 | apply IsS87.set_1 | apply IsS87.set_3) | exact HI0.out)⟩, ⟨by repeat (first | (with_reducible first | exact HK.out | apply KeepBut.set_ | apply keep_drewN | apply keep_drew | apply keep_alloc) | exact HK.out)⟩, ⟨by repeat (first | (with_reducible first | exact HB.out | apply below_alloc | apply pw_below_drewN | apply below_drew1 | refine below_set ?_ (IsS87.ge HI0.out)) | exact HB.out)⟩⟩
  case round =>
   clear H'
   try clear p2
   try clear c4
   try clear c6
   try clear c6b0
   try clear c6b1
   try clear hcz12_0
   try clear hcz12_1
   try clear hcz12_2
   try clear hcz12_3
   try clear hcz12_4
   try clear hcz12_5
   try clear hcz9_0
   try clear hcz9_1
   try clear hcz9_2
   try clear hcz9_3
   try clear hcz9_4
   try clear hcz9_5
   try clear hfz12_0
   try clear hfz12_1
   try clear hfz12_3
   try clear hfz9_0
   try clear hfz9_1
   try clear hfz9_3
   obtain ⟨x1_1, x2_1, x7_1, x8_1, rfl, rfl, rfl, rfl, HA, HK1, HI0, HK, HB⟩ := hrel
   cases gk with
   | zero => exact absurd HA.out (by simp [field_GF_Add.l0])
   | succ k1 =>
    have H := HA.out
    clear HA
    simp only [field_GF_Add.l0] at H
    by_cases c13 : x1_1 > 0
    ·rw [if_pos c13] at H
     have c13b0 : decide (0 < x1_1) = true := decide_eq_true c13
     clear c13
     by_cases c14 : t254 = 0
     ·rw [if_pos c14] at H
      exact absurd H (by simp)
     ·rw [if_neg c14] at H
      have c14b0 : (t254 == 0) = false := beq_eq_false_iff_ne.mpr c14
      have c14b1 : (t254 != 0) = true := bne_iff_ne.mpr c14
      have H' := Aside0.mk H
      clear H
      obtain ⟨ASz15_2, cSz15_2, ASz15_4, cSz15_4, ASz15_5, cSz15_5, HGz15, hgz15, HSz15_2, HSz15_4, HSz15_5⟩ := HI0.out
      have hcz15_0 := cellS87_0 HGz15
      have hcz15_1 := cellS87_1 HGz15
      have hcz15_2 := cellS87_2 HGz15
      have hcz15_3 := cellS87_3 HGz15
      have hcz15_4 := cellS87_4 HGz15
      have hcz15_5 := cellS87_5 HGz15
      have hfz15_0 := blk_frozen HGz15 0
      have hfz15_1 := blk_frozen HGz15 1
      have hfz15_3 := blk_frozen HGz15 3
      clear HGz15 hgz15
      go_wp2
      repeat (go_quiet (fail); try go_wp2)
      go_roundg k1
      case measure => have := HK1.out; omega
      case rel => exact ⟨(wrap64 (Int.tdiv x1_1 t254)), (wrap64 (Int.tdiv x2_1 t254)), (wrap64 (x7_1 + (wrap64 ((Int.tmod (wrap64 ((Int.tmod x1_1 t254) + (Int.tmod x2_1 t254))) t254) * x8_1)))), (wrap64 (x8_1 * t254)), (by first | rfl | (simp; done) | (simp [*]; done)), (by first | rfl | (simp; done) | (simp [*]; done)), (by first | rfl | (simp; done) | (simp [*]; done)), (by first | rfl | (simp; done) | (simp [*]; done)), H', ⟨by have := HK1.out; omega⟩, ⟨by repeat (first | (with_reducible first | exact HI0.out | apply IsS87.alloc | apply IsS87.drewN | apply IsS87.drew | apply IsS87.set_0 | apply IsS87.set_1 | apply IsS87.set_3) | exact HI0.out)⟩, ⟨by repeat (first | (with_reducible first | exact HK.out | apply KeepBut.set_ | apply keep_drewN | apply keep_drew | apply keep_alloc) | exact HK.out)⟩, ⟨by repeat (first | (with_reducible first | exact HB.out | apply below_alloc | apply pw_below_drewN | apply below_drew1 | refine below_set ?_ (IsS87.ge HI0.out)) | exact HB.out)⟩⟩
    ·rw [if_neg c13] at H
     have c13b0 : decide (0 < x1_1) = false := decide_eq_false c13
     clear c13
     by_cases c16 : x2_1 > 0
     ·rw [if_pos c16] at H
      have c16b0 : decide (0 < x2_1) = true := decide_eq_true c16
      clear c16
      by_cases c17 : t254 = 0
      ·rw [if_pos c17] at H
       exact absurd H (by simp)
      ·rw [if_neg c17] at H
       have c17b0 : (t254 == 0) = false := beq_eq_false_iff_ne.mpr c17
       have c17b1 : (t254 != 0) = true := bne_iff_ne.mpr c17
       have H' := Aside0.mk H
       clear H
       obtain ⟨ASz18_2, cSz18_2, ASz18_4, cSz18_4, ASz18_5, cSz18_5, HGz18, hgz18, HSz18_2, HSz18_4, HSz18_5⟩ := HI0.out
       have hcz18_0 := cellS87_0 HGz18
       have hcz18_1 := cellS87_1 HGz18
       have hcz18_2 := cellS87_2 HGz18
       have hcz18_3 := cellS87_3 HGz18
       have hcz18_4 := cellS87_4 HGz18
       have hcz18_5 := cellS87_5 HGz18
       have hfz18_0 := blk_frozen HGz18 0
       have hfz18_1 := blk_frozen HGz18 1
       have hfz18_3 := blk_frozen HGz18 3
       clear HGz18 hgz18
       go_wp2
       repeat (go_quiet (fail); try go_wp2)
       go_roundg k1
       case measure => have := HK1.out; omega
       case rel => exact ⟨(wrap64 (Int.tdiv x1_1 t254)), (wrap64 (Int.tdiv x2_1 t254)), (wrap64 (x7_1 + (wrap64 ((Int.tmod (wrap64 ((Int.tmod x1_1 t254) + (Int.tmod x2_1 t254))) t254) * x8_1)))), (wrap64 (x8_1 * t254)), (by first | rfl | (simp; done) | (simp [*]; done)), (by first | rfl | (simp; done) | (simp [*]; done)), (by first | rfl | (simp; done) | (simp [*]; done)), (by first | rfl | (simp; done) | (simp [*]; done)), H', ⟨by have := HK1.out; omega⟩, ⟨by repeat (first | (with_reducible first | exact HI0.out | apply IsS87.alloc | apply IsS87.drewN | apply IsS87.drew | apply IsS87.set_0 | apply IsS87.set_1 | apply IsS87.set_3) | exact HI0.out)⟩, ⟨by repeat (first | (with_reducible first | exact HK.out | apply KeepBut.set_ | apply keep_drewN | apply keep_drew | apply keep_alloc) | exact HK.out)⟩, ⟨by repeat (first | (with_reducible first | exact HB.out | apply below_alloc | apply pw_below_drewN | apply below_drew1 | refine below_set ?_ (IsS87.ge HI0.out)) | exact HB.out)⟩⟩
     ·rw [if_neg c16] at H
      have c16b0 : decide (0 < x2_1) = false := decide_eq_false c16
      clear c16
      simp only [Option.some.injEq, Prod.mk.injEq] at H
      obtain ⟨rfl, rfl, rfl, rfl⟩ := H
      go_wp2
      repeat (go_quiet (fail); try go_wp2)
      go_ret
      exact ⟨by first | rfl | (simp [errW_none, errW_some] <;> rfl) | (simp [*, errW_none, errW_some] <;> rfl), by repeat (first | (with_reducible first | exact HI0.out | apply IsS87.alloc | apply IsS87.drewN | apply IsS87.drew | apply IsS87.set_0 | apply IsS87.set_1 | apply IsS87.set_3) | exact HI0.out), by repeat (first | (with_reducible first | exact HB.out | apply below_alloc | apply pw_below_drewN | apply below_drew1 | refine below_set ?_ (IsS87.ge HI0.out)) | exact HB.out), by repeat (first | (with_reducible first | exact HK.out | apply KeepBut.set_ | apply keep_drewN | apply keep_drew | apply keep_alloc) | exact HK.out)⟩

end Go.Proofs.Ythgaihhlbgccoaa.Q
-- Written by a program of this work over the kit's printer; Lean checks it.
namespace Go.Proofs.Ythgaihhlbgccoaa.Q
open Go.RowKit Go.Proofs.YthgaihhlbgccoaaW.PrintWords Go.Proofs.YthgaihhlbgccoaaW.PrintLast Go.Proofs.YthgaihhlbgccoaaW.PrintMore
attribute [local go_sem] max2_int min2_int max_two min_two max_three min_three max_four min_four   -- for this text's walks alone
set_option linter.unusedVariables false
set_option linter.unusedSimpArgs false

/-! ### field_GF_Neg: function 65 -/
def field_GF_Neg.l0 : Nat → Int → Int → Int → Int → Int → List Int → Int → List Int → List Int → Option (Int × Int × Int × Int)
 | 0, _, _, _, _, _, _, _, _, _ => none
 | k + 1, x1, x5, x6, x1000, x1001, x1002, x1003, x1004, x1005 => if x1 > 0 then (if x1000 = 0 then (none) else (field_GF_Neg.l0 k (wrap64 (Int.tdiv x1 x1000)) (wrap64 (x5 + (wrap64 ((Int.tmod (wrap64 (x1000 - (Int.tmod x1 x1000))) x1000) * x6)))) (wrap64 (x6 * x1000)) x1000 x1001 x1002 x1003 x1004 x1005)) else (some (x5, x1000, x1001, x1003))
def field_GF_Neg.f (k : Nat) (s0_0 : Int) (s0_1 : Int) (s0_2 : List Int) (s0_3 : Int) (s0_4 : List Int) (s0_5 : List Int) (a1 : Int) : Option (Int × Int × Int × Int) := (field_GF_in.f s0_0 s0_1 s0_2 s0_3 s0_4 s0_5 a1).bind fun bt257 => (field_GF_Neg.l0 k bt257.1 0 1 bt257.2.1 bt257.2.2.1 s0_2 bt257.2.2.2 s0_4 s0_5)
theorem field_GF_Neg.mono_l : ∀ k, (∀ y0 y1 y2 y3 y4 y5 y6 y7 y8, LeO (field_GF_Neg.l0 k y0 y1 y2 y3 y4 y5 y6 y7 y8) (field_GF_Neg.l0 (k + 1) y0 y1 y2 y3 y4 y5 y6 y7 y8))
 | 0 => fun _ _ _ _ _ _ _ _ _ r h => by simp [field_GF_Neg.l0] at h
 | k + 1 => by
  have ih0 := field_GF_Neg.mono_l k
  ·intro y0 y1 y2 y3 y4 y5 y6 y7 y8
   unfold field_GF_Neg.l0
   repeat' first
   | (with_reducible exact ih0 _ _ _ _ _ _ _ _ _)
   | (with_reducible exact LeO.refl _)
   | (with_reducible exact LeO.none _)
   | (with_reducible refine LeO.ite ?_ ?_)
   | (with_reducible refine LeO.bind ?_ (fun _ => ?_))
   | exact ih0 _ _ _ _ _ _ _ _ _
   | exact LeO.none _
   | refine LeO.ite ?_ ?_
   | refine LeO.bind ?_ (fun _ => ?_)
theorem field_GF_Neg.mono : ∀ a0 a1 a2 a3 a4 a5 a6 k, LeO (field_GF_Neg.f k a0 a1 a2 a3 a4 a5 a6) (field_GF_Neg.f (k + 1) a0 a1 a2 a3 a4 a5 a6) := by
 intro a0 a1 a2 a3 a4 a5 a6 k
 have ih0 := field_GF_Neg.mono_l k
 unfold field_GF_Neg.f
 repeat' first
   | (with_reducible exact ih0 _ _ _ _ _ _ _ _ _)
   | (with_reducible exact LeO.refl _)
   | (with_reducible exact LeO.none _)
   | (with_reducible refine LeO.ite ?_ ?_)
   | (with_reducible refine LeO.bind ?_ (fun _ => ?_))
   | exact ih0 _ _ _ _ _ _ _ _ _
   | exact LeO.none _
   | refine LeO.ite ?_ ?_
   | refine LeO.bind ?_ (fun _ => ?_)
set_option maxHeartbeats 8000000 in
set_option maxRecDepth 100000 in
theorem field_GF_Neg.calls (k : Nat) (g : Nat) (s0_0 : Int) (s0_1 : Int) (s0_2 : List Int) (s0_3 : Int) (s0_4 : List Int) (s0_5 : List Int) (a1 : Int) (r1 : Int) (r2 : Int) (r3 : Int) (r4 : Int) (w0 w : World) (hI : IsS87 w0 w g s0_0 s0_1 s0_2 s0_3 s0_4 s0_5) (hB : Below w0.heap.size w0 w) (h : field_GF_Neg.f k s0_0 s0_1 s0_2 s0_3 s0_4 s0_5 a1 = some (r1, r2, r3, r4)) :
  Calls Try.prog 65 #[.pointer (some ⟨g, 0, none⟩), .int .i64 a1] w fun e w' => e = .returned (.int .i64 r1) ∧ IsS87 w0 w' g r2 r3 s0_2 r4 s0_4 s0_5 ∧ Below w0.heap.size w0 w' ∧ KeepBut w w' g none := by
 have HI0 := Aside0.mk hI
 have HK := Aside0.mk (KeepBut.refl w g none)
 have HL := Aside0.mk hB.size
 clear hI
 have HW0 := Aside0.mk hB.size
 have HB := Aside0.mk hB
 clear hB
 have H : ((field_GF_in.f s0_0 s0_1 s0_2 s0_3 s0_4 s0_5 a1).bind fun bt257 => (field_GF_Neg.l0 k bt257.1 0 1 bt257.2.1 bt257.2.2.1 s0_2 bt257.2.2.2 s0_4 s0_5)) = some (r1, r2, r3, r4) := h
 clear h
 replace H := Option.bind_eq_some_iff.mp H
 obtain ⟨⟨t257, t258, t259, t260⟩, A30, H⟩ := H
 replace H : (field_GF_Neg.l0 k t257 0 1 t258 t259 s0_2 t260 s0_4 s0_5) = some (r1, r2, r3, r4) := H
 have A3 := Aside0.mk A30
 clear A30
 have H' := Aside0.mk H
 clear H
 go_enter Try.func65, Try.ntmps65
 go_wp2_with (first | (go_at_call 64; (with_reducible refine (field_GF_in.calls g s0_0 s0_1 s0_2 s0_3 s0_4 s0_5 a1 t257 t258 t259 t260 w0 _ ?side1 ?side2 A3.out).mono ?_); (case side1 => repeat (first | (with_reducible first | exact HI0.out | apply IsS87.alloc | apply IsS87.drewN | apply IsS87.drew | apply IsS87.set_0 | apply IsS87.set_1 | apply IsS87.set_3) | exact HI0.out)); (case side2 => repeat (first | (with_reducible first | exact HB.out | apply below_alloc | apply pw_below_drewN | apply below_drew1 | refine below_set ?_ (IsS87.ge HI0.out)) | exact HB.out)); rintro e w4 ⟨rfl, hi, hb, hk⟩; have n0_ := Aside0.mk (KeepBut.trans (by repeat (first | (with_reducible first | exact HK.out | apply KeepBut.set_ | apply keep_drewN | apply keep_drew | apply keep_alloc) | exact HK.out)) hk (.inl rfl)); have n1_ := Aside0.mk (hb); have n2_ := Aside0.mk (hi); clear HK; clear HB; clear HI0; have HK := n0_; have HB := n1_; have HI0 := n2_; clear n0_ n1_ n2_; (try clear hb); (try clear hb2); (try clear hk); (try clear hi)))
 repeat (go_quiet (first | (go_at_call 64; (with_reducible refine (field_GF_in.calls g s0_0 s0_1 s0_2 s0_3 s0_4 s0_5 a1 t257 t258 t259 t260 w0 _ ?side1 ?side2 A3.out).mono ?_); (case side1 => repeat (first | (with_reducible first | exact HI0.out | apply IsS87.alloc | apply IsS87.drewN | apply IsS87.drew | apply IsS87.set_0 | apply IsS87.set_1 | apply IsS87.set_3) | exact HI0.out)); (case side2 => repeat (first | (with_reducible first | exact HB.out | apply below_alloc | apply pw_below_drewN | apply below_drew1 | refine below_set ?_ (IsS87.ge HI0.out)) | exact HB.out)); rintro e w4 ⟨rfl, hi, hb, hk⟩; have n0_ := Aside0.mk (KeepBut.trans (by repeat (first | (with_reducible first | exact HK.out | apply KeepBut.set_ | apply keep_drewN | apply keep_drew | apply keep_alloc) | exact HK.out)) hk (.inl rfl)); have n1_ := Aside0.mk (hb); have n2_ := Aside0.mk (hi); clear HK; clear HB; clear HI0; have HK := n0_; have HB := n1_; have HI0 := n2_; clear n0_ n1_ n2_; (try clear hb); (try clear hb2); (try clear hk); (try clear hi))); try go_wp2_with (first | (go_at_call 64; (with_reducible refine (field_GF_in.calls g s0_0 s0_1 s0_2 s0_3 s0_4 s0_5 a1 t257 t258 t259 t260 w0 _ ?side1 ?side2 A3.out).mono ?_); (case side1 => repeat (first | (with_reducible first | exact HI0.out | apply IsS87.alloc | apply IsS87.drewN | apply IsS87.drew | apply IsS87.set_0 | apply IsS87.set_1 | apply IsS87.set_3) | exact HI0.out)); (case side2 => repeat (first | (with_reducible first | exact HB.out | apply below_alloc | apply pw_below_drewN | apply below_drew1 | refine below_set ?_ (IsS87.ge HI0.out)) | exact HB.out)); rintro e w4 ⟨rfl, hi, hb, hk⟩; have n0_ := Aside0.mk (KeepBut.trans (by repeat (first | (with_reducible first | exact HK.out | apply KeepBut.set_ | apply keep_drewN | apply keep_drew | apply keep_alloc) | exact HK.out)) hk (.inl rfl)); have n1_ := Aside0.mk (hb); have n2_ := Aside0.mk (hi); clear HK; clear HB; clear HI0; have HK := n0_; have HB := n1_; have HI0 := n2_; clear n0_ n1_ n2_; (try clear hb); (try clear hb2); (try clear hk); (try clear hi))))
 go_loopg [1, 5, 6] k (fun kq v1 v5 v6 w' => ∃ (x1_1 : Int) (x5_1 : Int) (x6_1 : Int), v1 = .int .i64 x1_1 ∧ v5 = .int .i64 x5_1 ∧ v6 = .int .i64 x6_1 ∧ Aside0 (field_GF_Neg.l0 kq x1_1 x5_1 x6_1 t258 t259 s0_2 t260 s0_4 s0_5 = some (r1, r2, r3, r4)) ∧ Aside0 (kq ≤ k) ∧ Aside0 (IsS87 w0 w' g t258 t259 s0_2 t260 s0_4 s0_5) ∧ Aside0 (KeepBut w w' g none) ∧ Aside0 (Below w0.heap.size w0 w'))
 case atStart => exact ⟨(t257), (0), (1), (by first | rfl | (simp; done) | (simp [*]; done)), (by first | rfl | (simp; done) | (simp [*]; done)), (by first | rfl | (simp; done) | (simp [*]; done)), H', ⟨Nat.le_refl _⟩, ⟨by repeat (first | (with_reducible first | exact HI0.out | apply IsS87.alloc | apply IsS87.drewN | apply IsS87.drew | apply IsS87.set_0 | apply IsS87.set_1 | apply IsS87.set_3) | exact HI0.out)⟩, ⟨by repeat (first | (with_reducible first | exact HK.out | apply KeepBut.set_ | apply keep_drewN | apply keep_drew | apply keep_alloc) | exact HK.out)⟩, ⟨by repeat (first | (with_reducible first | exact HB.out | apply below_alloc | apply pw_below_drewN | apply below_drew1 | refine below_set ?_ (IsS87.ge HI0.out)) | exact HB.out)⟩⟩
 case round =>
  clear H'
  try clear p2
  obtain ⟨x1_1, x5_1, x6_1, rfl, rfl, rfl, HA, HK1, HI0, HK, HB⟩ := hrel
  cases gk with
  | zero => exact absurd HA.out (by simp [field_GF_Neg.l0])
  | succ k1 =>
   have H := HA.out
   clear HA
   simp only [field_GF_Neg.l0] at H
   by_cases c5 : x1_1 > 0
   ·rw [if_pos c5] at H
    have c5b0 : decide (0 < x1_1) = true := decide_eq_true c5
    clear c5
    by_cases c6 : t258 = 0
    ·rw [if_pos c6] at H
     exact absurd H (by simp)
    ·rw [if_neg c6] at H
     have c6b0 : (t258 == 0) = false := beq_eq_false_iff_ne.mpr c6
     have c6b1 : (t258 != 0) = true := bne_iff_ne.mpr c6
     have H' := Aside0.mk H
     clear H
     obtain ⟨ASz7_2, cSz7_2, ASz7_4, cSz7_4, ASz7_5, cSz7_5, HGz7, hgz7, HSz7_2, HSz7_4, HSz7_5⟩ := HI0.out
     have hcz7_0 := cellS87_0 HGz7
     have hcz7_1 := cellS87_1 HGz7
     have hcz7_2 := cellS87_2 HGz7
     have hcz7_3 := cellS87_3 HGz7
     have hcz7_4 := cellS87_4 HGz7
     have hcz7_5 := cellS87_5 HGz7
     have hfz7_0 := blk_frozen HGz7 0
     have hfz7_1 := blk_frozen HGz7 1
     have hfz7_3 := blk_frozen HGz7 3
     clear HGz7 hgz7
     go_wp2
     repeat (go_quiet (fail); try go_wp2)
     go_roundg k1
     case measure => have := HK1.out; omega
     case rel => exact ⟨(wrap64 (Int.tdiv x1_1 t258)), (wrap64 (x5_1 + (wrap64 ((Int.tmod (wrap64 (t258 - (Int.tmod x1_1 t258))) t258) * x6_1)))), (wrap64 (x6_1 * t258)), (by first | rfl | (simp; done) | (simp [*]; done)), (by first | rfl | (simp; done) | (simp [*]; done)), (by first | rfl | (simp; done) | (simp [*]; done)), H', ⟨by have := HK1.out; omega⟩, ⟨by repeat (first | (with_reducible first | exact HI0.out | apply IsS87.alloc | apply IsS87.drewN | apply IsS87.drew | apply IsS87.set_0 | apply IsS87.set_1 | apply IsS87.set_3) | exact HI0.out)⟩, ⟨by repeat (first | (with_reducible first | exact HK.out | apply KeepBut.set_ | apply keep_drewN | apply keep_drew | apply keep_alloc) | exact HK.out)⟩, ⟨by repeat (first | (with_reducible first | exact HB.out | apply below_alloc | apply pw_below_drewN | apply below_drew1 | refine below_set ?_ (IsS87.ge HI0.out)) | exact HB.out)⟩⟩
   ·rw [if_neg c5] at H
    have c5b0 : decide (0 < x1_1) = false := decide_eq_false c5
    clear c5
    simp only [Option.some.injEq, Prod.mk.injEq] at H
    obtain ⟨rfl, rfl, rfl, rfl⟩ := H
    go_wp2
    repeat (go_quiet (fail); try go_wp2)
    go_ret
    exact ⟨by first | rfl | (simp [errW_none, errW_some] <;> rfl) | (simp [*, errW_none, errW_some] <;> rfl), by repeat (first | (with_reducible first | exact HI0.out | apply IsS87.alloc | apply IsS87.drewN | apply IsS87.drew | apply IsS87.set_0 | apply IsS87.set_1 | apply IsS87.set_3) | exact HI0.out), by repeat (first | (with_reducible first | exact HB.out | apply below_alloc | apply pw_below_drewN | apply below_drew1 | refine below_set ?_ (IsS87.ge HI0.out)) | exact HB.out), by repeat (first | (with_reducible first | exact HK.out | apply KeepBut.set_ | apply keep_drewN | apply keep_drew | apply keep_alloc) | exact HK.out)⟩

end Go.Proofs.Ythgaihhlbgccoaa.Q
-- Written by a program of this work over the kit's printer; Lean checks it.
namespace Go.Proofs.Ythgaihhlbgccoaa.Q
open Go.RowKit Go.Proofs.YthgaihhlbgccoaaW.PrintWords Go.Proofs.YthgaihhlbgccoaaW.PrintLast Go.Proofs.YthgaihhlbgccoaaW.PrintMore
attribute [local go_sem] max2_int min2_int max_two min_two max_three min_three max_four min_four   -- for this text's walks alone
set_option linter.unusedVariables false
set_option linter.unusedSimpArgs false

/-! ### field_GF_Sub: function 45 -/
def field_GF_Sub.f (k : Nat) (s0_0 : Int) (s0_1 : Int) (s0_2 : List Int) (s0_3 : Int) (s0_4 : List Int) (s0_5 : List Int) (a1 : Int) (a2 : Int) : Option (Int × Int × Int × Int) := (field_GF_Neg.f k s0_0 s0_1 s0_2 s0_3 s0_4 s0_5 a2).bind fun bt261 => ((field_GF_Add.f k bt261.2.1 bt261.2.2.1 s0_2 bt261.2.2.2 s0_4 s0_5 a1 bt261.1).bind fun bt265 => (some (bt265.1, bt265.2.1, bt265.2.2.1, bt265.2.2.2)))
theorem field_GF_Sub.mono : ∀ a0 a1 a2 a3 a4 a5 a6 a7 k, LeO (field_GF_Sub.f k a0 a1 a2 a3 a4 a5 a6 a7) (field_GF_Sub.f (k + 1) a0 a1 a2 a3 a4 a5 a6 a7) := by
 intro a0 a1 a2 a3 a4 a5 a6 a7 k
 unfold field_GF_Sub.f
 repeat' first
   | (with_reducible exact field_GF_Add.mono _ _ _ _ _ _ _ _ _)
   | (with_reducible exact field_GF_Neg.mono _ _ _ _ _ _ _ _)
   | (with_reducible exact LeO.refl _)
   | (with_reducible exact LeO.none _)
   | (with_reducible refine LeO.ite ?_ ?_)
   | (with_reducible refine LeO.bind ?_ (fun _ => ?_))
   | exact field_GF_Add.mono _ _ _ _ _ _ _ _ _
   | exact field_GF_Neg.mono _ _ _ _ _ _ _ _
   | exact LeO.none _
   | refine LeO.ite ?_ ?_
   | refine LeO.bind ?_ (fun _ => ?_)
set_option maxHeartbeats 8000000 in
set_option maxRecDepth 100000 in
theorem field_GF_Sub.calls (k : Nat) (g : Nat) (s0_0 : Int) (s0_1 : Int) (s0_2 : List Int) (s0_3 : Int) (s0_4 : List Int) (s0_5 : List Int) (a1 : Int) (a2 : Int) (r1 : Int) (r2 : Int) (r3 : Int) (r4 : Int) (w0 w : World) (hI : IsS87 w0 w g s0_0 s0_1 s0_2 s0_3 s0_4 s0_5) (hB : Below w0.heap.size w0 w) (h : field_GF_Sub.f k s0_0 s0_1 s0_2 s0_3 s0_4 s0_5 a1 a2 = some (r1, r2, r3, r4)) :
  Calls Try.prog 45 #[.pointer (some ⟨g, 0, none⟩), .int .i64 a1, .int .i64 a2] w fun e w' => e = .returned (.int .i64 r1) ∧ IsS87 w0 w' g r2 r3 s0_2 r4 s0_4 s0_5 ∧ Below w0.heap.size w0 w' ∧ KeepBut w w' g none := by
 have HI0 := Aside0.mk hI
 have HK := Aside0.mk (KeepBut.refl w g none)
 have HL := Aside0.mk hB.size
 clear hI
 have HW0 := Aside0.mk hB.size
 have HB := Aside0.mk hB
 clear hB
 have H : ((field_GF_Neg.f k s0_0 s0_1 s0_2 s0_3 s0_4 s0_5 a2).bind fun bt261 => ((field_GF_Add.f k bt261.2.1 bt261.2.2.1 s0_2 bt261.2.2.2 s0_4 s0_5 a1 bt261.1).bind fun bt265 => (some (bt265.1, bt265.2.1, bt265.2.2.1, bt265.2.2.2)))) = some (r1, r2, r3, r4) := h
 clear h
 replace H := Option.bind_eq_some_iff.mp H
 obtain ⟨⟨t261, t262, t263, t264⟩, A40, H⟩ := H
 replace H : ((field_GF_Add.f k t262 t263 s0_2 t264 s0_4 s0_5 a1 t261).bind fun bt265 => (some (bt265.1, bt265.2.1, bt265.2.2.1, bt265.2.2.2))) = some (r1, r2, r3, r4) := H
 have A4 := Aside0.mk A40
 clear A40
 replace H := Option.bind_eq_some_iff.mp H
 obtain ⟨⟨t265, t266, t267, t268⟩, A50, H⟩ := H
 replace H : (some (t265, t266, t267, t268)) = some (r1, r2, r3, r4) := H
 have A5 := Aside0.mk A50
 clear A50
 simp only [Option.some.injEq, Prod.mk.injEq] at H
 obtain ⟨rfl, rfl, rfl, rfl⟩ := H
 go_enter Try.func45, Try.ntmps45
 go_wp2_with (first | ((with_reducible refine gate_callee (f := 65) rfl ?_); refine goesL_ (some 11) rfl rfl Try.func65 (by kernel_rfl) rfl #[.pointer (some ⟨g, 0, none⟩), .int .i64 a2] rfl (by (try simp only [List.map_toArray, List.map_cons, List.map_nil]); first | done | rfl | (simp only [List.length_drop, List.length_take]; rfl)) ?_; (with_reducible refine (field_GF_Neg.calls k g s0_0 s0_1 s0_2 s0_3 s0_4 s0_5 a2 t261 t262 t263 t264 w0 _ ?side1 ?side2 A4.out).mono ?_); (case side1 => repeat (first | (with_reducible first | exact HI0.out | apply IsS87.alloc | apply IsS87.drewN | apply IsS87.drew | apply IsS87.set_0 | apply IsS87.set_1 | apply IsS87.set_3) | exact HI0.out)); (case side2 => repeat (first | (with_reducible first | exact HB.out | apply below_alloc | apply pw_below_drewN | apply below_drew1 | refine below_set ?_ (IsS87.ge HI0.out)) | exact HB.out)); rintro e w6 ⟨rfl, hi, hb, hk⟩; refine ⟨_, rfl, ?_⟩; have n0_ := Aside0.mk (KeepBut.trans (by repeat (first | (with_reducible first | exact HK.out | apply KeepBut.set_ | apply keep_drewN | apply keep_drew | apply keep_alloc) | exact HK.out)) hk (.inl rfl)); have n1_ := Aside0.mk (hb); have n2_ := Aside0.mk (hi); clear HK; clear HB; clear HI0; have HK := n0_; have HB := n1_; have HI0 := n2_; clear n0_ n1_ n2_; (try clear hb); (try clear hb2); (try clear hk); (try clear hi)) | ((with_reducible refine gate_callee (f := 44) rfl ?_); refine goesL_ (some 12) rfl rfl Try.func44 (by kernel_rfl) rfl #[.pointer (some ⟨g, 0, none⟩), .int .i64 a1, .int .i64 t261] rfl (by (try simp only [List.map_toArray, List.map_cons, List.map_nil]); first | done | rfl | (simp only [List.length_drop, List.length_take]; rfl)) ?_; (with_reducible refine (field_GF_Add.calls k g t262 t263 s0_2 t264 s0_4 s0_5 a1 t261 t265 t266 t267 t268 w0 _ ?side1 ?side2 A5.out).mono ?_); (case side1 => repeat (first | (with_reducible first | exact HI0.out | apply IsS87.alloc | apply IsS87.drewN | apply IsS87.drew | apply IsS87.set_0 | apply IsS87.set_1 | apply IsS87.set_3) | exact HI0.out)); (case side2 => repeat (first | (with_reducible first | exact HB.out | apply below_alloc | apply pw_below_drewN | apply below_drew1 | refine below_set ?_ (IsS87.ge HI0.out)) | exact HB.out)); rintro e w7 ⟨rfl, hi, hb, hk⟩; refine ⟨_, rfl, ?_⟩; have n0_ := Aside0.mk (KeepBut.trans (by repeat (first | (with_reducible first | exact HK.out | apply KeepBut.set_ | apply keep_drewN | apply keep_drew | apply keep_alloc) | exact HK.out)) hk (.inl rfl)); have n1_ := Aside0.mk (hb); have n2_ := Aside0.mk (hi); clear HK; clear HB; clear HI0; have HK := n0_; have HB := n1_; have HI0 := n2_; clear n0_ n1_ n2_; (try clear hb); (try clear hb2); (try clear hk); (try clear hi)))
 go_ret
 exact ⟨by first | rfl | (simp [errW_none, errW_some] <;> rfl) | (simp [*, errW_none, errW_some] <;> rfl), by repeat (first | (with_reducible first | exact HI0.out | apply IsS87.alloc | apply IsS87.drewN | apply IsS87.drew | apply IsS87.set_0 | apply IsS87.set_1 | apply IsS87.set_3) | exact HI0.out), by repeat (first | (with_reducible first | exact HB.out | apply below_alloc | apply pw_below_drewN | apply below_drew1 | refine below_set ?_ (IsS87.ge HI0.out)) | exact HB.out), by repeat (first | (with_reducible first | exact HK.out | apply KeepBut.set_ | apply keep_drewN | apply keep_drew | apply keep_alloc) | exact HK.out)⟩

end Go.Proofs.Ythgaihhlbgccoaa.Q
