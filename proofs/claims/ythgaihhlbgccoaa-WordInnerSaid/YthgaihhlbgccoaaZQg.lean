-- Joined by pack.py, a program of this work: Qx53 Qx54 Qx55 Qx56 Qx57
import Derived.Test.YthgaihhlbgccoaaZQa
import Derived.Test.YthgaihhlbgccoaaZQb
import Derived.Test.YthgaihhlbgccoaaZQe
import Derived.Test.YthgaihhlbgccoaaZQx31
-- Written by a program of this work over the kit's printer; Lean checks it.
namespace Go.Proofs.Ythgaihhlbgccoaa.Q
open Go.RowKit Go.Proofs.YthgaihhlbgccoaaW.PrintWords Go.Proofs.YthgaihhlbgccoaaW.PrintLast Go.Proofs.YthgaihhlbgccoaaW.PrintMore
attribute [local go_sem] max2_int min2_int max_two min_two max_three min_three max_four min_four   -- for this text's walks alone
set_option linter.unusedVariables false
set_option linter.unusedSimpArgs false

/-! ### field_GF_Sum: function 50 -/
def field_GF_Sum.l0 : Nat → Int → List Int → Int → Int → Int → Int → List Int → Int → List Int → List Int → Option (Int × Int × Int × Int)
 | 0, _, _, _, _, _, _, _, _, _, _ => none
 | k + 1, x5, x8, x9, x10, x1000, x1001, x1002, x1003, x1004, x1005 => if x10 < x9 then (if 0 ≤ x10 then (if x10 < (x8.length : Int) then ((field_GF_Add.f k x1000 x1001 x1002 x1003 x1004 x1005 x5 (rd x8 x10)).bind fun bt440 => (field_GF_Sum.l0 k bt440.1 x8 x9 (wrap64 (x10 + 1)) bt440.2.1 bt440.2.2.1 x1002 bt440.2.2.2 x1004 x1005)) else (none)) else (none)) else (some (x5, x1000, x1001, x1003))
def field_GF_Sum.f (k : Nat) (s0_0 : Int) (s0_1 : Int) (s0_2 : List Int) (s0_3 : Int) (s0_4 : List Int) (s0_5 : List Int) (l1 : List Int) : Option (Int × Int × Int × Int) := field_GF_Sum.l0 k 0 l1 (l1.length : Int) 0 s0_0 s0_1 s0_2 s0_3 s0_4 s0_5
theorem field_GF_Sum.mono_l : ∀ k, (∀ y0 y1 y2 y3 y4 y5 y6 y7 y8 y9, LeO (field_GF_Sum.l0 k y0 y1 y2 y3 y4 y5 y6 y7 y8 y9) (field_GF_Sum.l0 (k + 1) y0 y1 y2 y3 y4 y5 y6 y7 y8 y9))
 | 0 => fun _ _ _ _ _ _ _ _ _ _ r h => by simp [field_GF_Sum.l0] at h
 | k + 1 => by
  have ih0 := field_GF_Sum.mono_l k
  ·intro y0 y1 y2 y3 y4 y5 y6 y7 y8 y9
   unfold field_GF_Sum.l0
   repeat' first
   | (with_reducible exact ih0 _ _ _ _ _ _ _ _ _ _)
   | (with_reducible exact field_GF_Add.mono _ _ _ _ _ _ _ _ _)
   | (with_reducible exact LeO.refl _)
   | (with_reducible exact LeO.none _)
   | (with_reducible refine LeO.ite ?_ ?_)
   | (with_reducible refine LeO.bind ?_ (fun _ => ?_))
   | exact ih0 _ _ _ _ _ _ _ _ _ _
   | exact field_GF_Add.mono _ _ _ _ _ _ _ _ _
   | exact LeO.none _
   | refine LeO.ite ?_ ?_
   | refine LeO.bind ?_ (fun _ => ?_)
theorem field_GF_Sum.mono : ∀ a0 a1 a2 a3 a4 a5 a6 k, LeO (field_GF_Sum.f k a0 a1 a2 a3 a4 a5 a6) (field_GF_Sum.f (k + 1) a0 a1 a2 a3 a4 a5 a6) := by
 intro a0 a1 a2 a3 a4 a5 a6 k
 have ih0 := field_GF_Sum.mono_l k
 unfold field_GF_Sum.f
 repeat' first
   | (with_reducible exact ih0 _ _ _ _ _ _ _ _ _ _)
   | (with_reducible exact field_GF_Add.mono _ _ _ _ _ _ _ _ _)
   | (with_reducible exact LeO.refl _)
   | (with_reducible exact LeO.none _)
   | (with_reducible refine LeO.ite ?_ ?_)
   | (with_reducible refine LeO.bind ?_ (fun _ => ?_))
   | exact ih0 _ _ _ _ _ _ _ _ _ _
   | exact field_GF_Add.mono _ _ _ _ _ _ _ _ _
   | exact LeO.none _
   | refine LeO.ite ?_ ?_
   | refine LeO.bind ?_ (fun _ => ?_)
set_option maxHeartbeats 8000000 in
set_option maxRecDepth 100000 in
theorem field_GF_Sum.calls (k : Nat) (g : Nat) (s0_0 : Int) (s0_1 : Int) (s0_2 : List Int) (s0_3 : Int) (s0_4 : List Int) (s0_5 : List Int) (A1 : Option Addr) (c1 : Nat) (l1 : List Int) (r1 : Int) (r2 : Int) (r3 : Int) (r4 : Int) (w0 w : World) (hI : IsS87 w0 w g s0_0 s0_1 s0_2 s0_3 s0_4 s0_5) (hB : Below w0.heap.size w0 w) (hr1 : Kd.C (Kd.int .i64) w A1 l1.length l1) (hc1 : l1.length ≤ c1) (hf1 : ∀ ad, A1 = some ad → 0 < l1.length → ad.block ≠ g) (h : field_GF_Sum.f k s0_0 s0_1 s0_2 s0_3 s0_4 s0_5 l1 = some (r1, r2, r3, r4)) :
  Calls Try.prog 50 #[.pointer (some ⟨g, 0, none⟩), .slice A1 l1.length c1] w fun e w' => e = .returned (.int .i64 r1) ∧ IsS87 w0 w' g r2 r3 s0_2 r4 s0_4 s0_5 ∧ Below w0.heap.size w0 w' ∧ KeepBut w w' g none := by
 have HR1 := Aside0.mk hr1
 have HC1 := Aside0.mk hc1
 clear hr1 hc1
 have HI0 := Aside0.mk hI
 have HK := Aside0.mk (KeepBut.refl w g none)
 have HL := Aside0.mk hB.size
 clear hI
 have HW0 := Aside0.mk hB.size
 have HB := Aside0.mk hB
 clear hB
 have H : (field_GF_Sum.l0 k 0 l1 (l1.length : Int) 0 s0_0 s0_1 s0_2 s0_3 s0_4 s0_5) = some (r1, r2, r3, r4) := h
 clear h
 have H' := Aside0.mk H
 clear H
 go_enter Try.func50, Try.ntmps50
 go_wp2
 go_loopg [5, 10] k (fun kq v5 v10 w' => ∃ (x5_1 : Int) (x10_1 : Int) (x1000_1 : Int) (x1001_1 : Int) (x1003_1 : Int), v5 = .int .i64 x5_1 ∧ v10 = .int .i64 x10_1 ∧ Aside0 (field_GF_Sum.l0 kq x5_1 l1 (l1.length : Int) x10_1 x1000_1 x1001_1 s0_2 x1003_1 s0_4 s0_5 = some (r1, r2, r3, r4)) ∧ Aside0 (kq ≤ k) ∧ Aside0 (IsS87 w0 w' g x1000_1 x1001_1 s0_2 x1003_1 s0_4 s0_5) ∧ Aside0 (KeepBut w w' g none) ∧ Aside0 (Below w0.heap.size w0 w'))
 case atStart => exact ⟨(0), (0), (s0_0), (s0_1), (s0_3), (by first | rfl | (simp; done) | (simp [*]; done)), (by first | rfl | (simp; done) | (simp [*]; done)), H', ⟨Nat.le_refl _⟩, ⟨by repeat (first | (with_reducible first | exact HI0.out | apply IsS87.alloc | apply IsS87.drewN | apply IsS87.drew | apply IsS87.set_0 | apply IsS87.set_1 | apply IsS87.set_3) | exact HI0.out)⟩, ⟨by repeat (first | (with_reducible first | exact HK.out | apply KeepBut.set_ | apply keep_drewN | apply keep_drew | apply keep_alloc) | exact HK.out)⟩, ⟨by repeat (first | (with_reducible first | exact HB.out | apply below_alloc | apply pw_below_drewN | apply below_drew1 | refine below_set ?_ (IsS87.ge HI0.out)) | exact HB.out)⟩⟩
 case round =>
  clear H'
  try clear c1
  try clear p2
  obtain ⟨x5_1, x10_1, x1000_1, x1001_1, x1003_1, rfl, rfl, HA, HK1, HI0, HK, HB⟩ := hrel
  cases gk with
  | zero => exact absurd HA.out (by simp [field_GF_Sum.l0])
  | succ k1 =>
   have H := HA.out
   clear HA
   simp only [field_GF_Sum.l0] at H
   by_cases c3 : x10_1 < (l1.length : Int)
   ·rw [if_pos c3] at H
    have c3b0 : decide (x10_1 < (l1.length : Int)) = true := decide_eq_true c3
    clear c3
    by_cases c4 : 0 ≤ x10_1
    ·rw [if_pos c4] at H
     have c4b0 : decide (0 ≤ x10_1) = true := decide_eq_true c4
     clear c4
     by_cases c5 : x10_1 < (l1.length : Int)
     ·rw [if_pos c5] at H
      have c5b0 : decide (x10_1 < (l1.length : Int)) = true := decide_eq_true c5
      clear c5
      replace H := Option.bind_eq_some_iff.mp H
      obtain ⟨⟨t440, t441, t442, t443⟩, A60, H⟩ := H
      replace H : (field_GF_Sum.l0 k1 t440 l1 (l1.length : Int) (wrap64 (x10_1 + 1)) t441 t442 s0_2 t443 s0_4 s0_5) = some (r1, r2, r3, r4) := H
      have A6 := Aside0.mk A60
      clear A60
      have H' := Aside0.mk H
      clear H
      have p439 : 0 ≤ (x10_1 : Int) := of_decide_eq_true (by first | (with_reducible assumption) | assumption)
      have q439 : x10_1 < (l1.length : Int) := of_decide_eq_true (by first | (with_reducible assumption) | assumption)
      obtain ⟨ad439, e439, hx439_0⟩ := Kd.at_int HR1.out x10_1 p439 q439
      cases e439
      replace hx439_0 := keep_cell HK.out hx439_0 (by first | (rw [add_block]; exact hf1 _ rfl (by omega)) | exact hf1 _ rfl (by omega) | exact hf1 ad439 rfl (by omega))
      replace p439 := eq_true p439
      replace q439 := eq_true q439
      go_wp2_with (first | ((with_reducible refine gate_callee (f := 44) rfl ?_); refine goesL_ (some 17) rfl rfl Try.func44 (by kernel_rfl) rfl #[.pointer (some ⟨g, 0, none⟩), .int .i64 x5_1, .int .i64 (rd l1 x10_1)] rfl (by (try simp only [List.map_toArray, List.map_cons, List.map_nil]); first | done | rfl | (simp only [List.length_drop, List.length_take]; rfl)) ?_; (with_reducible refine (field_GF_Add.calls k1 g x1000_1 x1001_1 s0_2 x1003_1 s0_4 s0_5 x5_1 (rd l1 x10_1) t440 t441 t442 t443 w0 _ ?side1 ?side2 A6.out).mono ?_); (case side1 => repeat (first | (with_reducible first | exact HI0.out | apply IsS87.alloc | apply IsS87.drewN | apply IsS87.drew | apply IsS87.set_0 | apply IsS87.set_1 | apply IsS87.set_3) | exact HI0.out)); (case side2 => repeat (first | (with_reducible first | exact HB.out | apply below_alloc | apply pw_below_drewN | apply below_drew1 | refine below_set ?_ (IsS87.ge HI0.out)) | exact HB.out)); rintro e w7 ⟨rfl, hi, hb, hk⟩; refine ⟨_, rfl, ?_⟩; have n0_ := Aside0.mk (KeepBut.trans (by repeat (first | (with_reducible first | exact HK.out | apply KeepBut.set_ | apply keep_drewN | apply keep_drew | apply keep_alloc) | exact HK.out)) hk (.inl rfl)); have n1_ := Aside0.mk (hb); have n2_ := Aside0.mk (hi); clear HK; clear HB; clear HI0; have HK := n0_; have HB := n1_; have HI0 := n2_; clear n0_ n1_ n2_; (try clear hb); (try clear hb2); (try clear hk); (try clear hi)))
      go_roundg k1
      case measure => have := HK1.out; omega
      case rel => exact ⟨(t440), (wrap64 (x10_1 + 1)), (t441), (t442), (t443), (by first | rfl | (simp; done) | (simp [*]; done)), (by first | rfl | (simp; done) | (simp [*]; done)), H', ⟨by have := HK1.out; omega⟩, ⟨by repeat (first | (with_reducible first | exact HI0.out | apply IsS87.alloc | apply IsS87.drewN | apply IsS87.drew | apply IsS87.set_0 | apply IsS87.set_1 | apply IsS87.set_3) | exact HI0.out)⟩, ⟨by repeat (first | (with_reducible first | exact HK.out | apply KeepBut.set_ | apply keep_drewN | apply keep_drew | apply keep_alloc) | exact HK.out)⟩, ⟨by repeat (first | (with_reducible first | exact HB.out | apply below_alloc | apply pw_below_drewN | apply below_drew1 | refine below_set ?_ (IsS87.ge HI0.out)) | exact HB.out)⟩⟩
     ·rw [if_neg c5] at H
      exact absurd H (by simp)
    ·rw [if_neg c4] at H
     exact absurd H (by simp)
   ·rw [if_neg c3] at H
    have c3b0 : decide (x10_1 < (l1.length : Int)) = false := decide_eq_false c3
    clear c3
    simp only [Option.some.injEq, Prod.mk.injEq] at H
    obtain ⟨rfl, rfl, rfl, rfl⟩ := H
    go_wp2
    go_ret
    exact ⟨by first | rfl | (simp [errW_none, errW_some] <;> rfl) | (simp [*, errW_none, errW_some] <;> rfl), by repeat (first | (with_reducible first | exact HI0.out | apply IsS87.alloc | apply IsS87.drewN | apply IsS87.drew | apply IsS87.set_0 | apply IsS87.set_1 | apply IsS87.set_3) | exact HI0.out), by repeat (first | (with_reducible first | exact HB.out | apply below_alloc | apply pw_below_drewN | apply below_drew1 | refine below_set ?_ (IsS87.ge HI0.out)) | exact HB.out), by repeat (first | (with_reducible first | exact HK.out | apply KeepBut.set_ | apply keep_drewN | apply keep_drew | apply keep_alloc) | exact HK.out)⟩

end Go.Proofs.Ythgaihhlbgccoaa.Q
-- Written by a program of this work over the kit's printer; Lean checks it.
namespace Go.Proofs.Ythgaihhlbgccoaa.Q
open Go.RowKit Go.Proofs.YthgaihhlbgccoaaW.PrintWords Go.Proofs.YthgaihhlbgccoaaW.PrintLast Go.Proofs.YthgaihhlbgccoaaW.PrintMore
attribute [local go_sem] max2_int min2_int max_two min_two max_three min_three max_four min_four   -- for this text's walks alone
set_option linter.unusedVariables false
set_option linter.unusedSimpArgs false

/-! ### word_Inner: function 27 -/
def word_Inner.f (k : Nat) (s0_0 : Int) (s0_1 : Int) (s0_2 : List Int) (s0_3 : Int) (s0_4 : List Int) (s0_5 : List Int) (l1 : List Int) (l2 : List Int) : Option (Int × Int × Int × Int × Int) := (word_pairwise_Mul.f k s0_0 s0_1 s0_2 s0_3 s0_4 s0_5 l1 l2).bind fun bt477 => ((field_GF_Sum.f k bt477.2.2.1 bt477.2.2.2.1 s0_2 bt477.2.2.2.2 s0_4 s0_5 bt477.1).bind fun bt484 => (some (bt484.1, bt477.2.1, bt484.2.1, bt484.2.2.1, bt484.2.2.2)))
theorem word_Inner.mono : ∀ a0 a1 a2 a3 a4 a5 a6 a7 k, LeO (word_Inner.f k a0 a1 a2 a3 a4 a5 a6 a7) (word_Inner.f (k + 1) a0 a1 a2 a3 a4 a5 a6 a7) := by
 intro a0 a1 a2 a3 a4 a5 a6 a7 k
 unfold word_Inner.f
 repeat' first
   | (with_reducible exact field_GF_Sum.mono _ _ _ _ _ _ _ _)
   | (with_reducible exact word_pairwise_Mul.mono _ _ _ _ _ _ _ _ _)
   | (with_reducible exact LeO.refl _)
   | (with_reducible exact LeO.none _)
   | (with_reducible refine LeO.ite ?_ ?_)
   | (with_reducible refine LeO.bind ?_ (fun _ => ?_))
   | exact field_GF_Sum.mono _ _ _ _ _ _ _ _
   | exact word_pairwise_Mul.mono _ _ _ _ _ _ _ _ _
   | exact LeO.none _
   | refine LeO.ite ?_ ?_
   | refine LeO.bind ?_ (fun _ => ?_)
set_option maxHeartbeats 8000000 in
set_option maxRecDepth 100000 in
theorem word_Inner.calls (k : Nat) (g : Nat) (s0_0 : Int) (s0_1 : Int) (s0_2 : List Int) (s0_3 : Int) (s0_4 : List Int) (s0_5 : List Int) (A1 : Option Addr) (c1 : Nat) (l1 : List Int) (A2 : Option Addr) (c2 : Nat) (l2 : List Int) (r1 : Int) (r2 : Int) (r3 : Int) (r4 : Int) (r5 : Int) (w0 w : World) (hI : IsS87 w0 w g s0_0 s0_1 s0_2 s0_3 s0_4 s0_5) (hB : Below w0.heap.size w0 w) (hr1 : Kd.C (Kd.int .i64) w A1 l1.length l1) (hc1 : l1.length ≤ c1) (hf1 : ∀ ad, A1 = some ad → 0 < l1.length → ad.block ≠ g) (hr2 : Kd.C (Kd.int .i64) w A2 l2.length l2) (hc2 : l2.length ≤ c2) (hf2 : ∀ ad, A2 = some ad → 0 < l2.length → ad.block ≠ g) (h : word_Inner.f k s0_0 s0_1 s0_2 s0_3 s0_4 s0_5 l1 l2 = some (r1, r2, r3, r4, r5)) :
  Calls Try.prog 27 #[.pointer (some ⟨g, 0, none⟩), .slice A1 l1.length c1, .slice A2 l2.length c2] w fun e w' => e = .returned (.tuple #[.int .i64 r1, .int .i64 r2]) ∧ IsS87 w0 w' g r3 r4 s0_2 r5 s0_4 s0_5 ∧ Below w0.heap.size w0 w' ∧ KeepBut w w' g none := by
 have HR1 := Aside0.mk hr1
 have HC1 := Aside0.mk hc1
 clear hr1 hc1
 have HR2 := Aside0.mk hr2
 have HC2 := Aside0.mk hc2
 clear hr2 hc2
 have HI0 := Aside0.mk hI
 have HK := Aside0.mk (KeepBut.refl w g none)
 have HL := Aside0.mk hB.size
 clear hI
 have HW0 := Aside0.mk hB.size
 have HB := Aside0.mk hB
 clear hB
 have H : ((word_pairwise_Mul.f k s0_0 s0_1 s0_2 s0_3 s0_4 s0_5 l1 l2).bind fun bt477 => ((field_GF_Sum.f k bt477.2.2.1 bt477.2.2.2.1 s0_2 bt477.2.2.2.2 s0_4 s0_5 bt477.1).bind fun bt484 => (some (bt484.1, bt477.2.1, bt484.2.1, bt484.2.2.1, bt484.2.2.2)))) = some (r1, r2, r3, r4, r5) := h
 clear h
 replace H := Option.bind_eq_some_iff.mp H
 obtain ⟨⟨t477, t480, t481, t482, t483⟩, A40, H⟩ := H
 replace H : ((field_GF_Sum.f k t481 t482 s0_2 t483 s0_4 s0_5 t477).bind fun bt484 => (some (bt484.1, t480, bt484.2.1, bt484.2.2.1, bt484.2.2.2))) = some (r1, r2, r3, r4, r5) := H
 have A4 := Aside0.mk A40
 clear A40
 replace H := Option.bind_eq_some_iff.mp H
 obtain ⟨⟨t484, t485, t486, t487⟩, A50, H⟩ := H
 replace H : (some (t484, t480, t485, t486, t487)) = some (r1, r2, r3, r4, r5) := H
 have A5 := Aside0.mk A50
 clear A50
 simp only [Option.some.injEq, Prod.mk.injEq] at H
 obtain ⟨rfl, rfl, rfl, rfl, rfl⟩ := H
 go_enter Try.func27, Try.ntmps27
 go_wp2_with (first | ((with_reducible refine gate_callee (f := 43) rfl ?_); refine goesL_ (some 16) rfl rfl Try.func43 (by kernel_rfl) rfl #[.pointer (some ⟨g, 0, none⟩), .slice A1 l1.length c1, .slice A2 l2.length c2, .func (.func 49) #[.pointer (some ⟨g, 0, none⟩)] #[]] rfl (by (try simp only [List.map_toArray, List.map_cons, List.map_nil]); first | done | rfl | (simp only [List.length_drop, List.length_take]; rfl)) ?_; (with_reducible refine (word_pairwise_Mul.calls k g s0_0 s0_1 s0_2 s0_3 s0_4 s0_5 _ _ l1 _ _ l2 t477 t480 t481 t482 t483 w0 _ ?side1 ?side2 ?side3 ?side4 ?side5 ?side6 ?side7 ?side8 A4.out).mono ?_); (case side1 => repeat (first | (with_reducible first | exact HI0.out | apply IsS87.alloc | apply IsS87.drewN | apply IsS87.drew | apply IsS87.set_0 | apply IsS87.set_1 | apply IsS87.set_3) | exact HI0.out)); (case side2 => repeat (first | (with_reducible first | exact HB.out | apply below_alloc | apply pw_below_drewN | apply below_drew1 | refine below_set ?_ (IsS87.ge HI0.out)) | exact HB.out)); (case side3 => exact Kd.C_keep 0 HR1.out (by repeat (first | (with_reducible first | exact HK.out | apply KeepBut.set_ | apply keep_drewN | apply keep_drew | apply keep_alloc) | exact HK.out)) hf1); (case side4 => exact HC1.out); (case side5 => exact hf1); (case side6 => exact Kd.C_keep 0 HR2.out (by repeat (first | (with_reducible first | exact HK.out | apply KeepBut.set_ | apply keep_drewN | apply keep_drew | apply keep_alloc) | exact HK.out)) hf2); (case side7 => exact HC2.out); (case side8 => exact hf2); rintro e w6 ⟨v478, rfl, ho0, hi, hb, hk⟩; refine ⟨_, rfl, ?_⟩; have n0_ := Aside0.mk (Kd.R_lower ho0 (keep_size (w := w) (g := g) (row := none) (by repeat (first | (with_reducible first | exact HK.out | apply KeepBut.set_ | apply keep_drewN | apply keep_drew | apply keep_alloc) | exact HK.out)))); have n1_ := Aside0.mk (KeepBut.trans (by repeat (first | (with_reducible first | exact HK.out | apply KeepBut.set_ | apply keep_drewN | apply keep_drew | apply keep_alloc) | exact HK.out)) hk (.inl rfl)); have n2_ := Aside0.mk (hb); have n3_ := Aside0.mk (hi); clear HK; clear HB; clear HI0; have HO479 := n0_; have HK := n1_; have HB := n2_; have HI0 := n3_; clear n0_ n1_ n2_ n3_; (try clear hb); (try clear hb2); (try clear hk); (try clear hi); (try clear ho0); obtain ⟨Ao7, co7, eo7⟩ := Kd.R_slice HO479.out; subst eo7) | ((with_reducible refine gate_callee (f := 50) rfl ?_); refine goesL_ (some 21) rfl rfl Try.func50 (by kernel_rfl) rfl #[.pointer (some ⟨g, 0, none⟩), .slice Ao7 t477.length co7] rfl (by (try simp only [List.map_toArray, List.map_cons, List.map_nil]); first | done | rfl | (simp only [List.length_drop, List.length_take]; rfl)) ?_; (with_reducible refine (field_GF_Sum.calls k g t481 t482 s0_2 t483 s0_4 s0_5 _ _ t477 t484 t485 t486 t487 w0 _ ?side1 ?side2 ?side3 ?side4 ?side5 A5.out).mono ?_); (case side1 => repeat (first | (with_reducible first | exact HI0.out | apply IsS87.alloc | apply IsS87.drewN | apply IsS87.drew | apply IsS87.set_0 | apply IsS87.set_1 | apply IsS87.set_3) | exact HI0.out)); (case side2 => repeat (first | (with_reducible first | exact HB.out | apply below_alloc | apply pw_below_drewN | apply below_drew1 | refine below_set ?_ (IsS87.ge HI0.out)) | exact HB.out)); (case side3 => repeat (first | exact (Kd.R_reads' HO479.out).2.2 | (with_reducible refine Kd.C_alloc ?_ _) | (with_reducible refine Kd.C_drewN ?_ _) | (with_reducible refine Kd.C_drew ?_))); (case side4 => exact (Kd.R_reads' HO479.out).2.1); (case side5 => exact far_slice (IsS87.own_ne HI0.out HO479.out (by decide))); rintro e w8 ⟨rfl, hi, hb, hk⟩; refine ⟨_, rfl, ?_⟩; have n0_ := Aside0.mk (Kd.R_mono (Kd.R_keep (IsS87.apart (show IsS87 w0 _ g t481 t482 s0_2 t483 s0_4 s0_5 from by repeat (first | (with_reducible first | exact HI0.out | apply IsS87.alloc | apply IsS87.drewN | apply IsS87.drew | apply IsS87.set_0 | apply IsS87.set_1 | apply IsS87.set_3) | exact HI0.out)) (by (with_reducible repeat (first | apply Kd.R_alloc | apply Kd.R_drewN | apply Kd.R_drew)); exact HO479.out) (by decide)) hk (fun _ h => h.2)) (fun _ h => h.1)); have n1_ := Aside0.mk (KeepBut.trans (by repeat (first | (with_reducible first | exact HK.out | apply KeepBut.set_ | apply keep_drewN | apply keep_drew | apply keep_alloc) | exact HK.out)) hk (.inl rfl)); have n2_ := Aside0.mk (hb); have n3_ := Aside0.mk (hi); clear HO479; clear HK; clear HB; clear HI0; have HO479 := n0_; have HK := n1_; have HB := n2_; have HI0 := n3_; clear n0_ n1_ n2_ n3_; (try clear hb); (try clear hb2); (try clear hk); (try clear hi)))
 go_ret2
 exact ⟨by first | rfl | (simp [errW_none, errW_some] <;> rfl) | (simp [*, errW_none, errW_some] <;> rfl), by repeat (first | (with_reducible first | exact HI0.out | apply IsS87.alloc | apply IsS87.drewN | apply IsS87.drew | apply IsS87.set_0 | apply IsS87.set_1 | apply IsS87.set_3) | exact HI0.out), by repeat (first | (with_reducible first | exact HB.out | apply below_alloc | apply pw_below_drewN | apply below_drew1 | refine below_set ?_ (IsS87.ge HI0.out)) | exact HB.out), by repeat (first | (with_reducible first | exact HK.out | apply KeepBut.set_ | apply keep_drewN | apply keep_drew | apply keep_alloc) | exact HK.out)⟩


end Go.Proofs.Ythgaihhlbgccoaa.Q
-- Written by a program of this work over the kit's printer; Lean checks it.
namespace Go.Proofs.Ythgaihhlbgccoaa.Q
open Go.RowKit Go.Proofs.YthgaihhlbgccoaaW.PrintWords Go.Proofs.YthgaihhlbgccoaaW.PrintLast Go.Proofs.YthgaihhlbgccoaaW.PrintMore
attribute [local go_sem] max2_int min2_int max_two min_two max_three min_three max_four min_four   -- for this text's walks alone
set_option linter.unusedVariables false
set_option linter.unusedSimpArgs false

/-! ### cr4_Mul: function 67 -/
mutual
def cr4_Mul.l0 : Nat → List Int → List Int → List Int → Int → Int → Int → List Int → Option (Int)
 | 0, _, _, _, _, _, _, _ => none
 | k + 1, x7, x8, x9, x10, x445000, x445001, x445002 => if x10 < x445001 then (cr4_Mul.l1 k x7 x8 x9 x10 0 x445000 x445001 x445002) else (cr4_Mul.l2 k x9 (wrap64 ((wrap64 (2 * x445001)) - 2)) x445000 x445001 x445002)
def cr4_Mul.l1 : Nat → List Int → List Int → List Int → Int → Int → Int → Int → List Int → Option (Int)
 | 0, _, _, _, _, _, _, _, _ => none
 | k + 1, x7, x8, x9, x10, x11, x445000, x445001, x445002 => if x11 < x445001 then (if 0 ≤ (wrap64 (x10 + x11)) then (if (wrap64 (x10 + x11)) < (x9.length : Int) then (if 0 ≤ x10 then (if x10 < (x7.length : Int) then (if 0 ≤ x11 then (if x11 < (x8.length : Int) then (if x445000 = 0 then (none) else (cr4_Mul.l1 k x7 x8 (x9.set ((wrap64 (x10 + x11)) : Int).toNat (Int.tmod (wrap64 ((rd x9 (wrap64 (x10 + x11))) + (wrap64 ((rd x7 x10) * (rd x8 x11))))) x445000)) x10 (wrap64 (x11 + 1)) x445000 x445001 x445002)) else (none)) else (none)) else (none)) else (none)) else (none)) else (none)) else (cr4_Mul.l0 k x7 x8 x9 (wrap64 (x10 + 1)) x445000 x445001 x445002)
def cr4_Mul.l2 : Nat → List Int → Int → Int → Int → List Int → Option (Int)
 | 0, _, _, _, _, _ => none
 | k + 1, x9, x12, x445000, x445001, x445002 => if x12 ≥ x445001 then (cr4_Mul.l3 k x9 x12 0 x445000 x445001 x445002) else (if 0 ≤ x445001 then (if x445001 ≤ (x9.length : Int) then ((cr4_Value.f k x445000 x445001 x445002 (x9.take (x445001 : Int).toNat)).bind fun t462 => (some t462)) else (none)) else (none))
def cr4_Mul.l3 : Nat → List Int → Int → Int → Int → Int → List Int → Option (Int)
 | 0, _, _, _, _, _, _ => none
 | k + 1, x9, x12, x13, x445000, x445001, x445002 => if x13 < x445001 then (if 0 ≤ (wrap64 ((wrap64 (x12 - x445001)) + x13)) then (if (wrap64 ((wrap64 (x12 - x445001)) + x13)) < (x9.length : Int) then (if 0 ≤ x12 then (if x12 < (x9.length : Int) then (if 0 ≤ x13 then (if x13 < (x445002.length : Int) then (if x445000 = 0 then (none) else (cr4_Mul.l3 k (x9.set ((wrap64 ((wrap64 (x12 - x445001)) + x13)) : Int).toNat (Int.tmod (wrap64 ((rd x9 (wrap64 ((wrap64 (x12 - x445001)) + x13))) + (wrap64 ((wrap64 (x445000 - (rd x9 x12))) * (rd x445002 x13))))) x445000)) x12 (wrap64 (x13 + 1)) x445000 x445001 x445002)) else (none)) else (none)) else (none)) else (none)) else (none)) else (none)) else (cr4_Mul.l2 k x9 (wrap64 (x12 - 1)) x445000 x445001 x445002)
end
def cr4_Mul.f (k : Nat) (a0_0 : Int) (a0_1 : Int) (l0_2 : List Int) (a1 : Int) (a2 : Int) : Option (Int) := (cr4_Digits.f k a0_0 a0_1 l0_2 a1).bind fun t445 => ((cr4_Digits.f k a0_0 a0_1 l0_2 a2).bind fun t448 => (if 0 ≤ (wrap64 ((wrap64 (2 * a0_1)) - 1)) then (if (wrap64 ((wrap64 (2 * a0_1)) - 1) : Int).toNat ≤ 35184372088832 then (cr4_Mul.l0 k t445 t448 (List.replicate (wrap64 ((wrap64 (2 * a0_1)) - 1) : Int).toNat 0) 0 a0_0 a0_1 l0_2) else (none)) else (none)))
theorem cr4_Mul.mono_l : ∀ k, (∀ y0 y1 y2 y3 y4 y5 y6, LeO (cr4_Mul.l0 k y0 y1 y2 y3 y4 y5 y6) (cr4_Mul.l0 (k + 1) y0 y1 y2 y3 y4 y5 y6)) ∧ (∀ y0 y1 y2 y3 y4 y5 y6 y7, LeO (cr4_Mul.l1 k y0 y1 y2 y3 y4 y5 y6 y7) (cr4_Mul.l1 (k + 1) y0 y1 y2 y3 y4 y5 y6 y7)) ∧ (∀ y0 y1 y2 y3 y4, LeO (cr4_Mul.l2 k y0 y1 y2 y3 y4) (cr4_Mul.l2 (k + 1) y0 y1 y2 y3 y4)) ∧ (∀ y0 y1 y2 y3 y4 y5, LeO (cr4_Mul.l3 k y0 y1 y2 y3 y4 y5) (cr4_Mul.l3 (k + 1) y0 y1 y2 y3 y4 y5))
 | 0 => ⟨fun _ _ _ _ _ _ _ r h => by simp [cr4_Mul.l0] at h, fun _ _ _ _ _ _ _ _ r h => by simp [cr4_Mul.l1] at h, fun _ _ _ _ _ r h => by simp [cr4_Mul.l2] at h, fun _ _ _ _ _ _ r h => by simp [cr4_Mul.l3] at h⟩
 | k + 1 => by
  obtain ⟨ih0, ih1, ih2, ih3⟩ := cr4_Mul.mono_l k
  refine ⟨?_, ?_, ?_, ?_⟩
  ·intro y0 y1 y2 y3 y4 y5 y6
   unfold cr4_Mul.l0
   repeat' first
   | (with_reducible exact ih0 _ _ _ _ _ _ _)
   | (with_reducible exact ih1 _ _ _ _ _ _ _ _)
   | (with_reducible exact ih2 _ _ _ _ _)
   | (with_reducible exact ih3 _ _ _ _ _ _)
   | (with_reducible exact cr4_Digits.mono _ _ _ _ _)
   | (with_reducible exact cr4_Value.mono _ _ _ _ _)
   | (with_reducible exact LeO.refl _)
   | (with_reducible exact LeO.none _)
   | (with_reducible refine LeO.ite ?_ ?_)
   | (with_reducible refine LeO.bind ?_ (fun _ => ?_))
   | exact ih0 _ _ _ _ _ _ _
   | exact ih1 _ _ _ _ _ _ _ _
   | exact ih2 _ _ _ _ _
   | exact ih3 _ _ _ _ _ _
   | exact cr4_Digits.mono _ _ _ _ _
   | exact cr4_Value.mono _ _ _ _ _
   | exact LeO.none _
   | refine LeO.ite ?_ ?_
   | refine LeO.bind ?_ (fun _ => ?_)
  ·intro y0 y1 y2 y3 y4 y5 y6 y7
   unfold cr4_Mul.l1
   repeat' first
   | (with_reducible exact ih0 _ _ _ _ _ _ _)
   | (with_reducible exact ih1 _ _ _ _ _ _ _ _)
   | (with_reducible exact ih2 _ _ _ _ _)
   | (with_reducible exact ih3 _ _ _ _ _ _)
   | (with_reducible exact cr4_Digits.mono _ _ _ _ _)
   | (with_reducible exact cr4_Value.mono _ _ _ _ _)
   | (with_reducible exact LeO.refl _)
   | (with_reducible exact LeO.none _)
   | (with_reducible refine LeO.ite ?_ ?_)
   | (with_reducible refine LeO.bind ?_ (fun _ => ?_))
   | exact ih0 _ _ _ _ _ _ _
   | exact ih1 _ _ _ _ _ _ _ _
   | exact ih2 _ _ _ _ _
   | exact ih3 _ _ _ _ _ _
   | exact cr4_Digits.mono _ _ _ _ _
   | exact cr4_Value.mono _ _ _ _ _
   | exact LeO.none _
   | refine LeO.ite ?_ ?_
   | refine LeO.bind ?_ (fun _ => ?_)
  ·intro y0 y1 y2 y3 y4
   unfold cr4_Mul.l2
   repeat' first
   | (with_reducible exact ih0 _ _ _ _ _ _ _)
   | (with_reducible exact ih1 _ _ _ _ _ _ _ _)
   | (with_reducible exact ih2 _ _ _ _ _)
   | (with_reducible exact ih3 _ _ _ _ _ _)
   | (with_reducible exact cr4_Digits.mono _ _ _ _ _)
   | (with_reducible exact cr4_Value.mono _ _ _ _ _)
   | (with_reducible exact LeO.refl _)
   | (with_reducible exact LeO.none _)
   | (with_reducible refine LeO.ite ?_ ?_)
   | (with_reducible refine LeO.bind ?_ (fun _ => ?_))
   | exact ih0 _ _ _ _ _ _ _
   | exact ih1 _ _ _ _ _ _ _ _
   | exact ih2 _ _ _ _ _
   | exact ih3 _ _ _ _ _ _
   | exact cr4_Digits.mono _ _ _ _ _
   | exact cr4_Value.mono _ _ _ _ _
   | exact LeO.none _
   | refine LeO.ite ?_ ?_
   | refine LeO.bind ?_ (fun _ => ?_)
  ·intro y0 y1 y2 y3 y4 y5
   unfold cr4_Mul.l3
   repeat' first
   | (with_reducible exact ih0 _ _ _ _ _ _ _)
   | (with_reducible exact ih1 _ _ _ _ _ _ _ _)
   | (with_reducible exact ih2 _ _ _ _ _)
   | (with_reducible exact ih3 _ _ _ _ _ _)
   | (with_reducible exact cr4_Digits.mono _ _ _ _ _)
   | (with_reducible exact cr4_Value.mono _ _ _ _ _)
   | (with_reducible exact LeO.refl _)
   | (with_reducible exact LeO.none _)
   | (with_reducible refine LeO.ite ?_ ?_)
   | (with_reducible refine LeO.bind ?_ (fun _ => ?_))
   | exact ih0 _ _ _ _ _ _ _
   | exact ih1 _ _ _ _ _ _ _ _
   | exact ih2 _ _ _ _ _
   | exact ih3 _ _ _ _ _ _
   | exact cr4_Digits.mono _ _ _ _ _
   | exact cr4_Value.mono _ _ _ _ _
   | exact LeO.none _
   | refine LeO.ite ?_ ?_
   | refine LeO.bind ?_ (fun _ => ?_)
theorem cr4_Mul.mono : ∀ a0 a1 a2 a3 a4 k, LeO (cr4_Mul.f k a0 a1 a2 a3 a4) (cr4_Mul.f (k + 1) a0 a1 a2 a3 a4) := by
 intro a0 a1 a2 a3 a4 k
 obtain ⟨ih0, ih1, ih2, ih3⟩ := cr4_Mul.mono_l k
 unfold cr4_Mul.f
 repeat' first
   | (with_reducible exact ih0 _ _ _ _ _ _ _)
   | (with_reducible exact ih1 _ _ _ _ _ _ _ _)
   | (with_reducible exact ih2 _ _ _ _ _)
   | (with_reducible exact ih3 _ _ _ _ _ _)
   | (with_reducible exact cr4_Digits.mono _ _ _ _ _)
   | (with_reducible exact cr4_Value.mono _ _ _ _ _)
   | (with_reducible exact LeO.refl _)
   | (with_reducible exact LeO.none _)
   | (with_reducible refine LeO.ite ?_ ?_)
   | (with_reducible refine LeO.bind ?_ (fun _ => ?_))
   | exact ih0 _ _ _ _ _ _ _
   | exact ih1 _ _ _ _ _ _ _ _
   | exact ih2 _ _ _ _ _
   | exact ih3 _ _ _ _ _ _
   | exact cr4_Digits.mono _ _ _ _ _
   | exact cr4_Value.mono _ _ _ _ _
   | exact LeO.none _
   | refine LeO.ite ?_ ?_
   | refine LeO.bind ?_ (fun _ => ?_)
def cr4_Mul.T10 : Bool × List (List Nat × List Nat) := (true, [([], []), ([], []), ([], []), ([1, 2], [1, 2]), ([], []), ([], []), ([], []), ([5, 6], [5, 6]), ([4, 7], [4, 7]), ([8], [8]), ([], []), ([], []), ([10, 11], [10, 11]), ([12], [12]), ([], []), ([], []), ([14, 15], [14, 15]), ([16], [16]), ([13, 17], [13, 17]), ([9, 18], [9, 18]), ([], []), ([20], [20]), ([19, 21], [19, 21]), ([0, 3, 0, 1, 2, 3, 4, 5, 6, 7, 8, 9, 10, 11, 12, 13, 14, 15, 16, 17, 18, 19, 20, 21, 22], [0, 3]), ([23, 22, 0, 1, 2, 3, 4, 5, 6, 7, 8, 9, 10, 11, 12, 13, 14, 15, 16, 17, 18, 19, 20, 21, 22], [22, 23])])
def cr4_Mul.B10 : List Nat := [0, 0, 0, 6, 0, 0, 0, 96, 240, 496, 0, 0, 3072, 7168, 0, 0, 49152, 114688, 261120, 524272, 0, 1048576, 4194288, 8388607, 16777215]
theorem cr4_Mul.tab10 : rtab .any (opsOf Try.f67 10) = cr4_Mul.T10 := by kernel_rfl
theorem cr4_Mul.bits10 : waitsOk cr4_Mul.T10.2 cr4_Mul.B10 = true := by kernel_rfl
def cr4_Mul.T17 : Bool × List (List Nat × List Nat) := (true, [([], []), ([], []), ([], []), ([2], [2]), ([1, 3], [1, 3]), ([], []), ([4, 5], [4, 5]), ([], []), ([], []), ([], []), ([9], [9]), ([8, 10], [8, 10]), ([], []), ([11, 12], [11, 12]), ([7, 13], [7, 13]), ([14], [14]), ([], []), ([16], [16]), ([], []), ([], []), ([18, 19], [18, 19]), ([20], [20]), ([17, 21], [17, 21]), ([], []), ([23], [23]), ([], []), ([24, 25], [24, 25]), ([26], [26]), ([22, 27], [22, 27]), ([15, 28], [15, 28]), ([], []), ([30], [30]), ([29, 31], [29, 31]), ([0, 6, 0, 1, 2, 3, 4, 5, 6, 7, 8, 9, 10, 11, 12, 13, 14, 15, 16, 17, 18, 19, 20, 21, 22, 23, 24, 25, 26, 27, 28, 29, 30, 31, 32], [0, 6]), ([33, 32, 0, 1, 2, 3, 4, 5, 6, 7, 8, 9, 10, 11, 12, 13, 14, 15, 16, 17, 18, 19, 20, 21, 22, 23, 24, 25, 26, 27, 28, 29, 30, 31, 32], [32, 33])])
def cr4_Mul.B17 : List Nat := [0, 0, 0, 4, 14, 0, 62, 0, 0, 0, 512, 1792, 0, 7936, 16256, 32640, 0, 65536, 0, 0, 786432, 1835008, 4128768, 0, 8388608, 0, 58720256, 125829120, 268369920, 536870784, 0, 1073741824, 4294967168, 8589934591, 17179869183]
theorem cr4_Mul.tab17 : rtab .any (opsOf Try.f67 17) = cr4_Mul.T17 := by kernel_rfl
theorem cr4_Mul.bits17 : waitsOk cr4_Mul.T17.2 cr4_Mul.B17 = true := by kernel_rfl
set_option maxHeartbeats 8000000 in
set_option maxRecDepth 100000 in
theorem cr4_Mul.calls (k : Nat) (a0_0 : Int) (a0_1 : Int) (A0_2 : Option Addr) (c0_2 : Nat) (l0_2 : List Int) (a1 : Int) (a2 : Int) (r : Int) (w : World) (hr0_2 : Kd.C (Kd.int .i64) w A0_2 l0_2.length l0_2) (hc0_2 : l0_2.length ≤ c0_2) (h : cr4_Mul.f k a0_0 a0_1 l0_2 a1 a2 = some r) :
  Calls Try.prog 67 #[.agg #[.int .i64 a0_0, .int .i64 a0_1, .slice A0_2 l0_2.length c0_2], .int .i64 a1, .int .i64 a2] w fun e w' => e = .returned (.int .i64 r) ∧ Below w.heap.size w w' := by
 have hu24 := Try.underlying24
 have HR0_2 := Aside0.mk hr0_2
 have HC0_2 := Aside0.mk hc0_2
 clear hr0_2 hc0_2
 have HB := Aside0.mk (Below.refl w.heap.size w)
 have H : ((cr4_Digits.f k a0_0 a0_1 l0_2 a1).bind fun t445 => ((cr4_Digits.f k a0_0 a0_1 l0_2 a2).bind fun t448 => (if 0 ≤ (wrap64 ((wrap64 (2 * a0_1)) - 1)) then (if (wrap64 ((wrap64 (2 * a0_1)) - 1) : Int).toNat ≤ 35184372088832 then (cr4_Mul.l0 k t445 t448 (List.replicate (wrap64 ((wrap64 (2 * a0_1)) - 1) : Int).toNat 0) 0 a0_0 a0_1 l0_2) else (none)) else (none)))) = some r := h
 clear h
 replace H := Option.bind_eq_some_iff.mp H
 obtain ⟨t445, A40, H⟩ := H
 replace H : ((cr4_Digits.f k a0_0 a0_1 l0_2 a2).bind fun t448 => (if 0 ≤ (wrap64 ((wrap64 (2 * a0_1)) - 1)) then (if (wrap64 ((wrap64 (2 * a0_1)) - 1) : Int).toNat ≤ 35184372088832 then (cr4_Mul.l0 k t445 t448 (List.replicate (wrap64 ((wrap64 (2 * a0_1)) - 1) : Int).toNat 0) 0 a0_0 a0_1 l0_2) else (none)) else (none))) = some r := H
 have A4 := Aside0.mk A40
 clear A40
 replace H := Option.bind_eq_some_iff.mp H
 obtain ⟨t448, A50, H⟩ := H
 replace H : (if 0 ≤ (wrap64 ((wrap64 (2 * a0_1)) - 1)) then (if (wrap64 ((wrap64 (2 * a0_1)) - 1) : Int).toNat ≤ 35184372088832 then (cr4_Mul.l0 k t445 t448 (List.replicate (wrap64 ((wrap64 (2 * a0_1)) - 1) : Int).toNat 0) 0 a0_0 a0_1 l0_2) else (none)) else (none)) = some r := H
 have A5 := Aside0.mk A50
 clear A50
 obtain ⟨ji6, hji6⟩ : ∃ j_ : Int, (wrap64 ((wrap64 (2 * a0_1)) - 1)) = j_ := ⟨_, rfl⟩
 replace H : (if 0 ≤ (ji6) then (if (ji6 : Int).toNat ≤ 35184372088832 then (cr4_Mul.l0 k t445 t448 (List.replicate (ji6 : Int).toNat 0) 0 a0_0 a0_1 l0_2) else (none)) else (none)) = some r := by first | (rw [hji6] at H; exact H) | (simp only [hji6] at H ⊢; exact H)
 (try rw [hji6] at A4)
 (try rw [hji6] at A5)
 have hji6w : (IntKind.i64.wrap ((wrap64 (2 * a0_1)) - 1)) = ji6 := (i64_w _).trans hji6
 by_cases c7 : 0 ≤ (ji6)
 ·rw [if_pos c7] at H
  have c7b0 := eq_true c7
  have c7b1 : decide (0 ≤ (ji6)) = true := decide_eq_true c7
  clear c7
  by_cases c8 : (ji6 : Int).toNat ≤ 35184372088832
  ·rw [if_pos c8] at H
   have c8b0 := eq_true c8
   have c8b1 : decide ((ji6 : Int).toNat ≤ 35184372088832) = true := decide_eq_true c8
   clear c8
   obtain ⟨y451, hy451⟩ : ∃ y_ : List Int, y_ = (List.replicate (ji6 : Int).toNat 0) := ⟨_, rfl⟩
   replace H : (cr4_Mul.l0 k t445 t448 y451 0 a0_0 a0_1 l0_2) = some r := by first | (rw [hy451]; with_reducible exact H) | (have H2_ := (Option.bind_some _ _).symm.trans H; rw [hy451]; with_reducible exact H2_) | (have H2_ := (Option.bind_some _ _).symm.trans H; with_reducible exact H2_) | with_reducible exact H | (rw [hy451]; exact H) | exact H
   have Ny451 := Aside0.mk hy451
   clear hy451
   have H' := Aside0.mk H
   clear H
   go_enter Try.func67, Try.ntmps67
   go_wp2_with (first | ((with_reducible refine gate_dst (N := 3) rfl ?_); refine box_event ?hg (N := 3) ?hd (cs := #[.int .i64 a0_0, .int .i64 a0_1, .slice A0_2 l0_2.length c0_2]) (t := 24) ?hr ?_; (case hd => rfl); (case hg => rfl); (case hr => first | (go_simp; done) | (go_simp; rfl)); intro gb444 hg w9 hbox hb; have n0_ := Aside0.mk (below_step (by repeat (first | (with_reducible first | exact HB.out | apply below_alloc | apply pw_below_drewN | apply below_drew1) | exact HB.out)) hb); have n1_ := Aside0.mk (hbox); have n2_ := Aside0.mk ((by rw [hg]; exact (below_size (by repeat (first | (with_reducible first | exact HB.out | apply below_alloc | apply pw_below_drewN | apply below_drew1) | exact HB.out))) : w.heap.size ≤ gb444)); have n3_ := Aside0.mk ((by rw [hg]; exact (below_size (by repeat (first | (with_reducible first | exact HB.out | apply below_alloc | apply pw_below_drewN | apply below_drew1) | exact HB.out))) : w.heap.size ≤ gb444)); clear HB; have HB := n0_; have BK444 := n1_; have GW444 := n2_; have GE444 := n3_; clear n0_ n1_ n2_ n3_; clear hb hbox hg; have hcz10_0 : w9.cell? ⟨gb444, 0, none⟩ = some (.int .i64 a0_0) := (blk_cell BK444.out 0).trans rfl; have hcz10_1 : w9.cell? ⟨gb444, 1, none⟩ = some (.int .i64 a0_1) := (blk_cell BK444.out 1).trans rfl; have hcz10_2 : w9.cell? ⟨gb444, 2, none⟩ = some (.slice A0_2 l0_2.length c0_2) := (blk_cell BK444.out 2).trans rfl; have hfz10_0 := blk_frozen BK444.out 0; have hfz10_1 := blk_frozen BK444.out 1; have hfz10_2 := blk_frozen BK444.out 2) | ((with_reducible refine gate_callee (f := 52) rfl ?_); refine goesL_ (some 16) rfl rfl Try.func52 (by kernel_rfl) rfl #[.agg #[.int .i64 a0_0, .int .i64 a0_1, .slice A0_2 l0_2.length c0_2], .int .i64 a1] rfl (by (try simp only [List.map_toArray, List.map_cons, List.map_nil]); first | done | rfl | (simp only [List.length_drop, List.length_take]; rfl)) ?_; (with_reducible refine (cr4_Digits.calls k a0_0 a0_1 _ _ l0_2 a1 t445 _ ?side1 ?side2 A4.out).mono ?_); (case side1 => repeat (first | exact (Kd.C_below HR0_2.out HB.out) | (with_reducible refine Kd.C_alloc ?_ _) | (with_reducible refine Kd.C_drewN ?_ _) | (with_reducible refine Kd.C_drew ?_))); (case side2 => exact HC0_2.out); rintro e w11 ⟨v446, rfl, ho0, hb⟩; refine ⟨_, rfl, ?_⟩; have n0_ := Aside0.mk (Kd.R_lower ho0 (below_size (by repeat (first | (with_reducible first | exact HB.out | apply below_alloc | apply pw_below_drewN | apply below_drew1 | refine below_set ?_ GE444.out) | exact HB.out)))); have n1_ := Aside0.mk (blk_below (g := gb444) (o := .cells #[.int .i64 a0_0, .int .i64 a0_1, .slice A0_2 l0_2.length c0_2] 24 (0, 0)) (by (with_reducible repeat (first | refine blk_drewN ?_ _ | refine blk_drew ?_ | refine blk_alloc ?_ _)); exact BK444.out) hb); have n2_ := Aside0.mk (below_step (by repeat (first | (with_reducible first | exact HB.out | apply below_alloc | apply pw_below_drewN | apply below_drew1 | refine below_set ?_ GE444.out) | exact HB.out)) hb); clear BK444; clear HB; have HO447 := n0_; have BK444 := n1_; have HB := n2_; clear n0_ n1_ n2_; (try clear hb); (try clear hb2); (try clear hk); (try clear hi); (try clear ho0); have hcz12_0 : w11.cell? ⟨gb444, 0, none⟩ = some (.int .i64 a0_0) := (blk_cell BK444.out 0).trans rfl; have hcz12_1 : w11.cell? ⟨gb444, 1, none⟩ = some (.int .i64 a0_1) := (blk_cell BK444.out 1).trans rfl; have hcz12_2 : w11.cell? ⟨gb444, 2, none⟩ = some (.slice A0_2 l0_2.length c0_2) := (blk_cell BK444.out 2).trans rfl; have hfz12_0 := blk_frozen BK444.out 0; have hfz12_1 := blk_frozen BK444.out 1; have hfz12_2 := blk_frozen BK444.out 2) | ((with_reducible refine gate_callee (f := 52) rfl ?_); refine goesL_ (some 19) rfl rfl Try.func52 (by kernel_rfl) rfl #[.agg #[.int .i64 a0_0, .int .i64 a0_1, .slice A0_2 l0_2.length c0_2], .int .i64 a2] rfl (by (try simp only [List.map_toArray, List.map_cons, List.map_nil]); first | done | rfl | (simp only [List.length_drop, List.length_take]; rfl)) ?_; (with_reducible refine (cr4_Digits.calls k a0_0 a0_1 _ _ l0_2 a2 t448 _ ?side1 ?side2 A5.out).mono ?_); (case side1 => repeat (first | exact (Kd.C_below HR0_2.out HB.out) | (with_reducible refine Kd.C_alloc ?_ _) | (with_reducible refine Kd.C_drewN ?_ _) | (with_reducible refine Kd.C_drew ?_))); (case side2 => exact HC0_2.out); rintro e w13 ⟨v449, rfl, ho0, hb⟩; refine ⟨_, rfl, ?_⟩; have n0_ := Aside0.mk (Kd.R_elder' (by (with_reducible repeat (first | apply Kd.R_alloc | apply Kd.R_drewN | apply Kd.R_drew)); exact HO447.out) (Kd.R_base ho0) hb); have n1_ := Aside0.mk (Kd.R_lower (Kd.R_new' ho0 (Kd.R_lt (by (with_reducible repeat (first | apply Kd.R_alloc | apply Kd.R_drewN | apply Kd.R_drew)); exact HO447.out))) (below_size (by repeat (first | (with_reducible first | exact HB.out | apply below_alloc | apply pw_below_drewN | apply below_drew1 | refine below_set ?_ GE444.out) | exact HB.out)))); have n2_ := Aside0.mk (blk_below (g := gb444) (o := .cells #[.int .i64 a0_0, .int .i64 a0_1, .slice A0_2 l0_2.length c0_2] 24 (0, 0)) (by (with_reducible repeat (first | refine blk_drewN ?_ _ | refine blk_drew ?_ | refine blk_alloc ?_ _)); exact BK444.out) hb); have n3_ := Aside0.mk (below_step (by repeat (first | (with_reducible first | exact HB.out | apply below_alloc | apply pw_below_drewN | apply below_drew1 | refine below_set ?_ GE444.out) | exact HB.out)) hb); clear HO447; clear BK444; clear HB; have HO447 := n0_; have HO450 := n1_; have BK444 := n2_; have HB := n3_; clear n0_ n1_ n2_ n3_; (try clear hb); (try clear hb2); (try clear hk); (try clear hi); (try clear ho0); have hcz14_0 : w13.cell? ⟨gb444, 0, none⟩ = some (.int .i64 a0_0) := (blk_cell BK444.out 0).trans rfl; have hcz14_1 : w13.cell? ⟨gb444, 1, none⟩ = some (.int .i64 a0_1) := (blk_cell BK444.out 1).trans rfl; have hcz14_2 : w13.cell? ⟨gb444, 2, none⟩ = some (.slice A0_2 l0_2.length c0_2) := (blk_cell BK444.out 2).trans rfl; have hfz14_0 := blk_frozen BK444.out 0; have hfz14_1 := blk_frozen BK444.out 1; have hfz14_2 := blk_frozen BK444.out 2) | ((with_reducible refine gate_dst (N := 24) rfl ?_); refine Kd.R_make (Kd.int .i64) _ 3 rfl (N := 24) rfl 22 _ _ rfl ji6 rfl rfl Try.underlying22 (.int .i64 0) 8 info3 rfl (by decide) (by omega) 0 (ok := fun _ => True) (okp := fun _ => True) rfl (fun _ hk => hk) trivial (of_decide_eq_true (by first | (with_reducible assumption) | assumption)) (Nat.le_trans (Nat.mul_le_mul_right _ (of_decide_eq_true (by first | (with_reducible assumption) | assumption) : ji6.toNat ≤ 35184372088832)) (by omega)) (Below.refl _ _) (Nat.le_refl _) ?_; intro v452 w15 ho16 hb hg_ hnew_; clear hg_ hnew_; (first | rw [← Ny451.out] at ho16 | (simp only [Int.reduceToNat] at ho16; rw [← Ny451.out] at ho16)); have n0_ := Aside0.mk (Kd.R_elder' (by (with_reducible repeat (first | apply Kd.R_alloc | apply Kd.R_drewN | apply Kd.R_drew)); exact HO447.out) (Kd.R_base ho16) hb); have n1_ := Aside0.mk (Kd.R_elder' (by (with_reducible repeat (first | apply Kd.R_alloc | apply Kd.R_drewN | apply Kd.R_drew)); exact HO450.out) (Kd.R_base ho16) hb); have n2_ := Aside0.mk (Kd.R_lower (Kd.R_new' (Kd.R_new' ho16 (Kd.R_lt (by (with_reducible repeat (first | apply Kd.R_alloc | apply Kd.R_drewN | apply Kd.R_drew)); exact HO447.out))) (Kd.R_lt (by (with_reducible repeat (first | apply Kd.R_alloc | apply Kd.R_drewN | apply Kd.R_drew)); exact HO450.out))) (below_size (by repeat (first | (with_reducible first | exact HB.out | apply below_alloc | apply pw_below_drewN | apply below_drew1 | refine below_set ?_ GE444.out) | exact HB.out)))); have n3_ := Aside0.mk (blk_below (g := gb444) (o := .cells #[.int .i64 a0_0, .int .i64 a0_1, .slice A0_2 l0_2.length c0_2] 24 (0, 0)) (by (with_reducible repeat (first | refine blk_drewN ?_ _ | refine blk_drew ?_ | refine blk_alloc ?_ _)); exact BK444.out) hb); have n4_ := Aside0.mk (below_step (by repeat (first | (with_reducible first | exact HB.out | apply below_alloc | apply pw_below_drewN | apply below_drew1 | refine below_set ?_ GE444.out) | exact HB.out)) hb); clear HO447; clear HO450; clear BK444; clear HB; have HO447 := n0_; have HO450 := n1_; have HO453 := n2_; have BK444 := n3_; have HB := n4_; clear n0_ n1_ n2_ n3_ n4_; clear hb ho16))
   go_loopg [10] k (fun kq v10 w' => ∃ (x9_1 : List Int) (x10_1 : Int), v10 = .int .i64 x10_1 ∧ Aside0 (cr4_Mul.l0 kq t445 t448 x9_1 x10_1 a0_0 a0_1 l0_2 = some r) ∧ Aside0 (kq ≤ k) ∧ Aside0 (Kd.R (Kd.int .i64) 3 w' w.heap.size (fun k_ => some k_ ≠ (v449 : Value).ownBlock ∧ some k_ ≠ (v452 : Value).ownBlock) v446 t445) ∧ Aside0 (Kd.R (Kd.int .i64) 3 w' w.heap.size (fun k_ => some k_ ≠ (v446 : Value).ownBlock ∧ some k_ ≠ (v452 : Value).ownBlock) v449 t448) ∧ Aside0 (Kd.R (Kd.int .i64) 3 w' w.heap.size (fun k_ => some k_ ≠ (v446 : Value).ownBlock ∧ some k_ ≠ (v449 : Value).ownBlock) v452 x9_1) ∧ Aside0 (w'.heap[gb444]? = some (.cells #[.int .i64 a0_0, .int .i64 a0_1, (.slice A0_2 l0_2.length c0_2)] 24 (0, 0))) ∧ Aside0 (Below w.heap.size w w'))
   case atStart => exact ⟨(y451), (0), (by first | rfl | (simp; done) | (simp [*]; done)), H', ⟨Nat.le_refl _⟩, ⟨by (with_reducible repeat (first | apply Kd.R_alloc | apply Kd.R_drewN | apply Kd.R_drew)); exact Kd.R_mono HO447.out (fun _ hk => ⟨hk.1.2, hk.2⟩)⟩, ⟨by (with_reducible repeat (first | apply Kd.R_alloc | apply Kd.R_drewN | apply Kd.R_drew)); exact Kd.R_mono HO450.out (fun _ hk => ⟨hk.1.2, hk.2⟩)⟩, ⟨by (with_reducible repeat (first | apply Kd.R_alloc | apply Kd.R_drewN | apply Kd.R_drew)); exact Kd.R_mono HO453.out (fun _ hk => ⟨hk.1.2, hk.2⟩)⟩, ⟨by (with_reducible repeat (first | refine blk_drewN ?_ _ | refine blk_drew ?_ | refine blk_alloc ?_ _)); exact BK444.out⟩, ⟨by repeat (first | (with_reducible first | exact HB.out | apply below_alloc | apply pw_below_drewN | apply below_drew1 | refine below_set ?_ GE444.out) | exact HB.out)⟩⟩
   case round =>
    clear H'
    try clear p2
    try clear c5
    try clear c6
    try clear p6
    try clear c7
    try clear c7b0
    try clear c7b1
    try clear c8
    try clear c8b0
    try clear c8b1
    try clear hcz10_0
    try clear hcz10_1
    try clear hcz10_2
    try clear hcz12_0
    try clear hcz12_1
    try clear hcz12_2
    try clear hcz14_0
    try clear hcz14_1
    try clear hcz14_2
    try clear hfz10_0
    try clear hfz10_1
    try clear hfz10_2
    try clear hfz12_0
    try clear hfz12_1
    try clear hfz12_2
    try clear hfz14_0
    try clear hfz14_1
    try clear hfz14_2
    obtain ⟨x9_1, x10_1, rfl, HA, HK1, HO_7, HO_8, HO_9, BK444, HB⟩ := hrel
    cases gk with
    | zero => exact absurd HA.out (by simp [cr4_Mul.l0])
    | succ k1 =>
     have H := HA.out
     clear HA
     simp only [cr4_Mul.l0] at H
     by_cases c17 : x10_1 < a0_1
     ·rw [if_pos c17] at H
      have c17b0 : decide (x10_1 < a0_1) = true := decide_eq_true c17
      clear c17
      have H' := Aside0.mk H
      clear H
      have hcz18_0 : wr.cell? ⟨gb444, 0, none⟩ = some (.int .i64 a0_0) := (blk_cell BK444.out 0).trans rfl
      have hcz18_1 : wr.cell? ⟨gb444, 1, none⟩ = some (.int .i64 a0_1) := (blk_cell BK444.out 1).trans rfl
      have hcz18_2 : wr.cell? ⟨gb444, 2, none⟩ = some (.slice A0_2 l0_2.length c0_2) := (blk_cell BK444.out 2).trans rfl
      have hfz18_0 := blk_frozen BK444.out 0
      have hfz18_1 := blk_frozen BK444.out 1
      have hfz18_2 := blk_frozen BK444.out 2
      go_wp2
      go_loopg [11] k1 (fun kq v11 w' => ∃ (x9_2 : List Int) (x11_2 : Int), v11 = .int .i64 x11_2 ∧ Aside0 (cr4_Mul.l1 kq t445 t448 x9_2 x10_1 x11_2 a0_0 a0_1 l0_2 = some r) ∧ Aside0 (kq ≤ k1) ∧ Aside0 (Kd.R (Kd.int .i64) 3 w' w.heap.size (fun k_ => some k_ ≠ (v449 : Value).ownBlock ∧ some k_ ≠ (v452 : Value).ownBlock) v446 t445) ∧ Aside0 (Kd.R (Kd.int .i64) 3 w' w.heap.size (fun k_ => some k_ ≠ (v446 : Value).ownBlock ∧ some k_ ≠ (v452 : Value).ownBlock) v449 t448) ∧ Aside0 (Kd.R (Kd.int .i64) 3 w' w.heap.size (fun k_ => some k_ ≠ (v446 : Value).ownBlock ∧ some k_ ≠ (v449 : Value).ownBlock) v452 x9_2) ∧ Aside0 (w'.heap[gb444]? = some (.cells #[.int .i64 a0_0, .int .i64 a0_1, (.slice A0_2 l0_2.length c0_2)] 24 (0, 0))) ∧ Aside0 (Below w.heap.size w w'))
      case atStart => exact ⟨(x9_1), (0), (by first | rfl | (simp; done) | (simp [*]; done)), H', ⟨Nat.le_refl _⟩, ⟨by (with_reducible repeat (first | apply Kd.R_alloc | apply Kd.R_drewN | apply Kd.R_drew)); exact HO_7.out⟩, ⟨by (with_reducible repeat (first | apply Kd.R_alloc | apply Kd.R_drewN | apply Kd.R_drew)); exact HO_8.out⟩, ⟨by (with_reducible repeat (first | apply Kd.R_alloc | apply Kd.R_drewN | apply Kd.R_drew)); exact HO_9.out⟩, ⟨by (with_reducible repeat (first | refine blk_drewN ?_ _ | refine blk_drew ?_ | refine blk_alloc ?_ _)); exact BK444.out⟩, ⟨by repeat (first | (with_reducible first | exact HB.out | apply below_alloc | apply pw_below_drewN | apply below_drew1 | refine below_set ?_ GE444.out) | exact HB.out)⟩⟩
      case round =>
       clear H'
       try clear c1
       try clear p2
       try clear c5
       try clear c6
       try clear p6
       try clear c7
       try clear c7b0
       try clear c7b1
       try clear c8
       try clear c8b0
       try clear c8b1
       try clear c17
       try clear c17b0
       try clear hcz10_0
       try clear hcz10_1
       try clear hcz10_2
       try clear hcz12_0
       try clear hcz12_1
       try clear hcz12_2
       try clear hcz14_0
       try clear hcz14_1
       try clear hcz14_2
       try clear hcz18_0
       try clear hcz18_1
       try clear hcz18_2
       try clear hfz10_0
       try clear hfz10_1
       try clear hfz10_2
       try clear hfz12_0
       try clear hfz12_1
       try clear hfz12_2
       try clear hfz14_0
       try clear hfz14_1
       try clear hfz14_2
       try clear hfz18_0
       try clear hfz18_1
       try clear hfz18_2
       try clear p2
       try clear p6
       obtain ⟨x9_2, x11_2, rfl, HA, HK2, HO_7, HO_8, HO_9, BK444, HB⟩ := hrel
       cases gk with
       | zero => exact absurd HA.out (by simp [cr4_Mul.l1])
       | succ k2 =>
        have H := HA.out
        clear HA
        simp only [cr4_Mul.l1] at H
        by_cases c19 : x11_2 < a0_1
        ·rw [if_pos c19] at H
         have c19b0 : decide (x11_2 < a0_1) = true := decide_eq_true c19
         clear c19
         obtain ⟨ji20, hji20⟩ : ∃ j_ : Int, (wrap64 (x10_1 + x11_2)) = j_ := ⟨_, rfl⟩
         replace H : (if 0 ≤ (ji20) then (if (ji20) < (x9_2.length : Int) then (if 0 ≤ x10_1 then (if x10_1 < (t445.length : Int) then (if 0 ≤ x11_2 then (if x11_2 < (t448.length : Int) then (if a0_0 = 0 then (none) else (cr4_Mul.l1 k2 t445 t448 (x9_2.set ((ji20) : Int).toNat (Int.tmod (wrap64 ((rd x9_2 (ji20)) + (wrap64 ((rd t445 x10_1) * (rd t448 x11_2))))) a0_0)) x10_1 (wrap64 (x11_2 + 1)) a0_0 a0_1 l0_2)) else (none)) else (none)) else (none)) else (none)) else (none)) else (none)) = some r := by first | (rw [hji20] at H; exact H) | (simp only [hji20] at H ⊢; exact H)
         have hji20w : (IntKind.i64.wrap (x10_1 + x11_2)) = ji20 := (i64_w _).trans hji20
         by_cases c21 : 0 ≤ (ji20)
         ·rw [if_pos c21] at H
          have c21b0 : decide (0 ≤ (ji20)) = true := decide_eq_true c21
          clear c21
          by_cases c22 : (ji20) < (x9_2.length : Int)
          ·rw [if_pos c22] at H
           have c22b0 : decide ((ji20) < (x9_2.length : Int)) = true := decide_eq_true c22
           clear c22
           by_cases c23 : 0 ≤ x10_1
           ·rw [if_pos c23] at H
            have c23b0 : decide (0 ≤ x10_1) = true := decide_eq_true c23
            clear c23
            by_cases c24 : x10_1 < (t445.length : Int)
            ·rw [if_pos c24] at H
             have c24b0 : decide (x10_1 < (t445.length : Int)) = true := decide_eq_true c24
             clear c24
             by_cases c25 : 0 ≤ x11_2
             ·rw [if_pos c25] at H
              have c25b0 : decide (0 ≤ x11_2) = true := decide_eq_true c25
              clear c25
              by_cases c26 : x11_2 < (t448.length : Int)
              ·rw [if_pos c26] at H
               have c26b0 : decide (x11_2 < (t448.length : Int)) = true := decide_eq_true c26
               clear c26
               by_cases c27 : a0_0 = 0
               ·rw [if_pos c27] at H
                exact absurd H (by simp)
               ·rw [if_neg c27] at H
                have c27b0 : (a0_0 == 0) = false := beq_eq_false_iff_ne.mpr c27
                have c27b1 : (a0_0 != 0) = true := bne_iff_ne.mpr c27
                obtain ⟨y457, hy457⟩ : ∃ y_ : List Int, y_ = (x9_2.set ((ji20) : Int).toNat (Int.tmod (wrap64 ((rd x9_2 (ji20)) + (wrap64 ((rd t445 x10_1) * (rd t448 x11_2))))) a0_0)) := ⟨_, rfl⟩
                replace H : (cr4_Mul.l1 k2 t445 t448 y457 x10_1 (wrap64 (x11_2 + 1)) a0_0 a0_1 l0_2) = some r := by first | (rw [hy457]; with_reducible exact H) | (have H2_ := (Option.bind_some _ _).symm.trans H; rw [hy457]; with_reducible exact H2_) | (have H2_ := (Option.bind_some _ _).symm.trans H; with_reducible exact H2_) | with_reducible exact H | (rw [hy457]; exact H) | exact H
                have Ny457 := Aside0.mk hy457
                clear hy457
                have H' := Aside0.mk H
                clear H
                have hcz29_0 : wr.cell? ⟨gb444, 0, none⟩ = some (.int .i64 a0_0) := (blk_cell BK444.out 0).trans rfl
                have hcz29_1 : wr.cell? ⟨gb444, 1, none⟩ = some (.int .i64 a0_1) := (blk_cell BK444.out 1).trans rfl
                have hcz29_2 : wr.cell? ⟨gb444, 2, none⟩ = some (.slice A0_2 l0_2.length c0_2) := (blk_cell BK444.out 2).trans rfl
                have hfz29_0 := blk_frozen BK444.out 0
                have hfz29_1 := blk_frozen BK444.out 1
                have hfz29_2 := blk_frozen BK444.out 2
                try go_wp2
                have n0_ := Aside0.mk (Kd.R_drew HO_7.out)
                have n1_ := Aside0.mk (Kd.R_drew HO_8.out)
                have n2_ := Aside0.mk (Kd.R_drew HO_9.out)
                have n3_ := Aside0.mk (blk_drew BK444.out)
                have n4_ := Aside0.mk (below_drew1 HB.out)
                clear HO_7
                clear HO_8
                clear HO_9
                clear BK444
                clear HB
                have HO_7 := n0_
                have HO_8 := n1_
                have HO_9 := n2_
                have BK444 := n3_
                have HB := n4_
                clear n0_ n1_ n2_ n3_ n4_
                obtain ⟨Ao31, co31, eo31⟩ := Kd.R_slice HO_9.out
                (first | subst eo31 | (injection eo31 with f1_ f2_ f3_; have f4_ := f1_.symm; have f5_ := f3_.symm; clear f1_ f2_ f3_; subst f4_; subst f5_))
                have p454 : 0 ≤ ((ji20) : Int) := of_decide_eq_true (by first | (with_reducible assumption) | assumption)
                have q454 : (ji20) < (x9_2.length : Int) := of_decide_eq_true (by first | (with_reducible assumption) | assumption)
                obtain ⟨ad454, e454, hx454_0⟩ := Kd.at_int (Kd.R_reads' HO_9.out).2.2 (ji20) p454 q454
                cases e454
                replace p454 := eq_true p454
                replace q454 := eq_true q454
                obtain ⟨Ao32, co32, eo32⟩ := Kd.R_slice HO_7.out
                (first | subst eo32 | (injection eo32 with f1_ f2_ f3_; have f4_ := f1_.symm; have f5_ := f3_.symm; clear f1_ f2_ f3_; subst f4_; subst f5_))
                have p455 : 0 ≤ (x10_1 : Int) := of_decide_eq_true (by first | (with_reducible assumption) | assumption)
                have q455 : x10_1 < (t445.length : Int) := of_decide_eq_true (by first | (with_reducible assumption) | assumption)
                obtain ⟨ad455, e455, hx455_0⟩ := Kd.at_int (Kd.R_reads' HO_7.out).2.2 x10_1 p455 q455
                cases e455
                replace p455 := eq_true p455
                replace q455 := eq_true q455
                obtain ⟨Ao33, co33, eo33⟩ := Kd.R_slice HO_8.out
                (first | subst eo33 | (injection eo33 with f1_ f2_ f3_; have f4_ := f1_.symm; have f5_ := f3_.symm; clear f1_ f2_ f3_; subst f4_; subst f5_))
                have p456 : 0 ≤ (x11_2 : Int) := of_decide_eq_true (by first | (with_reducible assumption) | assumption)
                have q456 : x11_2 < (t448.length : Int) := of_decide_eq_true (by first | (with_reducible assumption) | assumption)
                obtain ⟨ad456, e456, hx456_0⟩ := Kd.at_int (Kd.R_reads' HO_8.out).2.2 x11_2 p456 q456
                cases e456
                replace p456 := eq_true p456
                replace q456 := eq_true q456
                have p28 : 0 ≤ ((ji20) : Int) := of_decide_eq_true (by first | (with_reducible assumption) | assumption)
                have q28 : ((ji20) : Int) < ((x9_2.length : Int) : Int) := of_decide_eq_true (by first | (with_reducible assumption) | assumption)
                obtain ⟨go28, co28, eo28, gb28, gl28, cl28, HG28⟩ := Kd.R_form HO_9.out (by omega)
                (first | cases eo28 | (injection eo28 with ea_ en_ ec_; (first | subst ea_ | (injection ea_ with ea_; subst ea_)); subst ec_; clear en_))
                have GB28 := Aside0.mk gb28
                have GG28 := Aside0.mk HG28
                clear gb28 gl28 HG28
                (first | simp only [add_plain] at hx454_0 | skip)
                obtain ⟨hx28_0, hf28_0⟩ := Kd.R_celln 0 HO_9.out ((ji20) : Int) p28 q28
                replace p28 := eq_true p28
                replace q28 := eq_true q28
                have HP34 := Kd.R_putn HO_9.out ((ji20) : Int) (Int.tmod (wrap64 ((rd x9_2 (ji20)) + (wrap64 ((rd t445 x10_1) * (rd t448 x11_2))))) a0_0)
                rw [← Ny457.out] at HP34
                have HQ34 := Aside0.mk HP34
                clear HP34
                refine start_ (n := 25) (S := fun w' => w'.cell? ⟨gb444, 0, none⟩ = some (.int .i64 a0_0) ∧ w'.cell? ⟨gb444, 1, none⟩ = some (.int .i64 a0_1) ∧ w'.cell? ⟨gb444, 2, none⟩ = some (.slice A0_2 l0_2.length c0_2) ∧ w'.cell? ⟨go28, ((ji20)).toNat, none⟩ = some (.int .i64 (rd x9_2 (ji20))) ∧ w'.cell? (ad455.add (x10_1).toNat) = some (.int .i64 (rd t445 x10_1)) ∧ w'.cell? (ad456.add (x11_2).toNat) = some (.int .i64 (rd t448 x11_2))) (ds := [24]) #[false, false, false, false, false, false, false, false, false, false, false, false, false, false, false, false, false, false, false, false, false, false, false, false, false] (by kernel_rfl) rfl rfl ⟨(blk_cell BK444.out 0).trans rfl, (blk_cell BK444.out 1).trans rfl, (blk_cell BK444.out 2).trans rfl, hx454_0, hx455_0, hx456_0⟩ (fun hHeld => ?_); refine with_tabW cr4_Mul.tab10 cr4_Mul.bits10 (fun HT_ HW_ => ?_)
                generalize wr.drew = w30 at HO_7 HO_8 HO_9 BK444 HB GG28 HQ34 hf28_0 hx28_0 hx454_0 hx455_0 hx456_0 hHeld ⊢
                refine pure_ (i := 0) (N := some 37) (v := ?_) (a' := ?_) #[true, false, false, false, false, false, false, false, false, false, false, false, false, false, false, false, false, false, false, false, false, false, false, false, false] rfl rfl (any_of HT_.out (by kernel_rfl)) (fun _ _ _ h => h) (Or.inl ⟨by rfl, ?_⟩) ?_ ?_
                rotate_left
                ·intro w'
                 go_simp
                 with_reducible rfl
                rotate_left
                ·simp only [Act.put, List.setIfInBounds_toArray, List.set_cons_zero, List.set_cons_succ, i64_w, i32_w]
                 rfl
                refine pure_ (i := 1) (N := some 38) (v := ?_) (a' := ?_) #[true, true, false, false, false, false, false, false, false, false, false, false, false, false, false, false, false, false, false, false, false, false, false, false, false] rfl rfl (any_of HT_.out (by kernel_rfl)) (fun _ _ _ h => h) (Or.inl ⟨by rfl, ?_⟩) ?_ ?_
                rotate_left
                ·intro w'
                 go_simp
                 with_reducible rfl
                rotate_left
                ·simp only [Act.put, List.setIfInBounds_toArray, List.set_cons_zero, List.set_cons_succ, i64_w, i32_w]
                 rfl
                refine pure_ (i := 2) (N := some 39) (v := ?_) (a' := ?_) #[true, true, true, false, false, false, false, false, false, false, false, false, false, false, false, false, false, false, false, false, false, false, false, false, false] rfl rfl (any_of HT_.out (by kernel_rfl)) (fun _ _ _ h => h) (Or.inl ⟨by rfl, ?_⟩) ?_ ?_
                rotate_left
                ·intro w'
                 go_simp
                 with_reducible rfl
                rotate_left
                ·simp only [Act.put, List.setIfInBounds_toArray, List.set_cons_zero, List.set_cons_succ, i64_w, i32_w]
                 rfl
                refine pure_ (i := 3) (N := some 40) (v := ?_) (a' := ?_) #[true, true, true, true, false, false, false, false, false, false, false, false, false, false, false, false, false, false, false, false, false, false, false, false, false] rfl rfl (any_of HT_.out (by kernel_rfl)) (fun _ _ _ h => h) (Or.inl ⟨by rfl, ?_⟩) ?_ ?_
                rotate_left
                ·intro w'
                 go_simp
                 with_reducible rfl
                rotate_left
                ·simp only [Act.put, List.setIfInBounds_toArray, List.set_cons_zero, List.set_cons_succ, i64_w, i32_w]
                 rfl
                refine pure_ (i := 4) (N := some 41) (v := ?_) (a' := ?_) #[true, true, true, true, true, false, false, false, false, false, false, false, false, false, false, false, false, false, false, false, false, false, false, false, false] rfl rfl (any_of HT_.out (by kernel_rfl)) (fun _ _ _ h => h) (Or.inl ⟨by rfl, ?_⟩) ?_ ?_
                rotate_left
                ·intro w'
                 go_simp
                 with_reducible rfl
                rotate_left
                ·simp only [Act.put, List.setIfInBounds_toArray, List.set_cons_zero, List.set_cons_succ, i64_w, i32_w]
                 rfl
                refine pure_ (i := 5) (N := some 42) (v := ?_) (a' := ?_) #[true, true, true, true, true, true, false, false, false, false, false, false, false, false, false, false, false, false, false, false, false, false, false, false, false] rfl rfl (any_of HT_.out (by kernel_rfl)) (fun _ _ _ h => h) (Or.inl ⟨by rfl, ?_⟩) ?_ ?_
                rotate_left
                ·intro w'
                 go_simp
                 with_reducible rfl
                rotate_left
                ·simp only [Act.put, List.setIfInBounds_toArray, List.set_cons_zero, List.set_cons_succ, i64_w, i32_w]
                 rfl
                refine pure_ (i := 6) (N := some 43) (v := ?_) (a' := ?_) #[true, true, true, true, true, true, true, false, false, false, false, false, false, false, false, false, false, false, false, false, false, false, false, false, false] rfl rfl (any_of HT_.out (by kernel_rfl)) (fun _ _ _ h => h) (Or.inl ⟨by rfl, ?_⟩) ?_ ?_
                rotate_left
                ·intro w'
                 go_simp
                 with_reducible rfl
                rotate_left
                ·simp only [Act.put, List.setIfInBounds_toArray, List.set_cons_zero, List.set_cons_succ, i64_w, i32_w]
                 rfl
                refine pure_ (i := 7) (N := some 44) (v := ?_) (a' := ?_) #[true, true, true, true, true, true, true, true, false, false, false, false, false, false, false, false, false, false, false, false, false, false, false, false, false] rfl rfl (any_of HT_.out (by kernel_rfl)) (fun _ _ _ h => h) (Or.inl ⟨by rfl, ?_⟩) ?_ ?_
                rotate_left
                ·intro w'
                 go_simp
                 with_reducible rfl
                rotate_left
                ·simp only [Act.put, List.setIfInBounds_toArray, List.set_cons_zero, List.set_cons_succ, i64_w, i32_w]
                 rfl
                refine pure_ (i := 8) (N := some 45) (v := ?_) (a' := ?_) #[true, true, true, true, true, true, true, true, true, false, false, false, false, false, false, false, false, false, false, false, false, false, false, false, false] rfl rfl (any_of HT_.out (by kernel_rfl)) (fun _ _ _ h => h) (Or.inl ⟨by rfl, ?_⟩) ?_ ?_
                rotate_left
                ·intro w'
                 go_simp
                 with_reducible rfl
                rotate_left
                ·simp only [Act.put, List.setIfInBounds_toArray, List.set_cons_zero, List.set_cons_succ, i64_w, i32_w]
                 rfl
                refine pure_ (i := 10) (N := some 47) (v := ?_) (a' := ?_) #[true, true, true, true, true, true, true, true, true, false, true, false, false, false, false, false, false, false, false, false, false, false, false, false, false] rfl rfl (any_of HT_.out (by kernel_rfl)) (fun _ _ _ h => h) (Or.inl ⟨by rfl, ?_⟩) ?_ ?_
                rotate_left
                ·intro w'
                 go_simp
                 with_reducible rfl
                rotate_left
                ·simp only [Act.put, List.setIfInBounds_toArray, List.set_cons_zero, List.set_cons_succ, i64_w, i32_w]
                 rfl
                refine pure_ (i := 11) (N := some 48) (v := ?_) (a' := ?_) #[true, true, true, true, true, true, true, true, true, false, true, true, false, false, false, false, false, false, false, false, false, false, false, false, false] rfl rfl (any_of HT_.out (by kernel_rfl)) (fun _ _ _ h => h) (Or.inl ⟨by rfl, ?_⟩) ?_ ?_
                rotate_left
                ·intro w'
                 go_simp
                 with_reducible rfl
                rotate_left
                ·simp only [Act.put, List.setIfInBounds_toArray, List.set_cons_zero, List.set_cons_succ, i64_w, i32_w]
                 rfl
                refine pure_ (i := 12) (N := some 49) (v := ?_) (a' := ?_) #[true, true, true, true, true, true, true, true, true, false, true, true, true, false, false, false, false, false, false, false, false, false, false, false, false] rfl rfl (any_of HT_.out (by kernel_rfl)) (fun _ _ _ h => h) (Or.inl ⟨by rfl, ?_⟩) ?_ ?_
                rotate_left
                ·intro w'
                 go_simp
                 with_reducible rfl
                rotate_left
                ·simp only [Act.put, List.setIfInBounds_toArray, List.set_cons_zero, List.set_cons_succ, i64_w, i32_w]
                 rfl
                refine pure_ (i := 14) (N := some 51) (v := ?_) (a' := ?_) #[true, true, true, true, true, true, true, true, true, false, true, true, true, false, true, false, false, false, false, false, false, false, false, false, false] rfl rfl (any_of HT_.out (by kernel_rfl)) (fun _ _ _ h => h) (Or.inl ⟨by rfl, ?_⟩) ?_ ?_
                rotate_left
                ·intro w'
                 go_simp
                 with_reducible rfl
                rotate_left
                ·simp only [Act.put, List.setIfInBounds_toArray, List.set_cons_zero, List.set_cons_succ, i64_w, i32_w]
                 rfl
                refine pure_ (i := 15) (N := some 52) (v := ?_) (a' := ?_) #[true, true, true, true, true, true, true, true, true, false, true, true, true, false, true, true, false, false, false, false, false, false, false, false, false] rfl rfl (any_of HT_.out (by kernel_rfl)) (fun _ _ _ h => h) (Or.inl ⟨by rfl, ?_⟩) ?_ ?_
                rotate_left
                ·intro w'
                 go_simp
                 with_reducible rfl
                rotate_left
                ·simp only [Act.put, List.setIfInBounds_toArray, List.set_cons_zero, List.set_cons_succ, i64_w, i32_w]
                 rfl
                refine pure_ (i := 16) (N := some 53) (v := ?_) (a' := ?_) #[true, true, true, true, true, true, true, true, true, false, true, true, true, false, true, true, true, false, false, false, false, false, false, false, false] rfl rfl (any_of HT_.out (by kernel_rfl)) (fun _ _ _ h => h) (Or.inl ⟨by rfl, ?_⟩) ?_ ?_
                rotate_left
                ·intro w'
                 go_simp
                 with_reducible rfl
                rotate_left
                ·simp only [Act.put, List.setIfInBounds_toArray, List.set_cons_zero, List.set_cons_succ, i64_w, i32_w]
                 rfl
                refine pure_ (i := 20) (N := some 57) (v := ?_) (a' := ?_) #[true, true, true, true, true, true, true, true, true, false, true, true, true, false, true, true, true, false, false, false, true, false, false, false, false] rfl rfl (any_of HT_.out (by kernel_rfl)) (fun _ _ _ h => h) (Or.inl ⟨by rfl, ?_⟩) ?_ ?_
                rotate_left
                ·intro w'
                 go_simp
                 with_reducible rfl
                rotate_left
                ·simp only [Act.put, List.setIfInBounds_toArray, List.set_cons_zero, List.set_cons_succ, i64_w, i32_w]
                 rfl
                refine take_ (i := 9) (N := some 46) (v := ?_) (a' := ?_) #[true, true, true, true, true, true, true, true, true, true, true, true, true, false, true, true, true, false, false, false, true, false, false, false, false] rfl rfl (take_ofW HT_.out HW_.out (by kernel_rfl)) (fun _ _ _ h => h) (Or.inl ⟨by rfl, ?_⟩) hHeld ?_ ?_
                rotate_left
                ·rintro w' ⟨s0, s1, s2, s3, s4, s5⟩
                 go_simp
                 with_reducible rfl
                rotate_left
                ·simp only [Act.put, List.setIfInBounds_toArray, List.set_cons_zero, List.set_cons_succ, i64_w, i32_w]
                 rfl
                refine take_ (i := 13) (N := some 50) (v := ?_) (a' := ?_) #[true, true, true, true, true, true, true, true, true, true, true, true, true, true, true, true, true, false, false, false, true, false, false, false, false] rfl rfl (take_ofW HT_.out HW_.out (by kernel_rfl)) (fun _ _ _ h => h) (Or.inl ⟨by rfl, ?_⟩) hHeld ?_ ?_
                rotate_left
                ·rintro w' ⟨s0, s1, s2, s3, s4, s5⟩
                 go_simp
                 with_reducible rfl
                rotate_left
                ·simp only [Act.put, List.setIfInBounds_toArray, List.set_cons_zero, List.set_cons_succ, i64_w, i32_w]
                 rfl
                refine take_ (i := 17) (N := some 54) (v := ?_) (a' := ?_) #[true, true, true, true, true, true, true, true, true, true, true, true, true, true, true, true, true, true, false, false, true, false, false, false, false] rfl rfl (take_ofW HT_.out HW_.out (by kernel_rfl)) (fun _ _ _ h => h) (Or.inl ⟨by rfl, ?_⟩) hHeld ?_ ?_
                rotate_left
                ·rintro w' ⟨s0, s1, s2, s3, s4, s5⟩
                 go_simp
                 with_reducible rfl
                rotate_left
                ·simp only [Act.put, List.setIfInBounds_toArray, List.set_cons_zero, List.set_cons_succ, i64_w, i32_w]
                 rfl
                refine pure_ (i := 18) (N := some 55) (v := ?_) (a' := ?_) #[true, true, true, true, true, true, true, true, true, true, true, true, true, true, true, true, true, true, true, false, true, false, false, false, false] rfl rfl (any_of HT_.out (by kernel_rfl)) (fun _ _ _ h => h) (Or.inl ⟨by rfl, ?_⟩) ?_ ?_
                rotate_left
                ·intro w'
                 go_simp
                 with_reducible rfl
                rotate_left
                ·simp only [Act.put, List.setIfInBounds_toArray, List.set_cons_zero, List.set_cons_succ, i64_w, i32_w]
                 rfl
                refine pure_ (i := 19) (N := some 56) (v := ?_) (a' := ?_) #[true, true, true, true, true, true, true, true, true, true, true, true, true, true, true, true, true, true, true, true, true, false, false, false, false] rfl rfl (any_of HT_.out (by kernel_rfl)) (fun _ _ _ h => h) (Or.inl ⟨by rfl, ?_⟩) ?_ ?_
                rotate_left
                ·intro w'
                 go_simp
                 with_reducible rfl
                rotate_left
                ·simp only [Act.put, List.setIfInBounds_toArray, List.set_cons_zero, List.set_cons_succ, i64_w, i32_w]
                 rfl
                refine take_ (i := 21) (N := some 58) (v := ?_) (a' := ?_) #[true, true, true, true, true, true, true, true, true, true, true, true, true, true, true, true, true, true, true, true, true, true, false, false, false] rfl rfl (take_ofW HT_.out HW_.out (by kernel_rfl)) (fun _ _ _ h => h) (Or.inl ⟨by rfl, ?_⟩) hHeld ?_ ?_
                rotate_left
                ·rintro w' ⟨s0, s1, s2, s3, s4, s5⟩
                 go_simp
                 with_reducible rfl
                rotate_left
                ·simp only [Act.put, List.setIfInBounds_toArray, List.set_cons_zero, List.set_cons_succ, i64_w, i32_w]
                 rfl
                refine pure_ (i := 22) (N := some 59) (v := ?_) (a' := ?_) #[true, true, true, true, true, true, true, true, true, true, true, true, true, true, true, true, true, true, true, true, true, true, true, false, false] rfl rfl (any_of HT_.out (by kernel_rfl)) (fun _ _ _ h => h) (Or.inl ⟨by rfl, ?_⟩) ?_ ?_
                rotate_left
                ·intro w'
                 go_simp
                 with_reducible rfl
                rotate_left
                ·simp only [Act.put, List.setIfInBounds_toArray, List.set_cons_zero, List.set_cons_succ, i64_w, i32_w]
                 rfl
                refine pure_ (i := 23) (N := some 60) (v := ?_) (a' := ?_) #[true, true, true, true, true, true, true, true, true, true, true, true, true, true, true, true, true, true, true, true, true, true, true, true, false] rfl rfl (any_of HT_.out (by kernel_rfl)) (fun _ _ _ h => h) (Or.inl ⟨by rfl, ?_⟩) ?_ ?_
                rotate_left
                ·intro w'
                 go_simp
                 with_reducible rfl
                rotate_left
                ·simp only [Act.put, List.setIfInBounds_toArray, List.set_cons_zero, List.set_cons_succ, i64_w, i32_w]
                 rfl
                refine last_ (i := 24) (N := none) #[true, true, true, true, true, true, true, true, true, true, true, true, true, true, true, true, true, true, true, true, true, true, true, true, true] rfl rfl (one_of HT_.out (by kernel_rfl)) (by decide) (fun K hK => ?_)
                refine skip_ (w1 := ?_) (by rfl) rfl ?_ ?_
                rotate_left
                ·go_simp
                 rfl
                refine hK.out _ _ ?_
                clear hK K
                refine done_ (done_of HT_.out (by kernel_rfl)) ?_
                try go_wp2
                go_roundg k2
                case measure => have := HK1.out; have := HK2.out; omega
                case rel => exact ⟨(y457), (wrap64 (x11_2 + 1)), (by first | rfl | (simp; done) | (simp [*]; done)), H', ⟨by have := HK1.out; have := HK2.out; omega⟩, ⟨by (with_reducible repeat (first | apply Kd.R_alloc | apply Kd.R_drewN | apply Kd.R_drew)); exact Kd.R_mono (Kd.R_far (p := ⟨go28, ((ji20) : Int).toNat, none⟩) (Kd.R_mono HO_7.out (fun k_ hk => (⟨hk, fun e_ => hk.2 (by rw [e_]; rfl)⟩ : _ ∧ k_ ≠ go28))) (fun _ hk => hk.2) (.int .i64 (Int.tmod (wrap64 ((rd x9_2 (ji20)) + (wrap64 ((rd t445 x10_1) * (rd t448 x11_2))))) a0_0))) (fun _ hk => ⟨hk.1.1, hk.1.2⟩)⟩, ⟨by (with_reducible repeat (first | apply Kd.R_alloc | apply Kd.R_drewN | apply Kd.R_drew)); exact Kd.R_mono (Kd.R_far (p := ⟨go28, ((ji20) : Int).toNat, none⟩) (Kd.R_mono HO_8.out (fun k_ hk => (⟨hk, fun e_ => hk.2 (by rw [e_]; rfl)⟩ : _ ∧ k_ ≠ go28))) (fun _ hk => hk.2) (.int .i64 (Int.tmod (wrap64 ((rd x9_2 (ji20)) + (wrap64 ((rd t445 x10_1) * (rd t448 x11_2))))) a0_0))) (fun _ hk => ⟨hk.1.1, hk.1.2⟩)⟩, ⟨by (with_reducible repeat (first | apply Kd.R_alloc | apply Kd.R_drewN | apply Kd.R_drew)); exact HQ34.out⟩, ⟨by (with_reducible repeat (first | refine blk_drewN ?_ _ | refine blk_drew ?_ | refine blk_alloc ?_ _)); refine blk_far ?_ (by have h_ := Kd.R_ne HO_9.out BK444.out (by decide); intro e_; exact h_ (by rw [e_]; rfl)) _; (with_reducible repeat (first | refine blk_drewN ?_ _ | refine blk_drew ?_ | refine blk_alloc ?_ _)); exact BK444.out⟩, ⟨by repeat (first | (with_reducible first | exact HB.out | apply below_alloc | apply pw_below_drewN | apply below_drew1 | refine below_set ?_ GB28.out | refine below_set ?_ GE444.out) | exact HB.out)⟩⟩
              ·rw [if_neg c26] at H
               exact absurd H (by simp)
             ·rw [if_neg c25] at H
              exact absurd H (by simp)
            ·rw [if_neg c24] at H
             exact absurd H (by simp)
           ·rw [if_neg c23] at H
            exact absurd H (by simp)
          ·rw [if_neg c22] at H
           exact absurd H (by simp)
         ·rw [if_neg c21] at H
          exact absurd H (by simp)
        ·rw [if_neg c19] at H
         have c19b0 : decide (x11_2 < a0_1) = false := decide_eq_false c19
         clear c19
         have H' := Aside0.mk H
         clear H
         have hcz35_0 : wr.cell? ⟨gb444, 0, none⟩ = some (.int .i64 a0_0) := (blk_cell BK444.out 0).trans rfl
         have hcz35_1 : wr.cell? ⟨gb444, 1, none⟩ = some (.int .i64 a0_1) := (blk_cell BK444.out 1).trans rfl
         have hcz35_2 : wr.cell? ⟨gb444, 2, none⟩ = some (.slice A0_2 l0_2.length c0_2) := (blk_cell BK444.out 2).trans rfl
         have hfz35_0 := blk_frozen BK444.out 0
         have hfz35_1 := blk_frozen BK444.out 1
         have hfz35_2 := blk_frozen BK444.out 2
         go_wp2
         go_roundg k2
         case measure => have := HK1.out; have := HK2.out; omega
         case rel => exact ⟨(x9_2), (wrap64 (x10_1 + 1)), (by first | rfl | (simp; done) | (simp [*]; done)), H', ⟨by have := HK1.out; have := HK2.out; omega⟩, ⟨by (with_reducible repeat (first | apply Kd.R_alloc | apply Kd.R_drewN | apply Kd.R_drew)); exact HO_7.out⟩, ⟨by (with_reducible repeat (first | apply Kd.R_alloc | apply Kd.R_drewN | apply Kd.R_drew)); exact HO_8.out⟩, ⟨by (with_reducible repeat (first | apply Kd.R_alloc | apply Kd.R_drewN | apply Kd.R_drew)); exact HO_9.out⟩, ⟨by (with_reducible repeat (first | refine blk_drewN ?_ _ | refine blk_drew ?_ | refine blk_alloc ?_ _)); exact BK444.out⟩, ⟨by repeat (first | (with_reducible first | exact HB.out | apply below_alloc | apply pw_below_drewN | apply below_drew1 | refine below_set ?_ GE444.out) | exact HB.out)⟩⟩
     ·rw [if_neg c17] at H
      have c17b0 : decide (x10_1 < a0_1) = false := decide_eq_false c17
      clear c17
      have H' := Aside0.mk H
      clear H
      have hcz36_0 : wr.cell? ⟨gb444, 0, none⟩ = some (.int .i64 a0_0) := (blk_cell BK444.out 0).trans rfl
      have hcz36_1 : wr.cell? ⟨gb444, 1, none⟩ = some (.int .i64 a0_1) := (blk_cell BK444.out 1).trans rfl
      have hcz36_2 : wr.cell? ⟨gb444, 2, none⟩ = some (.slice A0_2 l0_2.length c0_2) := (blk_cell BK444.out 2).trans rfl
      have hfz36_0 := blk_frozen BK444.out 0
      have hfz36_1 := blk_frozen BK444.out 1
      have hfz36_2 := blk_frozen BK444.out 2
      go_wp2
      go_loopg [12] k1 (fun kq v12 w' => ∃ (x9_2 : List Int) (x12_2 : Int), v12 = .int .i64 x12_2 ∧ Aside0 (cr4_Mul.l2 kq x9_2 x12_2 a0_0 a0_1 l0_2 = some r) ∧ Aside0 (kq ≤ k1) ∧ Aside0 (Kd.R (Kd.int .i64) 3 w' w.heap.size (fun _ => True) v452 x9_2) ∧ Aside0 (w'.heap[gb444]? = some (.cells #[.int .i64 a0_0, .int .i64 a0_1, (.slice A0_2 l0_2.length c0_2)] 24 (0, 0))) ∧ Aside0 (Below w.heap.size w w'))
      case atStart => exact ⟨(x9_1), (wrap64 ((wrap64 (2 * a0_1)) - 2)), (by first | rfl | (simp; done) | (simp [*]; done)), H', ⟨Nat.le_refl _⟩, ⟨by (with_reducible repeat (first | apply Kd.R_alloc | apply Kd.R_drewN | apply Kd.R_drew)); exact Kd.R_mono HO_9.out (fun _ hk => trivial)⟩, ⟨by (with_reducible repeat (first | refine blk_drewN ?_ _ | refine blk_drew ?_ | refine blk_alloc ?_ _)); exact BK444.out⟩, ⟨by repeat (first | (with_reducible first | exact HB.out | apply below_alloc | apply pw_below_drewN | apply below_drew1 | refine below_set ?_ GE444.out) | exact HB.out)⟩⟩
      case round =>
       clear H'
       try clear c1
       try clear c2
       try clear p2
       try clear q2
       try clear hx2
       try clear p4
       try clear q4
       try clear hx4
       try clear c5
       try clear c6
       try clear p6
       try clear c7
       try clear c7b0
       try clear c7b1
       try clear c8
       try clear c8b0
       try clear c8b1
       try clear c17
       try clear c17b0
       try clear c19
       try clear c19b0
       try clear c21
       try clear c21b0
       try clear c22
       try clear c22b0
       try clear c23
       try clear c23b0
       try clear c24
       try clear c24b0
       try clear c25
       try clear c25b0
       try clear c26
       try clear c26b0
       try clear c27
       try clear c27b0
       try clear c27b1
       try clear p28
       try clear q28
       try clear hx28
       try clear hf28
       try clear hcz10_0
       try clear hcz10_1
       try clear hcz10_2
       try clear hcz12_0
       try clear hcz12_1
       try clear hcz12_2
       try clear hcz14_0
       try clear hcz14_1
       try clear hcz14_2
       try clear hcz18_0
       try clear hcz18_1
       try clear hcz18_2
       try clear hcz29_0
       try clear hcz29_1
       try clear hcz29_2
       try clear hcz35_0
       try clear hcz35_1
       try clear hcz35_2
       try clear hcz36_0
       try clear hcz36_1
       try clear hcz36_2
       try clear hfz10_0
       try clear hfz10_1
       try clear hfz10_2
       try clear hfz12_0
       try clear hfz12_1
       try clear hfz12_2
       try clear hfz14_0
       try clear hfz14_1
       try clear hfz14_2
       try clear hfz18_0
       try clear hfz18_1
       try clear hfz18_2
       try clear hfz29_0
       try clear hfz29_1
       try clear hfz29_2
       try clear hfz35_0
       try clear hfz35_1
       try clear hfz35_2
       try clear hfz36_0
       try clear hfz36_1
       try clear hfz36_2
       try clear hx28_0
       try clear hx454_0
       try clear hx455_0
       try clear hx456_0
       try clear p2
       try clear p28
       try clear p454
       try clear p455
       try clear p456
       try clear p6
       try clear q28
       try clear q454
       try clear q455
       try clear q456
       obtain ⟨x9_2, x12_2, rfl, HA, HK2, HO_9, BK444, HB⟩ := hrel
       cases gk with
       | zero => exact absurd HA.out (by simp [cr4_Mul.l2])
       | succ k2 =>
        have H := HA.out
        clear HA
        simp only [cr4_Mul.l2] at H
        by_cases c37 : x12_2 ≥ a0_1
        ·rw [if_pos c37] at H
         have c37b0 : decide (a0_1 ≤ x12_2) = true := decide_eq_true c37
         clear c37
         have H' := Aside0.mk H
         clear H
         have hcz38_0 : wr.cell? ⟨gb444, 0, none⟩ = some (.int .i64 a0_0) := (blk_cell BK444.out 0).trans rfl
         have hcz38_1 : wr.cell? ⟨gb444, 1, none⟩ = some (.int .i64 a0_1) := (blk_cell BK444.out 1).trans rfl
         have hcz38_2 : wr.cell? ⟨gb444, 2, none⟩ = some (.slice A0_2 l0_2.length c0_2) := (blk_cell BK444.out 2).trans rfl
         have hfz38_0 := blk_frozen BK444.out 0
         have hfz38_1 := blk_frozen BK444.out 1
         have hfz38_2 := blk_frozen BK444.out 2
         go_wp2
         go_loopg [13] k2 (fun kq v13 w' => ∃ (x9_3 : List Int) (x13_3 : Int), v13 = .int .i64 x13_3 ∧ Aside0 (cr4_Mul.l3 kq x9_3 x12_2 x13_3 a0_0 a0_1 l0_2 = some r) ∧ Aside0 (kq ≤ k2) ∧ Aside0 (Kd.R (Kd.int .i64) 3 w' w.heap.size (fun _ => True) v452 x9_3) ∧ Aside0 (w'.heap[gb444]? = some (.cells #[.int .i64 a0_0, .int .i64 a0_1, (.slice A0_2 l0_2.length c0_2)] 24 (0, 0))) ∧ Aside0 (Below w.heap.size w w'))
         case atStart => exact ⟨(x9_2), (0), (by first | rfl | (simp; done) | (simp [*]; done)), H', ⟨Nat.le_refl _⟩, ⟨by (with_reducible repeat (first | apply Kd.R_alloc | apply Kd.R_drewN | apply Kd.R_drew)); exact HO_9.out⟩, ⟨by (with_reducible repeat (first | refine blk_drewN ?_ _ | refine blk_drew ?_ | refine blk_alloc ?_ _)); exact BK444.out⟩, ⟨by repeat (first | (with_reducible first | exact HB.out | apply below_alloc | apply pw_below_drewN | apply below_drew1 | refine below_set ?_ GE444.out) | exact HB.out)⟩⟩
         case round =>
          clear H'
          try clear c1
          try clear c2
          try clear p2
          try clear q2
          try clear hx2
          try clear c3
          try clear p4
          try clear q4
          try clear hx4
          try clear c5
          try clear c6
          try clear p6
          try clear c7
          try clear c7b0
          try clear c7b1
          try clear c8
          try clear c8b0
          try clear c8b1
          try clear c17
          try clear c17b0
          try clear c19
          try clear c19b0
          try clear c21
          try clear c21b0
          try clear c22
          try clear c22b0
          try clear c23
          try clear c23b0
          try clear c24
          try clear c24b0
          try clear c25
          try clear c25b0
          try clear c26
          try clear c26b0
          try clear c27
          try clear c27b0
          try clear c27b1
          try clear p28
          try clear q28
          try clear hx28
          try clear hf28
          try clear c37
          try clear c37b0
          try clear hcz10_0
          try clear hcz10_1
          try clear hcz10_2
          try clear hcz12_0
          try clear hcz12_1
          try clear hcz12_2
          try clear hcz14_0
          try clear hcz14_1
          try clear hcz14_2
          try clear hcz18_0
          try clear hcz18_1
          try clear hcz18_2
          try clear hcz29_0
          try clear hcz29_1
          try clear hcz29_2
          try clear hcz35_0
          try clear hcz35_1
          try clear hcz35_2
          try clear hcz36_0
          try clear hcz36_1
          try clear hcz36_2
          try clear hcz38_0
          try clear hcz38_1
          try clear hcz38_2
          try clear hfz10_0
          try clear hfz10_1
          try clear hfz10_2
          try clear hfz12_0
          try clear hfz12_1
          try clear hfz12_2
          try clear hfz14_0
          try clear hfz14_1
          try clear hfz14_2
          try clear hfz18_0
          try clear hfz18_1
          try clear hfz18_2
          try clear hfz29_0
          try clear hfz29_1
          try clear hfz29_2
          try clear hfz35_0
          try clear hfz35_1
          try clear hfz35_2
          try clear hfz36_0
          try clear hfz36_1
          try clear hfz36_2
          try clear hfz38_0
          try clear hfz38_1
          try clear hfz38_2
          try clear hx28_0
          try clear hx454_0
          try clear hx455_0
          try clear hx456_0
          try clear p2
          try clear p28
          try clear p4
          try clear p454
          try clear p455
          try clear p456
          try clear p6
          try clear q2
          try clear q28
          try clear q4
          try clear q454
          try clear q455
          try clear q456
          obtain ⟨x9_3, x13_3, rfl, HA, HK3, HO_9, BK444, HB⟩ := hrel
          cases gk with
          | zero => exact absurd HA.out (by simp [cr4_Mul.l3])
          | succ k3 =>
           have H := HA.out
           clear HA
           simp only [cr4_Mul.l3] at H
           by_cases c39 : x13_3 < a0_1
           ·rw [if_pos c39] at H
            have c39b0 : decide (x13_3 < a0_1) = true := decide_eq_true c39
            clear c39
            obtain ⟨ji40, hji40⟩ : ∃ j_ : Int, (wrap64 ((wrap64 (x12_2 - a0_1)) + x13_3)) = j_ := ⟨_, rfl⟩
            replace H : (if 0 ≤ (ji40) then (if (ji40) < (x9_3.length : Int) then (if 0 ≤ x12_2 then (if x12_2 < (x9_3.length : Int) then (if 0 ≤ x13_3 then (if x13_3 < (l0_2.length : Int) then (if a0_0 = 0 then (none) else (cr4_Mul.l3 k3 (x9_3.set ((ji40) : Int).toNat (Int.tmod (wrap64 ((rd x9_3 (ji40)) + (wrap64 ((wrap64 (a0_0 - (rd x9_3 x12_2))) * (rd l0_2 x13_3))))) a0_0)) x12_2 (wrap64 (x13_3 + 1)) a0_0 a0_1 l0_2)) else (none)) else (none)) else (none)) else (none)) else (none)) else (none)) = some r := by first | (rw [hji40] at H; exact H) | (simp only [hji40] at H ⊢; exact H)
            have hji40w : (IntKind.i64.wrap ((wrap64 (x12_2 - a0_1)) + x13_3)) = ji40 := (i64_w _).trans hji40
            by_cases c41 : 0 ≤ (ji40)
            ·rw [if_pos c41] at H
             have c41b0 : decide (0 ≤ (ji40)) = true := decide_eq_true c41
             clear c41
             by_cases c42 : (ji40) < (x9_3.length : Int)
             ·rw [if_pos c42] at H
              have c42b0 : decide ((ji40) < (x9_3.length : Int)) = true := decide_eq_true c42
              clear c42
              by_cases c43 : 0 ≤ x12_2
              ·rw [if_pos c43] at H
               have c43b0 : decide (0 ≤ x12_2) = true := decide_eq_true c43
               clear c43
               by_cases c44 : x12_2 < (x9_3.length : Int)
               ·rw [if_pos c44] at H
                have c44b0 : decide (x12_2 < (x9_3.length : Int)) = true := decide_eq_true c44
                clear c44
                by_cases c45 : 0 ≤ x13_3
                ·rw [if_pos c45] at H
                 have c45b0 : decide (0 ≤ x13_3) = true := decide_eq_true c45
                 clear c45
                 by_cases c46 : x13_3 < (l0_2.length : Int)
                 ·rw [if_pos c46] at H
                  have c46b0 : decide (x13_3 < (l0_2.length : Int)) = true := decide_eq_true c46
                  clear c46
                  by_cases c47 : a0_0 = 0
                  ·rw [if_pos c47] at H
                   exact absurd H (by simp)
                  ·rw [if_neg c47] at H
                   have c47b0 : (a0_0 == 0) = false := beq_eq_false_iff_ne.mpr c47
                   have c47b1 : (a0_0 != 0) = true := bne_iff_ne.mpr c47
                   obtain ⟨y466, hy466⟩ : ∃ y_ : List Int, y_ = (x9_3.set ((ji40) : Int).toNat (Int.tmod (wrap64 ((rd x9_3 (ji40)) + (wrap64 ((wrap64 (a0_0 - (rd x9_3 x12_2))) * (rd l0_2 x13_3))))) a0_0)) := ⟨_, rfl⟩
                   replace H : (cr4_Mul.l3 k3 y466 x12_2 (wrap64 (x13_3 + 1)) a0_0 a0_1 l0_2) = some r := by first | (rw [hy466]; with_reducible exact H) | (have H2_ := (Option.bind_some _ _).symm.trans H; rw [hy466]; with_reducible exact H2_) | (have H2_ := (Option.bind_some _ _).symm.trans H; with_reducible exact H2_) | with_reducible exact H | (rw [hy466]; exact H) | exact H
                   have Ny466 := Aside0.mk hy466
                   clear hy466
                   have H' := Aside0.mk H
                   clear H
                   have hcz49_0 : wr.cell? ⟨gb444, 0, none⟩ = some (.int .i64 a0_0) := (blk_cell BK444.out 0).trans rfl
                   have hcz49_1 : wr.cell? ⟨gb444, 1, none⟩ = some (.int .i64 a0_1) := (blk_cell BK444.out 1).trans rfl
                   have hcz49_2 : wr.cell? ⟨gb444, 2, none⟩ = some (.slice A0_2 l0_2.length c0_2) := (blk_cell BK444.out 2).trans rfl
                   have hfz49_0 := blk_frozen BK444.out 0
                   have hfz49_1 := blk_frozen BK444.out 1
                   have hfz49_2 := blk_frozen BK444.out 2
                   try go_wp2
                   have n0_ := Aside0.mk (Kd.R_drew HO_9.out)
                   have n1_ := Aside0.mk (blk_drew BK444.out)
                   have n2_ := Aside0.mk (below_drew1 HB.out)
                   clear HO_9
                   clear BK444
                   clear HB
                   have HO_9 := n0_
                   have BK444 := n1_
                   have HB := n2_
                   clear n0_ n1_ n2_
                   obtain ⟨Ao51, co51, eo51⟩ := Kd.R_slice HO_9.out
                   (first | subst eo51 | (injection eo51 with f1_ f2_ f3_; have f4_ := f1_.symm; have f5_ := f3_.symm; clear f1_ f2_ f3_; subst f4_; subst f5_))
                   have p463 : 0 ≤ ((ji40) : Int) := of_decide_eq_true (by first | (with_reducible assumption) | assumption)
                   have q463 : (ji40) < (x9_3.length : Int) := of_decide_eq_true (by first | (with_reducible assumption) | assumption)
                   obtain ⟨ad463, e463, hx463_0⟩ := Kd.at_int (Kd.R_reads' HO_9.out).2.2 (ji40) p463 q463
                   cases e463
                   replace p463 := eq_true p463
                   replace q463 := eq_true q463
                   have p464 : 0 ≤ (x12_2 : Int) := of_decide_eq_true (by first | (with_reducible assumption) | assumption)
                   have q464 : x12_2 < (x9_3.length : Int) := of_decide_eq_true (by first | (with_reducible assumption) | assumption)
                   obtain ⟨ad464, e464, hx464_0⟩ := Kd.at_int (Kd.R_reads' HO_9.out).2.2 x12_2 p464 q464
                   obtain rfl : ad463 = ad464 := (by injection e464)
                   replace p464 := eq_true p464
                   replace q464 := eq_true q464
                   have p465 : 0 ≤ (x13_3 : Int) := of_decide_eq_true (by first | (with_reducible assumption) | assumption)
                   have q465 : x13_3 < (l0_2.length : Int) := of_decide_eq_true (by first | (with_reducible assumption) | assumption)
                   obtain ⟨ad465, e465, hx465_0⟩ := Kd.at_int HR0_2.out x13_3 p465 q465
                   have hw465_0 := hx465_0
                   cases e465
                   replace hx465_0 := (HB.out.cell (World.block_lt_of_cell? w _ hx465_0)).trans hx465_0
                   replace p465 := eq_true p465
                   replace q465 := eq_true q465
                   have p48 : 0 ≤ ((ji40) : Int) := of_decide_eq_true (by first | (with_reducible assumption) | assumption)
                   have q48 : ((ji40) : Int) < ((x9_3.length : Int) : Int) := of_decide_eq_true (by first | (with_reducible assumption) | assumption)
                   obtain ⟨go48, co48, eo48, gb48, gl48, cl48, HG48⟩ := Kd.R_form HO_9.out (by omega)
                   (first | cases eo48 | (injection eo48 with ea_ en_ ec_; (first | subst ea_ | (injection ea_ with ea_; subst ea_)); subst ec_; clear en_))
                   have GB48 := Aside0.mk gb48
                   have GG48 := Aside0.mk HG48
                   clear gb48 gl48 HG48
                   (first | simp only [add_plain] at hx463_0 | skip)
                   (first | simp only [add_plain] at hx464_0 | skip)
                   obtain ⟨hx48_0, hf48_0⟩ := Kd.R_celln 0 HO_9.out ((ji40) : Int) p48 q48
                   replace p48 := eq_true p48
                   replace q48 := eq_true q48
                   have HP52 := Kd.R_putn HO_9.out ((ji40) : Int) (Int.tmod (wrap64 ((rd x9_3 (ji40)) + (wrap64 ((wrap64 (a0_0 - (rd x9_3 x12_2))) * (rd l0_2 x13_3))))) a0_0)
                   rw [← Ny466.out] at HP52
                   have HQ52 := Aside0.mk HP52
                   clear HP52
                   refine start_ (n := 35) (S := fun w' => w'.cell? ⟨gb444, 0, none⟩ = some (.int .i64 a0_0) ∧ w'.cell? ⟨gb444, 1, none⟩ = some (.int .i64 a0_1) ∧ w'.cell? ⟨gb444, 2, none⟩ = some (.slice (some ad465) l0_2.length c0_2) ∧ w'.cell? ⟨go48, ((ji40)).toNat, none⟩ = some (.int .i64 (rd x9_3 (ji40))) ∧ w'.cell? ⟨go48, (x12_2).toNat, none⟩ = some (.int .i64 (rd x9_3 x12_2)) ∧ w'.cell? (ad465.add (x13_3).toNat) = some (.int .i64 (rd l0_2 x13_3))) (ds := [34]) #[false, false, false, false, false, false, false, false, false, false, false, false, false, false, false, false, false, false, false, false, false, false, false, false, false, false, false, false, false, false, false, false, false, false, false] (by kernel_rfl) rfl rfl ⟨(blk_cell BK444.out 0).trans rfl, (blk_cell BK444.out 1).trans rfl, (blk_cell BK444.out 2).trans rfl, hx463_0, hx464_0, ((HB.out.cell (World.block_lt_of_cell? w _ hw465_0)).trans hw465_0)⟩ (fun hHeld => ?_); refine with_tabW cr4_Mul.tab17 cr4_Mul.bits17 (fun HT_ HW_ => ?_)
                   generalize wr.drew = w50 at HO_9 BK444 HB GG48 HQ52 hf48_0 hx463_0 hx464_0 hx465_0 hx48_0 hHeld ⊢
                   refine pure_ (i := 0) (N := some 77) (v := ?_) (a' := ?_) #[true, false, false, false, false, false, false, false, false, false, false, false, false, false, false, false, false, false, false, false, false, false, false, false, false, false, false, false, false, false, false, false, false, false, false] rfl rfl (any_of HT_.out (by kernel_rfl)) (fun _ _ _ h => h) (Or.inl ⟨by rfl, ?_⟩) ?_ ?_
                   rotate_left
                   ·intro w'
                    go_simp
                    with_reducible rfl
                   rotate_left
                   ·simp only [Act.put, List.setIfInBounds_toArray, List.set_cons_zero, List.set_cons_succ, i64_w, i32_w]
                    rfl
                   refine pure_ (i := 1) (N := some 78) (v := ?_) (a' := ?_) #[true, true, false, false, false, false, false, false, false, false, false, false, false, false, false, false, false, false, false, false, false, false, false, false, false, false, false, false, false, false, false, false, false, false, false] rfl rfl (any_of HT_.out (by kernel_rfl)) (fun _ _ _ h => h) (Or.inl ⟨by rfl, ?_⟩) ?_ ?_
                   rotate_left
                   ·intro w'
                    go_simp
                    with_reducible rfl
                   rotate_left
                   ·simp only [Act.put, List.setIfInBounds_toArray, List.set_cons_zero, List.set_cons_succ, i64_w, i32_w]
                    rfl
                   refine pure_ (i := 2) (N := some 79) (v := ?_) (a' := ?_) #[true, true, true, false, false, false, false, false, false, false, false, false, false, false, false, false, false, false, false, false, false, false, false, false, false, false, false, false, false, false, false, false, false, false, false] rfl rfl (any_of HT_.out (by kernel_rfl)) (fun _ _ _ h => h) (Or.inl ⟨by rfl, ?_⟩) ?_ ?_
                   rotate_left
                   ·intro w'
                    go_simp
                    with_reducible rfl
                   rotate_left
                   ·simp only [Act.put, List.setIfInBounds_toArray, List.set_cons_zero, List.set_cons_succ, i64_w, i32_w]
                    rfl
                   refine pure_ (i := 5) (N := some 82) (v := ?_) (a' := ?_) #[true, true, true, false, false, true, false, false, false, false, false, false, false, false, false, false, false, false, false, false, false, false, false, false, false, false, false, false, false, false, false, false, false, false, false] rfl rfl (any_of HT_.out (by kernel_rfl)) (fun _ _ _ h => h) (Or.inl ⟨by rfl, ?_⟩) ?_ ?_
                   rotate_left
                   ·intro w'
                    go_simp
                    with_reducible rfl
                   rotate_left
                   ·simp only [Act.put, List.setIfInBounds_toArray, List.set_cons_zero, List.set_cons_succ, i64_w, i32_w]
                    rfl
                   refine pure_ (i := 7) (N := some 84) (v := ?_) (a' := ?_) #[true, true, true, false, false, true, false, true, false, false, false, false, false, false, false, false, false, false, false, false, false, false, false, false, false, false, false, false, false, false, false, false, false, false, false] rfl rfl (any_of HT_.out (by kernel_rfl)) (fun _ _ _ h => h) (Or.inl ⟨by rfl, ?_⟩) ?_ ?_
                   rotate_left
                   ·intro w'
                    go_simp
                    with_reducible rfl
                   rotate_left
                   ·simp only [Act.put, List.setIfInBounds_toArray, List.set_cons_zero, List.set_cons_succ, i64_w, i32_w]
                    rfl
                   refine pure_ (i := 8) (N := some 85) (v := ?_) (a' := ?_) #[true, true, true, false, false, true, false, true, true, false, false, false, false, false, false, false, false, false, false, false, false, false, false, false, false, false, false, false, false, false, false, false, false, false, false] rfl rfl (any_of HT_.out (by kernel_rfl)) (fun _ _ _ h => h) (Or.inl ⟨by rfl, ?_⟩) ?_ ?_
                   rotate_left
                   ·intro w'
                    go_simp
                    with_reducible rfl
                   rotate_left
                   ·simp only [Act.put, List.setIfInBounds_toArray, List.set_cons_zero, List.set_cons_succ, i64_w, i32_w]
                    rfl
                   refine pure_ (i := 9) (N := some 86) (v := ?_) (a' := ?_) #[true, true, true, false, false, true, false, true, true, true, false, false, false, false, false, false, false, false, false, false, false, false, false, false, false, false, false, false, false, false, false, false, false, false, false] rfl rfl (any_of HT_.out (by kernel_rfl)) (fun _ _ _ h => h) (Or.inl ⟨by rfl, ?_⟩) ?_ ?_
                   rotate_left
                   ·intro w'
                    go_simp
                    with_reducible rfl
                   rotate_left
                   ·simp only [Act.put, List.setIfInBounds_toArray, List.set_cons_zero, List.set_cons_succ, i64_w, i32_w]
                    rfl
                   refine pure_ (i := 12) (N := some 89) (v := ?_) (a' := ?_) #[true, true, true, false, false, true, false, true, true, true, false, false, true, false, false, false, false, false, false, false, false, false, false, false, false, false, false, false, false, false, false, false, false, false, false] rfl rfl (any_of HT_.out (by kernel_rfl)) (fun _ _ _ h => h) (Or.inl ⟨by rfl, ?_⟩) ?_ ?_
                   rotate_left
                   ·intro w'
                    go_simp
                    with_reducible rfl
                   rotate_left
                   ·simp only [Act.put, List.setIfInBounds_toArray, List.set_cons_zero, List.set_cons_succ, i64_w, i32_w]
                    rfl
                   refine pure_ (i := 16) (N := some 93) (v := ?_) (a' := ?_) #[true, true, true, false, false, true, false, true, true, true, false, false, true, false, false, false, true, false, false, false, false, false, false, false, false, false, false, false, false, false, false, false, false, false, false] rfl rfl (any_of HT_.out (by kernel_rfl)) (fun _ _ _ h => h) (Or.inl ⟨by rfl, ?_⟩) ?_ ?_
                   rotate_left
                   ·intro w'
                    go_simp
                    with_reducible rfl
                   rotate_left
                   ·simp only [Act.put, List.setIfInBounds_toArray, List.set_cons_zero, List.set_cons_succ, i64_w, i32_w]
                    rfl
                   refine pure_ (i := 18) (N := some 95) (v := ?_) (a' := ?_) #[true, true, true, false, false, true, false, true, true, true, false, false, true, false, false, false, true, false, true, false, false, false, false, false, false, false, false, false, false, false, false, false, false, false, false] rfl rfl (any_of HT_.out (by kernel_rfl)) (fun _ _ _ h => h) (Or.inl ⟨by rfl, ?_⟩) ?_ ?_
                   rotate_left
                   ·intro w'
                    go_simp
                    with_reducible rfl
                   rotate_left
                   ·simp only [Act.put, List.setIfInBounds_toArray, List.set_cons_zero, List.set_cons_succ, i64_w, i32_w]
                    rfl
                   refine pure_ (i := 19) (N := some 96) (v := ?_) (a' := ?_) #[true, true, true, false, false, true, false, true, true, true, false, false, true, false, false, false, true, false, true, true, false, false, false, false, false, false, false, false, false, false, false, false, false, false, false] rfl rfl (any_of HT_.out (by kernel_rfl)) (fun _ _ _ h => h) (Or.inl ⟨by rfl, ?_⟩) ?_ ?_
                   rotate_left
                   ·intro w'
                    go_simp
                    with_reducible rfl
                   rotate_left
                   ·simp only [Act.put, List.setIfInBounds_toArray, List.set_cons_zero, List.set_cons_succ, i64_w, i32_w]
                    rfl
                   refine pure_ (i := 20) (N := some 97) (v := ?_) (a' := ?_) #[true, true, true, false, false, true, false, true, true, true, false, false, true, false, false, false, true, false, true, true, true, false, false, false, false, false, false, false, false, false, false, false, false, false, false] rfl rfl (any_of HT_.out (by kernel_rfl)) (fun _ _ _ h => h) (Or.inl ⟨by rfl, ?_⟩) ?_ ?_
                   rotate_left
                   ·intro w'
                    go_simp
                    with_reducible rfl
                   rotate_left
                   ·simp only [Act.put, List.setIfInBounds_toArray, List.set_cons_zero, List.set_cons_succ, i64_w, i32_w]
                    rfl
                   refine pure_ (i := 23) (N := some 100) (v := ?_) (a' := ?_) #[true, true, true, false, false, true, false, true, true, true, false, false, true, false, false, false, true, false, true, true, true, false, false, true, false, false, false, false, false, false, false, false, false, false, false] rfl rfl (any_of HT_.out (by kernel_rfl)) (fun _ _ _ h => h) (Or.inl ⟨by rfl, ?_⟩) ?_ ?_
                   rotate_left
                   ·intro w'
                    go_simp
                    with_reducible rfl
                   rotate_left
                   ·simp only [Act.put, List.setIfInBounds_toArray, List.set_cons_zero, List.set_cons_succ, i64_w, i32_w]
                    rfl
                   refine pure_ (i := 25) (N := some 102) (v := ?_) (a' := ?_) #[true, true, true, false, false, true, false, true, true, true, false, false, true, false, false, false, true, false, true, true, true, false, false, true, false, true, false, false, false, false, false, false, false, false, false] rfl rfl (any_of HT_.out (by kernel_rfl)) (fun _ _ _ h => h) (Or.inl ⟨by rfl, ?_⟩) ?_ ?_
                   rotate_left
                   ·intro w'
                    go_simp
                    with_reducible rfl
                   rotate_left
                   ·simp only [Act.put, List.setIfInBounds_toArray, List.set_cons_zero, List.set_cons_succ, i64_w, i32_w]
                    rfl
                   refine pure_ (i := 30) (N := some 107) (v := ?_) (a' := ?_) #[true, true, true, false, false, true, false, true, true, true, false, false, true, false, false, false, true, false, true, true, true, false, false, true, false, true, false, false, false, false, true, false, false, false, false] rfl rfl (any_of HT_.out (by kernel_rfl)) (fun _ _ _ h => h) (Or.inl ⟨by rfl, ?_⟩) ?_ ?_
                   rotate_left
                   ·intro w'
                    go_simp
                    with_reducible rfl
                   rotate_left
                   ·simp only [Act.put, List.setIfInBounds_toArray, List.set_cons_zero, List.set_cons_succ, i64_w, i32_w]
                    rfl
                   refine take_ (i := 3) (N := some 80) (v := ?_) (a' := ?_) #[true, true, true, true, false, true, false, true, true, true, false, false, true, false, false, false, true, false, true, true, true, false, false, true, false, true, false, false, false, false, true, false, false, false, false] rfl rfl (take_ofW HT_.out HW_.out (by kernel_rfl)) (fun _ _ _ h => h) (Or.inl ⟨by rfl, ?_⟩) hHeld ?_ ?_
                   rotate_left
                   ·rintro w' ⟨s0, s1, s2, s3, s4, s5⟩
                    go_simp
                    with_reducible rfl
                   rotate_left
                   ·simp only [Act.put, List.setIfInBounds_toArray, List.set_cons_zero, List.set_cons_succ, i64_w, i32_w]
                    rfl
                   refine pure_ (i := 4) (N := some 81) (v := ?_) (a' := ?_) #[true, true, true, true, true, true, false, true, true, true, false, false, true, false, false, false, true, false, true, true, true, false, false, true, false, true, false, false, false, false, true, false, false, false, false] rfl rfl (any_of HT_.out (by kernel_rfl)) (fun _ _ _ h => h) (Or.inl ⟨by rfl, ?_⟩) ?_ ?_
                   rotate_left
                   ·intro w'
                    go_simp
                    with_reducible rfl
                   rotate_left
                   ·simp only [Act.put, List.setIfInBounds_toArray, List.set_cons_zero, List.set_cons_succ, i64_w, i32_w]
                    rfl
                   refine pure_ (i := 6) (N := some 83) (v := ?_) (a' := ?_) #[true, true, true, true, true, true, true, true, true, true, false, false, true, false, false, false, true, false, true, true, true, false, false, true, false, true, false, false, false, false, true, false, false, false, false] rfl rfl (any_of HT_.out (by kernel_rfl)) (fun _ _ _ h => h) (Or.inl ⟨by rfl, ?_⟩) ?_ ?_
                   rotate_left
                   ·intro w'
                    go_simp
                    with_reducible rfl
                   rotate_left
                   ·simp only [Act.put, List.setIfInBounds_toArray, List.set_cons_zero, List.set_cons_succ, i64_w, i32_w]
                    rfl
                   refine take_ (i := 10) (N := some 87) (v := ?_) (a' := ?_) #[true, true, true, true, true, true, true, true, true, true, true, false, true, false, false, false, true, false, true, true, true, false, false, true, false, true, false, false, false, false, true, false, false, false, false] rfl rfl (take_ofW HT_.out HW_.out (by kernel_rfl)) (fun _ _ _ h => h) (Or.inl ⟨by rfl, ?_⟩) hHeld ?_ ?_
                   rotate_left
                   ·rintro w' ⟨s0, s1, s2, s3, s4, s5⟩
                    go_simp
                    with_reducible rfl
                   rotate_left
                   ·simp only [Act.put, List.setIfInBounds_toArray, List.set_cons_zero, List.set_cons_succ, i64_w, i32_w]
                    rfl
                   refine pure_ (i := 11) (N := some 88) (v := ?_) (a' := ?_) #[true, true, true, true, true, true, true, true, true, true, true, true, true, false, false, false, true, false, true, true, true, false, false, true, false, true, false, false, false, false, true, false, false, false, false] rfl rfl (any_of HT_.out (by kernel_rfl)) (fun _ _ _ h => h) (Or.inl ⟨by rfl, ?_⟩) ?_ ?_
                   rotate_left
                   ·intro w'
                    go_simp
                    with_reducible rfl
                   rotate_left
                   ·simp only [Act.put, List.setIfInBounds_toArray, List.set_cons_zero, List.set_cons_succ, i64_w, i32_w]
                    rfl
                   refine pure_ (i := 13) (N := some 90) (v := ?_) (a' := ?_) #[true, true, true, true, true, true, true, true, true, true, true, true, true, true, false, false, true, false, true, true, true, false, false, true, false, true, false, false, false, false, true, false, false, false, false] rfl rfl (any_of HT_.out (by kernel_rfl)) (fun _ _ _ h => h) (Or.inl ⟨by rfl, ?_⟩) ?_ ?_
                   rotate_left
                   ·intro w'
                    go_simp
                    with_reducible rfl
                   rotate_left
                   ·simp only [Act.put, List.setIfInBounds_toArray, List.set_cons_zero, List.set_cons_succ, i64_w, i32_w]
                    rfl
                   refine pure_ (i := 14) (N := some 91) (v := ?_) (a' := ?_) #[true, true, true, true, true, true, true, true, true, true, true, true, true, true, true, false, true, false, true, true, true, false, false, true, false, true, false, false, false, false, true, false, false, false, false] rfl rfl (any_of HT_.out (by kernel_rfl)) (fun _ _ _ h => h) (Or.inl ⟨by rfl, ?_⟩) ?_ ?_
                   rotate_left
                   ·intro w'
                    go_simp
                    with_reducible rfl
                   rotate_left
                   ·simp only [Act.put, List.setIfInBounds_toArray, List.set_cons_zero, List.set_cons_succ, i64_w, i32_w]
                    rfl
                   refine take_ (i := 15) (N := some 92) (v := ?_) (a' := ?_) #[true, true, true, true, true, true, true, true, true, true, true, true, true, true, true, true, true, false, true, true, true, false, false, true, false, true, false, false, false, false, true, false, false, false, false] rfl rfl (take_ofW HT_.out HW_.out (by kernel_rfl)) (fun _ _ _ h => h) (Or.inl ⟨by rfl, ?_⟩) hHeld ?_ ?_
                   rotate_left
                   ·rintro w' ⟨s0, s1, s2, s3, s4, s5⟩
                    go_simp
                    with_reducible rfl
                   rotate_left
                   ·simp only [Act.put, List.setIfInBounds_toArray, List.set_cons_zero, List.set_cons_succ, i64_w, i32_w]
                    rfl
                   refine take_ (i := 17) (N := some 94) (v := ?_) (a' := ?_) #[true, true, true, true, true, true, true, true, true, true, true, true, true, true, true, true, true, true, true, true, true, false, false, true, false, true, false, false, false, false, true, false, false, false, false] rfl rfl (take_ofW HT_.out HW_.out (by kernel_rfl)) (fun _ _ _ h => h) (Or.inl ⟨by rfl, ?_⟩) hHeld ?_ ?_
                   rotate_left
                   ·rintro w' ⟨s0, s1, s2, s3, s4, s5⟩
                    go_simp
                    with_reducible rfl
                   rotate_left
                   ·simp only [Act.put, List.setIfInBounds_toArray, List.set_cons_zero, List.set_cons_succ, i64_w, i32_w]
                    rfl
                   refine take_ (i := 21) (N := some 98) (v := ?_) (a' := ?_) #[true, true, true, true, true, true, true, true, true, true, true, true, true, true, true, true, true, true, true, true, true, true, false, true, false, true, false, false, false, false, true, false, false, false, false] rfl rfl (take_ofW HT_.out HW_.out (by kernel_rfl)) (fun _ _ _ h => h) (Or.inl ⟨by rfl, ?_⟩) hHeld ?_ ?_
                   rotate_left
                   ·rintro w' ⟨s0, s1, s2, s3, s4, s5⟩
                    go_simp
                    with_reducible rfl
                   rotate_left
                   ·simp only [Act.put, List.setIfInBounds_toArray, List.set_cons_zero, List.set_cons_succ, i64_w, i32_w]
                    rfl
                   refine pure_ (i := 22) (N := some 99) (v := ?_) (a' := ?_) #[true, true, true, true, true, true, true, true, true, true, true, true, true, true, true, true, true, true, true, true, true, true, true, true, false, true, false, false, false, false, true, false, false, false, false] rfl rfl (any_of HT_.out (by kernel_rfl)) (fun _ _ _ h => h) (Or.inl ⟨by rfl, ?_⟩) ?_ ?_
                   rotate_left
                   ·intro w'
                    go_simp
                    with_reducible rfl
                   rotate_left
                   ·simp only [Act.put, List.setIfInBounds_toArray, List.set_cons_zero, List.set_cons_succ, i64_w, i32_w]
                    rfl
                   refine take_ (i := 24) (N := some 101) (v := ?_) (a' := ?_) #[true, true, true, true, true, true, true, true, true, true, true, true, true, true, true, true, true, true, true, true, true, true, true, true, true, true, false, false, false, false, true, false, false, false, false] rfl rfl (take_ofW HT_.out HW_.out (by kernel_rfl)) (fun _ _ _ h => h) (Or.inl ⟨by rfl, ?_⟩) hHeld ?_ ?_
                   rotate_left
                   ·rintro w' ⟨s0, s1, s2, s3, s4, s5⟩
                    go_simp
                    with_reducible rfl
                   rotate_left
                   ·simp only [Act.put, List.setIfInBounds_toArray, List.set_cons_zero, List.set_cons_succ, i64_w, i32_w]
                    rfl
                   refine pure_ (i := 26) (N := some 103) (v := ?_) (a' := ?_) #[true, true, true, true, true, true, true, true, true, true, true, true, true, true, true, true, true, true, true, true, true, true, true, true, true, true, true, false, false, false, true, false, false, false, false] rfl rfl (any_of HT_.out (by kernel_rfl)) (fun _ _ _ h => h) (Or.inl ⟨by rfl, ?_⟩) ?_ ?_
                   rotate_left
                   ·intro w'
                    go_simp
                    with_reducible rfl
                   rotate_left
                   ·simp only [Act.put, List.setIfInBounds_toArray, List.set_cons_zero, List.set_cons_succ, i64_w, i32_w]
                    rfl
                   refine take_ (i := 27) (N := some 104) (v := ?_) (a' := ?_) #[true, true, true, true, true, true, true, true, true, true, true, true, true, true, true, true, true, true, true, true, true, true, true, true, true, true, true, true, false, false, true, false, false, false, false] rfl rfl (take_ofW HT_.out HW_.out (by kernel_rfl)) (fun _ _ _ h => h) (Or.inl ⟨by rfl, ?_⟩) hHeld ?_ ?_
                   rotate_left
                   ·rintro w' ⟨s0, s1, s2, s3, s4, s5⟩
                    go_simp
                    with_reducible rfl
                   rotate_left
                   ·simp only [Act.put, List.setIfInBounds_toArray, List.set_cons_zero, List.set_cons_succ, i64_w, i32_w]
                    rfl
                   refine pure_ (i := 28) (N := some 105) (v := ?_) (a' := ?_) #[true, true, true, true, true, true, true, true, true, true, true, true, true, true, true, true, true, true, true, true, true, true, true, true, true, true, true, true, true, false, true, false, false, false, false] rfl rfl (any_of HT_.out (by kernel_rfl)) (fun _ _ _ h => h) (Or.inl ⟨by rfl, ?_⟩) ?_ ?_
                   rotate_left
                   ·intro w'
                    go_simp
                    with_reducible rfl
                   rotate_left
                   ·simp only [Act.put, List.setIfInBounds_toArray, List.set_cons_zero, List.set_cons_succ, i64_w, i32_w]
                    rfl
                   refine pure_ (i := 29) (N := some 106) (v := ?_) (a' := ?_) #[true, true, true, true, true, true, true, true, true, true, true, true, true, true, true, true, true, true, true, true, true, true, true, true, true, true, true, true, true, true, true, false, false, false, false] rfl rfl (any_of HT_.out (by kernel_rfl)) (fun _ _ _ h => h) (Or.inl ⟨by rfl, ?_⟩) ?_ ?_
                   rotate_left
                   ·intro w'
                    go_simp
                    with_reducible rfl
                   rotate_left
                   ·simp only [Act.put, List.setIfInBounds_toArray, List.set_cons_zero, List.set_cons_succ, i64_w, i32_w]
                    rfl
                   refine take_ (i := 31) (N := some 108) (v := ?_) (a' := ?_) #[true, true, true, true, true, true, true, true, true, true, true, true, true, true, true, true, true, true, true, true, true, true, true, true, true, true, true, true, true, true, true, true, false, false, false] rfl rfl (take_ofW HT_.out HW_.out (by kernel_rfl)) (fun _ _ _ h => h) (Or.inl ⟨by rfl, ?_⟩) hHeld ?_ ?_
                   rotate_left
                   ·rintro w' ⟨s0, s1, s2, s3, s4, s5⟩
                    go_simp
                    with_reducible rfl
                   rotate_left
                   ·simp only [Act.put, List.setIfInBounds_toArray, List.set_cons_zero, List.set_cons_succ, i64_w, i32_w]
                    rfl
                   refine pure_ (i := 32) (N := some 109) (v := ?_) (a' := ?_) #[true, true, true, true, true, true, true, true, true, true, true, true, true, true, true, true, true, true, true, true, true, true, true, true, true, true, true, true, true, true, true, true, true, false, false] rfl rfl (any_of HT_.out (by kernel_rfl)) (fun _ _ _ h => h) (Or.inl ⟨by rfl, ?_⟩) ?_ ?_
                   rotate_left
                   ·intro w'
                    go_simp
                    with_reducible rfl
                   rotate_left
                   ·simp only [Act.put, List.setIfInBounds_toArray, List.set_cons_zero, List.set_cons_succ, i64_w, i32_w]
                    rfl
                   refine pure_ (i := 33) (N := some 110) (v := ?_) (a' := ?_) #[true, true, true, true, true, true, true, true, true, true, true, true, true, true, true, true, true, true, true, true, true, true, true, true, true, true, true, true, true, true, true, true, true, true, false] rfl rfl (any_of HT_.out (by kernel_rfl)) (fun _ _ _ h => h) (Or.inl ⟨by rfl, ?_⟩) ?_ ?_
                   rotate_left
                   ·intro w'
                    go_simp
                    with_reducible rfl
                   rotate_left
                   ·simp only [Act.put, List.setIfInBounds_toArray, List.set_cons_zero, List.set_cons_succ, i64_w, i32_w]
                    rfl
                   refine last_ (i := 34) (N := none) #[true, true, true, true, true, true, true, true, true, true, true, true, true, true, true, true, true, true, true, true, true, true, true, true, true, true, true, true, true, true, true, true, true, true, true] rfl rfl (one_of HT_.out (by kernel_rfl)) (by decide) (fun K hK => ?_)
                   refine skip_ (w1 := ?_) (by rfl) rfl ?_ ?_
                   rotate_left
                   ·go_simp
                    rfl
                   refine hK.out _ _ ?_
                   clear hK K
                   refine done_ (done_of HT_.out (by kernel_rfl)) ?_
                   try go_wp2
                   go_roundg k3
                   case measure => have := HK1.out; have := HK2.out; have := HK3.out; omega
                   case rel => exact ⟨(y466), (wrap64 (x13_3 + 1)), (by first | rfl | (simp; done) | (simp [*]; done)), H', ⟨by have := HK1.out; have := HK2.out; have := HK3.out; omega⟩, ⟨by (with_reducible repeat (first | apply Kd.R_alloc | apply Kd.R_drewN | apply Kd.R_drew)); exact HQ52.out⟩, ⟨by (with_reducible repeat (first | refine blk_drewN ?_ _ | refine blk_drew ?_ | refine blk_alloc ?_ _)); refine blk_far ?_ (by have h_ := Kd.R_ne HO_9.out BK444.out (by decide); intro e_; exact h_ (by rw [e_]; rfl)) _; (with_reducible repeat (first | refine blk_drewN ?_ _ | refine blk_drew ?_ | refine blk_alloc ?_ _)); exact BK444.out⟩, ⟨by repeat (first | (with_reducible first | exact HB.out | apply below_alloc | apply pw_below_drewN | apply below_drew1 | refine below_set ?_ GB48.out | refine below_set ?_ GE444.out) | exact HB.out)⟩⟩
                 ·rw [if_neg c46] at H
                  exact absurd H (by simp)
                ·rw [if_neg c45] at H
                 exact absurd H (by simp)
               ·rw [if_neg c44] at H
                exact absurd H (by simp)
              ·rw [if_neg c43] at H
               exact absurd H (by simp)
             ·rw [if_neg c42] at H
              exact absurd H (by simp)
            ·rw [if_neg c41] at H
             exact absurd H (by simp)
           ·rw [if_neg c39] at H
            have c39b0 : decide (x13_3 < a0_1) = false := decide_eq_false c39
            clear c39
            have H' := Aside0.mk H
            clear H
            have hcz53_0 : wr.cell? ⟨gb444, 0, none⟩ = some (.int .i64 a0_0) := (blk_cell BK444.out 0).trans rfl
            have hcz53_1 : wr.cell? ⟨gb444, 1, none⟩ = some (.int .i64 a0_1) := (blk_cell BK444.out 1).trans rfl
            have hcz53_2 : wr.cell? ⟨gb444, 2, none⟩ = some (.slice A0_2 l0_2.length c0_2) := (blk_cell BK444.out 2).trans rfl
            have hfz53_0 := blk_frozen BK444.out 0
            have hfz53_1 := blk_frozen BK444.out 1
            have hfz53_2 := blk_frozen BK444.out 2
            go_wp2
            go_roundg k3
            case measure => have := HK1.out; have := HK2.out; have := HK3.out; omega
            case rel => exact ⟨(x9_3), (wrap64 (x12_2 - 1)), (by first | rfl | (simp; done) | (simp [*]; done)), H', ⟨by have := HK1.out; have := HK2.out; have := HK3.out; omega⟩, ⟨by (with_reducible repeat (first | apply Kd.R_alloc | apply Kd.R_drewN | apply Kd.R_drew)); exact HO_9.out⟩, ⟨by (with_reducible repeat (first | refine blk_drewN ?_ _ | refine blk_drew ?_ | refine blk_alloc ?_ _)); exact BK444.out⟩, ⟨by repeat (first | (with_reducible first | exact HB.out | apply below_alloc | apply pw_below_drewN | apply below_drew1 | refine below_set ?_ GE444.out) | exact HB.out)⟩⟩
        ·rw [if_neg c37] at H
         have c37b0 : decide (a0_1 ≤ x12_2) = false := decide_eq_false c37
         clear c37
         by_cases c54 : 0 ≤ a0_1
         ·rw [if_pos c54] at H
          have c54b0 := eq_true c54
          have c54b1 : decide (0 ≤ a0_1) = true := decide_eq_true c54
          clear c54
          by_cases c55 : a0_1 ≤ (x9_2.length : Int)
          ·rw [if_pos c55] at H
           have c55b0 := eq_true c55
           have c55b1 : decide (a0_1 ≤ (x9_2.length : Int)) = true := decide_eq_true c55
           clear c55
           obtain ⟨y458, hy458⟩ : ∃ y_ : List Int, y_ = (x9_2.take (a0_1 : Int).toNat) := ⟨_, rfl⟩
           replace H : ((cr4_Value.f k2 a0_0 a0_1 l0_2 y458).bind fun t462 => (some t462)) = some r := by first | (rw [hy458]; with_reducible exact H) | (have H2_ := (Option.bind_some _ _).symm.trans H; rw [hy458]; with_reducible exact H2_) | (have H2_ := (Option.bind_some _ _).symm.trans H; with_reducible exact H2_) | with_reducible exact H | (rw [hy458]; exact H) | exact H
           have Ny458 := Aside0.mk hy458
           clear hy458
           replace H := Option.bind_eq_some_iff.mp H
           obtain ⟨t462, A560, H⟩ := H
           replace H : (some t462) = some r := H
           have A56 := Aside0.mk A560
           clear A560
           obtain rfl := Option.some.inj H
           have hcz57_0 : wr.cell? ⟨gb444, 0, none⟩ = some (.int .i64 a0_0) := (blk_cell BK444.out 0).trans rfl
           have hcz57_1 : wr.cell? ⟨gb444, 1, none⟩ = some (.int .i64 a0_1) := (blk_cell BK444.out 1).trans rfl
           have hcz57_2 : wr.cell? ⟨gb444, 2, none⟩ = some (.slice A0_2 l0_2.length c0_2) := (blk_cell BK444.out 2).trans rfl
           have hfz57_0 := blk_frozen BK444.out 0
           have hfz57_1 := blk_frozen BK444.out 1
           have hfz57_2 := blk_frozen BK444.out 2
           try go_wp2
           have n0_ := Aside0.mk (Kd.R_drew HO_9.out)
           have n1_ := Aside0.mk (blk_drew BK444.out)
           have n2_ := Aside0.mk (below_drew1 HB.out)
           clear HO_9
           clear BK444
           clear HB
           have HO_9 := n0_
           have BK444 := n1_
           have HB := n2_
           clear n0_ n1_ n2_
           obtain ⟨Ao60, co60, eo60⟩ := Kd.R_slice HO_9.out
           (first | subst eo60 | (injection eo60 with f1_ f2_ f3_; have f4_ := f1_.symm; have f5_ := f3_.symm; clear f1_ f2_ f3_; subst f4_; subst f5_))
           have q59 : (a0_1 : Int) ≤ ((x9_2.length : Int) : Int) := of_decide_eq_true (by first | (with_reducible assumption) | assumption)
           obtain ⟨i059, hi059, _, hsz59, _⟩ := info_parts info3
           have hroom59 : x9_2.length ≤ co60 := (Kd.R_reads' HO_9.out).2.1
           have hC59 : Kd.C (Kd.int .i64) _ Ao60 x9_2.length x9_2 := (Kd.R_reads' HO_9.out).2.2
           have hcut59 := cut_to (P := Try.prog) 22 3 .i64 Try.underlying22 hi059 Ao60 x9_2.length co60 a0_1 (of_decide_eq_true (by first | (with_reducible assumption) | assumption)) q59 hroom59
           have hr59 := Kd.C_take (m := (a0_1 : Int).toNat) hC59 (by omega)
           have hy59 : y458.length = (a0_1 : Int).toNat := (by rw [Ny458.out, List.length_take]; omega)
           rw [← Ny458.out] at hr59
           rw [← hy59] at hcut59
           have HR461 := Aside0.mk hr59
           have HC461 := Aside0.mk (show y458.length ≤ co60 from by omega)
           clear hr59 hC59 hroom59 hi059 hsz59
           have KY59 := Aside0.mk hy59
           clear hy59
           have KL59 := Aside0.mk (show (a0_1 : Int).toNat ≤ x9_2.length from by omega)
           replace q59 := eq_true q59
           refine start_ (n := 7) (S := fun w' => w'.cell? ⟨gb444, 0, none⟩ = some (.int .i64 a0_0) ∧ w'.cell? ⟨gb444, 1, none⟩ = some (.int .i64 a0_1) ∧ w'.cell? ⟨gb444, 2, none⟩ = some (.slice A0_2 l0_2.length c0_2)) (ds := []) #[false, false, false, false, false, false, false] (by kernel_rfl) rfl rfl ⟨(blk_cell BK444.out 0).trans rfl, (blk_cell BK444.out 1).trans rfl, (blk_cell BK444.out 2).trans rfl⟩ (fun hHeld => ?_)
           generalize wr.drew = w58 at HO_9 BK444 HB HR461 hHeld ⊢
           refine pure_ (i := 1) (N := some 112) (v := ?_) (a' := ?_) #[false, true, false, false, false, false, false] rfl rfl (by kernel_rfl) (fun _ _ _ h => h) (Or.inl ⟨by rfl, ?_⟩) ?_ ?_
           rotate_left
           ·intro w'
            go_simp
            with_reducible rfl
           rotate_left
           ·simp only [Act.put, List.setIfInBounds_toArray, List.set_cons_zero, List.set_cons_succ, i64_w, i32_w]
            rfl
           refine pure_ (i := 2) (N := some 113) (v := ?_) (a' := ?_) #[false, true, true, false, false, false, false] rfl rfl (by kernel_rfl) (fun _ _ _ h => h) (Or.inl ⟨by rfl, ?_⟩) ?_ ?_
           rotate_left
           ·intro w'
            go_simp
            with_reducible rfl
           rotate_left
           ·simp only [Act.put, List.setIfInBounds_toArray, List.set_cons_zero, List.set_cons_succ, i64_w, i32_w]
            rfl
           refine take_ (i := 0) (N := some 111) (v := ?_) (a' := ?_) #[true, true, true, false, false, false, false] rfl rfl (by kernel_rfl) (fun _ _ _ h => h) (Or.inl ⟨by rfl, ?_⟩) hHeld ?_ ?_
           rotate_left
           ·rintro w' ⟨s0, s1, s2⟩
            go_simp
            with_reducible rfl
           rotate_left
           ·simp only [Act.put, List.setIfInBounds_toArray, List.set_cons_zero, List.set_cons_succ, i64_w, i32_w]
            rfl
           refine take_ (i := 3) (N := some 114) (v := ?_) (a' := ?_) #[true, true, true, true, false, false, false] rfl rfl (by kernel_rfl) (fun _ _ _ h => h) (Or.inl ⟨by rfl, ?_⟩) hHeld ?_ ?_
           rotate_left
           ·rintro w' ⟨s0, s1, s2⟩
            go_simp
            with_reducible rfl
           rotate_left
           ·simp only [Act.put, List.setIfInBounds_toArray, List.set_cons_zero, List.set_cons_succ, i64_w, i32_w]
            rfl
           refine pure_ (i := 4) (N := some 115) (v := ?_) (a' := ?_) #[true, true, true, true, true, false, false] rfl rfl (by kernel_rfl) (fun _ _ _ h => h) (Or.inl ⟨by rfl, ?_⟩) ?_ ?_
           rotate_left
           ·intro w'
            go_simp
            with_reducible rfl
           rotate_left
           ·simp only [Act.put, List.setIfInBounds_toArray, List.set_cons_zero, List.set_cons_succ, i64_w, i32_w]
            rfl
           refine one_ (i := 5) (N := some 116) #[true, true, true, true, true, true, false] rfl rfl (by kernel_rfl) (by decide) (fun K hK => ?_)
           refine goes_ Try.func53 (by kernel_rfl) rfl #[.agg #[.int .i64 a0_0, .int .i64 a0_1, .slice A0_2 l0_2.length c0_2], .slice Ao60 y458.length co60] (by rfl) rfl rfl (by (try simp only [List.map_toArray, List.map_cons, List.map_nil]); first | done | rfl | (simp only [List.length_drop, List.length_take]; rfl)) ?_
           with_reducible refine (cr4_Value.calls k2 a0_0 a0_1 _ _ l0_2 _ _ y458 t462 _ ?side1 ?side2 ?side3 ?side4 A56.out).mono ?_
           (case side1 => repeat (first | exact (Kd.C_below HR0_2.out HB.out) | (with_reducible refine Kd.C_alloc ?_ _) | (with_reducible refine Kd.C_drewN ?_ _) | (with_reducible refine Kd.C_drew ?_)))
           (case side2 => exact HC0_2.out)
           (case side3 => repeat (first | exact (by repeat (first | (with_reducible exact HR461.out) | (with_reducible refine Kd.C_alloc ?_ _) | (with_reducible refine Kd.C_drewN ?_ _) | (with_reducible refine Kd.C_drew ?_) | exact HR461.out)) | (with_reducible refine Kd.C_alloc ?_ _) | (with_reducible refine Kd.C_drewN ?_ _) | (with_reducible refine Kd.C_drew ?_)))
           (case side4 => exact HC461.out)
           rintro e w61 ⟨rfl, hb⟩
           refine ⟨_, rfl, ?_⟩
           have n0_ := Aside0.mk (Kd.R_below (by (with_reducible repeat (first | apply Kd.R_alloc | apply Kd.R_drewN | apply Kd.R_drew)); exact HO_9.out) hb)
           have n1_ := Aside0.mk (blk_below (g := gb444) (o := .cells #[.int .i64 a0_0, .int .i64 a0_1, .slice A0_2 l0_2.length c0_2] 24 (0, 0)) (by (with_reducible repeat (first | refine blk_drewN ?_ _ | refine blk_drew ?_ | refine blk_alloc ?_ _)); exact BK444.out) hb)
           have n2_ := Aside0.mk (Kd.C_below (by repeat (first | (with_reducible exact HR461.out) | (with_reducible refine Kd.C_alloc ?_ _) | (with_reducible refine Kd.C_drewN ?_ _) | (with_reducible refine Kd.C_drew ?_) | exact HR461.out)) hb)
           have n3_ := Aside0.mk (below_step (by repeat (first | (with_reducible first | exact HB.out | apply below_alloc | apply pw_below_drewN | apply below_drew1 | refine below_set ?_ GE444.out) | exact HB.out)) hb)
           clear HO_9
           clear BK444
           clear HR461
           clear HB
           have HO_9 := n0_
           have BK444 := n1_
           have HR461 := n2_
           have HB := n3_
           clear n0_ n1_ n2_ n3_
           (try clear hb)
           (try clear hb2)
           (try clear hk)
           (try clear hi)
           refine hK.out _ _ ⟨(blk_cell BK444.out 0).trans rfl, (blk_cell BK444.out 1).trans rfl, (blk_cell BK444.out 2).trans rfl⟩ (fun hHeld => ?_)
           clear hK K
           refine norm_ (a' := ?_) ?_ ?_
           rotate_left
           ·show Act.put _ (some 116) _ = _
            simp only [Act.put, List.setIfInBounds_toArray, List.set_cons_zero, List.set_cons_succ, i64_w, i32_w]
            rfl
           refine pure_ (i := 6) (N := some 6) (v := ?_) (a' := ?_) #[true, true, true, true, true, true, true] rfl rfl (by kernel_rfl) (fun _ _ _ h => h) (Or.inl ⟨by rfl, ?_⟩) ?_ ?_
           rotate_left
           ·intro w'
            go_simp
            with_reducible rfl
           rotate_left
           ·simp only [Act.put, List.setIfInBounds_toArray, List.set_cons_zero, List.set_cons_succ, i64_w, i32_w]
            rfl
           refine done_ (by kernel_rfl) ?_
           try go_wp2
           go_ret
           exact ⟨by first | rfl | (simp [errW_none, errW_some] <;> rfl) | (simp only [← hji6]; first | rfl | (simp [errW_none, errW_some] <;> rfl)) | (simp [*, errW_none, errW_some] <;> rfl), by repeat (first | (with_reducible first | exact HB.out | apply below_alloc | apply pw_below_drewN | apply below_drew1 | refine below_set ?_ GE444.out) | exact HB.out)⟩
          ·rw [if_neg c55] at H
           exact absurd H (by simp)
         ·rw [if_neg c54] at H
          exact absurd H (by simp)
  ·rw [if_neg c8] at H
   exact absurd H (by simp)
 ·rw [if_neg c7] at H
  exact absurd H (by simp)

end Go.Proofs.Ythgaihhlbgccoaa.Q
-- Written by a program of this work over the kit's printer; Lean checks it.
namespace Go.Proofs.Ythgaihhlbgccoaa.Q
open Go.RowKit Go.Proofs.YthgaihhlbgccoaaW.PrintWords Go.Proofs.YthgaihhlbgccoaaW.PrintLast Go.Proofs.YthgaihhlbgccoaaW.PrintMore
attribute [local go_sem] max2_int min2_int max_two min_two max_three min_three max_four min_four   -- for this text's walks alone
set_option linter.unusedVariables false
set_option linter.unusedSimpArgs false

/-! ### cr4_Dot: function 51 -/
mutual
def cr4_Dot.l0 : Nat → List Int → List Int → Int → Int → Int → Int → List Int → Option (Int)
 | 0, _, _, _, _, _, _, _ => none
 | k + 1, x1, x2, x7, x8, x468000, x468001, x468002 => if x8 < (x1.length : Int) then (cr4_Dot.j1 k x1 x2 x7 x8 (decide (x8 < (x2.length : Int))) x468000 x468001 x468002) else (cr4_Dot.j1 k x1 x2 x7 x8 false x468000 x468001 x468002)
def cr4_Dot.j1 : Nat → List Int → List Int → Int → Int → Bool → Int → Int → List Int → Option (Int)
 | 0, _, _, _, _, _, _, _, _ => none
 | k + 1, x1, x2, x7, x8, x18, x468000, x468001, x468002 => if x18 = true then (if 0 ≤ x8 then (if x8 < (x1.length : Int) then (if x8 < (x2.length : Int) then ((cr4_Mul.f k x468000 x468001 x468002 (rd x1 x8) (rd x2 x8)).bind fun t470 => ((cr4_Add.f k x468000 x468001 x468002 x7 t470).bind fun t471 => (cr4_Dot.l0 k x1 x2 t471 (wrap64 (x8 + 1)) x468000 x468001 x468002))) else (none)) else (none)) else (none)) else (some x7)
end
def cr4_Dot.f (k : Nat) (a0_0 : Int) (a0_1 : Int) (l0_2 : List Int) (l1 : List Int) (l2 : List Int) : Option (Int) := cr4_Dot.l0 k l1 l2 0 0 a0_0 a0_1 l0_2
theorem cr4_Dot.mono_l : ∀ k, (∀ y0 y1 y2 y3 y4 y5 y6, LeO (cr4_Dot.l0 k y0 y1 y2 y3 y4 y5 y6) (cr4_Dot.l0 (k + 1) y0 y1 y2 y3 y4 y5 y6)) ∧ (∀ y0 y1 y2 y3 y4 y5 y6 y7, LeO (cr4_Dot.j1 k y0 y1 y2 y3 y4 y5 y6 y7) (cr4_Dot.j1 (k + 1) y0 y1 y2 y3 y4 y5 y6 y7))
 | 0 => ⟨fun _ _ _ _ _ _ _ r h => by simp [cr4_Dot.l0] at h, fun _ _ _ _ _ _ _ _ r h => by simp [cr4_Dot.j1] at h⟩
 | k + 1 => by
  obtain ⟨ih0, ih1⟩ := cr4_Dot.mono_l k
  refine ⟨?_, ?_⟩
  ·intro y0 y1 y2 y3 y4 y5 y6
   unfold cr4_Dot.l0
   repeat' first
   | (with_reducible exact ih0 _ _ _ _ _ _ _)
   | (with_reducible exact ih1 _ _ _ _ _ _ _ _)
   | (with_reducible exact cr4_Add.mono _ _ _ _ _ _)
   | (with_reducible exact cr4_Mul.mono _ _ _ _ _ _)
   | (with_reducible exact LeO.refl _)
   | (with_reducible exact LeO.none _)
   | (with_reducible refine LeO.ite ?_ ?_)
   | (with_reducible refine LeO.bind ?_ (fun _ => ?_))
   | exact ih0 _ _ _ _ _ _ _
   | exact ih1 _ _ _ _ _ _ _ _
   | exact cr4_Add.mono _ _ _ _ _ _
   | exact cr4_Mul.mono _ _ _ _ _ _
   | exact LeO.none _
   | refine LeO.ite ?_ ?_
   | refine LeO.bind ?_ (fun _ => ?_)
  ·intro y0 y1 y2 y3 y4 y5 y6 y7
   unfold cr4_Dot.j1
   repeat' first
   | (with_reducible exact ih0 _ _ _ _ _ _ _)
   | (with_reducible exact ih1 _ _ _ _ _ _ _ _)
   | (with_reducible exact cr4_Add.mono _ _ _ _ _ _)
   | (with_reducible exact cr4_Mul.mono _ _ _ _ _ _)
   | (with_reducible exact LeO.refl _)
   | (with_reducible exact LeO.none _)
   | (with_reducible refine LeO.ite ?_ ?_)
   | (with_reducible refine LeO.bind ?_ (fun _ => ?_))
   | exact ih0 _ _ _ _ _ _ _
   | exact ih1 _ _ _ _ _ _ _ _
   | exact cr4_Add.mono _ _ _ _ _ _
   | exact cr4_Mul.mono _ _ _ _ _ _
   | exact LeO.none _
   | refine LeO.ite ?_ ?_
   | refine LeO.bind ?_ (fun _ => ?_)
theorem cr4_Dot.mono : ∀ a0 a1 a2 a3 a4 k, LeO (cr4_Dot.f k a0 a1 a2 a3 a4) (cr4_Dot.f (k + 1) a0 a1 a2 a3 a4) := by
 intro a0 a1 a2 a3 a4 k
 obtain ⟨ih0, ih1⟩ := cr4_Dot.mono_l k
 unfold cr4_Dot.f
 repeat' first
   | (with_reducible exact ih0 _ _ _ _ _ _ _)
   | (with_reducible exact ih1 _ _ _ _ _ _ _ _)
   | (with_reducible exact cr4_Add.mono _ _ _ _ _ _)
   | (with_reducible exact cr4_Mul.mono _ _ _ _ _ _)
   | (with_reducible exact LeO.refl _)
   | (with_reducible exact LeO.none _)
   | (with_reducible refine LeO.ite ?_ ?_)
   | (with_reducible refine LeO.bind ?_ (fun _ => ?_))
   | exact ih0 _ _ _ _ _ _ _
   | exact ih1 _ _ _ _ _ _ _ _
   | exact cr4_Add.mono _ _ _ _ _ _
   | exact cr4_Mul.mono _ _ _ _ _ _
   | exact LeO.none _
   | refine LeO.ite ?_ ?_
   | refine LeO.bind ?_ (fun _ => ?_)
def cr4_Dot.T5 : Bool × List (List Nat × List Nat) := (true, [([], []), ([], []), ([], []), ([], []), ([], []), ([3, 4], [3, 4]), ([5], [5]), ([], []), ([], []), ([7, 8], [7, 8]), ([9], [9]), ([2, 6, 10], [2, 6, 10]), ([0, 1, 11, 11], [0, 1, 11]), ([12, 12, 0, 1, 2, 3, 4, 5, 6, 7, 8, 9, 10, 11, 12], [1, 12])])
def cr4_Dot.B5 : List Nat := [0, 0, 0, 0, 0, 24, 56, 0, 0, 384, 896, 2044, 4095, 8191]
theorem cr4_Dot.tab5 : rtab .any (opsOf Try.f51 5) = cr4_Dot.T5 := by kernel_rfl
theorem cr4_Dot.bits5 : waitsOk cr4_Dot.T5.2 cr4_Dot.B5 = true := by kernel_rfl
set_option maxHeartbeats 8000000 in
set_option maxRecDepth 100000 in
theorem cr4_Dot.calls (k : Nat) (a0_0 : Int) (a0_1 : Int) (A0_2 : Option Addr) (c0_2 : Nat) (l0_2 : List Int) (A1 : Option Addr) (c1 : Nat) (l1 : List Int) (A2 : Option Addr) (c2 : Nat) (l2 : List Int) (r : Int) (w : World) (hr0_2 : Kd.C (Kd.int .i64) w A0_2 l0_2.length l0_2) (hc0_2 : l0_2.length ≤ c0_2) (hr1 : Kd.C (Kd.int .i64) w A1 l1.length l1) (hc1 : l1.length ≤ c1) (hr2 : Kd.C (Kd.int .i64) w A2 l2.length l2) (hc2 : l2.length ≤ c2) (h : cr4_Dot.f k a0_0 a0_1 l0_2 l1 l2 = some r) :
  Calls Try.prog 51 #[.agg #[.int .i64 a0_0, .int .i64 a0_1, .slice A0_2 l0_2.length c0_2], .slice A1 l1.length c1, .slice A2 l2.length c2] w fun e w' => e = .returned (.int .i64 r) ∧ Below w.heap.size w w' := by
 have hu24 := Try.underlying24
 have HR0_2 := Aside0.mk hr0_2
 have HC0_2 := Aside0.mk hc0_2
 clear hr0_2 hc0_2
 have HR1 := Aside0.mk hr1
 have HC1 := Aside0.mk hc1
 clear hr1 hc1
 have HR2 := Aside0.mk hr2
 have HC2 := Aside0.mk hc2
 clear hr2 hc2
 have HB := Aside0.mk (Below.refl w.heap.size w)
 have H : (cr4_Dot.l0 k l1 l2 0 0 a0_0 a0_1 l0_2) = some r := h
 clear h
 have H' := Aside0.mk H
 clear H
 go_enter Try.func51, Try.ntmps51
 go_wp2_with (first | ((with_reducible refine gate_dst (N := 3) rfl ?_); (try (refine gate_guard (by rfl) ?_; dsimp only)); refine box_event ?hg (N := 3) ?hd (cs := #[.int .i64 a0_0, .int .i64 a0_1, .slice A0_2 l0_2.length c0_2]) (t := 24) ?hr ?_; (case hd => rfl); (case hg => rfl); (case hr => first | (go_simp; done) | (go_simp; rfl)); intro gb467 hg w4 hbox hb; have n0_ := Aside0.mk (below_step (by repeat (first | (with_reducible first | exact HB.out | apply below_alloc | apply pw_below_drewN | apply below_drew1) | exact HB.out)) hb); have n1_ := Aside0.mk (hbox); have n2_ := Aside0.mk ((by rw [hg]; exact (below_size (by repeat (first | (with_reducible first | exact HB.out | apply below_alloc | apply pw_below_drewN | apply below_drew1) | exact HB.out))) : w.heap.size ≤ gb467)); have n3_ := Aside0.mk ((by rw [hg]; exact (below_size (by repeat (first | (with_reducible first | exact HB.out | apply below_alloc | apply pw_below_drewN | apply below_drew1) | exact HB.out))) : w.heap.size ≤ gb467)); clear HB; have HB := n0_; have BK467 := n1_; have GW467 := n2_; have GE467 := n3_; clear n0_ n1_ n2_ n3_; clear hb hbox hg))
 go_loopg [7, 8] k (fun kq v7 v8 w' => ∃ (x7_1 : Int) (x8_1 : Int), v7 = .int .i64 x7_1 ∧ v8 = .int .i64 x8_1 ∧ Aside0 (cr4_Dot.l0 kq l1 l2 x7_1 x8_1 a0_0 a0_1 l0_2 = some r) ∧ Aside0 (kq ≤ k) ∧ Aside0 (w'.heap[gb467]? = some (.cells #[.int .i64 a0_0, .int .i64 a0_1, (.slice A0_2 l0_2.length c0_2)] 24 (0, 0))) ∧ Aside0 (Below w.heap.size w w'))
 case atStart => exact ⟨(0), (0), (by first | rfl | (simp; done) | (simp [*]; done)), (by first | rfl | (simp; done) | (simp [*]; done)), H', ⟨Nat.le_refl _⟩, ⟨by (with_reducible repeat (first | refine blk_drewN ?_ _ | refine blk_drew ?_ | refine blk_alloc ?_ _)); exact BK467.out⟩, ⟨by repeat (first | (with_reducible first | exact HB.out | apply below_alloc | apply pw_below_drewN | apply below_drew1 | refine below_set ?_ GE467.out) | exact HB.out)⟩⟩
 case round =>
  clear H'
  try clear c1
  try clear c2
  try clear p2
  obtain ⟨x7_1, x8_1, rfl, rfl, HA, HK1, BK467, HB⟩ := hrel
  cases gk with
  | zero => exact absurd HA.out (by simp [cr4_Dot.l0])
  | succ k1 =>
   have H := HA.out
   clear HA
   simp only [cr4_Dot.l0] at H
   have HC5 := Aside0.mk H
   clear H
   go_upto_region 3 with (fail)
   go_cut [18] (fun v18 wc => ∃ (kq : Nat) (x18_4 : Bool), v18 = .bool x18_4 ∧ Aside0 (cr4_Dot.j1 kq l1 l2 x7_1 x8_1 x18_4 a0_0 a0_1 l0_2 = some r) ∧ Aside0 (kq ≤ k1) ∧ Aside0 (wc.heap[gb467]? = some (.cells #[.int .i64 a0_0, .int .i64 a0_1, (.slice A0_2 l0_2.length c0_2)] 24 (0, 0))) ∧ Aside0 (Below w.heap.size w wc))
   case first =>
    have H := HC5.out
    clear HC5
    by_cases c6 : x8_1 < (l1.length : Int)
    ·rw [if_pos c6] at H
     have c6b0 : decide (x8_1 < (l1.length : Int)) = true := decide_eq_true c6
     clear c6
     (first | rw [c6b0] | (simp only [i64_w, i32_w]; rw [c6b0]) | skip)
     have H' := Aside0.mk H
     clear H
     go_wp2
     go_meet
     case rel => exact ⟨_, (decide (x8_1 < (l2.length : Int))), (by first | rfl | (simp; done) | (simp [*]; done)), H', ⟨by have := HK1.out; first | omega | exact Nat.le_refl _⟩, ⟨by (with_reducible repeat (first | refine blk_drewN ?_ _ | refine blk_drew ?_ | refine blk_alloc ?_ _)); exact BK467.out⟩, ⟨by repeat (first | (with_reducible first | exact HB.out | apply below_alloc | apply pw_below_drewN | apply below_drew1 | refine below_set ?_ GE467.out) | exact HB.out)⟩⟩
    ·rw [if_neg c6] at H
     have c6b0 : decide (x8_1 < (l1.length : Int)) = false := decide_eq_false c6
     clear c6
     (first | rw [c6b0] | (simp only [i64_w, i32_w]; rw [c6b0]) | skip)
     have H' := Aside0.mk H
     clear H
     go_wp2
     go_meet
     case rel => exact ⟨_, (false), (by first | rfl | (simp; done) | (simp [*]; done)), H', ⟨by have := HK1.out; first | omega | exact Nat.le_refl _⟩, ⟨by (with_reducible repeat (first | refine blk_drewN ?_ _ | refine blk_drew ?_ | refine blk_alloc ?_ _)); exact BK467.out⟩, ⟨by repeat (first | (with_reducible first | exact HB.out | apply below_alloc | apply pw_below_drewN | apply below_drew1 | refine below_set ?_ GE467.out) | exact HB.out)⟩⟩
   case rest =>
    clear HC5
    try clear c1
    try clear c2
    try clear p2
    try clear c5
    try clear c6
    try clear c6b0
    try clear p2
    obtain ⟨kq, x18_4, rfl, HA, HJ4, BK467, HB⟩ := hcut
    cases kq with
    | zero => exact absurd HA.out (by simp [cr4_Dot.j1])
    | succ kj4 =>
     have H := HA.out
     clear HA
     simp only [cr4_Dot.j1] at H
     by_cases c7 : x18_4 = true
     ·subst c7
      have H1 : (if 0 ≤ x8_1 then (if x8_1 < (l1.length : Int) then (if x8_1 < (l2.length : Int) then ((cr4_Mul.f kj4 a0_0 a0_1 l0_2 (rd l1 x8_1) (rd l2 x8_1)).bind fun t470 => ((cr4_Add.f kj4 a0_0 a0_1 l0_2 x7_1 t470).bind fun t471 => (cr4_Dot.l0 kj4 l1 l2 t471 (wrap64 (x8_1 + 1)) a0_0 a0_1 l0_2))) else (none)) else (none)) else (none)) = some r := by rw [if_pos rfl] at H; exact H
      clear H
      have H := H1
      clear H1
      by_cases c8 : 0 ≤ x8_1
      ·rw [if_pos c8] at H
       have c8b0 : decide (0 ≤ x8_1) = true := decide_eq_true c8
       clear c8
       by_cases c9 : x8_1 < (l1.length : Int)
       ·rw [if_pos c9] at H
        have c9b0 : decide (x8_1 < (l1.length : Int)) = true := decide_eq_true c9
        clear c9
        by_cases c10 : x8_1 < (l2.length : Int)
        ·rw [if_pos c10] at H
         have c10b0 : decide (x8_1 < (l2.length : Int)) = true := decide_eq_true c10
         clear c10
         replace H := Option.bind_eq_some_iff.mp H
         obtain ⟨t470, A110, H⟩ := H
         replace H : ((cr4_Add.f kj4 a0_0 a0_1 l0_2 x7_1 t470).bind fun t471 => (cr4_Dot.l0 kj4 l1 l2 t471 (wrap64 (x8_1 + 1)) a0_0 a0_1 l0_2)) = some r := H
         have A11 := Aside0.mk A110
         clear A110
         replace H := Option.bind_eq_some_iff.mp H
         obtain ⟨t471, A120, H⟩ := H
         replace H : (cr4_Dot.l0 kj4 l1 l2 t471 (wrap64 (x8_1 + 1)) a0_0 a0_1 l0_2) = some r := H
         have A12 := Aside0.mk A120
         clear A120
         have H' := Aside0.mk H
         clear H
         try go_wp2
         have n0_ := Aside0.mk (blk_drew BK467.out)
         have n1_ := Aside0.mk (below_drew1 HB.out)
         clear BK467
         clear HB
         have BK467 := n0_
         have HB := n1_
         clear n0_ n1_
         have p468 : 0 ≤ (x8_1 : Int) := of_decide_eq_true (by first | (with_reducible assumption) | assumption)
         have q468 : x8_1 < (l1.length : Int) := of_decide_eq_true (by first | (with_reducible assumption) | assumption)
         obtain ⟨ad468, e468, hx468_0⟩ := Kd.at_int HR1.out x8_1 p468 q468
         have hw468_0 := hx468_0
         cases e468
         replace hx468_0 := (HB.out.cell (World.block_lt_of_cell? w _ hx468_0)).trans hx468_0
         replace p468 := eq_true p468
         replace q468 := eq_true q468
         have p469 : 0 ≤ (x8_1 : Int) := of_decide_eq_true (by first | (with_reducible assumption) | assumption)
         have q469 : x8_1 < (l2.length : Int) := of_decide_eq_true (by first | (with_reducible assumption) | assumption)
         obtain ⟨ad469, e469, hx469_0⟩ := Kd.at_int HR2.out x8_1 p469 q469
         have hw469_0 := hx469_0
         cases e469
         replace hx469_0 := (HB.out.cell (World.block_lt_of_cell? w _ hx469_0)).trans hx469_0
         replace p469 := eq_true p469
         replace q469 := eq_true q469
         refine start_ (n := 14) (S := fun w' => w'.cell? ⟨gb467, 0, none⟩ = some (.int .i64 a0_0) ∧ w'.cell? ⟨gb467, 1, none⟩ = some (.int .i64 a0_1) ∧ w'.cell? ⟨gb467, 2, none⟩ = some (.slice A0_2 l0_2.length c0_2) ∧ w'.cell? (ad468.add (x8_1).toNat) = some (.int .i64 (rd l1 x8_1)) ∧ w'.cell? (ad469.add (x8_1).toNat) = some (.int .i64 (rd l2 x8_1))) (ds := []) #[false, false, false, false, false, false, false, false, false, false, false, false, false, false] (by kernel_rfl) rfl rfl ⟨(blk_cell BK467.out 0).trans rfl, (blk_cell BK467.out 1).trans rfl, (blk_cell BK467.out 2).trans rfl, ((HB.out.cell (World.block_lt_of_cell? w _ hw468_0)).trans hw468_0), ((HB.out.cell (World.block_lt_of_cell? w _ hw469_0)).trans hw469_0)⟩ (fun hHeld => ?_); refine with_tabW cr4_Dot.tab5 cr4_Dot.bits5 (fun HT_ HW_ => ?_)
         generalize wc.drew = w13 at BK467 HB hx468_0 hx469_0 hHeld ⊢
         refine pure_ (i := 1) (N := some 22) (v := ?_) (a' := ?_) #[false, true, false, false, false, false, false, false, false, false, false, false, false, false] rfl rfl (any_of HT_.out (by kernel_rfl)) (fun _ _ _ h => h) (Or.inl ⟨by rfl, ?_⟩) ?_ ?_
         rotate_left
         ·intro w'
          go_simp
          with_reducible rfl
         rotate_left
         ·simp only [Act.put, List.setIfInBounds_toArray, List.set_cons_zero, List.set_cons_succ, i64_w, i32_w]
          rfl
         refine pure_ (i := 3) (N := some 24) (v := ?_) (a' := ?_) #[false, true, false, true, false, false, false, false, false, false, false, false, false, false] rfl rfl (any_of HT_.out (by kernel_rfl)) (fun _ _ _ h => h) (Or.inl ⟨by rfl, ?_⟩) ?_ ?_
         rotate_left
         ·intro w'
          go_simp
          with_reducible rfl
         rotate_left
         ·simp only [Act.put, List.setIfInBounds_toArray, List.set_cons_zero, List.set_cons_succ, i64_w, i32_w]
          rfl
         refine pure_ (i := 4) (N := some 25) (v := ?_) (a' := ?_) #[false, true, false, true, true, false, false, false, false, false, false, false, false, false] rfl rfl (any_of HT_.out (by kernel_rfl)) (fun _ _ _ h => h) (Or.inl ⟨by rfl, ?_⟩) ?_ ?_
         rotate_left
         ·intro w'
          go_simp
          with_reducible rfl
         rotate_left
         ·simp only [Act.put, List.setIfInBounds_toArray, List.set_cons_zero, List.set_cons_succ, i64_w, i32_w]
          rfl
         refine pure_ (i := 5) (N := some 26) (v := ?_) (a' := ?_) #[false, true, false, true, true, true, false, false, false, false, false, false, false, false] rfl rfl (any_of HT_.out (by kernel_rfl)) (fun _ _ _ h => h) (Or.inl ⟨by rfl, ?_⟩) ?_ ?_
         rotate_left
         ·intro w'
          go_simp
          with_reducible rfl
         rotate_left
         ·simp only [Act.put, List.setIfInBounds_toArray, List.set_cons_zero, List.set_cons_succ, i64_w, i32_w]
          rfl
         refine pure_ (i := 7) (N := some 28) (v := ?_) (a' := ?_) #[false, true, false, true, true, true, false, true, false, false, false, false, false, false] rfl rfl (any_of HT_.out (by kernel_rfl)) (fun _ _ _ h => h) (Or.inl ⟨by rfl, ?_⟩) ?_ ?_
         rotate_left
         ·intro w'
          go_simp
          with_reducible rfl
         rotate_left
         ·simp only [Act.put, List.setIfInBounds_toArray, List.set_cons_zero, List.set_cons_succ, i64_w, i32_w]
          rfl
         refine pure_ (i := 8) (N := some 29) (v := ?_) (a' := ?_) #[false, true, false, true, true, true, false, true, true, false, false, false, false, false] rfl rfl (any_of HT_.out (by kernel_rfl)) (fun _ _ _ h => h) (Or.inl ⟨by rfl, ?_⟩) ?_ ?_
         rotate_left
         ·intro w'
          go_simp
          with_reducible rfl
         rotate_left
         ·simp only [Act.put, List.setIfInBounds_toArray, List.set_cons_zero, List.set_cons_succ, i64_w, i32_w]
          rfl
         refine pure_ (i := 9) (N := some 30) (v := ?_) (a' := ?_) #[false, true, false, true, true, true, false, true, true, true, false, false, false, false] rfl rfl (any_of HT_.out (by kernel_rfl)) (fun _ _ _ h => h) (Or.inl ⟨by rfl, ?_⟩) ?_ ?_
         rotate_left
         ·intro w'
          go_simp
          with_reducible rfl
         rotate_left
         ·simp only [Act.put, List.setIfInBounds_toArray, List.set_cons_zero, List.set_cons_succ, i64_w, i32_w]
          rfl
         refine take_ (i := 0) (N := some 21) (v := ?_) (a' := ?_) #[true, true, false, true, true, true, false, true, true, true, false, false, false, false] rfl rfl (take_ofW HT_.out HW_.out (by kernel_rfl)) (fun _ _ _ h => h) (Or.inl ⟨by rfl, ?_⟩) hHeld ?_ ?_
         rotate_left
         ·rintro w' ⟨s0, s1, s2, s3, s4⟩
          go_simp
          with_reducible rfl
         rotate_left
         ·simp only [Act.put, List.setIfInBounds_toArray, List.set_cons_zero, List.set_cons_succ, i64_w, i32_w]
          rfl
         refine take_ (i := 2) (N := some 23) (v := ?_) (a' := ?_) #[true, true, true, true, true, true, false, true, true, true, false, false, false, false] rfl rfl (take_ofW HT_.out HW_.out (by kernel_rfl)) (fun _ _ _ h => h) (Or.inl ⟨by rfl, ?_⟩) hHeld ?_ ?_
         rotate_left
         ·rintro w' ⟨s0, s1, s2, s3, s4⟩
          go_simp
          with_reducible rfl
         rotate_left
         ·simp only [Act.put, List.setIfInBounds_toArray, List.set_cons_zero, List.set_cons_succ, i64_w, i32_w]
          rfl
         refine take_ (i := 6) (N := some 27) (v := ?_) (a' := ?_) #[true, true, true, true, true, true, true, true, true, true, false, false, false, false] rfl rfl (take_ofW HT_.out HW_.out (by kernel_rfl)) (fun _ _ _ h => h) (Or.inl ⟨by rfl, ?_⟩) hHeld ?_ ?_
         rotate_left
         ·rintro w' ⟨s0, s1, s2, s3, s4⟩
          go_simp
          with_reducible rfl
         rotate_left
         ·simp only [Act.put, List.setIfInBounds_toArray, List.set_cons_zero, List.set_cons_succ, i64_w, i32_w]
          rfl
         refine take_ (i := 10) (N := some 31) (v := ?_) (a' := ?_) #[true, true, true, true, true, true, true, true, true, true, true, false, false, false] rfl rfl (take_ofW HT_.out HW_.out (by kernel_rfl)) (fun _ _ _ h => h) (Or.inl ⟨by rfl, ?_⟩) hHeld ?_ ?_
         rotate_left
         ·rintro w' ⟨s0, s1, s2, s3, s4⟩
          go_simp
          with_reducible rfl
         rotate_left
         ·simp only [Act.put, List.setIfInBounds_toArray, List.set_cons_zero, List.set_cons_succ, i64_w, i32_w]
          rfl
         refine one_ (i := 11) (N := some 32) #[true, true, true, true, true, true, true, true, true, true, true, true, false, false] rfl rfl (one_of HT_.out (by kernel_rfl)) (by decide) (fun K hK => ?_)
         refine goes_ Try.func67 (by kernel_rfl) rfl #[.agg #[.int .i64 a0_0, .int .i64 a0_1, .slice A0_2 l0_2.length c0_2], .int .i64 (rd l1 x8_1), .int .i64 (rd l2 x8_1)] (by rfl) rfl rfl (by (try simp only [List.map_toArray, List.map_cons, List.map_nil]); first | done | rfl | (simp only [List.length_drop, List.length_take]; rfl)) ?_
         with_reducible refine (cr4_Mul.calls kj4 a0_0 a0_1 _ _ l0_2 (rd l1 x8_1) (rd l2 x8_1) t470 _ ?side1 ?side2 A11.out).mono ?_
         (case side1 => repeat (first | exact (Kd.C_below HR0_2.out HB.out) | (with_reducible refine Kd.C_alloc ?_ _) | (with_reducible refine Kd.C_drewN ?_ _) | (with_reducible refine Kd.C_drew ?_)))
         (case side2 => exact HC0_2.out)
         rintro e w14 ⟨rfl, hb⟩
         refine ⟨_, rfl, ?_⟩
         have n0_ := Aside0.mk (blk_below (g := gb467) (o := .cells #[.int .i64 a0_0, .int .i64 a0_1, .slice A0_2 l0_2.length c0_2] 24 (0, 0)) (by (with_reducible repeat (first | refine blk_drewN ?_ _ | refine blk_drew ?_ | refine blk_alloc ?_ _)); exact BK467.out) hb)
         have n1_ := Aside0.mk (below_step (by repeat (first | (with_reducible first | exact HB.out | apply below_alloc | apply pw_below_drewN | apply below_drew1 | refine below_set ?_ GE467.out) | exact HB.out)) hb)
         clear BK467
         clear HB
         have BK467 := n0_
         have HB := n1_
         clear n0_ n1_
         (try clear hb)
         (try clear hb2)
         (try clear hk)
         (try clear hi)
         refine hK.out _ _ ⟨(blk_cell BK467.out 0).trans rfl, (blk_cell BK467.out 1).trans rfl, (blk_cell BK467.out 2).trans rfl, ((HB.out.cell (World.block_lt_of_cell? w _ hw468_0)).trans hw468_0), ((HB.out.cell (World.block_lt_of_cell? w _ hw469_0)).trans hw469_0)⟩ (fun hHeld => ?_)
         clear hK K
         refine norm_ (a' := ?_) ?_ ?_
         rotate_left
         ·show Act.put _ (some 32) _ = _
          simp only [Act.put, List.setIfInBounds_toArray, List.set_cons_zero, List.set_cons_succ, i64_w, i32_w]
          rfl
         refine one_ (i := 12) (N := some 33) #[true, true, true, true, true, true, true, true, true, true, true, true, true, false] rfl rfl (one_of HT_.out (by kernel_rfl)) (by decide) (fun K hK => ?_)
         refine goes_ Try.func29 (by kernel_rfl) rfl #[.agg #[.int .i64 a0_0, .int .i64 a0_1, .slice A0_2 l0_2.length c0_2], .int .i64 x7_1, .int .i64 t470] (by rfl) rfl rfl (by (try simp only [List.map_toArray, List.map_cons, List.map_nil]); first | done | rfl | (simp only [List.length_drop, List.length_take]; rfl)) ?_
         with_reducible refine (cr4_Add.calls kj4 a0_0 a0_1 _ _ l0_2 x7_1 t470 t471 _ ?side1 ?side2 A12.out).mono ?_
         (case side1 => repeat (first | exact (Kd.C_below HR0_2.out HB.out) | (with_reducible refine Kd.C_alloc ?_ _) | (with_reducible refine Kd.C_drewN ?_ _) | (with_reducible refine Kd.C_drew ?_)))
         (case side2 => exact HC0_2.out)
         rintro e w15 ⟨rfl, hb⟩
         refine ⟨_, rfl, ?_⟩
         have n0_ := Aside0.mk (blk_below (g := gb467) (o := .cells #[.int .i64 a0_0, .int .i64 a0_1, .slice A0_2 l0_2.length c0_2] 24 (0, 0)) (by (with_reducible repeat (first | refine blk_drewN ?_ _ | refine blk_drew ?_ | refine blk_alloc ?_ _)); exact BK467.out) hb)
         have n1_ := Aside0.mk (below_step (by repeat (first | (with_reducible first | exact HB.out | apply below_alloc | apply pw_below_drewN | apply below_drew1 | refine below_set ?_ GE467.out) | exact HB.out)) hb)
         clear BK467
         clear HB
         have BK467 := n0_
         have HB := n1_
         clear n0_ n1_
         (try clear hb)
         (try clear hb2)
         (try clear hk)
         (try clear hi)
         refine hK.out _ _ ⟨(blk_cell BK467.out 0).trans rfl, (blk_cell BK467.out 1).trans rfl, (blk_cell BK467.out 2).trans rfl, ((HB.out.cell (World.block_lt_of_cell? w _ hw468_0)).trans hw468_0), ((HB.out.cell (World.block_lt_of_cell? w _ hw469_0)).trans hw469_0)⟩ (fun hHeld => ?_)
         clear hK K
         refine norm_ (a' := ?_) ?_ ?_
         rotate_left
         ·show Act.put _ (some 33) _ = _
          simp only [Act.put, List.setIfInBounds_toArray, List.set_cons_zero, List.set_cons_succ, i64_w, i32_w]
          rfl
         refine pure_ (i := 13) (N := some 7) (v := ?_) (a' := ?_) #[true, true, true, true, true, true, true, true, true, true, true, true, true, true] rfl rfl (any_of HT_.out (by kernel_rfl)) (fun _ _ _ h => h) (Or.inl ⟨by rfl, ?_⟩) ?_ ?_
         rotate_left
         ·intro w'
          go_simp
          with_reducible rfl
         rotate_left
         ·simp only [Act.put, List.setIfInBounds_toArray, List.set_cons_zero, List.set_cons_succ, i64_w, i32_w]
          rfl
         refine done_ (done_of HT_.out (by kernel_rfl)) ?_
         try go_wp2
         go_roundg kj4
         case measure => have := HK1.out; have := HJ4.out; omega
         case rel => exact ⟨(t471), (wrap64 (x8_1 + 1)), (by first | rfl | (simp; done) | (simp [*]; done)), (by first | rfl | (simp; done) | (simp [*]; done)), H', ⟨by have := HK1.out; have := HJ4.out; omega⟩, ⟨by (with_reducible repeat (first | refine blk_drewN ?_ _ | refine blk_drew ?_ | refine blk_alloc ?_ _)); exact BK467.out⟩, ⟨by repeat (first | (with_reducible first | exact HB.out | apply below_alloc | apply pw_below_drewN | apply below_drew1 | refine below_set ?_ GE467.out) | exact HB.out)⟩⟩
        ·rw [if_neg c10] at H
         exact absurd H (by simp)
       ·rw [if_neg c9] at H
        exact absurd H (by simp)
      ·rw [if_neg c8] at H
       exact absurd H (by simp)
     ·replace c7 := Bool.eq_false_iff.mpr c7
      subst c7
      have H1 : (some x7_1) = some r := by rw [if_neg (show ¬ (false = true) by decide)] at H; exact H
      clear H
      have H := H1
      clear H1
      obtain rfl := Option.some.inj H
      go_wp2
      go_ret
      exact ⟨by first | rfl | (simp [errW_none, errW_some] <;> rfl) | (simp [*, errW_none, errW_some] <;> rfl), by repeat (first | (with_reducible first | exact HB.out | apply below_alloc | apply pw_below_drewN | apply below_drew1 | refine below_set ?_ GE467.out) | exact HB.out)⟩

end Go.Proofs.Ythgaihhlbgccoaa.Q
-- Written by a program of this work over the kit's printer; Lean checks it.
namespace Go.Proofs.Ythgaihhlbgccoaa.Q
open Go.RowKit Go.Proofs.YthgaihhlbgccoaaW.PrintWords Go.Proofs.YthgaihhlbgccoaaW.PrintLast Go.Proofs.YthgaihhlbgccoaaW.PrintMore
attribute [local go_sem] max2_int min2_int max_two min_two max_three min_three max_four min_four   -- for this text's walks alone
set_option linter.unusedVariables false
set_option linter.unusedSimpArgs false

/-! ### crB_Inner: function 28 -/
def crB_Inner.f (k : Nat) (a0_0 : Int) (a0_1 : Int) (l0_2 : List Int) (l1 : List Int) (l2 : List Int) : Option (Int × Int) := if (l1.length : Int) = (l2.length : Int) then ((cr4_Dot.f k a0_0 a0_1 l0_2 l1 l2).bind fun t473 => (some (t473, 0))) else (some (0, 4))
theorem crB_Inner.mono : ∀ a0 a1 a2 a3 a4 k, LeO (crB_Inner.f k a0 a1 a2 a3 a4) (crB_Inner.f (k + 1) a0 a1 a2 a3 a4) := by
 intro a0 a1 a2 a3 a4 k
 unfold crB_Inner.f
 repeat' first
   | (with_reducible exact cr4_Dot.mono _ _ _ _ _ _)
   | (with_reducible exact LeO.refl _)
   | (with_reducible exact LeO.none _)
   | (with_reducible refine LeO.ite ?_ ?_)
   | (with_reducible refine LeO.bind ?_ (fun _ => ?_))
   | exact cr4_Dot.mono _ _ _ _ _ _
   | exact LeO.none _
   | refine LeO.ite ?_ ?_
   | refine LeO.bind ?_ (fun _ => ?_)
set_option maxHeartbeats 8000000 in
set_option maxRecDepth 100000 in
theorem crB_Inner.calls (k : Nat) (a0_0 : Int) (a0_1 : Int) (A0_2 : Option Addr) (c0_2 : Nat) (l0_2 : List Int) (A1 : Option Addr) (c1 : Nat) (l1 : List Int) (A2 : Option Addr) (c2 : Nat) (l2 : List Int) (r1 : Int) (r2 : Int) (w : World) (hr0_2 : Kd.C (Kd.int .i64) w A0_2 l0_2.length l0_2) (hc0_2 : l0_2.length ≤ c0_2) (hr1 : Kd.C (Kd.int .i64) w A1 l1.length l1) (hc1 : l1.length ≤ c1) (hr2 : Kd.C (Kd.int .i64) w A2 l2.length l2) (hc2 : l2.length ≤ c2) (h : crB_Inner.f k a0_0 a0_1 l0_2 l1 l2 = some (r1, r2)) :
  Calls Try.prog 28 #[.agg #[.int .i64 a0_0, .int .i64 a0_1, .slice A0_2 l0_2.length c0_2], .slice A1 l1.length c1, .slice A2 l2.length c2] w fun e w' => e = .returned (.tuple #[.int .i64 r1, .int .i64 r2]) ∧ Below w.heap.size w w' := by
 have hu24 := Try.underlying24
 have HR0_2 := Aside0.mk hr0_2
 have HC0_2 := Aside0.mk hc0_2
 clear hr0_2 hc0_2
 have HR1 := Aside0.mk hr1
 have HC1 := Aside0.mk hc1
 clear hr1 hc1
 have HR2 := Aside0.mk hr2
 have HC2 := Aside0.mk hc2
 clear hr2 hc2
 have HB := Aside0.mk (Below.refl w.heap.size w)
 have H : (if (l1.length : Int) = (l2.length : Int) then ((cr4_Dot.f k a0_0 a0_1 l0_2 l1 l2).bind fun t473 => (some (t473, 0))) else (some (0, 4))) = some (r1, r2) := h
 clear h
 by_cases c4 : (l1.length : Int) = (l2.length : Int)
 ·rw [if_pos c4] at H
  have c4b0 : ((l1.length : Int) == (l2.length : Int)) = true := beq_iff_eq.mpr c4
  have c4b1 : ((l1.length : Int) != (l2.length : Int)) = false := bne_eq_false_iff_eq.mpr c4
  have c4b2 : (l1.length == l2.length) = true := by first | simpa using c4 | (simp at c4 ⊢; omega)
  clear c4
  replace H := Option.bind_eq_some_iff.mp H
  obtain ⟨t473, A50, H⟩ := H
  replace H : (some (t473, 0)) = some (r1, r2) := H
  have A5 := Aside0.mk A50
  clear A50
  simp only [Option.some.injEq, Prod.mk.injEq] at H
  obtain ⟨rfl, rfl⟩ := H
  go_enter Try.func28, Try.ntmps28
  go_wp2_with (first | ((with_reducible refine gate_dst (N := 3) rfl ?_); refine box_event ?hg (N := 3) ?hd (cs := #[.int .i64 a0_0, .int .i64 a0_1, .slice A0_2 l0_2.length c0_2]) (t := 24) ?hr ?_; (case hd => rfl); (case hg => rfl); (case hr => first | (go_simp; done) | (go_simp; rfl)); intro gb472 hg w6 hbox hb; have n0_ := Aside0.mk (below_step (by repeat (first | (with_reducible first | exact HB.out | apply below_alloc | apply pw_below_drewN | apply below_drew1) | exact HB.out)) hb); have n1_ := Aside0.mk (hbox); have n2_ := Aside0.mk ((by rw [hg]; exact (below_size (by repeat (first | (with_reducible first | exact HB.out | apply below_alloc | apply pw_below_drewN | apply below_drew1) | exact HB.out))) : w.heap.size ≤ gb472)); have n3_ := Aside0.mk ((by rw [hg]; exact (below_size (by repeat (first | (with_reducible first | exact HB.out | apply below_alloc | apply pw_below_drewN | apply below_drew1) | exact HB.out))) : w.heap.size ≤ gb472)); clear HB; have HB := n0_; have BK472 := n1_; have GW472 := n2_; have GE472 := n3_; clear n0_ n1_ n2_ n3_; clear hb hbox hg; have hcz7_0 : w6.cell? ⟨gb472, 0, none⟩ = some (.int .i64 a0_0) := (blk_cell BK472.out 0).trans rfl; have hcz7_1 : w6.cell? ⟨gb472, 1, none⟩ = some (.int .i64 a0_1) := (blk_cell BK472.out 1).trans rfl; have hcz7_2 : w6.cell? ⟨gb472, 2, none⟩ = some (.slice A0_2 l0_2.length c0_2) := (blk_cell BK472.out 2).trans rfl; have hfz7_0 := blk_frozen BK472.out 0; have hfz7_1 := blk_frozen BK472.out 1; have hfz7_2 := blk_frozen BK472.out 2) | ((with_reducible refine gate_callee (f := 51) rfl ?_); refine goesL_ (some 16) rfl rfl Try.func51 (by kernel_rfl) rfl #[.agg #[.int .i64 a0_0, .int .i64 a0_1, .slice A0_2 l0_2.length c0_2], .slice A1 l1.length c1, .slice A2 l2.length c2] rfl (by (try simp only [List.map_toArray, List.map_cons, List.map_nil]); first | done | rfl | (simp only [List.length_drop, List.length_take]; rfl)) ?_; (with_reducible refine (cr4_Dot.calls k a0_0 a0_1 _ _ l0_2 _ _ l1 _ _ l2 t473 _ ?side1 ?side2 ?side3 ?side4 ?side5 ?side6 A5.out).mono ?_); (case side1 => repeat (first | exact (Kd.C_below HR0_2.out HB.out) | (with_reducible refine Kd.C_alloc ?_ _) | (with_reducible refine Kd.C_drewN ?_ _) | (with_reducible refine Kd.C_drew ?_))); (case side2 => exact HC0_2.out); (case side3 => repeat (first | exact (Kd.C_below HR1.out HB.out) | (with_reducible refine Kd.C_alloc ?_ _) | (with_reducible refine Kd.C_drewN ?_ _) | (with_reducible refine Kd.C_drew ?_))); (case side4 => exact HC1.out); (case side5 => repeat (first | exact (Kd.C_below HR2.out HB.out) | (with_reducible refine Kd.C_alloc ?_ _) | (with_reducible refine Kd.C_drewN ?_ _) | (with_reducible refine Kd.C_drew ?_))); (case side6 => exact HC2.out); rintro e w8 ⟨rfl, hb⟩; refine ⟨_, rfl, ?_⟩; have n0_ := Aside0.mk (blk_below (g := gb472) (o := .cells #[.int .i64 a0_0, .int .i64 a0_1, .slice A0_2 l0_2.length c0_2] 24 (0, 0)) (by (with_reducible repeat (first | refine blk_drewN ?_ _ | refine blk_drew ?_ | refine blk_alloc ?_ _)); exact BK472.out) hb); have n1_ := Aside0.mk (below_step (by repeat (first | (with_reducible first | exact HB.out | apply below_alloc | apply pw_below_drewN | apply below_drew1 | refine below_set ?_ GE472.out) | exact HB.out)) hb); clear BK472; clear HB; have BK472 := n0_; have HB := n1_; clear n0_ n1_; (try clear hb); (try clear hb2); (try clear hk); (try clear hi)))
  go_ret2
  exact ⟨by first | rfl | (simp [errW_none, errW_some] <;> rfl) | (simp [*, errW_none, errW_some] <;> rfl), by repeat (first | (with_reducible first | exact HB.out | apply below_alloc | apply pw_below_drewN | apply below_drew1 | refine below_set ?_ GE472.out) | exact HB.out)⟩
 ·rw [if_neg c4] at H
  have c4b0 : ((l1.length : Int) == (l2.length : Int)) = false := beq_eq_false_iff_ne.mpr c4
  have c4b1 : ((l1.length : Int) != (l2.length : Int)) = true := bne_iff_ne.mpr c4
  have c4b2 : (l1.length == l2.length) = false := by first | simpa using c4 | (simp at c4 ⊢; omega)
  simp only [Option.some.injEq, Prod.mk.injEq] at H
  obtain ⟨rfl, rfl⟩ := H
  go_enter Try.func28, Try.ntmps28
  go_wp2_with (first | ((with_reducible refine gate_dst (N := 3) rfl ?_); refine box_event ?hg (N := 3) ?hd (cs := #[.int .i64 a0_0, .int .i64 a0_1, .slice A0_2 l0_2.length c0_2]) (t := 24) ?hr ?_; (case hd => rfl); (case hg => rfl); (case hr => first | (go_simp; done) | (go_simp; rfl)); intro gb472 hg w9 hbox hb; have n0_ := Aside0.mk (below_step (by repeat (first | (with_reducible first | exact HB.out | apply below_alloc | apply pw_below_drewN | apply below_drew1) | exact HB.out)) hb); have n1_ := Aside0.mk (hbox); have n2_ := Aside0.mk ((by rw [hg]; exact (below_size (by repeat (first | (with_reducible first | exact HB.out | apply below_alloc | apply pw_below_drewN | apply below_drew1) | exact HB.out))) : w.heap.size ≤ gb472)); have n3_ := Aside0.mk ((by rw [hg]; exact (below_size (by repeat (first | (with_reducible first | exact HB.out | apply below_alloc | apply pw_below_drewN | apply below_drew1) | exact HB.out))) : w.heap.size ≤ gb472)); clear HB; have HB := n0_; have BK472 := n1_; have GW472 := n2_; have GE472 := n3_; clear n0_ n1_ n2_ n3_; clear hb hbox hg))
  go_ret2
  exact ⟨by first | rfl | (simp [errW_none, errW_some] <;> rfl) | (simp [*, errW_none, errW_some] <;> rfl), by repeat (first | (with_reducible first | exact HB.out | apply below_alloc | apply pw_below_drewN | apply below_drew1 | refine below_set ?_ GE472.out) | exact HB.out)⟩

end Go.Proofs.Ythgaihhlbgccoaa.Q
