-- Joined by pack.py, a program of this work: Qx11 Qx12 Qx13 Qx14 Qx28 Qx29 Qx30 Qx31 Qx32 Qx33 Qx34 Qx35 Qx36
import Derived.Test.YtmclalniilkjiaaZDecreases0
import Derived.Test.YtmclalniilkjiaaZDecreases1
namespace Go.Proofs.Ytmclalniilkjiaa.Q
open Go.RowKit Go.Proofs.YtmclalniilkjiaaW.PrintWords Go.Proofs.YtmclalniilkjiaaW.PrintLast Go.Proofs.YtmclalniilkjiaaW.PrintMore
open List renaming setIfInBounds_toArray → l01_, set_cons_zero → l02_, set_cons_succ → l03_
attribute [local go_sem] max2_int min2_int max_two min_two max_three min_three max_four min_four
set_option linter.unusedVariables false
set_option linter.unusedSimpArgs false
def matrix_entries.l0 : Nat → List Int → Int → Int → Int → Int → List Int → Int → List Int → List Int → Option (Int)
 | 0, _, _, _, _, _, _, _, _, _ => none
 | k + 1, x7, x8, x9, x150000, x150001, x150002, x150003, x150004, x150005 => if x9 < x8 then (if 0 ≤ x9 then (if x9 < (x7.length : Int) then ((field_GF_Is.f x150000 x150001 x150002 x150003 x150004 x150005 (rd x7 x9)).bind fun t151 => (if t151 = true then (matrix_entries.l0 k x7 x8 (wrap64 (x9 + 1)) x150000 x150001 x150002 x150003 x150004 x150005) else (some 2))) else (none)) else (none)) else (some 0)
def matrix_entries.f (k : Nat) (a0_0 : Int) (a0_1 : Int) (l0_2 : List Int) (a0_3 : Int) (l0_4 : List Int) (l0_5 : List Int) (l1 : List Int) : Option (Int) := matrix_entries.l0 k l1 (l1.length : Int) 0 a0_0 a0_1 l0_2 a0_3 l0_4 l0_5
theorem matrix_entries.mono_l : ∀ k, (∀ y0 y1 y2 y3 y4 y5 y6 y7 y8, LeO (matrix_entries.l0 k y0 y1 y2 y3 y4 y5 y6 y7 y8) (matrix_entries.l0 (k + 1) y0 y1 y2 y3 y4 y5 y6 y7 y8))
 | 0 => fun _ _ _ _ _ _ _ _ _ r h => by simp [matrix_entries.l0] at h
 | k + 1 => by
  have ih0 := matrix_entries.mono_l k
  ·intro y0 y1 y2 y3 y4 y5 y6 y7 y8;unfold matrix_entries.l0
   repeat' first
   | (with_reducible exact ih0 _ _ _ _ _ _ _ _ _)
   | (with_reducible exact LeO.refl _)
   | (with_reducible exact LeO.none _)
   | (with_reducible refine LeO.ite ?_ ?_)
   | (with_reducible refine LeO.bind ?_ (fun _ => ?_))
   | exact ih0 _ _ _ _ _ _ _ _ _
   | exact LeO.none _
   | refine LeO.ite ?_ ?_
   | refine LeO.bind ?_ (fun _ => ?_)
theorem matrix_entries.mono : ∀ a0 a1 a2 a3 a4 a5 a6 k, LeO (matrix_entries.f k a0 a1 a2 a3 a4 a5 a6) (matrix_entries.f (k + 1) a0 a1 a2 a3 a4 a5 a6) := by
 intro a0 a1 a2 a3 a4 a5 a6 k;have ih0 := matrix_entries.mono_l k;unfold matrix_entries.f
 repeat' first
   | (with_reducible exact ih0 _ _ _ _ _ _ _ _ _)
   | (with_reducible exact LeO.refl _)
   | (with_reducible exact LeO.none _)
   | (with_reducible refine LeO.ite ?_ ?_)
   | (with_reducible refine LeO.bind ?_ (fun _ => ?_))
   | exact ih0 _ _ _ _ _ _ _ _ _
   | exact LeO.none _
   | refine LeO.ite ?_ ?_
   | refine LeO.bind ?_ (fun _ => ?_)
set_option maxHeartbeats 8000000 in
set_option maxRecDepth 100000 in
theorem matrix_entries.calls (k : Nat) (a0_0 : Int) (a0_1 : Int) (A0_2 : Option Addr) (c0_2 : Nat) (l0_2 : List Int) (a0_3 : Int) (A0_4 : Option Addr) (c0_4 : Nat) (l0_4 : List Int) (A0_5 : Option Addr) (c0_5 : Nat) (l0_5 : List Int) (A1 : Option Addr) (c1 : Nat) (l1 : List Int) (r : Int) (gG : Nat) (w : World) (hr1 : Kd.C (Kd.int .i64) w A1 l1.length l1) (hc1 : l1.length ≤ c1) (hG : w.heap[gG]? = some (.cells #[.int .i64 a0_0, .int .i64 a0_1, .slice A0_2 l0_2.length c0_2, .int .i64 a0_3, .slice A0_4 l0_4.length c0_4, .slice A0_5 l0_5.length c0_5] 118 (0, 0))) (h : matrix_entries.f k a0_0 a0_1 l0_2 a0_3 l0_4 l0_5 l1 = some r) :
  Calls Try.prog 91 #[.pointer (some ⟨gG, 0, none⟩), .slice A1 l1.length c1] w fun e w' => e = .returned (.int .i64 r) ∧ Below w.heap.size w w' := by
 have hu118 := Try.underlying118;have HR1 := Ai0.mk hr1;have HC1 := Ai0.mk hc1;clear hr1 hc1;have HB := Ai0.mk (Below.refl w.heap.size w);have H : (matrix_entries.l0 k l1 (l1.length : Int) 0 a0_0 a0_1 l0_2 a0_3 l0_4 l0_5) = some r := h;clear h;have H' := Ai0.mk H;clear H;have BK149 := Ai0.mk hG;go_enter Try.func91, Try.ntmps91
 go_wp2
 go_loopg [9] k (fun kq v9 w' => ∃ (x9_1 : Int), v9 = .int .i64 x9_1 ∧ Ai0 (matrix_entries.l0 kq l1 (l1.length : Int) x9_1 a0_0 a0_1 l0_2 a0_3 l0_4 l0_5 = some r) ∧ Ai0 (kq ≤ k) ∧ Ai0 (w'.heap[gG]? = some (.cells #[.int .i64 a0_0, .int .i64 a0_1, (.slice A0_2 l0_2.length c0_2), .int .i64 a0_3, (.slice A0_4 l0_4.length c0_4), (.slice A0_5 l0_5.length c0_5)] 118 (0, 0))) ∧ Ai0 (Below w.heap.size w w'))
 case atStart => exact ⟨(0), (by first | rfl | (simp; done) | (simp [*]; done)), H', ⟨Nat.le_refl _⟩, ⟨by (with_reducible repeat (first | refine kn1 ?_ _ | refine kd1 ?_ | refine ka1 ?_ _)); exact BK149.out⟩, ⟨by repeat (first | (with_reducible first | exact HB.out | apply ba1 | apply pbN | apply bw1) | exact HB.out)⟩⟩
 case round =>
  clear H'
  try clear c1
  try clear p2
  obtain ⟨x9_1, rfl, HA, HK1, BK149, HB⟩ := hrel
  cases gk with
  | zero => exact absurd HA.out (by simp [matrix_entries.l0])
  | succ k1 =>
   have H := HA.out;clear HA;simp only [matrix_entries.l0] at H;by_cases c4 : x9_1 < (l1.length : Int)
   ·rw [if_pos c4] at H;have c4b0 : decide (x9_1 < (l1.length : Int)) = true := decide_eq_true c4;clear c4;by_cases c5 : 0 ≤ x9_1
    ·rw [if_pos c5] at H;have c5b0 : decide (0 ≤ x9_1) = true := decide_eq_true c5;clear c5;by_cases c6 : x9_1 < (l1.length : Int)
     ·rw [if_pos c6] at H;have c6b0 : decide (x9_1 < (l1.length : Int)) = true := decide_eq_true c6;clear c6;replace H := Option.bind_eq_some_iff.mp H;obtain ⟨t151, A70, H⟩ := H;replace H : (if t151 = true then (matrix_entries.l0 k1 l1 (l1.length : Int) (wrap64 (x9_1 + 1)) a0_0 a0_1 l0_2 a0_3 l0_4 l0_5) else (some 2)) = some r := H;have A7 := Ai0.mk A70;clear A70;by_cases c8 : t151 = true
      case' pos =>
       subst c8;(have H1 : (matrix_entries.l0 k1 l1 (l1.length : Int) (wrap64 (x9_1 + 1)) a0_0 a0_1 l0_2 a0_3 l0_4 l0_5) = some r := by rw [if_pos rfl] at H; exact H);clear H;have H := H1;clear H1;have H' := Ai0.mk H;clear H
      case' neg =>
       replace c8 := Bool.eq_false_iff.mpr c8;subst c8;(have H1 : (some 2) = some r := by rw [if_neg (show ¬ (false = true) by decide)] at H; exact H);clear H;have H := H1;clear H1;obtain rfl := Option.some.inj H
      all_goals
       have p150 : 0 ≤ (x9_1 : Int) := of_decide_eq_true (by first | (with_reducible assumption) | assumption);have q150 : x9_1 < (l1.length : Int) := of_decide_eq_true (by first | (with_reducible assumption) | assumption);obtain ⟨ad150, e150, hx150_0⟩ := Kd.at_int HR1.out x9_1 p150 q150;cases e150;replace hx150_0 := (HB.out.cell (World.block_lt_of_cell? w _ hx150_0)).trans hx150_0;replace p150 := eq_true p150;replace q150 := eq_true q150;have hcz9_0 : wr.cell? ⟨gG, 0, none⟩ = some (.int .i64 a0_0) := (kc1 BK149.out 0).trans rfl;have hcz9_1 : wr.cell? ⟨gG, 1, none⟩ = some (.int .i64 a0_1) := (kc1 BK149.out 1).trans rfl;have hcz9_2 : wr.cell? ⟨gG, 2, none⟩ = some (.slice A0_2 l0_2.length c0_2) := (kc1 BK149.out 2).trans rfl;have hcz9_3 : wr.cell? ⟨gG, 3, none⟩ = some (.int .i64 a0_3) := (kc1 BK149.out 3).trans rfl;have hcz9_4 : wr.cell? ⟨gG, 4, none⟩ = some (.slice A0_4 l0_4.length c0_4) := (kc1 BK149.out 4).trans rfl;have hcz9_5 : wr.cell? ⟨gG, 5, none⟩ = some (.slice A0_5 l0_5.length c0_5) := (kc1 BK149.out 5).trans rfl;have hfz9_0 := kf1 BK149.out 0;have hfz9_1 := kf1 BK149.out 1;have hfz9_2 := kf1 BK149.out 2;have hfz9_3 := kf1 BK149.out 3;have hfz9_4 := kf1 BK149.out 4;have hfz9_5 := kf1 BK149.out 5
      ·go_wp2_with (first | ((with_reducible refine gate_callee (f := 95) rfl ?_); refine goesL_ (some 15) rfl rfl Try.func95 (by kernel_rfl) rfl #[.pointer (some ⟨gG, 0, none⟩), .int .i64 (rd l1 x9_1)] rfl (by (try simp only [List.map_toArray, List.map_cons, List.map_nil]); first | done | rfl | (simp only [List.length_drop, List.length_take]; rfl)) ?_; (with_reducible refine (field_GF_Is.calls a0_0 a0_1 A0_2 c0_2 l0_2 a0_3 A0_4 c0_4 l0_4 A0_5 c0_5 l0_5 (rd l1 x9_1) false gG _ ?sideG A7.out).mono ?_); (case sideG => (with_reducible repeat (first | refine kn1 ?_ _ | refine kd1 ?_ | refine ka1 ?_ _)); exact BK149.out); rintro e w12 ⟨rfl, hb⟩; refine ⟨_, rfl, ?_⟩; have n0_ := Ai0.mk (kb1 (g := gG) (o := .cells #[.int .i64 a0_0, .int .i64 a0_1, .slice A0_2 l0_2.length c0_2, .int .i64 a0_3, .slice A0_4 l0_4.length c0_4, .slice A0_5 l0_5.length c0_5] 118 (0, 0)) (by (with_reducible repeat (first | refine kn1 ?_ _ | refine kd1 ?_ | refine ka1 ?_ _)); exact BK149.out) hb); have n1_ := Ai0.mk (bt1 (by repeat (first | (with_reducible first | exact HB.out | apply ba1 | apply pbN | apply bw1) | exact HB.out)) hb); clear BK149; clear HB; have BK149 := n0_; have HB := n1_; clear n0_ n1_; (try clear hb); (try clear hb2); (try clear hk); (try clear hi)))
       go_ret
       exact ⟨by first | rfl | (simp [eW0, eW1] <;> rfl) | (simp [*, eW0, eW1] <;> rfl), by repeat (first | (with_reducible first | exact HB.out | apply ba1 | apply pbN | apply bw1) | exact HB.out)⟩
      ·go_wp2_with (first | ((with_reducible refine gate_callee (f := 95) rfl ?_); refine goesL_ (some 15) rfl rfl Try.func95 (by kernel_rfl) rfl #[.pointer (some ⟨gG, 0, none⟩), .int .i64 (rd l1 x9_1)] rfl (by (try simp only [List.map_toArray, List.map_cons, List.map_nil]); first | done | rfl | (simp only [List.length_drop, List.length_take]; rfl)) ?_; (with_reducible refine (field_GF_Is.calls a0_0 a0_1 A0_2 c0_2 l0_2 a0_3 A0_4 c0_4 l0_4 A0_5 c0_5 l0_5 (rd l1 x9_1) true gG _ ?sideG A7.out).mono ?_); (case sideG => (with_reducible repeat (first | refine kn1 ?_ _ | refine kd1 ?_ | refine ka1 ?_ _)); exact BK149.out); rintro e w10 ⟨rfl, hb⟩; refine ⟨_, rfl, ?_⟩; have n0_ := Ai0.mk (kb1 (g := gG) (o := .cells #[.int .i64 a0_0, .int .i64 a0_1, .slice A0_2 l0_2.length c0_2, .int .i64 a0_3, .slice A0_4 l0_4.length c0_4, .slice A0_5 l0_5.length c0_5] 118 (0, 0)) (by (with_reducible repeat (first | refine kn1 ?_ _ | refine kd1 ?_ | refine ka1 ?_ _)); exact BK149.out) hb); have n1_ := Ai0.mk (bt1 (by repeat (first | (with_reducible first | exact HB.out | apply ba1 | apply pbN | apply bw1) | exact HB.out)) hb); clear BK149; clear HB; have BK149 := n0_; have HB := n1_; clear n0_ n1_; (try clear hb); (try clear hb2); (try clear hk); (try clear hi)))
       go_roundg k1
       case measure => have := HK1.out; omega
       case rel => exact ⟨(wrap64 (x9_1 + 1)), (by first | rfl | (simp; done) | (simp [*]; done)), H', ⟨by have := HK1.out; omega⟩, ⟨by (with_reducible repeat (first | refine kn1 ?_ _ | refine kd1 ?_ | refine ka1 ?_ _)); exact BK149.out⟩, ⟨by repeat (first | (with_reducible first | exact HB.out | apply ba1 | apply pbN | apply bw1) | exact HB.out)⟩⟩
     ·rw [if_neg c6] at H;exact absurd H (by simp)
    ·rw [if_neg c5] at H;exact absurd H (by simp)
   ·rw [if_neg c4] at H;have c4b0 : decide (x9_1 < (l1.length : Int)) = false := decide_eq_false c4;clear c4;obtain rfl := Option.some.inj H
    go_wp2
    go_ret
    exact ⟨by first | rfl | (simp [eW0, eW1] <;> rfl) | (simp [*, eW0, eW1] <;> rfl), by repeat (first | (with_reducible first | exact HB.out | apply ba1 | apply pbN | apply bw1) | exact HB.out)⟩
mutual
def matrix_check.j0 : Nat → Bool → Int → Int → List Int → Int → List Int → List Int → Int → List (List Int) → Option (Int)
 | 0, _, _, _, _, _, _, _, _, _ => none
 | k + 1, x23, x153000, x153001, x153002, x153003, x153004, x153005, x154000, x154001 => if x23 = true then (some 3) else (matrix_check.l0 k x154001 (x154001.length : Int) 0 x153000 x153001 x153002 x153003 x153004 x153005 x154000 x154001)
def matrix_check.l0 : Nat → List (List Int) → Int → Int → Int → Int → List Int → Int → List Int → List Int → Int → List (List Int) → Option (Int)
 | 0, _, _, _, _, _, _, _, _, _, _, _ => none
 | k + 1, x25, x26, x27, x153000, x153001, x153002, x153003, x153004, x153005, x154000, x154001 => if x27 < x26 then (if 0 ≤ x27 then (if x27 < (x25.length : Int) then (if ((rd_L1 x25 x27).length : Int) = x154000 then (matrix_check.l0 k x25 x26 (wrap64 (x27 + 1)) x153000 x153001 x153002 x153003 x153004 x153005 x154000 x154001) else (some 3)) else (none)) else (none)) else (matrix_check.l1 k x154001 (x154001.length : Int) 0 x153000 x153001 x153002 x153003 x153004 x153005)
def matrix_check.l1 : Nat → List (List Int) → Int → Int → Int → Int → List Int → Int → List Int → List Int → Option (Int)
 | 0, _, _, _, _, _, _, _, _, _ => none
 | k + 1, x38, x39, x40, x153000, x153001, x153002, x153003, x153004, x153005 => if x40 < x39 then (if 0 ≤ x40 then (if x40 < (x38.length : Int) then ((matrix_entries.f k x153000 x153001 x153002 x153003 x153004 x153005 (rd_L1 x38 x40)).bind fun t156 => (if t156 = 0 then (matrix_check.l1 k x38 x39 (wrap64 (x40 + 1)) x153000 x153001 x153002 x153003 x153004 x153005) else (some t156))) else (none)) else (none)) else (some 0)
end
def matrix_check.f (k : Nat) (a0_0 : Int) (a0_1 : Int) (l0_2 : List Int) (a0_3 : Int) (l0_4 : List Int) (l0_5 : List Int) (a1_0 : Int) (l1_1 : List (List Int)) : Option (Int) := if a1_0 < 0 then (matrix_check.j0 k true a0_0 a0_1 l0_2 a0_3 l0_4 l0_5 a1_0 l1_1) else (if a1_0 > 256 then (matrix_check.j0 k true a0_0 a0_1 l0_2 a0_3 l0_4 l0_5 a1_0 l1_1) else (matrix_check.j0 k (decide ((l1_1.length : Int) > 256)) a0_0 a0_1 l0_2 a0_3 l0_4 l0_5 a1_0 l1_1))
theorem matrix_check.mono_l : ∀ k, (∀ y0 y1 y2 y3 y4 y5 y6 y7 y8, LeO (matrix_check.j0 k y0 y1 y2 y3 y4 y5 y6 y7 y8) (matrix_check.j0 (k + 1) y0 y1 y2 y3 y4 y5 y6 y7 y8)) ∧ (∀ y0 y1 y2 y3 y4 y5 y6 y7 y8 y9 y10, LeO (matrix_check.l0 k y0 y1 y2 y3 y4 y5 y6 y7 y8 y9 y10) (matrix_check.l0 (k + 1) y0 y1 y2 y3 y4 y5 y6 y7 y8 y9 y10)) ∧ (∀ y0 y1 y2 y3 y4 y5 y6 y7 y8, LeO (matrix_check.l1 k y0 y1 y2 y3 y4 y5 y6 y7 y8) (matrix_check.l1 (k + 1) y0 y1 y2 y3 y4 y5 y6 y7 y8))
 | 0 => ⟨fun _ _ _ _ _ _ _ _ _ r h => by simp [matrix_check.j0] at h, fun _ _ _ _ _ _ _ _ _ _ _ r h => by simp [matrix_check.l0] at h, fun _ _ _ _ _ _ _ _ _ r h => by simp [matrix_check.l1] at h⟩
 | k + 1 => by
  obtain ⟨ih0, ih1, ih2⟩ := matrix_check.mono_l k;refine ⟨?_, ?_, ?_⟩
  ·intro y0 y1 y2 y3 y4 y5 y6 y7 y8;unfold matrix_check.j0
   repeat' first
   | (with_reducible exact ih0 _ _ _ _ _ _ _ _ _)
   | (with_reducible exact ih1 _ _ _ _ _ _ _ _ _ _ _)
   | (with_reducible exact ih2 _ _ _ _ _ _ _ _ _)
   | (with_reducible exact matrix_entries.mono _ _ _ _ _ _ _ _)
   | (with_reducible exact LeO.refl _)
   | (with_reducible exact LeO.none _)
   | (with_reducible refine LeO.ite ?_ ?_)
   | (with_reducible refine LeO.bind ?_ (fun _ => ?_))
   | exact ih0 _ _ _ _ _ _ _ _ _
   | exact ih1 _ _ _ _ _ _ _ _ _ _ _
   | exact ih2 _ _ _ _ _ _ _ _ _
   | exact matrix_entries.mono _ _ _ _ _ _ _ _
   | exact LeO.none _
   | refine LeO.ite ?_ ?_
   | refine LeO.bind ?_ (fun _ => ?_)
  ·intro y0 y1 y2 y3 y4 y5 y6 y7 y8 y9 y10;unfold matrix_check.l0
   repeat' first
   | (with_reducible exact ih0 _ _ _ _ _ _ _ _ _)
   | (with_reducible exact ih1 _ _ _ _ _ _ _ _ _ _ _)
   | (with_reducible exact ih2 _ _ _ _ _ _ _ _ _)
   | (with_reducible exact matrix_entries.mono _ _ _ _ _ _ _ _)
   | (with_reducible exact LeO.refl _)
   | (with_reducible exact LeO.none _)
   | (with_reducible refine LeO.ite ?_ ?_)
   | (with_reducible refine LeO.bind ?_ (fun _ => ?_))
   | exact ih0 _ _ _ _ _ _ _ _ _
   | exact ih1 _ _ _ _ _ _ _ _ _ _ _
   | exact ih2 _ _ _ _ _ _ _ _ _
   | exact matrix_entries.mono _ _ _ _ _ _ _ _
   | exact LeO.none _
   | refine LeO.ite ?_ ?_
   | refine LeO.bind ?_ (fun _ => ?_)
  ·intro y0 y1 y2 y3 y4 y5 y6 y7 y8;unfold matrix_check.l1
   repeat' first
   | (with_reducible exact ih0 _ _ _ _ _ _ _ _ _)
   | (with_reducible exact ih1 _ _ _ _ _ _ _ _ _ _ _)
   | (with_reducible exact ih2 _ _ _ _ _ _ _ _ _)
   | (with_reducible exact matrix_entries.mono _ _ _ _ _ _ _ _)
   | (with_reducible exact LeO.refl _)
   | (with_reducible exact LeO.none _)
   | (with_reducible refine LeO.ite ?_ ?_)
   | (with_reducible refine LeO.bind ?_ (fun _ => ?_))
   | exact ih0 _ _ _ _ _ _ _ _ _
   | exact ih1 _ _ _ _ _ _ _ _ _ _ _
   | exact ih2 _ _ _ _ _ _ _ _ _
   | exact matrix_entries.mono _ _ _ _ _ _ _ _
   | exact LeO.none _
   | refine LeO.ite ?_ ?_
   | refine LeO.bind ?_ (fun _ => ?_)
theorem matrix_check.mono : ∀ a0 a1 a2 a3 a4 a5 a6 a7 k, LeO (matrix_check.f k a0 a1 a2 a3 a4 a5 a6 a7) (matrix_check.f (k + 1) a0 a1 a2 a3 a4 a5 a6 a7) := by
 intro a0 a1 a2 a3 a4 a5 a6 a7 k;obtain ⟨ih0, ih1, ih2⟩ := matrix_check.mono_l k;unfold matrix_check.f
 repeat' first
   | (with_reducible exact ih0 _ _ _ _ _ _ _ _ _)
   | (with_reducible exact ih1 _ _ _ _ _ _ _ _ _ _ _)
   | (with_reducible exact ih2 _ _ _ _ _ _ _ _ _)
   | (with_reducible exact matrix_entries.mono _ _ _ _ _ _ _ _)
   | (with_reducible exact LeO.refl _)
   | (with_reducible exact LeO.none _)
   | (with_reducible refine LeO.ite ?_ ?_)
   | (with_reducible refine LeO.bind ?_ (fun _ => ?_))
   | exact ih0 _ _ _ _ _ _ _ _ _
   | exact ih1 _ _ _ _ _ _ _ _ _ _ _
   | exact ih2 _ _ _ _ _ _ _ _ _
   | exact matrix_entries.mono _ _ _ _ _ _ _ _
   | exact LeO.none _
   | refine LeO.ite ?_ ?_
   | refine LeO.bind ?_ (fun _ => ?_)
set_option maxHeartbeats 8000000 in
set_option maxRecDepth 100000 in
theorem matrix_check.calls (k : Nat) (a0_0 : Int) (a0_1 : Int) (A0_2 : Option Addr) (c0_2 : Nat) (l0_2 : List Int) (a0_3 : Int) (A0_4 : Option Addr) (c0_4 : Nat) (l0_4 : List Int) (A0_5 : Option Addr) (c0_5 : Nat) (l0_5 : List Int) (a1_0 : Int) (A1_1 : Option Addr) (c1_1 : Nat) (l1_1 : List (List Int)) (r : Int) (gG : Nat) (w : World) (hr1_1 : Kd.C (Kd.slice 3 (Kd.int .i64)) w A1_1 l1_1.length l1_1) (hc1_1 : l1_1.length ≤ c1_1) (hG : w.heap[gG]? = some (.cells #[.int .i64 a0_0, .int .i64 a0_1, .slice A0_2 l0_2.length c0_2, .int .i64 a0_3, .slice A0_4 l0_4.length c0_4, .slice A0_5 l0_5.length c0_5] 118 (0, 0))) (h : matrix_check.f k a0_0 a0_1 l0_2 a0_3 l0_4 l0_5 a1_0 l1_1 = some r) :
  Calls Try.prog 87 #[.pointer (some ⟨gG, 0, none⟩), .agg #[.int .i64 a1_0, .slice A1_1 l1_1.length c1_1]] w fun e w' => e = .returned (.int .i64 r) ∧ Below w.heap.size w w' := by
 have hu118 := Try.underlying118;have hu24 := Try.underlying24;have HR1_1 := Ai0.mk hr1_1;have HC1_1 := Ai0.mk hc1_1;clear hr1_1 hc1_1;have HB := Ai0.mk (Below.refl w.heap.size w);have H : (if a1_0 < 0 then (matrix_check.j0 k true a0_0 a0_1 l0_2 a0_3 l0_4 l0_5 a1_0 l1_1) else (if a1_0 > 256 then (matrix_check.j0 k true a0_0 a0_1 l0_2 a0_3 l0_4 l0_5 a1_0 l1_1) else (matrix_check.j0 k (decide ((l1_1.length : Int) > 256)) a0_0 a0_1 l0_2 a0_3 l0_4 l0_5 a1_0 l1_1))) = some r := h;clear h;have HC3 := Ai0.mk H;clear H;have BK152 := Ai0.mk hG;go_enter Try.func87, Try.ntmps87
 go_upto_region 1 with (first | ((with_reducible refine gate_dst (N := 3) rfl ?_); (try (refine gate_guard (by rfl) ?_; dsimp only)); refine box_event ?hg (N := 3) ?hd (cs := #[.int .i64 a1_0, .slice A1_1 l1_1.length c1_1]) (t := 24) ?hr ?_; (case hd => rfl); (case hg => rfl); (case hr => first | (go_simp; done) | (go_simp; rfl)); intro gb153 hg w5 hbox hb; have n0_ := Ai0.mk (kb1 (g := gG) (o := .cells #[.int .i64 a0_0, .int .i64 a0_1, .slice A0_2 l0_2.length c0_2, .int .i64 a0_3, .slice A0_4 l0_4.length c0_4, .slice A0_5 l0_5.length c0_5] 118 (0, 0)) (by (with_reducible repeat (first | refine kn1 ?_ _ | refine kd1 ?_ | refine ka1 ?_ _)); exact BK152.out) hb); have n1_ := Ai0.mk (bt1 (by repeat (first | (with_reducible first | exact HB.out | apply ba1 | apply pbN | apply bw1) | exact HB.out)) hb); have n2_ := Ai0.mk (hbox); have n3_ := Ai0.mk ((by rw [hg]; exact (bz1 (by repeat (first | (with_reducible first | exact HB.out | apply ba1 | apply pbN | apply bw1) | exact HB.out))) : w.heap.size ≤ gb153)); have n4_ := Ai0.mk ((by rw [hg]; exact (bz1 (by repeat (first | (with_reducible first | exact HB.out | apply ba1 | apply pbN | apply bw1) | exact HB.out))) : w.heap.size ≤ gb153)); have n5_ := Ai0.mk ((by rw [hg]; exact Nat.ne_of_lt (blk_lt (g := gG) (o := .cells #[.int .i64 a0_0, .int .i64 a0_1, .slice A0_2 l0_2.length c0_2, .int .i64 a0_3, .slice A0_4 l0_4.length c0_4, .slice A0_5 l0_5.length c0_5] 118 (0, 0)) (by (with_reducible repeat (first | refine kn1 ?_ _ | refine kd1 ?_ | refine ka1 ?_ _)); exact BK152.out)) : gG ≠ gb153)); have n6_ := Ai0.mk ((by rw [hg]; exact Nat.ne_of_gt (blk_lt (g := gG) (o := .cells #[.int .i64 a0_0, .int .i64 a0_1, .slice A0_2 l0_2.length c0_2, .int .i64 a0_3, .slice A0_4 l0_4.length c0_4, .slice A0_5 l0_5.length c0_5] 118 (0, 0)) (by (with_reducible repeat (first | refine kn1 ?_ _ | refine kd1 ?_ | refine ka1 ?_ _)); exact BK152.out)) : gb153 ≠ gG)); clear BK152; clear HB; have BK152 := n0_; have HB := n1_; have BK153 := n2_; have GW153 := n3_; have GE153 := n4_; have NB152_153 := n5_; have NB153_152 := n6_; clear n0_ n1_ n2_ n3_ n4_ n5_ n6_; clear hb hbox hg))
 (try simp only [Act.put, l01_, l02_, l03_])
 go_cut [23] (fun v23 wc => ∃ (kq : Nat) (x23_2 : Bool), v23 = .bool x23_2 ∧ Ai0 (matrix_check.j0 kq x23_2 a0_0 a0_1 l0_2 a0_3 l0_4 l0_5 a1_0 l1_1 = some r) ∧ Ai0 (kq ≤ k) ∧ Ai0 (wc.heap[gG]? = some (.cells #[.int .i64 a0_0, .int .i64 a0_1, (.slice A0_2 l0_2.length c0_2), .int .i64 a0_3, (.slice A0_4 l0_4.length c0_4), (.slice A0_5 l0_5.length c0_5)] 118 (0, 0))) ∧ Ai0 (wc.heap[gb153]? = some (.cells #[.int .i64 a1_0, (.slice A1_1 l1_1.length c1_1)] 24 (0, 0))) ∧ Ai0 (Below w.heap.size w wc))
 case first =>
  have H := HC3.out;clear HC3;by_cases c6 : a1_0 < 0
  ·rw [if_pos c6] at H;have c6b0 : decide (a1_0 < 0) = true := decide_eq_true c6;clear c6;(first | rw [c6b0] | (simp only [i64_w, i32_w]; rw [c6b0]) | skip);have H' := Ai0.mk H;clear H;have hnb7 := NB153_152.out;have hnc7 := NB152_153.out;have hcz8_0 : w5.cell? ⟨gb153, 0, none⟩ = some (.int .i64 a1_0) := (kc1 BK153.out 0).trans rfl;have hcz8_1 : w5.cell? ⟨gb153, 1, none⟩ = some (.slice A1_1 l1_1.length c1_1) := (kc1 BK153.out 1).trans rfl;have hfz8_0 := kf1 BK153.out 0;have hfz8_1 := kf1 BK153.out 1
   go_wp2
   go_meet
   case rel => exact ⟨_, (true), (by first | rfl | (simp; done) | (simp [*]; done)), H', ⟨by first | omega | exact Nat.le_refl _⟩, ⟨by (with_reducible repeat (first | refine kn1 ?_ _ | refine kd1 ?_ | refine ka1 ?_ _)); exact BK152.out⟩, ⟨by (with_reducible repeat (first | refine kn1 ?_ _ | refine kd1 ?_ | refine ka1 ?_ _)); exact BK153.out⟩, ⟨by repeat (first | (with_reducible first | exact HB.out | apply ba1 | apply pbN | apply bw1 | refine bs1 ?_ GE153.out) | exact HB.out)⟩⟩
  ·rw [if_neg c6] at H;have c6b0 : decide (a1_0 < 0) = false := decide_eq_false c6;clear c6;(first | rw [c6b0] | (simp only [i64_w, i32_w]; rw [c6b0]) | skip);by_cases c9 : a1_0 > 256
   ·rw [if_pos c9] at H;have c9b0 : decide (256 < a1_0) = true := decide_eq_true c9;clear c9;have H' := Ai0.mk H;clear H;have hnb10 := NB153_152.out;have hnc10 := NB152_153.out;have hcz11_0 : w5.cell? ⟨gb153, 0, none⟩ = some (.int .i64 a1_0) := (kc1 BK153.out 0).trans rfl;have hcz11_1 : w5.cell? ⟨gb153, 1, none⟩ = some (.slice A1_1 l1_1.length c1_1) := (kc1 BK153.out 1).trans rfl;have hfz11_0 := kf1 BK153.out 0;have hfz11_1 := kf1 BK153.out 1
    go_wp2
    go_meet
    case rel => exact ⟨_, (true), (by first | rfl | (simp; done) | (simp [*]; done)), H', ⟨by first | omega | exact Nat.le_refl _⟩, ⟨by (with_reducible repeat (first | refine kn1 ?_ _ | refine kd1 ?_ | refine ka1 ?_ _)); exact BK152.out⟩, ⟨by (with_reducible repeat (first | refine kn1 ?_ _ | refine kd1 ?_ | refine ka1 ?_ _)); exact BK153.out⟩, ⟨by repeat (first | (with_reducible first | exact HB.out | apply ba1 | apply pbN | apply bw1 | refine bs1 ?_ GE153.out) | exact HB.out)⟩⟩
   ·rw [if_neg c9] at H;have c9b0 : decide (256 < a1_0) = false := decide_eq_false c9;clear c9;have H' := Ai0.mk H;clear H;have hnb12 := NB153_152.out;have hnc12 := NB152_153.out;have hcz13_0 : w5.cell? ⟨gb153, 0, none⟩ = some (.int .i64 a1_0) := (kc1 BK153.out 0).trans rfl;have hcz13_1 : w5.cell? ⟨gb153, 1, none⟩ = some (.slice A1_1 l1_1.length c1_1) := (kc1 BK153.out 1).trans rfl;have hfz13_0 := kf1 BK153.out 0;have hfz13_1 := kf1 BK153.out 1
    go_wp2
    go_meet
    case rel => exact ⟨_, (decide ((l1_1.length : Int) > 256)), (by first | rfl | (simp; done) | (simp [*]; done)), H', ⟨by first | omega | exact Nat.le_refl _⟩, ⟨by (with_reducible repeat (first | refine kn1 ?_ _ | refine kd1 ?_ | refine ka1 ?_ _)); exact BK152.out⟩, ⟨by (with_reducible repeat (first | refine kn1 ?_ _ | refine kd1 ?_ | refine ka1 ?_ _)); exact BK153.out⟩, ⟨by repeat (first | (with_reducible first | exact HB.out | apply ba1 | apply pbN | apply bw1 | refine bs1 ?_ GE153.out) | exact HB.out)⟩⟩
 case rest =>
  clear HC3
  try clear c1
  try clear p2
  try clear c6
  try clear c6b0
  try clear c7
  try clear c8
  try clear c9
  try clear c9b0
  try clear c10
  try clear c12
  try clear hcz11_0
  try clear hcz11_1
  try clear hcz13_0
  try clear hcz13_1
  try clear hcz8_0
  try clear hcz8_1
  try clear hfz11_0
  try clear hfz11_1
  try clear hfz13_0
  try clear hfz13_1
  try clear hfz8_0
  try clear hfz8_1
  obtain ⟨kq, x23_2, rfl, HA, HJ2, BK152, BK153, HB⟩ := hcut
  cases kq with
  | zero => exact absurd HA.out (by simp [matrix_check.j0])
  | succ kj2 =>
   have H := HA.out;clear HA;simp only [matrix_check.j0] at H;by_cases c14 : x23_2 = true
   ·subst c14;(have H1 : (some 3) = some r := by rw [if_pos rfl] at H; exact H);clear H;have H := H1;clear H1;obtain rfl := Option.some.inj H
    go_wp2
    go_ret
    exact ⟨by first | rfl | (simp [eW0, eW1] <;> rfl) | (simp [*, eW0, eW1] <;> rfl), by repeat (first | (with_reducible first | exact HB.out | apply ba1 | apply pbN | apply bw1 | refine bs1 ?_ GE153.out) | exact HB.out)⟩
   ·replace c14 := Bool.eq_false_iff.mpr c14;subst c14;(have H1 : (matrix_check.l0 kj2 l1_1 (l1_1.length : Int) 0 a0_0 a0_1 l0_2 a0_3 l0_4 l0_5 a1_0 l1_1) = some r := by rw [if_neg (show ¬ (false = true) by decide)] at H; exact H);clear H;have H := H1;clear H1;have H' := Ai0.mk H;clear H;have hnb15 := NB153_152.out;have hnc15 := NB152_153.out;have hcz16_0 : wc.cell? ⟨gb153, 0, none⟩ = some (.int .i64 a1_0) := (kc1 BK153.out 0).trans rfl;have hcz16_1 : wc.cell? ⟨gb153, 1, none⟩ = some (.slice A1_1 l1_1.length c1_1) := (kc1 BK153.out 1).trans rfl;have hfz16_0 := kf1 BK153.out 0;have hfz16_1 := kf1 BK153.out 1
    go_wp2
    go_loopg [27] kj2 (fun kq v27 w' => ∃ (x27_2 : Int), v27 = .int .i64 x27_2 ∧ Ai0 (matrix_check.l0 kq l1_1 (l1_1.length : Int) x27_2 a0_0 a0_1 l0_2 a0_3 l0_4 l0_5 a1_0 l1_1 = some r) ∧ Ai0 (kq ≤ kj2) ∧ Ai0 (w'.heap[gG]? = some (.cells #[.int .i64 a0_0, .int .i64 a0_1, (.slice A0_2 l0_2.length c0_2), .int .i64 a0_3, (.slice A0_4 l0_4.length c0_4), (.slice A0_5 l0_5.length c0_5)] 118 (0, 0))) ∧ Ai0 (w'.heap[gb153]? = some (.cells #[.int .i64 a1_0, (.slice A1_1 l1_1.length c1_1)] 24 (0, 0))) ∧ Ai0 (Below w.heap.size w w'))
    case atStart => exact ⟨(0), (by first | rfl | (simp; done) | (simp [*]; done)), H', ⟨Nat.le_refl _⟩, ⟨by (with_reducible repeat (first | refine kn1 ?_ _ | refine kd1 ?_ | refine ka1 ?_ _)); exact BK152.out⟩, ⟨by (with_reducible repeat (first | refine kn1 ?_ _ | refine kd1 ?_ | refine ka1 ?_ _)); exact BK153.out⟩, ⟨by repeat (first | (with_reducible first | exact HB.out | apply ba1 | apply pbN | apply bw1 | refine bs1 ?_ GE153.out) | exact HB.out)⟩⟩
    case round =>
     clear H'
     try clear c1
     try clear p2
     try clear c6
     try clear c6b0
     try clear c7
     try clear c8
     try clear c9
     try clear c9b0
     try clear c10
     try clear c12
     try clear c14
     try clear c15
     try clear hcz11_0
     try clear hcz11_1
     try clear hcz13_0
     try clear hcz13_1
     try clear hcz16_0
     try clear hcz16_1
     try clear hcz8_0
     try clear hcz8_1
     try clear hfz11_0
     try clear hfz11_1
     try clear hfz13_0
     try clear hfz13_1
     try clear hfz16_0
     try clear hfz16_1
     try clear hfz8_0
     try clear hfz8_1
     try clear p2
     obtain ⟨x27_2, rfl, HA, HK2, BK152, BK153, HB⟩ := hrel
     cases gk with
     | zero => exact absurd HA.out (by simp [matrix_check.l0])
     | succ k2 =>
      have H := HA.out;clear HA;simp only [matrix_check.l0] at H;by_cases c17 : x27_2 < (l1_1.length : Int)
      ·rw [if_pos c17] at H;have c17b0 : decide (x27_2 < (l1_1.length : Int)) = true := decide_eq_true c17;clear c17;by_cases c18 : 0 ≤ x27_2
       ·rw [if_pos c18] at H;have c18b0 : decide (0 ≤ x27_2) = true := decide_eq_true c18;clear c18;by_cases c19 : x27_2 < (l1_1.length : Int)
        ·rw [if_pos c19] at H;have c19b0 : decide (x27_2 < (l1_1.length : Int)) = true := decide_eq_true c19;clear c19;by_cases c20 : ((rd_L1 l1_1 x27_2).length : Int) = a1_0
         ·rw [if_pos c20] at H;have c20b0 : (((rd_L1 l1_1 x27_2).length : Int) == a1_0) = true := beq_iff_eq.mpr c20;have c20b1 : (((rd_L1 l1_1 x27_2).length : Int) != a1_0) = false := bne_eq_false_iff_eq.mpr c20;clear c20;have H' := Ai0.mk H;clear H;have p154 : 0 ≤ (x27_2 : Int) := of_decide_eq_true (by first | (with_reducible assumption) | assumption);have q154 : x27_2 < (l1_1.length : Int) := of_decide_eq_true (by first | (with_reducible assumption) | assumption);obtain ⟨ad154, A154_0, c154_0, e154, hx154_0, hl154_0, hi154_0⟩ := at_L1 HR1_1.out x27_2 p154 q154;cases e154;replace hx154_0 := (HB.out.cell (World.block_lt_of_cell? w _ hx154_0)).trans hx154_0;have HR154_0 := Ai0.mk hi154_0;have HC154_0 := Ai0.mk hl154_0;clear hi154_0 hl154_0;replace p154 := eq_true p154;replace q154 := eq_true q154;have hnb21 := NB153_152.out;have hnc21 := NB152_153.out;have hcz22_0 : wr.cell? ⟨gb153, 0, none⟩ = some (.int .i64 a1_0) := (kc1 BK153.out 0).trans rfl;have hcz22_1 : wr.cell? ⟨gb153, 1, none⟩ = some (.slice (some ad154) l1_1.length c1_1) := (kc1 BK153.out 1).trans rfl;have hfz22_0 := kf1 BK153.out 0;have hfz22_1 := kf1 BK153.out 1
          go_wp2
          go_roundg k2
          case measure => have := HJ2.out; have := HK2.out; omega
          case rel => exact ⟨(wrap64 (x27_2 + 1)), (by first | rfl | (simp; done) | (simp [*]; done)), H', ⟨by have := HJ2.out; have := HK2.out; omega⟩, ⟨by (with_reducible repeat (first | refine kn1 ?_ _ | refine kd1 ?_ | refine ka1 ?_ _)); exact BK152.out⟩, ⟨by (with_reducible repeat (first | refine kn1 ?_ _ | refine kd1 ?_ | refine ka1 ?_ _)); exact BK153.out⟩, ⟨by repeat (first | (with_reducible first | exact HB.out | apply ba1 | apply pbN | apply bw1 | refine bs1 ?_ GE153.out) | exact HB.out)⟩⟩
         ·rw [if_neg c20] at H;have c20b0 : (((rd_L1 l1_1 x27_2).length : Int) == a1_0) = false := beq_eq_false_iff_ne.mpr c20;have c20b1 : (((rd_L1 l1_1 x27_2).length : Int) != a1_0) = true := bne_iff_ne.mpr c20;obtain rfl := Option.some.inj H;have p154 : 0 ≤ (x27_2 : Int) := of_decide_eq_true (by first | (with_reducible assumption) | assumption);have q154 : x27_2 < (l1_1.length : Int) := of_decide_eq_true (by first | (with_reducible assumption) | assumption);obtain ⟨ad154, A154_0, c154_0, e154, hx154_0, hl154_0, hi154_0⟩ := at_L1 HR1_1.out x27_2 p154 q154;cases e154;replace hx154_0 := (HB.out.cell (World.block_lt_of_cell? w _ hx154_0)).trans hx154_0;have HR154_0 := Ai0.mk hi154_0;have HC154_0 := Ai0.mk hl154_0;clear hi154_0 hl154_0;replace p154 := eq_true p154;replace q154 := eq_true q154;have hnb23 := NB153_152.out;have hnc23 := NB152_153.out;have hcz24_0 : wr.cell? ⟨gb153, 0, none⟩ = some (.int .i64 a1_0) := (kc1 BK153.out 0).trans rfl;have hcz24_1 : wr.cell? ⟨gb153, 1, none⟩ = some (.slice (some ad154) l1_1.length c1_1) := (kc1 BK153.out 1).trans rfl;have hfz24_0 := kf1 BK153.out 0;have hfz24_1 := kf1 BK153.out 1
          go_wp2
          go_ret
          exact ⟨by first | rfl | (simp [eW0, eW1] <;> rfl) | (simp [*, eW0, eW1] <;> rfl), by repeat (first | (with_reducible first | exact HB.out | apply ba1 | apply pbN | apply bw1 | refine bs1 ?_ GE153.out) | exact HB.out)⟩
        ·rw [if_neg c19] at H;exact absurd H (by simp)
       ·rw [if_neg c18] at H;exact absurd H (by simp)
      ·rw [if_neg c17] at H;have c17b0 : decide (x27_2 < (l1_1.length : Int)) = false := decide_eq_false c17;clear c17;have H' := Ai0.mk H;clear H;have hnb25 := NB153_152.out;have hnc25 := NB152_153.out;have hcz26_0 : wr.cell? ⟨gb153, 0, none⟩ = some (.int .i64 a1_0) := (kc1 BK153.out 0).trans rfl;have hcz26_1 : wr.cell? ⟨gb153, 1, none⟩ = some (.slice A1_1 l1_1.length c1_1) := (kc1 BK153.out 1).trans rfl;have hfz26_0 := kf1 BK153.out 0;have hfz26_1 := kf1 BK153.out 1
       go_wp2
       go_loopg [40] k2 (fun kq v40 w' => ∃ (x40_3 : Int), v40 = .int .i64 x40_3 ∧ Ai0 (matrix_check.l1 kq l1_1 (l1_1.length : Int) x40_3 a0_0 a0_1 l0_2 a0_3 l0_4 l0_5 = some r) ∧ Ai0 (kq ≤ k2) ∧ Ai0 (w'.heap[gG]? = some (.cells #[.int .i64 a0_0, .int .i64 a0_1, (.slice A0_2 l0_2.length c0_2), .int .i64 a0_3, (.slice A0_4 l0_4.length c0_4), (.slice A0_5 l0_5.length c0_5)] 118 (0, 0))) ∧ Ai0 (w'.heap[gb153]? = some (.cells #[.int .i64 a1_0, (.slice A1_1 l1_1.length c1_1)] 24 (0, 0))) ∧ Ai0 (Below w.heap.size w w'))
       case atStart => exact ⟨(0), (by first | rfl | (simp; done) | (simp [*]; done)), H', ⟨Nat.le_refl _⟩, ⟨by (with_reducible repeat (first | refine kn1 ?_ _ | refine kd1 ?_ | refine ka1 ?_ _)); exact BK152.out⟩, ⟨by (with_reducible repeat (first | refine kn1 ?_ _ | refine kd1 ?_ | refine ka1 ?_ _)); exact BK153.out⟩, ⟨by repeat (first | (with_reducible first | exact HB.out | apply ba1 | apply pbN | apply bw1 | refine bs1 ?_ GE153.out) | exact HB.out)⟩⟩
       case round =>
        clear H'
        try clear c1
        try clear p1
        try clear q1
        try clear hx1
        try clear c2
        try clear p2
        try clear c6
        try clear c6b0
        try clear p6
        try clear c7
        try clear c8
        try clear c9
        try clear c9b0
        try clear c10
        try clear c12
        try clear c14
        try clear c15
        try clear p15
        try clear q15
        try clear hx15
        try clear c17
        try clear c17b0
        try clear c18
        try clear c18b0
        try clear c19
        try clear c19b0
        try clear c20
        try clear c20b0
        try clear c20b1
        try clear c21
        try clear c23
        try clear c25
        try clear hcz11_0
        try clear hcz11_1
        try clear hcz13_0
        try clear hcz13_1
        try clear hcz16_0
        try clear hcz16_1
        try clear hcz22_0
        try clear hcz22_1
        try clear hcz24_0
        try clear hcz24_1
        try clear hcz26_0
        try clear hcz26_1
        try clear hcz8_0
        try clear hcz8_1
        try clear hfz11_0
        try clear hfz11_1
        try clear hfz13_0
        try clear hfz13_1
        try clear hfz16_0
        try clear hfz16_1
        try clear hfz22_0
        try clear hfz22_1
        try clear hfz24_0
        try clear hfz24_1
        try clear hfz26_0
        try clear hfz26_1
        try clear hfz8_0
        try clear hfz8_1
        try clear hx154_0
        try clear p154
        try clear p2
        try clear q154
        obtain ⟨x40_3, rfl, HA, HK3, BK152, BK153, HB⟩ := hrel
        cases gk with
        | zero => exact absurd HA.out (by simp [matrix_check.l1])
        | succ k3 =>
         have H := HA.out;clear HA;simp only [matrix_check.l1] at H;by_cases c27 : x40_3 < (l1_1.length : Int)
         ·rw [if_pos c27] at H;have c27b0 : decide (x40_3 < (l1_1.length : Int)) = true := decide_eq_true c27;clear c27;by_cases c28 : 0 ≤ x40_3
          ·rw [if_pos c28] at H;have c28b0 : decide (0 ≤ x40_3) = true := decide_eq_true c28;clear c28;by_cases c29 : x40_3 < (l1_1.length : Int)
           ·rw [if_pos c29] at H;have c29b0 : decide (x40_3 < (l1_1.length : Int)) = true := decide_eq_true c29;clear c29;replace H := Option.bind_eq_some_iff.mp H;obtain ⟨t156, A300, H⟩ := H;replace H : (if t156 = 0 then (matrix_check.l1 k3 l1_1 (l1_1.length : Int) (wrap64 (x40_3 + 1)) a0_0 a0_1 l0_2 a0_3 l0_4 l0_5) else (some t156)) = some r := H;have A30 := Ai0.mk A300;clear A300;by_cases c31 : t156 = 0
            case' pos =>
             rw [if_pos c31] at H;have c31b0 : (t156 == 0) = true := beq_iff_eq.mpr c31;have c31b1 : (t156 != 0) = false := bne_eq_false_iff_eq.mpr c31;clear c31;have H' := Ai0.mk H;clear H
            case' neg =>
             rw [if_neg c31] at H;have c31b0 : (t156 == 0) = false := beq_eq_false_iff_ne.mpr c31;have c31b1 : (t156 != 0) = true := bne_iff_ne.mpr c31;obtain rfl := Option.some.inj H
            all_goals
             have p155 : 0 ≤ (x40_3 : Int) := of_decide_eq_true (by first | (with_reducible assumption) | assumption);have q155 : x40_3 < (l1_1.length : Int) := of_decide_eq_true (by first | (with_reducible assumption) | assumption);obtain ⟨ad155, A155_0, c155_0, e155, hx155_0, hl155_0, hi155_0⟩ := at_L1 HR1_1.out x40_3 p155 q155;cases e155;replace hx155_0 := (HB.out.cell (World.block_lt_of_cell? w _ hx155_0)).trans hx155_0;have HR155_0 := Ai0.mk hi155_0;have HC155_0 := Ai0.mk hl155_0;clear hi155_0 hl155_0;replace p155 := eq_true p155;replace q155 := eq_true q155;have hnb32 := NB152_153.out;have hnc32 := NB153_152.out;have hcz33_0 : wr.cell? ⟨gG, 0, none⟩ = some (.int .i64 a0_0) := (kc1 BK152.out 0).trans rfl;have hcz33_1 : wr.cell? ⟨gG, 1, none⟩ = some (.int .i64 a0_1) := (kc1 BK152.out 1).trans rfl;have hcz33_2 : wr.cell? ⟨gG, 2, none⟩ = some (.slice A0_2 l0_2.length c0_2) := (kc1 BK152.out 2).trans rfl;have hcz33_3 : wr.cell? ⟨gG, 3, none⟩ = some (.int .i64 a0_3) := (kc1 BK152.out 3).trans rfl;have hcz33_4 : wr.cell? ⟨gG, 4, none⟩ = some (.slice A0_4 l0_4.length c0_4) := (kc1 BK152.out 4).trans rfl;have hcz33_5 : wr.cell? ⟨gG, 5, none⟩ = some (.slice A0_5 l0_5.length c0_5) := (kc1 BK152.out 5).trans rfl;have hfz33_0 := kf1 BK152.out 0;have hfz33_1 := kf1 BK152.out 1;have hfz33_2 := kf1 BK152.out 2;have hfz33_3 := kf1 BK152.out 3;have hfz33_4 := kf1 BK152.out 4;have hfz33_5 := kf1 BK152.out 5
             go_wp2_with (first | ((with_reducible refine gate_callee (f := 91) rfl ?_); refine goesL_ (some 46) rfl rfl Try.func91 (by kernel_rfl) rfl #[.pointer (some ⟨gG, 0, none⟩), .slice A155_0 (rd_L1 l1_1 x40_3).length c155_0] rfl (by (try simp only [List.map_toArray, List.map_cons, List.map_nil]); first | done | rfl | (simp only [List.length_drop, List.length_take]; rfl)) ?_; (with_reducible refine (matrix_entries.calls k3 a0_0 a0_1 A0_2 c0_2 l0_2 a0_3 A0_4 c0_4 l0_4 A0_5 c0_5 l0_5 _ _ (rd_L1 l1_1 x40_3) t156 gG _ ?side7 ?side8 ?sideG A30.out).mono ?_); (case sideG => (with_reducible repeat (first | refine kn1 ?_ _ | refine kd1 ?_ | refine ka1 ?_ _)); exact BK152.out); (case side7 => repeat (first | exact (Kd.C_below HR155_0.out HB.out) | (with_reducible refine Kd.C_alloc ?_ _) | (with_reducible refine Kd.C_drewN ?_ _) | (with_reducible refine Kd.C_drew ?_))); (case side8 => exact HC155_0.out); rintro e w34 ⟨rfl, hb⟩; refine ⟨_, rfl, ?_⟩; have n0_ := Ai0.mk (kb1 (g := gG) (o := .cells #[.int .i64 a0_0, .int .i64 a0_1, .slice A0_2 l0_2.length c0_2, .int .i64 a0_3, .slice A0_4 l0_4.length c0_4, .slice A0_5 l0_5.length c0_5] 118 (0, 0)) (by (with_reducible repeat (first | refine kn1 ?_ _ | refine kd1 ?_ | refine ka1 ?_ _)); exact BK152.out) hb); have n1_ := Ai0.mk (kb1 (g := gb153) (o := .cells #[.int .i64 a1_0, .slice (some ad155) l1_1.length c1_1] 24 (0, 0)) (by (with_reducible repeat (first | refine kn1 ?_ _ | refine kd1 ?_ | refine ka1 ?_ _)); exact BK153.out) hb); have n2_ := Ai0.mk (bt1 (by repeat (first | (with_reducible first | exact HB.out | apply ba1 | apply pbN | apply bw1 | refine bs1 ?_ GE153.out) | exact HB.out)) hb); clear BK152; clear BK153; clear HB; have BK152 := n0_; have BK153 := n1_; have HB := n2_; clear n0_ n1_ n2_; (try clear hb); (try clear hb2); (try clear hk); (try clear hi)))
            ·go_ret
             exact ⟨by first | rfl | (simp [eW0, eW1] <;> rfl) | (simp [*, eW0, eW1] <;> rfl), by repeat (first | (with_reducible first | exact HB.out | apply ba1 | apply pbN | apply bw1 | refine bs1 ?_ GE153.out) | exact HB.out)⟩
            ·go_roundg k3
             case measure => have := HJ2.out; have := HK2.out; have := HK3.out; omega
             case rel => exact ⟨(wrap64 (x40_3 + 1)), (by first | rfl | (simp; done) | (simp [*]; done)), H', ⟨by have := HJ2.out; have := HK2.out; have := HK3.out; omega⟩, ⟨by (with_reducible repeat (first | refine kn1 ?_ _ | refine kd1 ?_ | refine ka1 ?_ _)); exact BK152.out⟩, ⟨by (with_reducible repeat (first | refine kn1 ?_ _ | refine kd1 ?_ | refine ka1 ?_ _)); exact BK153.out⟩, ⟨by repeat (first | (with_reducible first | exact HB.out | apply ba1 | apply pbN | apply bw1 | refine bs1 ?_ GE153.out) | exact HB.out)⟩⟩
           ·rw [if_neg c29] at H;exact absurd H (by simp)
          ·rw [if_neg c28] at H;exact absurd H (by simp)
         ·rw [if_neg c27] at H;have c27b0 : decide (x40_3 < (l1_1.length : Int)) = false := decide_eq_false c27;clear c27;obtain rfl := Option.some.inj H
          go_wp2
          go_ret
          exact ⟨by first | rfl | (simp [eW0, eW1] <;> rfl) | (simp [*, eW0, eW1] <;> rfl), by repeat (first | (with_reducible first | exact HB.out | apply ba1 | apply pbN | apply bw1 | refine bs1 ?_ GE153.out) | exact HB.out)⟩
def matrix_open.l0 : Nat → Int → Int → List Int → Int → List Int → List Int → List (S24) → Int → Int → Option (Int × Int)
 | 0, _, _, _, _, _, _, _, _, _ => none
 | k + 1, p1, p2, p3, p4, p5, p6, x18, x19, x20 => if x20 < x19 then (if 0 ≤ x20 then (if x20 < (x18.length : Int) then ((matrix_check.f k p1 p2 p3 p4 p5 p6 ((rd_T24 x18 x20).f0) ((rd_T24 x18 x20).f1)).bind fun t218 => (if t218 = 0 then (matrix_open.l0 k p1 p2 p3 p4 p5 p6 x18 x19 (wrap64 (x20 + 1))) else (some (0, t218)))) else (none)) else (none)) else (some (0, 0))
def matrix_open.f (k : Nat) (a0_0 : Int) (a0_1 : Int) (l0_2 : List Int) (l1 : List (S24)) : Option (Int × Int) := (field_New.f k a0_0 a0_1 l0_2).bind fun s => (field_order.f k a0_0 a0_1).bind fun q => if s.2.2.2 = 0 then matrix_open.l0 k a0_0 a0_1 s.1 q s.2.1 s.2.2.1 l1 (l1.length : Int) 0 else none
theorem matrix_open.mono_l : ∀ k, (∀ y0 y1 y2 y3 y4 y5 y6 y7 y8, LeO (matrix_open.l0 k y0 y1 y2 y3 y4 y5 y6 y7 y8) (matrix_open.l0 (k + 1) y0 y1 y2 y3 y4 y5 y6 y7 y8))
 | 0 => fun _ _ _ _ _ _ _ _ _ r h => by simp [matrix_open.l0] at h
 | k + 1 => by
  have ih0 := matrix_open.mono_l k
  ·intro y0 y1 y2 y3 y4 y5 y6 y7 y8;unfold matrix_open.l0
   repeat' first
   | (with_reducible exact ih0 _ _ _ _ _ _ _ _ _)
   | (with_reducible exact field_New.mono _ _ _ _)
   | (with_reducible exact field_order.mono _ _ _)
   | (with_reducible exact matrix_check.mono _ _ _ _ _ _ _ _ _)
   | (with_reducible exact LeO.refl _)
   | (with_reducible exact LeO.none _)
   | (with_reducible refine LeO.ite ?_ ?_)
   | (with_reducible refine LeO.bind ?_ (fun _ => ?_))
   | exact ih0 _ _ _ _ _ _ _ _ _
   | exact field_New.mono _ _ _ _
   | exact field_order.mono _ _ _
   | exact matrix_check.mono _ _ _ _ _ _ _ _ _
   | exact LeO.none _
   | refine LeO.ite ?_ ?_
   | refine LeO.bind ?_ (fun _ => ?_)
theorem matrix_open.mono : ∀ a0 a1 a2 a3 k, LeO (matrix_open.f k a0 a1 a2 a3) (matrix_open.f (k + 1) a0 a1 a2 a3) := by
 intro a0 a1 a2 a3 k;have ih0 := matrix_open.mono_l k;unfold matrix_open.f
 repeat' first
   | (with_reducible exact ih0 _ _ _ _ _ _ _ _ _)
   | (with_reducible exact field_New.mono _ _ _ _)
   | (with_reducible exact field_order.mono _ _ _)
   | (with_reducible exact matrix_check.mono _ _ _ _ _ _ _ _ _)
   | (with_reducible exact LeO.refl _)
   | (with_reducible exact LeO.none _)
   | (with_reducible refine LeO.ite ?_ ?_)
   | (with_reducible refine LeO.bind ?_ (fun _ => ?_))
   | exact ih0 _ _ _ _ _ _ _ _ _
   | exact field_New.mono _ _ _ _
   | exact field_order.mono _ _ _
   | exact matrix_check.mono _ _ _ _ _ _ _ _ _
   | exact LeO.none _
   | refine LeO.ite ?_ ?_
   | refine LeO.bind ?_ (fun _ => ?_)
set_option maxHeartbeats 8000000 in
set_option maxRecDepth 100000 in
theorem matrix_open.calls (k : Nat) (a0_0 : Int) (a0_1 : Int) (A0_2 : Option Addr) (c0_2 : Nat) (l0_2 : List Int) (A1 : Option Addr) (c1 : Nat) (l1 : List (S24)) (r1 : Int) (r2 : Int) (w : World) (hr0_2 : Kd.C (Kd.int .i64) w A0_2 l0_2.length l0_2) (hc0_2 : l0_2.length ≤ c0_2) (hr1 : Kd.C k24 w A1 l1.length l1) (hc1 : l1.length ≤ c1) (h : matrix_open.f k a0_0 a0_1 l0_2 l1 = some (r1, r2)) :
  Calls Try.prog 79 #[.agg #[.int .i64 a0_0, .int .i64 a0_1, .slice A0_2 l0_2.length c0_2], .slice A1 l1.length c1] w fun e w' => (∃ p_ : Option Addr, e = .returned (.tuple #[.pointer p_, .int .i64 r2])) ∧ Below w.heap.size w w' := by
 have hu44 := Try.underlying44;have hu24 := Try.underlying24;have HR0_2 := Ai0.mk hr0_2;have HC0_2 := Ai0.mk hc0_2;clear hr0_2 hc0_2;have HR1 := Ai0.mk hr1;have HC1 := Ai0.mk hc1;clear hr1 hc1;have HB := Ai0.mk (Below.refl w.heap.size w);unfold matrix_open.f at h
 replace h := Option.bind_eq_some_iff.mp h;obtain ⟨⟨sm, sx, sl, se⟩, hN, h⟩ := h;replace h := Option.bind_eq_some_iff.mp h;obtain ⟨q, hQ, h⟩ := h;simp only at h;have H := h;have AN0 := hN;have AQ := Ai0.mk hQ;clear h hN hQ;by_cases c4 : se = 0
 ·rw [if_pos c4] at H;subst c4;have AN := Ai0.mk AN0;clear AN0;have H' := Ai0.mk H;clear H;go_enter Try.func79, Try.ntmps79
  go_wp2_with (first | ((with_reducible refine gate_dst (N := 2) rfl ?_); refine box_event ?hg (N := 2) ?hd (cs := #[.int .i64 a0_0, .int .i64 a0_1, .slice A0_2 l0_2.length c0_2]) (t := 44) ?hr ?_; (case hd => rfl); (case hg => rfl); (case hr => first | (go_simp; done) | (go_simp; rfl)); intro gb214 hg w5 hbox hb; have n0_ := Ai0.mk (bt1 (by repeat (first | (with_reducible first | exact HB.out | apply ba1 | apply pbN | apply bw1) | exact HB.out)) hb); have n1_ := Ai0.mk (hbox); have n2_ := Ai0.mk ((by rw [hg]; exact (bz1 (by repeat (first | (with_reducible first | exact HB.out | apply ba1 | apply pbN | apply bw1) | exact HB.out))) : w.heap.size ≤ gb214)); have n3_ := Ai0.mk ((by rw [hg]; exact (bz1 (by repeat (first | (with_reducible first | exact HB.out | apply ba1 | apply pbN | apply bw1) | exact HB.out))) : w.heap.size ≤ gb214)); clear HB; have HB := n0_; have BK214 := n1_; have GW214 := n2_; have GE214 := n3_; clear n0_ n1_ n2_ n3_; clear hb hbox hg; have hcz6_0 : w5.cell? ⟨gb214, 0, none⟩ = some (.int .i64 a0_0) := (kc1 BK214.out 0).trans rfl; have hcz6_1 : w5.cell? ⟨gb214, 1, none⟩ = some (.int .i64 a0_1) := (kc1 BK214.out 1).trans rfl; have hcz6_2 : w5.cell? ⟨gb214, 2, none⟩ = some (.slice A0_2 l0_2.length c0_2) := (kc1 BK214.out 2).trans rfl; have hfz6_0 := kf1 BK214.out 0; have hfz6_1 := kf1 BK214.out 1; have hfz6_2 := kf1 BK214.out 2) | ((with_reducible refine gate_callee (f := 86) rfl ?_); refine goesL_ (some 13) rfl rfl Try.func86 (by kernel_rfl) rfl #[.agg #[.int .i64 a0_0, .int .i64 a0_1, .slice A0_2 l0_2.length c0_2]] rfl (by (try simp only [List.map_toArray, List.map_cons, List.map_nil]); first | done | rfl | (simp only [List.length_drop, List.length_take]; rfl)) ?_; (refine (field_New.calls k a0_0 a0_1 _ _ l0_2 _ _ _ 0 _ (Kd.C_below HR0_2.out HB.out) HC0_2.out AN.out).mono ?_); rintro e w7 ⟨hb, ⟨hz, _⟩ | ⟨_, gG, rfl, u, hu1, hu2, hu3⟩⟩; (exact absurd hz (by decide)); refine ⟨_, rfl, ?_⟩; obtain ⟨AS2, cS2, AS4, cS4, AS5, cS5, HG_, _⟩ := hu3 _ AQ.out; have HGG := Ai0.mk HG_; clear HG_ hu1 hu2 hu3; have n0_ := Ai0.mk (kb1 (g := gb214) (o := .cells #[.int .i64 a0_0, .int .i64 a0_1, .slice A0_2 l0_2.length c0_2] 44 (0, 0)) (by (with_reducible repeat (first | refine kn1 ?_ _ | refine kd1 ?_ | refine ka1 ?_ _)); exact BK214.out) hb); have n1_ := Ai0.mk (bt1 (by repeat (first | (with_reducible first | exact HB.out | apply ba1 | apply pbN | apply bw1 | refine bs1 ?_ GE214.out) | exact HB.out)) hb); clear BK214; clear HB; have BK214 := n0_; have HB := n1_; clear n0_ n1_; (try clear hb); (try clear hb2); (try clear hk); (try clear hi); have HBW := HB; clear HB; have HB := Ai0.mk (Below.refl w7.heap.size w7); have HR1_ := Ai0.mk (Kd.C_below HR1.out HBW.out); clear HR1; have HR1 := HR1_; clear HR1_; obtain ⟨w, hw_⟩ : ∃ x, x = w7 := ⟨_, rfl⟩; subst hw_))
  go_loopg [20] k (fun kq v20 w' => ∃ (x20_1 : Int), v20 = .int .i64 x20_1 ∧ Ai0 (matrix_open.l0 kq a0_0 a0_1 sm q sx sl l1 (l1.length : Int) x20_1 = some (r1, r2)) ∧ Ai0 (kq ≤ k) ∧ Ai0 (w'.heap[gb214]? = some (.cells #[.int .i64 a0_0, .int .i64 a0_1, (.slice A0_2 l0_2.length c0_2)] 44 (0, 0))) ∧ Ai0 (Below w.heap.size w w'))
  case atStart => exact ⟨(0), (by first | rfl | (simp; done) | (simp [*]; done)), H', ⟨Nat.le_refl _⟩, ⟨by (with_reducible repeat (first | refine kn1 ?_ _ | refine kd1 ?_ | refine ka1 ?_ _)); exact BK214.out⟩, ⟨by repeat (first | (with_reducible first | exact HB.out | apply ba1 | apply pbN | apply bw1 | refine bs1 ?_ GE214.out) | exact HB.out)⟩⟩
  case round =>
   clear H'
   try clear c1
   try clear p2
   try clear c4
   try clear c4b0
   try clear c4b1
   try clear c7
   try clear hcz6_0
   try clear hcz6_1
   try clear hcz6_2
   try clear hfz6_0
   try clear hfz6_1
   try clear hfz6_2
   obtain ⟨x20_1, rfl, HA, HK1, BK214, HB⟩ := hrel
   cases gk with
   | zero => exact absurd HA.out (by simp [matrix_open.l0])
   | succ k1 =>
    have H := HA.out;clear HA;simp only [matrix_open.l0] at H;by_cases c8 : x20_1 < (l1.length : Int)
    ·rw [if_pos c8] at H;have c8b0 : decide (x20_1 < (l1.length : Int)) = true := decide_eq_true c8;clear c8;by_cases c9 : 0 ≤ x20_1
     ·rw [if_pos c9] at H;have c9b0 : decide (0 ≤ x20_1) = true := decide_eq_true c9;clear c9;by_cases c10 : x20_1 < (l1.length : Int)
      ·rw [if_pos c10] at H;have c10b0 : decide (x20_1 < (l1.length : Int)) = true := decide_eq_true c10;clear c10;replace H := Option.bind_eq_some_iff.mp H;obtain ⟨t218, A110, H⟩ := H;replace H : (if t218 = 0 then (matrix_open.l0 k1 a0_0 a0_1 sm q sx sl l1 (l1.length : Int) (wrap64 (x20_1 + 1))) else (some (0, t218))) = some (r1, r2) := H;have A11 := Ai0.mk A110;clear A110;by_cases c12 : t218 = 0
       case' pos =>
        rw [if_pos c12] at H;have c12b0 : (t218 == 0) = true := beq_iff_eq.mpr c12;have c12b1 : (t218 != 0) = false := bne_eq_false_iff_eq.mpr c12;clear c12;have H' := Ai0.mk H;clear H
       case' neg =>
        rw [if_neg c12] at H;have c12b0 : (t218 == 0) = false := beq_eq_false_iff_ne.mpr c12;have c12b1 : (t218 != 0) = true := bne_iff_ne.mpr c12;simp only [Option.some.injEq, Prod.mk.injEq] at H;obtain ⟨rfl, rfl⟩ := H
       all_goals
        have p216 : 0 ≤ (x20_1 : Int) := of_decide_eq_true (by first | (with_reducible assumption) | assumption);have q216 : x20_1 < (l1.length : Int) := of_decide_eq_true (by first | (with_reducible assumption) | assumption);obtain ⟨ad216, A216_1, c216_1, e216, hx216_0, hx216_1, hl216_1, hi216_1⟩ := at_T24 HR1.out x20_1 p216 q216;cases e216;replace hx216_0 := (HB.out.cell (World.block_lt_of_cell? w _ hx216_0)).trans hx216_0;replace hx216_1 := (HB.out.cell (World.block_lt_of_cell? w _ hx216_1)).trans hx216_1;have HR216_1 := Ai0.mk hi216_1;have HC216_1 := Ai0.mk hl216_1;clear hi216_1 hl216_1;replace p216 := eq_true p216;replace q216 := eq_true q216
        go_wp2_with (first | ((with_reducible refine gate_dst (N := 9) rfl ?_); refine box_event ?hg (N := 9) ?hd (cs := #[.int .i64 0, .slice none 0 0]) (t := 24) ?hr ?_; (case hd => rfl); (case hg => rfl); (case hr => first | (go_simp; done) | (go_simp; rfl)); intro gb217 hg w13 hbox hb; have n0_ := Ai0.mk (kb1 (g := gb214) (o := .cells #[.int .i64 a0_0, .int .i64 a0_1, .slice A0_2 l0_2.length c0_2] 44 (0, 0)) (by (with_reducible repeat (first | refine kn1 ?_ _ | refine kd1 ?_ | refine ka1 ?_ _)); exact BK214.out) hb); have n1_ := Ai0.mk (bt1 (by repeat (first | (with_reducible first | exact HB.out | apply ba1 | apply pbN | apply bw1 | refine bs1 ?_ GE214.out) | exact HB.out)) hb); have n2_ := Ai0.mk (hbox); have n3_ := Ai0.mk ((by rw [hg]; exact (bz1 (by repeat (first | (with_reducible first | exact HB.out | apply ba1 | apply pbN | apply bw1 | refine bs1 ?_ GE214.out) | exact HB.out))) : w.heap.size ≤ gb217)); have n4_ := Ai0.mk ((by rw [hg]; exact (bz1 (by repeat (first | (with_reducible first | exact HB.out | apply ba1 | apply pbN | apply bw1 | refine bs1 ?_ GE214.out) | exact HB.out))) : w.heap.size ≤ gb217)); have n5_ := Ai0.mk ((by rw [hg]; exact Nat.ne_of_lt (blk_lt (g := gb214) (o := .cells #[.int .i64 a0_0, .int .i64 a0_1, .slice A0_2 l0_2.length c0_2] 44 (0, 0)) (by (with_reducible repeat (first | refine kn1 ?_ _ | refine kd1 ?_ | refine ka1 ?_ _)); exact BK214.out)) : gb214 ≠ gb217)); have n6_ := Ai0.mk ((by rw [hg]; exact Nat.ne_of_gt (blk_lt (g := gb214) (o := .cells #[.int .i64 a0_0, .int .i64 a0_1, .slice A0_2 l0_2.length c0_2] 44 (0, 0)) (by (with_reducible repeat (first | refine kn1 ?_ _ | refine kd1 ?_ | refine ka1 ?_ _)); exact BK214.out)) : gb217 ≠ gb214)); clear BK214; clear HB; have BK214 := n0_; have HB := n1_; have BK217 := n2_; have GW217 := n3_; have GE217 := n4_; have NB214_217 := n5_; have NB217_214 := n6_; clear n0_ n1_ n2_ n3_ n4_ n5_ n6_; clear hb hbox hg; have hnb14 := NB217_214.out; have hnc14 := NB214_217.out; have hcz15_0 : w13.cell? ⟨gb217, 0, none⟩ = some (.int .i64 0) := (kc1 BK217.out 0).trans rfl; have hcz15_1 : w13.cell? ⟨gb217, 1, none⟩ = some (.slice none 0 0) := (kc1 BK217.out 1).trans rfl; have hfz15_0 := kf1 BK217.out 0; have hfz15_1 := kf1 BK217.out 1) | ((with_reducible refine gate_callee (f := 87) rfl ?_); refine goesL_ (some 26) rfl rfl Try.func87 (by kernel_rfl) rfl #[.pointer (some ⟨gG, 0, none⟩), .agg #[.int .i64 ((rd_T24 l1 x20_1).f0), .slice A216_1 ((rd_T24 l1 x20_1).f1).length c216_1]] rfl (by (try simp only [List.map_toArray, List.map_cons, List.map_nil]); first | done | rfl | (simp only [List.length_drop, List.length_take]; rfl)) ?_; (refine (matrix_check.calls k1 a0_0 a0_1 AS2 cS2 sm q AS4 cS4 sx AS5 cS5 sl ((rd_T24 l1 x20_1).f0) A216_1 c216_1 ((rd_T24 l1 x20_1).f1) t218 gG _ ?side1 ?side2 ?sideG A11.out).mono ?_); (case sideG => exact kb1 HGG.out (by repeat (first | (with_reducible first | exact HB.out | apply ba1 | apply pbN | apply bw1 | refine bs1 ?_ GE214.out | refine bs1 ?_ GE217.out) | exact HB.out))); (case side1 => exact Kd.C_below HR216_1.out (by repeat (first | (with_reducible first | exact HB.out | apply ba1 | apply pbN | apply bw1 | refine bs1 ?_ GE214.out | refine bs1 ?_ GE217.out) | exact HB.out))); (case side2 => exact HC216_1.out); rintro e w16 ⟨rfl, hb⟩; refine ⟨_, rfl, ?_⟩; have n0_ := Ai0.mk (kb1 (g := gb214) (o := .cells #[.int .i64 a0_0, .int .i64 a0_1, .slice A0_2 l0_2.length c0_2] 44 (0, 0)) (by (with_reducible repeat (first | refine kn1 ?_ _ | refine kd1 ?_ | refine ka1 ?_ _)); refine blk_far ?_ NB214_217.out _; (with_reducible repeat (first | refine kn1 ?_ _ | refine kd1 ?_ | refine ka1 ?_ _)); refine blk_far ?_ NB214_217.out _; (with_reducible repeat (first | refine kn1 ?_ _ | refine kd1 ?_ | refine ka1 ?_ _)); exact BK214.out) hb); have n1_ := Ai0.mk (kb1 (g := gb217) (o := .cells #[.int .i64 ((rd_T24 l1 x20_1).f0), .slice A216_1 ((rd_T24 l1 x20_1).f1).length c216_1] 24 (0, 0)) (by (with_reducible repeat (first | refine kn1 ?_ _ | refine kd1 ?_ | refine ka1 ?_ _)); refine blk_put (cs := #[.int .i64 ((rd_T24 l1 x20_1).f0), .slice none 0 0]) ?_ 1 _ rfl; (with_reducible repeat (first | refine kn1 ?_ _ | refine kd1 ?_ | refine ka1 ?_ _)); refine blk_put (cs := #[.int .i64 0, .slice none 0 0]) ?_ 0 _ rfl; (with_reducible repeat (first | refine kn1 ?_ _ | refine kd1 ?_ | refine ka1 ?_ _)); exact BK217.out) hb); have n2_ := Ai0.mk (bt1 (by repeat (first | (with_reducible first | exact HB.out | apply ba1 | apply pbN | apply bw1 | refine bs1 ?_ GE214.out | refine bs1 ?_ GE217.out) | exact HB.out)) hb); clear BK214; clear BK217; clear HB; have BK214 := n0_; have BK217 := n1_; have HB := n2_; clear n0_ n1_ n2_; (try clear hb); (try clear hb2); (try clear hk); (try clear hi)))
       ·go_ret2
        exact ⟨⟨_, rfl⟩, by refine below_tr HBW.out ?_; repeat (first | (with_reducible first | exact HB.out | apply ba1 | apply pbN | apply bw1 | refine bs1 ?_ GE214.out | refine bs1 ?_ GE217.out) | exact HB.out)⟩
       ·go_roundg k1
        case measure => have := HK1.out; omega
        case rel => exact ⟨(wrap64 (x20_1 + 1)), (by first | rfl | (simp; done) | (simp [*]; done)), H', ⟨by have := HK1.out; omega⟩, ⟨by (with_reducible repeat (first | refine kn1 ?_ _ | refine kd1 ?_ | refine ka1 ?_ _)); exact BK214.out⟩, ⟨by repeat (first | (with_reducible first | exact HB.out | apply ba1 | apply pbN | apply bw1 | refine bs1 ?_ GE214.out | refine bs1 ?_ GE217.out) | exact HB.out)⟩⟩
      ·rw [if_neg c10] at H;exact absurd H (by simp)
     ·rw [if_neg c9] at H;exact absurd H (by simp)
    ·rw [if_neg c8] at H;have c8b0 : decide (x20_1 < (l1.length : Int)) = false := decide_eq_false c8;clear c8;simp only [Option.some.injEq, Prod.mk.injEq] at H;obtain ⟨rfl, rfl⟩ := H
     go_wp2
     go_ret2
     exact ⟨⟨_, rfl⟩, by refine below_tr HBW.out ?_; repeat (first | (with_reducible first | exact HB.out | apply ba1 | apply pbN | apply bw1 | refine bs1 ?_ GE214.out) | exact HB.out)⟩
 ·rw [if_neg c4] at H;exact absurd H (by simp)
def matrix_Check.f (k : Nat) (a0_0 : Int) (a0_1 : Int) (l0_2 : List Int) (a1_0 : Int) (l1_1 : List (List Int)) : Option (Int) := (matrix_open.f k a0_0 a0_1 l0_2 (([(⟨a1_0, l1_1⟩ : S24)] : List (S24)))).bind fun bt224 => (some bt224.2)
theorem matrix_Check.mono : ∀ a0 a1 a2 a3 a4 k, LeO (matrix_Check.f k a0 a1 a2 a3 a4) (matrix_Check.f (k + 1) a0 a1 a2 a3 a4) := by
 intro a0 a1 a2 a3 a4 k;unfold matrix_Check.f
 repeat' first
   | (with_reducible exact matrix_open.mono _ _ _ _ _)
   | (with_reducible exact LeO.refl _)
   | (with_reducible exact LeO.none _)
   | (with_reducible refine LeO.ite ?_ ?_)
   | (with_reducible refine LeO.bind ?_ (fun _ => ?_))
   | exact matrix_open.mono _ _ _ _ _
   | exact LeO.none _
   | refine LeO.ite ?_ ?_
   | refine LeO.bind ?_ (fun _ => ?_)
set_option maxHeartbeats 8000000 in
set_option maxRecDepth 100000 in
theorem matrix_Check.calls_V (k : Nat) (a0_0 : Int) (a0_1 : Int) (A0_2 : Option Addr) (c0_2 : Nat) (l0_2 : List Int) (a1_0 : Int) (P1_1_ : Nat → Prop) (A1_1 : Option Addr) (c1_1 : Nat) (l1_1 : List (List Int)) (r : Int) (w : World) (hr0_2 : Kd.C (Kd.int .i64) w A0_2 l0_2.length l0_2) (hc0_2 : l0_2.length ≤ c0_2) (hs1_1 : Kd.V (Kd.slice 3 (Kd.int .i64)) 25 w w.heap.size (fun k_ => P1_1_ k_) (.slice A1_1 l1_1.length c1_1) l1_1) (h : matrix_Check.f k a0_0 a0_1 l0_2 a1_0 l1_1 = some r) :
  Calls Try.prog 67 #[.agg #[.int .i64 a0_0, .int .i64 a0_1, .slice A0_2 l0_2.length c0_2], .agg #[.int .i64 a1_0, .slice A1_1 l1_1.length c1_1]] w fun e w' => e = .returned (.int .i64 r) ∧ Below w.heap.size w w' := by
 have hu44 := Try.underlying44;have hu24 := Try.underlying24;have HR0_2 := Ai0.mk hr0_2;have HC0_2 := Ai0.mk hc0_2;clear hr0_2 hc0_2;have HO1_1 := Ai0.mk (show Kd.V (Kd.slice 3 (Kd.int .i64)) 25 w w.heap.size (fun k_ => (P1_1_ k_ ∨ w.heap.size ≤ k_)) (.slice A1_1 l1_1.length c1_1) l1_1 from Kd.V_mono hs1_1 (fun k_ hk => .inl hk));have HB := Ai0.mk (Below.refl w.heap.size w);have H : ((matrix_open.f k a0_0 a0_1 l0_2 (([(⟨a1_0, l1_1⟩ : S24)] : List (S24)))).bind fun bt224 => (some bt224.2)) = some r := h;clear h;obtain ⟨y221, hy221⟩ : ∃ y_ : List (S24), y_ = (([(⟨a1_0, l1_1⟩ : S24)] : List (S24))) := ⟨_, rfl⟩
 replace H : ((matrix_open.f k a0_0 a0_1 l0_2 y221).bind fun bt224 => (some bt224.2)) = some r := by first | (rw [hy221]; with_reducible exact H) | (have H2_ := (Option.bind_some _ _).symm.trans H; rw [hy221]; with_reducible exact H2_) | (have H2_ := (Option.bind_some _ _).symm.trans H; with_reducible exact H2_) | with_reducible exact H | (rw [hy221]; exact H) | exact H
 have Ny221 := Ai0.mk hy221;clear hy221;replace H := Option.bind_eq_some_iff.mp H;obtain ⟨⟨t224, t225⟩, A30, H⟩ := H;replace H : (some t225) = some r := H;have A3 := Ai0.mk A30;clear A30;obtain rfl := Option.some.inj H;go_enter Try.func67, Try.ntmps67
 go_wp2_with (first | ((with_reducible refine gate_dst (N := 2) rfl ?_); refine box_event ?hg (N := 2) ?hd (cs := #[.int .i64 a0_0, .int .i64 a0_1, .slice A0_2 l0_2.length c0_2]) (t := 44) ?hr ?_; (case hd => rfl); (case hg => rfl); (case hr => first | (go_simp; done) | (go_simp; rfl)); intro gb219 hg w4 hbox hb; have n0_ := Ai0.mk (Kd.V_below (Kd.V_elderB (by (with_reducible repeat (first | apply Kd.V_alloc | apply Kd.V_drewN | apply Kd.V_drew)); exact HO1_1.out) gb219 (Nat.le_of_eq hg.symm)) hb); have n1_ := Ai0.mk (bt1 (by repeat (first | (with_reducible first | exact HB.out | apply ba1 | apply pbN | apply bw1) | exact HB.out)) hb); have n2_ := Ai0.mk (hbox); have n3_ := Ai0.mk ((by rw [hg]; exact (bz1 (by repeat (first | (with_reducible first | exact HB.out | apply ba1 | apply pbN | apply bw1) | exact HB.out))) : w.heap.size ≤ gb219)); have n4_ := Ai0.mk ((by rw [hg]; exact (bz1 (by repeat (first | (with_reducible first | exact HB.out | apply ba1 | apply pbN | apply bw1) | exact HB.out))) : w.heap.size ≤ gb219)); clear HO1_1; clear HB; have HO1_1 := n0_; have HB := n1_; have BK219 := n2_; have GW219 := n3_; have GE219 := n4_; clear n0_ n1_ n2_ n3_ n4_; clear hb hbox hg) | ((with_reducible refine gate_dst (N := 3) rfl ?_); refine box_event ?hg (N := 3) ?hd (cs := #[.int .i64 a1_0, .slice A1_1 l1_1.length c1_1]) (t := 24) ?hr ?_; (case hd => rfl); (case hg => rfl); (case hr => first | (go_simp; done) | (go_simp; rfl)); intro gb220 hg w5 hbox hb; have n0_ := Ai0.mk (Kd.V_below (Kd.V_elderB (by (with_reducible repeat (first | apply Kd.V_alloc | apply Kd.V_drewN | apply Kd.V_drew)); exact HO1_1.out) gb220 (Nat.le_of_eq hg.symm)) hb); have n1_ := Ai0.mk (kb1 (g := gb219) (o := .cells #[.int .i64 a0_0, .int .i64 a0_1, .slice A0_2 l0_2.length c0_2] 44 (0, 0)) (by (with_reducible repeat (first | refine kn1 ?_ _ | refine kd1 ?_ | refine ka1 ?_ _)); exact BK219.out) hb); have n2_ := Ai0.mk (bt1 (by repeat (first | (with_reducible first | exact HB.out | apply ba1 | apply pbN | apply bw1 | refine bs1 ?_ GE219.out) | exact HB.out)) hb); have n3_ := Ai0.mk (hbox); have n4_ := Ai0.mk ((by rw [hg]; exact (bz1 (by repeat (first | (with_reducible first | exact HB.out | apply ba1 | apply pbN | apply bw1 | refine bs1 ?_ GE219.out) | exact HB.out))) : w.heap.size ≤ gb220)); have n5_ := Ai0.mk ((by rw [hg]; exact (bz1 (by repeat (first | (with_reducible first | exact HB.out | apply ba1 | apply pbN | apply bw1 | refine bs1 ?_ GE219.out) | exact HB.out))) : w.heap.size ≤ gb220)); have n6_ := Ai0.mk ((by rw [hg]; exact Nat.ne_of_lt (blk_lt (g := gb219) (o := .cells #[.int .i64 a0_0, .int .i64 a0_1, .slice A0_2 l0_2.length c0_2] 44 (0, 0)) (by (with_reducible repeat (first | refine kn1 ?_ _ | refine kd1 ?_ | refine ka1 ?_ _)); exact BK219.out)) : gb219 ≠ gb220)); have n7_ := Ai0.mk ((by rw [hg]; exact Nat.ne_of_gt (blk_lt (g := gb219) (o := .cells #[.int .i64 a0_0, .int .i64 a0_1, .slice A0_2 l0_2.length c0_2] 44 (0, 0)) (by (with_reducible repeat (first | refine kn1 ?_ _ | refine kd1 ?_ | refine ka1 ?_ _)); exact BK219.out)) : gb220 ≠ gb219)); clear HO1_1; clear BK219; clear HB; have HO1_1 := n0_; have BK219 := n1_; have HB := n2_; have BK220 := n3_; have GW220 := n4_; have GE220 := n5_; have NB219_220 := n6_; have NB220_219 := n7_; clear n0_ n1_ n2_ n3_ n4_ n5_ n6_ n7_; clear hb hbox hg; have hnb6 := NB219_220.out; have hnc6 := NB220_219.out; have hcz7_0 : w5.cell? ⟨gb219, 0, none⟩ = some (.int .i64 a0_0) := (kc1 BK219.out 0).trans rfl; have hcz7_1 : w5.cell? ⟨gb219, 1, none⟩ = some (.int .i64 a0_1) := (kc1 BK219.out 1).trans rfl; have hcz7_2 : w5.cell? ⟨gb219, 2, none⟩ = some (.slice A0_2 l0_2.length c0_2) := (kc1 BK219.out 2).trans rfl; have hfz7_0 := kf1 BK219.out 0; have hfz7_1 := kf1 BK219.out 1; have hfz7_2 := kf1 BK219.out 2; have hcz8_0 : w5.cell? ⟨gb220, 0, none⟩ = some (.int .i64 a1_0) := (kc1 BK220.out 0).trans rfl; have hcz8_1 : w5.cell? ⟨gb220, 1, none⟩ = some (.slice A1_1 l1_1.length c1_1) := (kc1 BK220.out 1).trans rfl; have hfz8_0 := kf1 BK220.out 0; have hfz8_1 := kf1 BK220.out 1) | ((with_reducible refine gate_dst (N := 10) rfl ?_); refine Kd.N_lit k24 _ 24 ?hg (N' := 10) ?hd (xs := ([(⟨a1_0, l1_1⟩ : S24)] : List (S24))) (inner := [.int .i64 a1_0, .slice A1_1 l1_1.length c1_1]) (ok := (fun k_ => (P1_1_ k_ ∨ w.heap.size ≤ k_) ∧ k_ ≠ gb219 ∧ k_ ≠ gb220)) (okp := (fun k_ => (P1_1_ k_ ∨ w.heap.size ≤ k_) ∧ k_ ≠ gb219 ∧ k_ ≠ gb220)) ?hr ?hp (fun _ hk => hk) ((show ∀ k_, w5.heap.size ≤ k_ → (fun k_ => (P1_1_ k_ ∨ w.heap.size ≤ k_) ∧ k_ ≠ gb219 ∧ k_ ≠ gb220) k_ from fun k_ hk => ⟨(.inr (Nat.le_trans (bz1 (by repeat (first | (with_reducible first | exact HB.out | apply ba1 | apply pbN | apply bw1 | refine bs1 ?_ GE219.out | refine bs1 ?_ GE220.out) | exact HB.out))) hk)), Kd.freshB (g := gb219) (o := .cells #[.int .i64 a0_0, .int .i64 a0_1, .slice A0_2 l0_2.length c0_2] 44 (0, 0)) (by (with_reducible repeat (first | refine kn1 ?_ _ | refine kd1 ?_ | refine ka1 ?_ _)); exact BK219.out) k_ hk, Kd.freshB (g := gb220) (o := .cells #[.int .i64 a1_0, .slice A1_1 l1_1.length c1_1] 24 (0, 0)) (by (with_reducible repeat (first | refine kn1 ?_ _ | refine kd1 ?_ | refine ka1 ?_ _)); exact BK220.out) k_ hk⟩) _ (Nat.le_refl _)) (Below.refl _ _) (Nat.le_refl _) (by simp) ?_; (case hd => rfl); (case hg => rfl); (case hr => first | (go_simp; done) | (go_simp; rfl)); (case hp => exact (Reps.c2 (show Kd.FK k24 _ _ (⟨a1_0, l1_1⟩ : S24) [.int .i64 a1_0, .slice A1_1 l1_1.length c1_1] from (k24_mkF _ _ (⟨a1_0, l1_1⟩ : S24) (Kd.V_reads' (Kd.V_mono (ok' := (fun k_ => (P1_1_ k_ ∨ w.heap.size ≤ k_) ∧ k_ ≠ gb219 ∧ k_ ≠ gb220)) (HO1_1.out) (fun k_ hk => ⟨hk.1.1, ⟨hk.1.2, hk.2⟩⟩))).2.1 (Kd.V_F (Kd.V_mono (ok' := (fun k_ => (P1_1_ k_ ∨ w.heap.size ≤ k_) ∧ k_ ≠ gb219 ∧ k_ ≠ gb220)) (HO1_1.out) (fun k_ hk => ⟨hk.1.1, ⟨hk.1.2, hk.2⟩⟩))))) (Reps.none _ _))); intro v222 w9 ho10 hb hg_ hnew_; clear hg_ hnew_; (first | rw [← Ny221.out] at ho10 | (simp only [Int.reduceToNat] at ho10; rw [← Ny221.out] at ho10)); have n0_ := Ai0.mk (Kd.V_elder' (by (with_reducible repeat (first | apply Kd.V_alloc | apply Kd.V_drewN | apply Kd.V_drew)); exact HO1_1.out) (Kd.N_base ho10) hb); have n1_ := Ai0.mk (Kd.N_lower ho10 (bz1 (by repeat (first | (with_reducible first | exact HB.out | apply ba1 | apply pbN | apply bw1 | refine bs1 ?_ GE219.out | refine bs1 ?_ GE220.out) | exact HB.out)))); have n2_ := Ai0.mk (kb1 (g := gb219) (o := .cells #[.int .i64 a0_0, .int .i64 a0_1, .slice A0_2 l0_2.length c0_2] 44 (0, 0)) (by (with_reducible repeat (first | refine kn1 ?_ _ | refine kd1 ?_ | refine ka1 ?_ _)); exact BK219.out) hb); have n3_ := Ai0.mk (kb1 (g := gb220) (o := .cells #[.int .i64 a1_0, .slice A1_1 l1_1.length c1_1] 24 (0, 0)) (by (with_reducible repeat (first | refine kn1 ?_ _ | refine kd1 ?_ | refine ka1 ?_ _)); exact BK220.out) hb); have n4_ := Ai0.mk (bt1 (by repeat (first | (with_reducible first | exact HB.out | apply ba1 | apply pbN | apply bw1 | refine bs1 ?_ GE219.out | refine bs1 ?_ GE220.out) | exact HB.out)) hb); clear HO1_1; clear BK219; clear BK220; clear HB; have HO1_1 := n0_; have HO223 := n1_; have BK219 := n2_; have BK220 := n3_; have HB := n4_; clear n0_ n1_ n2_ n3_ n4_; clear hb ho10; obtain ⟨Ao11, co11, eo11⟩ := Kd.N_slice HO223.out; subst eo11) | ((with_reducible refine gate_callee (f := 79) rfl ?_); refine goesL_ (some 11) rfl rfl Try.func79 (by kernel_rfl) rfl #[.agg #[.int .i64 a0_0, .int .i64 a0_1, .slice A0_2 l0_2.length c0_2], .slice Ao11 y221.length co11] rfl (by (try simp only [List.map_toArray, List.map_cons, List.map_nil]); first | done | rfl | (simp only [List.length_drop, List.length_take]; rfl)) ?_; (with_reducible refine (matrix_open.calls k a0_0 a0_1 _ _ l0_2 _ _ y221 t224 t225 _ ?side1 ?side2 ?side3 ?side4 A3.out).mono ?_); (case side1 => repeat (first | exact (Kd.C_below HR0_2.out HB.out) | (with_reducible refine Kd.C_alloc ?_ _) | (with_reducible refine Kd.C_drewN ?_ _) | (with_reducible refine Kd.C_drew ?_))); (case side2 => exact HC0_2.out); (case side3 => repeat (first | exact (Kd.N_reads' HO223.out).2.2 | (with_reducible refine Kd.C_alloc ?_ _) | (with_reducible refine Kd.C_drewN ?_ _) | (with_reducible refine Kd.C_drew ?_))); (case side4 => exact (Kd.N_reads' HO223.out).2.1); rintro e w12 ⟨⟨p_, rfl⟩, hb⟩; refine ⟨_, rfl, ?_⟩; have n0_ := Ai0.mk (Kd.V_below (by (with_reducible repeat (first | apply Kd.V_alloc | apply Kd.V_drewN | apply Kd.V_drew)); exact HO1_1.out) hb); have n1_ := Ai0.mk (Kd.N_below (by (with_reducible repeat (first | apply Kd.N_alloc | apply Kd.N_drewN | apply Kd.N_drew)); exact HO223.out) hb); have n2_ := Ai0.mk (kb1 (g := gb219) (o := .cells #[.int .i64 a0_0, .int .i64 a0_1, .slice A0_2 l0_2.length c0_2] 44 (0, 0)) (by (with_reducible repeat (first | refine kn1 ?_ _ | refine kd1 ?_ | refine ka1 ?_ _)); exact BK219.out) hb); have n3_ := Ai0.mk (kb1 (g := gb220) (o := .cells #[.int .i64 a1_0, .slice A1_1 l1_1.length c1_1] 24 (0, 0)) (by (with_reducible repeat (first | refine kn1 ?_ _ | refine kd1 ?_ | refine ka1 ?_ _)); exact BK220.out) hb); have n4_ := Ai0.mk (bt1 (by repeat (first | (with_reducible first | exact HB.out | apply ba1 | apply pbN | apply bw1 | refine bs1 ?_ GE219.out | refine bs1 ?_ GE220.out) | exact HB.out)) hb); clear HO1_1; clear HO223; clear BK219; clear BK220; clear HB; have HO1_1 := n0_; have HO223 := n1_; have BK219 := n2_; have BK220 := n3_; have HB := n4_; clear n0_ n1_ n2_ n3_ n4_; (try clear hb); (try clear hb2); (try clear hk); (try clear hi)))
 go_ret
 exact ⟨by first | rfl | (simp [eW0, eW1] <;> rfl) | (simp [*, eW0, eW1] <;> rfl), by repeat (first | (with_reducible first | exact HB.out | apply ba1 | apply pbN | apply bw1 | refine bs1 ?_ GE219.out | refine bs1 ?_ GE220.out) | exact HB.out)⟩
theorem matrix_Check.calls (k : Nat) (a0_0 : Int) (a0_1 : Int) (A0_2 : Option Addr) (c0_2 : Nat) (l0_2 : List Int) (a1_0 : Int) (A1_1 : Option Addr) (c1_1 : Nat) (l1_1 : List (List Int)) (r : Int) (w : World) (hr0_2 : Kd.C (Kd.int .i64) w A0_2 l0_2.length l0_2) (hc0_2 : l0_2.length ≤ c0_2) (hr1_1 : Kd.C (Kd.slice 3 (Kd.int .i64)) w A1_1 l1_1.length l1_1) (hc1_1 : l1_1.length ≤ c1_1) (h : matrix_Check.f k a0_0 a0_1 l0_2 a1_0 l1_1 = some r) :
  Calls Try.prog 67 #[.agg #[.int .i64 a0_0, .int .i64 a0_1, .slice A0_2 l0_2.length c0_2], .agg #[.int .i64 a1_0, .slice A1_1 l1_1.length c1_1]] w fun e w' => e = .returned (.int .i64 r) ∧ Below w.heap.size w w' :=
 matrix_Check.calls_V k a0_0 a0_1 A0_2 c0_2 l0_2 a1_0 (fun _ => True) A1_1 c1_1 l1_1 r w hr0_2 hc0_2 (Kd.V_mk hc1_1 (fun W' hm => Kd.Heap.C (Kd.heap_slice 3 (Kd.heap_int .i64)) (fun k hk => hm k trivial hk) hr1_1)) h
mutual
def cr4_Order.j0 : Nat → Bool → Int → Int → List Int → Option (Int)
 | 0, _, _, _, _ => none
 | k + 1, x17, x158000, x158001, x158002 => if x17 = true then (some 0) else (cr4_Order.l0 k 1 0 x158000 x158001 x158002)
def cr4_Order.l0 : Nat → Int → Int → Int → Int → List Int → Option (Int)
 | 0, _, _, _, _, _ => none
 | k + 1, x3, x4, x158000, x158001, x158002 => if x4 < x158001 then (if x158000 = 0 then (none) else (if x3 > (wrap64 (Int.tdiv (256 : Int) x158000)) then (some 0) else (cr4_Order.l0 k (wrap64 (x3 * x158000)) (wrap64 (x4 + 1)) x158000 x158001 x158002))) else (some x3)
end
def cr4_Order.f (k : Nat) (a0_0 : Int) (a0_1 : Int) (l0_2 : List Int) : Option (Int) := if a0_0 < 2 then (cr4_Order.j0 k true a0_0 a0_1 l0_2) else (if a0_1 < 1 then (cr4_Order.j0 k true a0_0 a0_1 l0_2) else (cr4_Order.j0 k (decide (a0_1 > 8)) a0_0 a0_1 l0_2))
theorem cr4_Order.mono_l : ∀ k, (∀ y0 y1 y2 y3, LeO (cr4_Order.j0 k y0 y1 y2 y3) (cr4_Order.j0 (k + 1) y0 y1 y2 y3)) ∧ (∀ y0 y1 y2 y3 y4, LeO (cr4_Order.l0 k y0 y1 y2 y3 y4) (cr4_Order.l0 (k + 1) y0 y1 y2 y3 y4))
 | 0 => ⟨fun _ _ _ _ r h => by simp [cr4_Order.j0] at h, fun _ _ _ _ _ r h => by simp [cr4_Order.l0] at h⟩
 | k + 1 => by
  obtain ⟨ih0, ih1⟩ := cr4_Order.mono_l k;refine ⟨?_, ?_⟩
  ·intro y0 y1 y2 y3;unfold cr4_Order.j0
   repeat' first
   | (with_reducible exact ih0 _ _ _ _)
   | (with_reducible exact ih1 _ _ _ _ _)
   | (with_reducible exact LeO.refl _)
   | (with_reducible exact LeO.none _)
   | (with_reducible refine LeO.ite ?_ ?_)
   | (with_reducible refine LeO.bind ?_ (fun _ => ?_))
   | exact ih0 _ _ _ _
   | exact ih1 _ _ _ _ _
   | exact LeO.none _
   | refine LeO.ite ?_ ?_
   | refine LeO.bind ?_ (fun _ => ?_)
  ·intro y0 y1 y2 y3 y4;unfold cr4_Order.l0
   repeat' first
   | (with_reducible exact ih0 _ _ _ _)
   | (with_reducible exact ih1 _ _ _ _ _)
   | (with_reducible exact LeO.refl _)
   | (with_reducible exact LeO.none _)
   | (with_reducible refine LeO.ite ?_ ?_)
   | (with_reducible refine LeO.bind ?_ (fun _ => ?_))
   | exact ih0 _ _ _ _
   | exact ih1 _ _ _ _ _
   | exact LeO.none _
   | refine LeO.ite ?_ ?_
   | refine LeO.bind ?_ (fun _ => ?_)
theorem cr4_Order.mono : ∀ a0 a1 a2 k, LeO (cr4_Order.f k a0 a1 a2) (cr4_Order.f (k + 1) a0 a1 a2) := by
 intro a0 a1 a2 k;obtain ⟨ih0, ih1⟩ := cr4_Order.mono_l k;unfold cr4_Order.f
 repeat' first
   | (with_reducible exact ih0 _ _ _ _)
   | (with_reducible exact ih1 _ _ _ _ _)
   | (with_reducible exact LeO.refl _)
   | (with_reducible exact LeO.none _)
   | (with_reducible refine LeO.ite ?_ ?_)
   | (with_reducible refine LeO.bind ?_ (fun _ => ?_))
   | exact ih0 _ _ _ _
   | exact ih1 _ _ _ _ _
   | exact LeO.none _
   | refine LeO.ite ?_ ?_
   | refine LeO.bind ?_ (fun _ => ?_)
set_option maxHeartbeats 8000000 in
set_option maxRecDepth 100000 in
theorem cr4_Order.calls (k : Nat) (a0_0 : Int) (a0_1 : Int) (A0_2 : Option Addr) (c0_2 : Nat) (l0_2 : List Int) (r : Int) (w : World) (hr0_2 : Kd.C (Kd.int .i64) w A0_2 l0_2.length l0_2) (hc0_2 : l0_2.length ≤ c0_2) (h : cr4_Order.f k a0_0 a0_1 l0_2 = some r) :
  Calls Try.prog 75 #[.agg #[.int .i64 a0_0, .int .i64 a0_1, .slice A0_2 l0_2.length c0_2]] w fun e w' => e = .returned (.int .i64 r) ∧ Below w.heap.size w w' := by
 have hu44 := Try.underlying44;have HR0_2 := Ai0.mk hr0_2;have HC0_2 := Ai0.mk hc0_2;clear hr0_2 hc0_2;have HB := Ai0.mk (Below.refl w.heap.size w);have H : (if a0_0 < 2 then (cr4_Order.j0 k true a0_0 a0_1 l0_2) else (if a0_1 < 1 then (cr4_Order.j0 k true a0_0 a0_1 l0_2) else (cr4_Order.j0 k (decide (a0_1 > 8)) a0_0 a0_1 l0_2))) = some r := h;clear h;have HC2 := Ai0.mk H;clear H;go_enter Try.func75, Try.ntmps75
 go_upto_region 1 with (first | ((with_reducible refine gate_dst (N := 1) rfl ?_); refine box_event ?hg (N := 1) ?hd (cs := #[.int .i64 a0_0, .int .i64 a0_1, .slice A0_2 l0_2.length c0_2]) (t := 44) ?hr ?_; (case hd => rfl); (case hg => rfl); (case hr => first | (go_simp; done) | (go_simp; rfl)); intro gb157 hg w3 hbox hb; have n0_ := Ai0.mk (bt1 (by repeat (first | (with_reducible first | exact HB.out | apply ba1 | apply pbN | apply bw1) | exact HB.out)) hb); have n1_ := Ai0.mk (hbox); have n2_ := Ai0.mk ((by rw [hg]; exact (bz1 (by repeat (first | (with_reducible first | exact HB.out | apply ba1 | apply pbN | apply bw1) | exact HB.out))) : w.heap.size ≤ gb157)); have n3_ := Ai0.mk ((by rw [hg]; exact (bz1 (by repeat (first | (with_reducible first | exact HB.out | apply ba1 | apply pbN | apply bw1) | exact HB.out))) : w.heap.size ≤ gb157)); clear HB; have HB := n0_; have BK157 := n1_; have GW157 := n2_; have GE157 := n3_; clear n0_ n1_ n2_ n3_; clear hb hbox hg))
 (try simp only [Act.put, l01_, l02_, l03_])
 go_cut [17] (fun v17 wc => ∃ (kq : Nat) (x17_1 : Bool), v17 = .bool x17_1 ∧ Ai0 (cr4_Order.j0 kq x17_1 a0_0 a0_1 l0_2 = some r) ∧ Ai0 (kq ≤ k) ∧ Ai0 (wc.heap[gb157]? = some (.cells #[.int .i64 a0_0, .int .i64 a0_1, (.slice A0_2 l0_2.length c0_2)] 44 (0, 0))) ∧ Ai0 (Below w.heap.size w wc))
 case first =>
  have H := HC2.out;clear HC2;by_cases c4 : a0_0 < 2
  ·rw [if_pos c4] at H;have c4b0 : decide (a0_0 < 2) = true := decide_eq_true c4;clear c4;(first | rw [c4b0] | (simp only [i64_w, i32_w]; rw [c4b0]) | skip);have H' := Ai0.mk H;clear H;have hcz5_0 : w3.cell? ⟨gb157, 0, none⟩ = some (.int .i64 a0_0) := (kc1 BK157.out 0).trans rfl;have hcz5_1 : w3.cell? ⟨gb157, 1, none⟩ = some (.int .i64 a0_1) := (kc1 BK157.out 1).trans rfl;have hcz5_2 : w3.cell? ⟨gb157, 2, none⟩ = some (.slice A0_2 l0_2.length c0_2) := (kc1 BK157.out 2).trans rfl;have hfz5_0 := kf1 BK157.out 0;have hfz5_1 := kf1 BK157.out 1;have hfz5_2 := kf1 BK157.out 2
   go_wp2
   go_meet
   case rel => exact ⟨_, (true), (by first | rfl | (simp; done) | (simp [*]; done)), H', ⟨by first | omega | exact Nat.le_refl _⟩, ⟨by (with_reducible repeat (first | refine kn1 ?_ _ | refine kd1 ?_ | refine ka1 ?_ _)); exact BK157.out⟩, ⟨by repeat (first | (with_reducible first | exact HB.out | apply ba1 | apply pbN | apply bw1 | refine bs1 ?_ GE157.out) | exact HB.out)⟩⟩
  ·rw [if_neg c4] at H;have c4b0 : decide (a0_0 < 2) = false := decide_eq_false c4;clear c4;(first | rw [c4b0] | (simp only [i64_w, i32_w]; rw [c4b0]) | skip);by_cases c6 : a0_1 < 1
   ·rw [if_pos c6] at H;have c6b0 : decide (a0_1 < 1) = true := decide_eq_true c6;clear c6;have H' := Ai0.mk H;clear H;have hcz7_0 : w3.cell? ⟨gb157, 0, none⟩ = some (.int .i64 a0_0) := (kc1 BK157.out 0).trans rfl;have hcz7_1 : w3.cell? ⟨gb157, 1, none⟩ = some (.int .i64 a0_1) := (kc1 BK157.out 1).trans rfl;have hcz7_2 : w3.cell? ⟨gb157, 2, none⟩ = some (.slice A0_2 l0_2.length c0_2) := (kc1 BK157.out 2).trans rfl;have hfz7_0 := kf1 BK157.out 0;have hfz7_1 := kf1 BK157.out 1;have hfz7_2 := kf1 BK157.out 2
    go_wp2
    go_meet
    case rel => exact ⟨_, (true), (by first | rfl | (simp; done) | (simp [*]; done)), H', ⟨by first | omega | exact Nat.le_refl _⟩, ⟨by (with_reducible repeat (first | refine kn1 ?_ _ | refine kd1 ?_ | refine ka1 ?_ _)); exact BK157.out⟩, ⟨by repeat (first | (with_reducible first | exact HB.out | apply ba1 | apply pbN | apply bw1 | refine bs1 ?_ GE157.out) | exact HB.out)⟩⟩
   ·rw [if_neg c6] at H;have c6b0 : decide (a0_1 < 1) = false := decide_eq_false c6;clear c6;have H' := Ai0.mk H;clear H;have hcz8_0 : w3.cell? ⟨gb157, 0, none⟩ = some (.int .i64 a0_0) := (kc1 BK157.out 0).trans rfl;have hcz8_1 : w3.cell? ⟨gb157, 1, none⟩ = some (.int .i64 a0_1) := (kc1 BK157.out 1).trans rfl;have hcz8_2 : w3.cell? ⟨gb157, 2, none⟩ = some (.slice A0_2 l0_2.length c0_2) := (kc1 BK157.out 2).trans rfl;have hfz8_0 := kf1 BK157.out 0;have hfz8_1 := kf1 BK157.out 1;have hfz8_2 := kf1 BK157.out 2
    go_wp2
    go_meet
    case rel => exact ⟨_, (decide (a0_1 > 8)), (by first | rfl | (simp; done) | (simp [*]; done)), H', ⟨by first | omega | exact Nat.le_refl _⟩, ⟨by (with_reducible repeat (first | refine kn1 ?_ _ | refine kd1 ?_ | refine ka1 ?_ _)); exact BK157.out⟩, ⟨by repeat (first | (with_reducible first | exact HB.out | apply ba1 | apply pbN | apply bw1 | refine bs1 ?_ GE157.out) | exact HB.out)⟩⟩
 case rest =>
  clear HC2
  try clear p2
  try clear c4
  try clear c4b0
  try clear c6
  try clear c6b0
  try clear c7
  try clear hcz5_0
  try clear hcz5_1
  try clear hcz5_2
  try clear hcz7_0
  try clear hcz7_1
  try clear hcz7_2
  try clear hcz8_0
  try clear hcz8_1
  try clear hcz8_2
  try clear hfz5_0
  try clear hfz5_1
  try clear hfz5_2
  try clear hfz7_0
  try clear hfz7_1
  try clear hfz7_2
  try clear hfz8_0
  try clear hfz8_1
  try clear hfz8_2
  obtain ⟨kq, x17_1, rfl, HA, HJ1, BK157, HB⟩ := hcut
  cases kq with
  | zero => exact absurd HA.out (by simp [cr4_Order.j0])
  | succ kj1 =>
   have H := HA.out;clear HA;simp only [cr4_Order.j0] at H;by_cases c9 : x17_1 = true
   ·subst c9;(have H1 : (some 0) = some r := by rw [if_pos rfl] at H; exact H);clear H;have H := H1;clear H1;obtain rfl := Option.some.inj H
    go_wp2
    go_ret
    exact ⟨by first | rfl | (simp [eW0, eW1] <;> rfl) | (simp [*, eW0, eW1] <;> rfl), by repeat (first | (with_reducible first | exact HB.out | apply ba1 | apply pbN | apply bw1 | refine bs1 ?_ GE157.out) | exact HB.out)⟩
   ·replace c9 := Bool.eq_false_iff.mpr c9;subst c9;(have H1 : (cr4_Order.l0 kj1 1 0 a0_0 a0_1 l0_2) = some r := by rw [if_neg (show ¬ (false = true) by decide)] at H; exact H);clear H;have H := H1;clear H1;have H' := Ai0.mk H;clear H
    go_wp2
    go_loopg [3, 4] kj1 (fun kq v3 v4 w' => ∃ (x3_2 : Int) (x4_2 : Int), v3 = .int .i64 x3_2 ∧ v4 = .int .i64 x4_2 ∧ Ai0 (cr4_Order.l0 kq x3_2 x4_2 a0_0 a0_1 l0_2 = some r) ∧ Ai0 (kq ≤ kj1) ∧ Ai0 (w'.heap[gb157]? = some (.cells #[.int .i64 a0_0, .int .i64 a0_1, (.slice A0_2 l0_2.length c0_2)] 44 (0, 0))) ∧ Ai0 (Below w.heap.size w w'))
    case atStart => exact ⟨(1), (0), (by first | rfl | (simp; done) | (simp [*]; done)), (by first | rfl | (simp; done) | (simp [*]; done)), H', ⟨Nat.le_refl _⟩, ⟨by (with_reducible repeat (first | refine kn1 ?_ _ | refine kd1 ?_ | refine ka1 ?_ _)); exact BK157.out⟩, ⟨by repeat (first | (with_reducible first | exact HB.out | apply ba1 | apply pbN | apply bw1 | refine bs1 ?_ GE157.out) | exact HB.out)⟩⟩
    case round =>
     clear H'
     try clear p2
     try clear c4
     try clear c4b0
     try clear c6
     try clear c6b0
     try clear c7
     try clear c9
     try clear hcz5_0
     try clear hcz5_1
     try clear hcz5_2
     try clear hcz7_0
     try clear hcz7_1
     try clear hcz7_2
     try clear hcz8_0
     try clear hcz8_1
     try clear hcz8_2
     try clear hfz5_0
     try clear hfz5_1
     try clear hfz5_2
     try clear hfz7_0
     try clear hfz7_1
     try clear hfz7_2
     try clear hfz8_0
     try clear hfz8_1
     try clear hfz8_2
     try clear p2
     obtain ⟨x3_2, x4_2, rfl, rfl, HA, HK2, BK157, HB⟩ := hrel
     cases gk with
     | zero => exact absurd HA.out (by simp [cr4_Order.l0])
     | succ k2 =>
      have H := HA.out;clear HA;simp only [cr4_Order.l0] at H;by_cases c10 : x4_2 < a0_1
      ·rw [if_pos c10] at H;have c10b0 : decide (x4_2 < a0_1) = true := decide_eq_true c10;clear c10;by_cases c11 : a0_0 = 0
       ·rw [if_pos c11] at H;exact absurd H (by simp)
       ·rw [if_neg c11] at H;have c11b0 : (a0_0 == 0) = false := beq_eq_false_iff_ne.mpr c11;have c11b1 : (a0_0 != 0) = true := bne_iff_ne.mpr c11;by_cases c12 : x3_2 > (wrap64 (Int.tdiv (256 : Int) a0_0))
        ·rw [if_pos c12] at H;have c12b0 : decide ((wrap64 (Int.tdiv (256 : Int) a0_0)) < x3_2) = true := decide_eq_true c12;clear c12;obtain rfl := Option.some.inj H;have hcz13_0 : wr.cell? ⟨gb157, 0, none⟩ = some (.int .i64 a0_0) := (kc1 BK157.out 0).trans rfl;have hcz13_1 : wr.cell? ⟨gb157, 1, none⟩ = some (.int .i64 a0_1) := (kc1 BK157.out 1).trans rfl;have hcz13_2 : wr.cell? ⟨gb157, 2, none⟩ = some (.slice A0_2 l0_2.length c0_2) := (kc1 BK157.out 2).trans rfl;have hfz13_0 := kf1 BK157.out 0;have hfz13_1 := kf1 BK157.out 1;have hfz13_2 := kf1 BK157.out 2
         go_wp2
         go_ret
         exact ⟨by first | rfl | (simp [eW0, eW1] <;> rfl) | (simp [*, eW0, eW1] <;> rfl), by repeat (first | (with_reducible first | exact HB.out | apply ba1 | apply pbN | apply bw1 | refine bs1 ?_ GE157.out) | exact HB.out)⟩
        ·rw [if_neg c12] at H;have c12b0 : decide ((wrap64 (Int.tdiv (256 : Int) a0_0)) < x3_2) = false := decide_eq_false c12;clear c12;have H' := Ai0.mk H;clear H;have hcz14_0 : wr.cell? ⟨gb157, 0, none⟩ = some (.int .i64 a0_0) := (kc1 BK157.out 0).trans rfl;have hcz14_1 : wr.cell? ⟨gb157, 1, none⟩ = some (.int .i64 a0_1) := (kc1 BK157.out 1).trans rfl;have hcz14_2 : wr.cell? ⟨gb157, 2, none⟩ = some (.slice A0_2 l0_2.length c0_2) := (kc1 BK157.out 2).trans rfl;have hfz14_0 := kf1 BK157.out 0;have hfz14_1 := kf1 BK157.out 1;have hfz14_2 := kf1 BK157.out 2
         go_wp2
         go_roundg k2
         case measure => have := HJ1.out; have := HK2.out; omega
         case rel => exact ⟨(wrap64 (x3_2 * a0_0)), (wrap64 (x4_2 + 1)), (by first | rfl | (simp; done) | (simp [*]; done)), (by first | rfl | (simp; done) | (simp [*]; done)), H', ⟨by have := HJ1.out; have := HK2.out; omega⟩, ⟨by (with_reducible repeat (first | refine kn1 ?_ _ | refine kd1 ?_ | refine ka1 ?_ _)); exact BK157.out⟩, ⟨by repeat (first | (with_reducible first | exact HB.out | apply ba1 | apply pbN | apply bw1 | refine bs1 ?_ GE157.out) | exact HB.out)⟩⟩
      ·rw [if_neg c10] at H;have c10b0 : decide (x4_2 < a0_1) = false := decide_eq_false c10;clear c10;obtain rfl := Option.some.inj H;have hcz15_0 : wr.cell? ⟨gb157, 0, none⟩ = some (.int .i64 a0_0) := (kc1 BK157.out 0).trans rfl;have hcz15_1 : wr.cell? ⟨gb157, 1, none⟩ = some (.int .i64 a0_1) := (kc1 BK157.out 1).trans rfl;have hcz15_2 : wr.cell? ⟨gb157, 2, none⟩ = some (.slice A0_2 l0_2.length c0_2) := (kc1 BK157.out 2).trans rfl;have hfz15_0 := kf1 BK157.out 0;have hfz15_1 := kf1 BK157.out 1;have hfz15_2 := kf1 BK157.out 2
       go_wp2
       go_ret
       exact ⟨by first | rfl | (simp [eW0, eW1] <;> rfl) | (simp [*, eW0, eW1] <;> rfl), by repeat (first | (with_reducible first | exact HB.out | apply ba1 | apply pbN | apply bw1 | refine bs1 ?_ GE157.out) | exact HB.out)⟩
def cr4_Is.f (k : Nat) (a0_0 : Int) (a0_1 : Int) (l0_2 : List Int) (a1 : Int) : Option (Bool) := if a1 ≥ 0 then ((cr4_Order.f k a0_0 a0_1 l0_2).bind fun t159 => (some (decide (a1 < t159)))) else (some false)
theorem cr4_Is.mono : ∀ a0 a1 a2 a3 k, LeO (cr4_Is.f k a0 a1 a2 a3) (cr4_Is.f (k + 1) a0 a1 a2 a3) := by
 intro a0 a1 a2 a3 k;unfold cr4_Is.f
 repeat' first
   | (with_reducible exact cr4_Order.mono _ _ _ _)
   | (with_reducible exact LeO.refl _)
   | (with_reducible exact LeO.none _)
   | (with_reducible refine LeO.ite ?_ ?_)
   | (with_reducible refine LeO.bind ?_ (fun _ => ?_))
   | exact cr4_Order.mono _ _ _ _
   | exact LeO.none _
   | refine LeO.ite ?_ ?_
   | refine LeO.bind ?_ (fun _ => ?_)
set_option maxHeartbeats 8000000 in
set_option maxRecDepth 100000 in
theorem cr4_Is.calls (k : Nat) (a0_0 : Int) (a0_1 : Int) (A0_2 : Option Addr) (c0_2 : Nat) (l0_2 : List Int) (a1 : Int) (r : Bool) (w : World) (hr0_2 : Kd.C (Kd.int .i64) w A0_2 l0_2.length l0_2) (hc0_2 : l0_2.length ≤ c0_2) (h : cr4_Is.f k a0_0 a0_1 l0_2 a1 = some r) :
  Calls Try.prog 71 #[.agg #[.int .i64 a0_0, .int .i64 a0_1, .slice A0_2 l0_2.length c0_2], .int .i64 a1] w fun e w' => e = .returned (.bool r) ∧ Below w.heap.size w w' := by
 have hu44 := Try.underlying44;have HR0_2 := Ai0.mk hr0_2;have HC0_2 := Ai0.mk hc0_2;clear hr0_2 hc0_2;have HB := Ai0.mk (Below.refl w.heap.size w);have H : (if a1 ≥ 0 then ((cr4_Order.f k a0_0 a0_1 l0_2).bind fun t159 => (some (decide (a1 < t159)))) else (some false)) = some r := h;clear h;by_cases c3 : a1 ≥ 0
 ·rw [if_pos c3] at H;have c3b0 : decide (0 ≤ a1) = true := decide_eq_true c3;clear c3;replace H := Option.bind_eq_some_iff.mp H;obtain ⟨t159, A40, H⟩ := H;replace H : (some (decide (a1 < t159))) = some r := H;have A4 := Ai0.mk A40;clear A40;obtain rfl := Option.some.inj H;go_enter Try.func71, Try.ntmps71
  go_wp2_with (first | ((with_reducible refine gate_dst (N := 2) rfl ?_); refine box_event ?hg (N := 2) ?hd (cs := #[.int .i64 a0_0, .int .i64 a0_1, .slice A0_2 l0_2.length c0_2]) (t := 44) ?hr ?_; (case hd => rfl); (case hg => rfl); (case hr => first | (go_simp; done) | (go_simp; rfl)); intro gb158 hg w5 hbox hb; have n0_ := Ai0.mk (bt1 (by repeat (first | (with_reducible first | exact HB.out | apply ba1 | apply pbN | apply bw1) | exact HB.out)) hb); have n1_ := Ai0.mk (hbox); have n2_ := Ai0.mk ((by rw [hg]; exact (bz1 (by repeat (first | (with_reducible first | exact HB.out | apply ba1 | apply pbN | apply bw1) | exact HB.out))) : w.heap.size ≤ gb158)); have n3_ := Ai0.mk ((by rw [hg]; exact (bz1 (by repeat (first | (with_reducible first | exact HB.out | apply ba1 | apply pbN | apply bw1) | exact HB.out))) : w.heap.size ≤ gb158)); clear HB; have HB := n0_; have BK158 := n1_; have GW158 := n2_; have GE158 := n3_; clear n0_ n1_ n2_ n3_; clear hb hbox hg; have hcz6_0 : w5.cell? ⟨gb158, 0, none⟩ = some (.int .i64 a0_0) := (kc1 BK158.out 0).trans rfl; have hcz6_1 : w5.cell? ⟨gb158, 1, none⟩ = some (.int .i64 a0_1) := (kc1 BK158.out 1).trans rfl; have hcz6_2 : w5.cell? ⟨gb158, 2, none⟩ = some (.slice A0_2 l0_2.length c0_2) := (kc1 BK158.out 2).trans rfl; have hfz6_0 := kf1 BK158.out 0; have hfz6_1 := kf1 BK158.out 1; have hfz6_2 := kf1 BK158.out 2) | (go_at_call 75; (with_reducible refine (cr4_Order.calls k a0_0 a0_1 _ _ l0_2 t159 _ ?side1 ?side2 A4.out).mono ?_); (case side1 => repeat (first | exact (Kd.C_below HR0_2.out HB.out) | (with_reducible refine Kd.C_alloc ?_ _) | (with_reducible refine Kd.C_drewN ?_ _) | (with_reducible refine Kd.C_drew ?_))); (case side2 => exact HC0_2.out); rintro e w7 ⟨rfl, hb⟩; have n0_ := Ai0.mk (kb1 (g := gb158) (o := .cells #[.int .i64 a0_0, .int .i64 a0_1, .slice A0_2 l0_2.length c0_2] 44 (0, 0)) (by (with_reducible repeat (first | refine kn1 ?_ _ | refine kd1 ?_ | refine ka1 ?_ _)); exact BK158.out) hb); have n1_ := Ai0.mk (bt1 (by repeat (first | (with_reducible first | exact HB.out | apply ba1 | apply pbN | apply bw1 | refine bs1 ?_ GE158.out) | exact HB.out)) hb); clear BK158; clear HB; have BK158 := n0_; have HB := n1_; clear n0_ n1_; (try clear hb); (try clear hb2); (try clear hk); (try clear hi)))
  go_ret
  exact ⟨by first | rfl | (simp [eW0, eW1] <;> rfl) | (simp [*, eW0, eW1] <;> rfl), by repeat (first | (with_reducible first | exact HB.out | apply ba1 | apply pbN | apply bw1 | refine bs1 ?_ GE158.out) | exact HB.out)⟩
 ·rw [if_neg c3] at H;have c3b0 : decide (0 ≤ a1) = false := decide_eq_false c3;clear c3;obtain rfl := Option.some.inj H;go_enter Try.func71, Try.ntmps71
  go_wp2_with (first | ((with_reducible refine gate_dst (N := 2) rfl ?_); refine box_event ?hg (N := 2) ?hd (cs := #[.int .i64 a0_0, .int .i64 a0_1, .slice A0_2 l0_2.length c0_2]) (t := 44) ?hr ?_; (case hd => rfl); (case hg => rfl); (case hr => first | (go_simp; done) | (go_simp; rfl)); intro gb158 hg w8 hbox hb; have n0_ := Ai0.mk (bt1 (by repeat (first | (with_reducible first | exact HB.out | apply ba1 | apply pbN | apply bw1) | exact HB.out)) hb); have n1_ := Ai0.mk (hbox); have n2_ := Ai0.mk ((by rw [hg]; exact (bz1 (by repeat (first | (with_reducible first | exact HB.out | apply ba1 | apply pbN | apply bw1) | exact HB.out))) : w.heap.size ≤ gb158)); have n3_ := Ai0.mk ((by rw [hg]; exact (bz1 (by repeat (first | (with_reducible first | exact HB.out | apply ba1 | apply pbN | apply bw1) | exact HB.out))) : w.heap.size ≤ gb158)); clear HB; have HB := n0_; have BK158 := n1_; have GW158 := n2_; have GE158 := n3_; clear n0_ n1_ n2_ n3_; clear hb hbox hg))
  go_ret
  exact ⟨by first | rfl | (simp [eW0, eW1] <;> rfl) | (simp [*, eW0, eW1] <;> rfl), by repeat (first | (with_reducible first | exact HB.out | apply ba1 | apply pbN | apply bw1 | refine bs1 ?_ GE158.out) | exact HB.out)⟩
def cr9_Entries.l0 : Nat → List Int → Int → Int → Int → List Int → Option (Int)
 | 0, _, _, _, _, _ => none
 | k + 1, x1, x5, x161000, x161001, x161002 => if x5 < (x1.length : Int) then (if 0 ≤ x5 then ((cr4_Is.f k x161000 x161001 x161002 (rd x1 x5)).bind fun t162 => (if t162 = true then (cr9_Entries.l0 k x1 (wrap64 (x5 + 1)) x161000 x161001 x161002) else (some 2))) else (none)) else (some 0)
def cr9_Entries.f (k : Nat) (a0_0 : Int) (a0_1 : Int) (l0_2 : List Int) (l1 : List Int) : Option (Int) := cr9_Entries.l0 k l1 0 a0_0 a0_1 l0_2
theorem cr9_Entries.mono_l : ∀ k, (∀ y0 y1 y2 y3 y4, LeO (cr9_Entries.l0 k y0 y1 y2 y3 y4) (cr9_Entries.l0 (k + 1) y0 y1 y2 y3 y4))
 | 0 => fun _ _ _ _ _ r h => by simp [cr9_Entries.l0] at h
 | k + 1 => by
  have ih0 := cr9_Entries.mono_l k
  ·intro y0 y1 y2 y3 y4;unfold cr9_Entries.l0
   repeat' first
   | (with_reducible exact ih0 _ _ _ _ _)
   | (with_reducible exact cr4_Is.mono _ _ _ _ _)
   | (with_reducible exact LeO.refl _)
   | (with_reducible exact LeO.none _)
   | (with_reducible refine LeO.ite ?_ ?_)
   | (with_reducible refine LeO.bind ?_ (fun _ => ?_))
   | exact ih0 _ _ _ _ _
   | exact cr4_Is.mono _ _ _ _ _
   | exact LeO.none _
   | refine LeO.ite ?_ ?_
   | refine LeO.bind ?_ (fun _ => ?_)
theorem cr9_Entries.mono : ∀ a0 a1 a2 a3 k, LeO (cr9_Entries.f k a0 a1 a2 a3) (cr9_Entries.f (k + 1) a0 a1 a2 a3) := by
 intro a0 a1 a2 a3 k;have ih0 := cr9_Entries.mono_l k;unfold cr9_Entries.f
 repeat' first
   | (with_reducible exact ih0 _ _ _ _ _)
   | (with_reducible exact cr4_Is.mono _ _ _ _ _)
   | (with_reducible exact LeO.refl _)
   | (with_reducible exact LeO.none _)
   | (with_reducible refine LeO.ite ?_ ?_)
   | (with_reducible refine LeO.bind ?_ (fun _ => ?_))
   | exact ih0 _ _ _ _ _
   | exact cr4_Is.mono _ _ _ _ _
   | exact LeO.none _
   | refine LeO.ite ?_ ?_
   | refine LeO.bind ?_ (fun _ => ?_)
set_option maxHeartbeats 8000000 in
set_option maxRecDepth 100000 in
theorem cr9_Entries.calls (k : Nat) (a0_0 : Int) (a0_1 : Int) (A0_2 : Option Addr) (c0_2 : Nat) (l0_2 : List Int) (A1 : Option Addr) (c1 : Nat) (l1 : List Int) (r : Int) (w : World) (hr0_2 : Kd.C (Kd.int .i64) w A0_2 l0_2.length l0_2) (hc0_2 : l0_2.length ≤ c0_2) (hr1 : Kd.C (Kd.int .i64) w A1 l1.length l1) (hc1 : l1.length ≤ c1) (h : cr9_Entries.f k a0_0 a0_1 l0_2 l1 = some r) :
  Calls Try.prog 51 #[.agg #[.int .i64 a0_0, .int .i64 a0_1, .slice A0_2 l0_2.length c0_2], .slice A1 l1.length c1] w fun e w' => e = .returned (.int .i64 r) ∧ Below w.heap.size w w' := by
 have hu44 := Try.underlying44;have HR0_2 := Ai0.mk hr0_2;have HC0_2 := Ai0.mk hc0_2;clear hr0_2 hc0_2;have HR1 := Ai0.mk hr1;have HC1 := Ai0.mk hc1;clear hr1 hc1;have HB := Ai0.mk (Below.refl w.heap.size w);have H : (cr9_Entries.l0 k l1 0 a0_0 a0_1 l0_2) = some r := h;clear h;have H' := Ai0.mk H;clear H;go_enter Try.func51, Try.ntmps51
 go_wp2_with (first | ((with_reducible refine gate_dst (N := 2) rfl ?_); refine box_event ?hg (N := 2) ?hd (cs := #[.int .i64 a0_0, .int .i64 a0_1, .slice A0_2 l0_2.length c0_2]) (t := 44) ?hr ?_; (case hd => rfl); (case hg => rfl); (case hr => first | (go_simp; done) | (go_simp; rfl)); intro gb160 hg w3 hbox hb; have n0_ := Ai0.mk (bt1 (by repeat (first | (with_reducible first | exact HB.out | apply ba1 | apply pbN | apply bw1) | exact HB.out)) hb); have n1_ := Ai0.mk (hbox); have n2_ := Ai0.mk ((by rw [hg]; exact (bz1 (by repeat (first | (with_reducible first | exact HB.out | apply ba1 | apply pbN | apply bw1) | exact HB.out))) : w.heap.size ≤ gb160)); have n3_ := Ai0.mk ((by rw [hg]; exact (bz1 (by repeat (first | (with_reducible first | exact HB.out | apply ba1 | apply pbN | apply bw1) | exact HB.out))) : w.heap.size ≤ gb160)); clear HB; have HB := n0_; have BK160 := n1_; have GW160 := n2_; have GE160 := n3_; clear n0_ n1_ n2_ n3_; clear hb hbox hg))
 go_loopg [5] k (fun kq v5 w' => ∃ (x5_1 : Int), v5 = .int .i64 x5_1 ∧ Ai0 (cr9_Entries.l0 kq l1 x5_1 a0_0 a0_1 l0_2 = some r) ∧ Ai0 (kq ≤ k) ∧ Ai0 (w'.heap[gb160]? = some (.cells #[.int .i64 a0_0, .int .i64 a0_1, (.slice A0_2 l0_2.length c0_2)] 44 (0, 0))) ∧ Ai0 (Below w.heap.size w w'))
 case atStart => exact ⟨(0), (by first | rfl | (simp; done) | (simp [*]; done)), H', ⟨Nat.le_refl _⟩, ⟨by (with_reducible repeat (first | refine kn1 ?_ _ | refine kd1 ?_ | refine ka1 ?_ _)); exact BK160.out⟩, ⟨by repeat (first | (with_reducible first | exact HB.out | apply ba1 | apply pbN | apply bw1 | refine bs1 ?_ GE160.out) | exact HB.out)⟩⟩
 case round =>
  clear H'
  try clear c1
  try clear p2
  obtain ⟨x5_1, rfl, HA, HK1, BK160, HB⟩ := hrel
  cases gk with
  | zero => exact absurd HA.out (by simp [cr9_Entries.l0])
  | succ k1 =>
   have H := HA.out;clear HA;simp only [cr9_Entries.l0] at H;by_cases c4 : x5_1 < (l1.length : Int)
   ·rw [if_pos c4] at H;have c4b0 : decide (x5_1 < (l1.length : Int)) = true := decide_eq_true c4;clear c4;by_cases c5 : 0 ≤ x5_1
    ·rw [if_pos c5] at H;have c5b0 : decide (0 ≤ x5_1) = true := decide_eq_true c5;clear c5;replace H := Option.bind_eq_some_iff.mp H;obtain ⟨t162, A60, H⟩ := H;replace H : (if t162 = true then (cr9_Entries.l0 k1 l1 (wrap64 (x5_1 + 1)) a0_0 a0_1 l0_2) else (some 2)) = some r := H;have A6 := Ai0.mk A60;clear A60;by_cases c7 : t162 = true
     case' pos =>
      subst c7;(have H1 : (cr9_Entries.l0 k1 l1 (wrap64 (x5_1 + 1)) a0_0 a0_1 l0_2) = some r := by rw [if_pos rfl] at H; exact H);clear H;have H := H1;clear H1;have H' := Ai0.mk H;clear H
     case' neg =>
      replace c7 := Bool.eq_false_iff.mpr c7;subst c7;(have H1 : (some 2) = some r := by rw [if_neg (show ¬ (false = true) by decide)] at H; exact H);clear H;have H := H1;clear H1;obtain rfl := Option.some.inj H
     all_goals
      try go_wp2
      have n0_ := Ai0.mk (kd1 BK160.out);have n1_ := Ai0.mk (bw1 HB.out);clear BK160;clear HB;have BK160 := n0_;have HB := n1_;clear n0_ n1_;have p161 : 0 ≤ (x5_1 : Int) := of_decide_eq_true (by first | (with_reducible assumption) | assumption);have q161 : x5_1 < (l1.length : Int) := of_decide_eq_true (by first | (with_reducible assumption) | assumption);obtain ⟨ad161, e161, hx161_0⟩ := Kd.at_int HR1.out x5_1 p161 q161;have hw161_0 := hx161_0;cases e161;replace hx161_0 := (HB.out.cell (World.block_lt_of_cell? w _ hx161_0)).trans hx161_0;replace p161 := eq_true p161;replace q161 := eq_true q161;refine start_ (n := 7) (S := fun w' => w'.cell? ⟨gb160, 0, none⟩ = some (.int .i64 a0_0) ∧ w'.cell? ⟨gb160, 1, none⟩ = some (.int .i64 a0_1) ∧ w'.cell? ⟨gb160, 2, none⟩ = some (.slice A0_2 l0_2.length c0_2) ∧ w'.cell? (ad161.add (x5_1).toNat) = some (.int .i64 (rd l1 x5_1))) (ds := []) #[false, false, false, false, false, false, false] (by kernel_rfl) rfl rfl ⟨(kc1 BK160.out 0).trans rfl, (kc1 BK160.out 1).trans rfl, (kc1 BK160.out 2).trans rfl, ((HB.out.cell (World.block_lt_of_cell? w _ hw161_0)).trans hw161_0)⟩ (fun hHeld => ?_);(generalize wr.drew = w8 at BK160 HB hx161_0 hHeld ⊢);refine pure_ (i := 1) (N := some 13) (v := ?_) (a' := ?_) #[false, true, false, false, false, false, false] rfl rfl (by kernel_rfl) (fun _ _ _ h => h) (Or.inl ⟨by rfl, ?_⟩) ?_ ?_;rotate_left
      ·intro w';go_simp
       with_reducible rfl
      rotate_left
      ·simp only [Act.put, l01_, l02_, l03_, i64_w, i32_w]
       rfl
      refine pure_ (i := 2) (N := some 14) (v := ?_) (a' := ?_) #[false, true, true, false, false, false, false] rfl rfl (by kernel_rfl) (fun _ _ _ h => h) (Or.inl ⟨by rfl, ?_⟩) ?_ ?_;rotate_left
      ·intro w';go_simp
       with_reducible rfl
      rotate_left
      ·simp only [Act.put, l01_, l02_, l03_, i64_w, i32_w]
       rfl
      refine pure_ (i := 3) (N := some 15) (v := ?_) (a' := ?_) #[false, true, true, true, false, false, false] rfl rfl (by kernel_rfl) (fun _ _ _ h => h) (Or.inl ⟨by rfl, ?_⟩) ?_ ?_;rotate_left
      ·intro w';go_simp
       with_reducible rfl
      rotate_left
      ·simp only [Act.put, l01_, l02_, l03_, i64_w, i32_w]
       rfl
      refine take_ (i := 0) (N := some 12) (v := ?_) (a' := ?_) #[true, true, true, true, false, false, false] rfl rfl (by kernel_rfl) (fun _ _ _ h => h) (Or.inl ⟨by rfl, ?_⟩) hHeld ?_ ?_;rotate_left
      ·rintro w' ⟨s0, s1, s2, s3⟩
       go_simp
       with_reducible rfl
      rotate_left
      ·simp only [Act.put, l01_, l02_, l03_, i64_w, i32_w]
       rfl
      refine take_ (i := 4) (N := some 16) (v := ?_) (a' := ?_) #[true, true, true, true, true, false, false] rfl rfl (by kernel_rfl) (fun _ _ _ h => h) (Or.inl ⟨by rfl, ?_⟩) hHeld ?_ ?_;rotate_left
      ·rintro w' ⟨s0, s1, s2, s3⟩
       go_simp
       with_reducible rfl
      rotate_left
      ·simp only [Act.put, l01_, l02_, l03_, i64_w, i32_w]
       rfl
      refine one_ (i := 5) (N := some 17) #[true, true, true, true, true, true, false] rfl rfl (by kernel_rfl) (by decide) (fun K hK => ?_);refine goes_ Try.func71 (by kernel_rfl) rfl #[.agg #[.int .i64 a0_0, .int .i64 a0_1, .slice A0_2 l0_2.length c0_2], .int .i64 (rd l1 x5_1)] (by rfl) rfl rfl (by (try simp only [List.map_toArray, List.map_cons, List.map_nil]); first | done | rfl | (simp only [List.length_drop, List.length_take]; rfl)) ?_
     ·with_reducible refine (cr4_Is.calls k1 a0_0 a0_1 _ _ l0_2 (rd l1 x5_1) false _ ?side1 ?side2 A6.out).mono ?_
      (case side1 => repeat (first | exact (Kd.C_below HR0_2.out HB.out) | (with_reducible refine Kd.C_alloc ?_ _) | (with_reducible refine Kd.C_drewN ?_ _) | (with_reducible refine Kd.C_drew ?_)));(case side2 => exact HC0_2.out)
      rintro e w11 ⟨rfl, hb⟩
      refine ⟨_, rfl, ?_⟩;have n0_ := Ai0.mk (kb1 (g := gb160) (o := .cells #[.int .i64 a0_0, .int .i64 a0_1, .slice A0_2 l0_2.length c0_2] 44 (0, 0)) (by (with_reducible repeat (first | refine kn1 ?_ _ | refine kd1 ?_ | refine ka1 ?_ _)); exact BK160.out) hb);have n1_ := Ai0.mk (bt1 (by repeat (first | (with_reducible first | exact HB.out | apply ba1 | apply pbN | apply bw1 | refine bs1 ?_ GE160.out) | exact HB.out)) hb);clear BK160;clear HB;have BK160 := n0_;have HB := n1_;clear n0_ n1_;(try clear hb);(try clear hb2);(try clear hk);(try clear hi);refine hK.out _ _ ⟨(kc1 BK160.out 0).trans rfl, (kc1 BK160.out 1).trans rfl, (kc1 BK160.out 2).trans rfl, ((HB.out.cell (World.block_lt_of_cell? w _ hw161_0)).trans hw161_0)⟩ (fun hHeld => ?_);clear hK K;refine norm_ (a' := ?_) ?_ ?_;rotate_left
      ·show Act.put _ (some 17) _ = _;simp only [Act.put, l01_, l02_, l03_, i64_w, i32_w]
       rfl
      refine pure_ (i := 6) (N := some 18) (v := ?_) (a' := ?_) #[true, true, true, true, true, true, true] rfl rfl (by kernel_rfl) (fun _ _ _ h => h) (Or.inl ⟨by rfl, ?_⟩) ?_ ?_;rotate_left
      ·intro w';go_simp
       with_reducible rfl
      rotate_left
      ·simp only [Act.put, l01_, l02_, l03_, i64_w, i32_w]
       rfl
      refine done_ (by kernel_rfl) ?_
      try go_wp2
      go_ret
      exact ⟨by first | rfl | (simp [eW0, eW1] <;> rfl) | (simp [*, eW0, eW1] <;> rfl), by repeat (first | (with_reducible first | exact HB.out | apply ba1 | apply pbN | apply bw1 | refine bs1 ?_ GE160.out) | exact HB.out)⟩
     ·with_reducible refine (cr4_Is.calls k1 a0_0 a0_1 _ _ l0_2 (rd l1 x5_1) true _ ?side1 ?side2 A6.out).mono ?_
      (case side1 => repeat (first | exact (Kd.C_below HR0_2.out HB.out) | (with_reducible refine Kd.C_alloc ?_ _) | (with_reducible refine Kd.C_drewN ?_ _) | (with_reducible refine Kd.C_drew ?_)));(case side2 => exact HC0_2.out)
      rintro e w9 ⟨rfl, hb⟩
      refine ⟨_, rfl, ?_⟩;have n0_ := Ai0.mk (kb1 (g := gb160) (o := .cells #[.int .i64 a0_0, .int .i64 a0_1, .slice A0_2 l0_2.length c0_2] 44 (0, 0)) (by (with_reducible repeat (first | refine kn1 ?_ _ | refine kd1 ?_ | refine ka1 ?_ _)); exact BK160.out) hb);have n1_ := Ai0.mk (bt1 (by repeat (first | (with_reducible first | exact HB.out | apply ba1 | apply pbN | apply bw1 | refine bs1 ?_ GE160.out) | exact HB.out)) hb);clear BK160;clear HB;have BK160 := n0_;have HB := n1_;clear n0_ n1_;(try clear hb);(try clear hb2);(try clear hk);(try clear hi);refine hK.out _ _ ⟨(kc1 BK160.out 0).trans rfl, (kc1 BK160.out 1).trans rfl, (kc1 BK160.out 2).trans rfl, ((HB.out.cell (World.block_lt_of_cell? w _ hw161_0)).trans hw161_0)⟩ (fun hHeld => ?_);clear hK K;refine norm_ (a' := ?_) ?_ ?_;rotate_left
      ·show Act.put _ (some 17) _ = _;simp only [Act.put, l01_, l02_, l03_, i64_w, i32_w]
       rfl
      refine pure_ (i := 6) (N := some 18) (v := ?_) (a' := ?_) #[true, true, true, true, true, true, true] rfl rfl (by kernel_rfl) (fun _ _ _ h => h) (Or.inl ⟨by rfl, ?_⟩) ?_ ?_;rotate_left
      ·intro w';go_simp
       with_reducible rfl
      rotate_left
      ·simp only [Act.put, l01_, l02_, l03_, i64_w, i32_w]
       rfl
      refine done_ (by kernel_rfl) ?_
      try go_wp2
      go_roundg k1
      case measure => have := HK1.out; omega
      case rel => exact ⟨(wrap64 (x5_1 + 1)), (by first | rfl | (simp; done) | (simp [*]; done)), H', ⟨by have := HK1.out; omega⟩, ⟨by (with_reducible repeat (first | refine kn1 ?_ _ | refine kd1 ?_ | refine ka1 ?_ _)); exact BK160.out⟩, ⟨by repeat (first | (with_reducible first | exact HB.out | apply ba1 | apply pbN | apply bw1 | refine bs1 ?_ GE160.out) | exact HB.out)⟩⟩
    ·rw [if_neg c5] at H;exact absurd H (by simp)
   ·rw [if_neg c4] at H;have c4b0 : decide (x5_1 < (l1.length : Int)) = false := decide_eq_false c4;clear c4;obtain rfl := Option.some.inj H
    go_wp2
    go_ret
    exact ⟨by first | rfl | (simp [eW0, eW1] <;> rfl) | (simp [*, eW0, eW1] <;> rfl), by repeat (first | (with_reducible first | exact HB.out | apply ba1 | apply pbN | apply bw1 | refine bs1 ?_ GE160.out) | exact HB.out)⟩
def cr4_prime.l0 : Nat → Int → Int → Option (Bool)
 | 0, _, _ => none
 | k + 1, x0, x3 => if x3 < x0 then (if x3 = 0 then (none) else (if (Int.tmod x0 x3) = 0 then (some false) else (cr4_prime.l0 k x0 (wrap64 (x3 + 1))))) else (some true)
def cr4_prime.f (k : Nat) (a0 : Int) : Option (Bool) := cr4_prime.l0 k a0 2
theorem cr4_prime.mono_l : ∀ k, (∀ y0 y1, LeO (cr4_prime.l0 k y0 y1) (cr4_prime.l0 (k + 1) y0 y1))
 | 0 => fun _ _ r h => by simp [cr4_prime.l0] at h
 | k + 1 => by
  have ih0 := cr4_prime.mono_l k
  ·intro y0 y1;unfold cr4_prime.l0
   repeat' first
   | (with_reducible exact ih0 _ _)
   | (with_reducible exact LeO.refl _)
   | (with_reducible exact LeO.none _)
   | (with_reducible refine LeO.ite ?_ ?_)
   | (with_reducible refine LeO.bind ?_ (fun _ => ?_))
   | exact ih0 _ _
   | exact LeO.none _
   | refine LeO.ite ?_ ?_
   | refine LeO.bind ?_ (fun _ => ?_)
theorem cr4_prime.mono : ∀ a0 k, LeO (cr4_prime.f k a0) (cr4_prime.f (k + 1) a0) := by
 intro a0 k;have ih0 := cr4_prime.mono_l k;unfold cr4_prime.f
 repeat' first
   | (with_reducible exact ih0 _ _)
   | (with_reducible exact LeO.refl _)
   | (with_reducible exact LeO.none _)
   | (with_reducible refine LeO.ite ?_ ?_)
   | (with_reducible refine LeO.bind ?_ (fun _ => ?_))
   | exact ih0 _ _
   | exact LeO.none _
   | refine LeO.ite ?_ ?_
   | refine LeO.bind ?_ (fun _ => ?_)
set_option maxHeartbeats 8000000 in
set_option maxRecDepth 100000 in
theorem cr4_prime.calls (k : Nat) (a0 : Int) (r : Bool) (w : World) (h : cr4_prime.f k a0 = some r) :
  Calls Try.prog 76 #[.int .i64 a0] w fun e w' => e = .returned (.bool r) ∧ Drawn0 w w' := by
 have H : (cr4_prime.l0 k a0 2) = some r := h;clear h;have H' := Ai0.mk H;clear H;go_enter Try.func76, Try.ntmps76
 go_wp2
 go_loopg [3] k (fun kq v3 w' => ∃ (x3_1 : Int), v3 = .int .i64 x3_1 ∧ Ai0 (cr4_prime.l0 kq a0 x3_1 = some r) ∧ Ai0 (kq ≤ k) ∧ Drawn0 w w')
 case atStart => exact ⟨(2), (by first | rfl | (simp; done) | (simp [*]; done)), H', ⟨Nat.le_refl _⟩, by repeat (first | exact Drawn0.refl _ | apply Drawn0.step)⟩
 case round =>
  clear H';obtain ⟨x3_1, rfl, HA, HK1, ⟨m1, rfl⟩⟩ := hrel
  cases gk with
  | zero => exact absurd HA.out (by simp [cr4_prime.l0])
  | succ k1 =>
   have H := HA.out;clear HA;simp only [cr4_prime.l0] at H;by_cases c2 : x3_1 < a0
   ·rw [if_pos c2] at H;have c2b0 : decide (x3_1 < a0) = true := decide_eq_true c2;clear c2;by_cases c3 : x3_1 = 0
    ·rw [if_pos c3] at H;exact absurd H (by simp)
    ·rw [if_neg c3] at H;have c3b0 : (x3_1 == 0) = false := beq_eq_false_iff_ne.mpr c3;have c3b1 : (x3_1 != 0) = true := bne_iff_ne.mpr c3;by_cases c4 : (Int.tmod a0 x3_1) = 0
     ·rw [if_pos c4] at H;have c4b0 : ((Int.tmod a0 x3_1) == 0) = true := beq_iff_eq.mpr c4;have c4b1 : ((Int.tmod a0 x3_1) != 0) = false := bne_eq_false_iff_eq.mpr c4;clear c4;obtain rfl := Option.some.inj H
      go_wp2
      go_ret
      exact ⟨by first | rfl | (simp; done) | (simp [*]; done), by repeat (first | exact Drawn0.refl _ | apply Drawn0.step)⟩
     ·rw [if_neg c4] at H;have c4b0 : ((Int.tmod a0 x3_1) == 0) = false := beq_eq_false_iff_ne.mpr c4;have c4b1 : ((Int.tmod a0 x3_1) != 0) = true := bne_iff_ne.mpr c4;have H' := Ai0.mk H;clear H
      go_wp2
      go_roundg k1
      case measure => have := HK1.out; omega
      case rel => exact ⟨(wrap64 (x3_1 + 1)), (by first | rfl | (simp; done) | (simp [*]; done)), H', ⟨by have := HK1.out; omega⟩, by repeat (first | exact Drawn0.refl _ | apply Drawn0.step)⟩
   ·rw [if_neg c2] at H;have c2b0 : decide (x3_1 < a0) = false := decide_eq_false c2;clear c2;obtain rfl := Option.some.inj H
    go_wp2
    go_ret
    exact ⟨by first | rfl | (simp; done) | (simp [*]; done), by repeat (first | exact Drawn0.refl _ | apply Drawn0.step)⟩
def cr4_digits.l0 : Nat → Int → Int → Int → List Int → Int → Option (List Int)
 | 0, _, _, _, _, _ => none
 | k + 1, x0, x1, x2, x7, x8 => if x8 < x2 then (if x1 = 0 then (none) else (if 0 ≤ x8 then (if x8 < (x7.length : Int) then (cr4_digits.l0 k (wrap64 (Int.tdiv x0 x1)) x1 x2 (x7.set (x8 : Int).toNat (Int.tmod x0 x1)) (wrap64 (x8 + 1))) else (none)) else (none))) else (some x7)
def cr4_digits.f (k : Nat) (a0 : Int) (a1 : Int) (a2 : Int) : Option (List Int) := if 0 ≤ a2 then (if (a2 : Int).toNat ≤ 35184372088832 then (cr4_digits.l0 k a0 a1 a2 (List.replicate (a2 : Int).toNat 0) 0) else (none)) else (none)
theorem cr4_digits.mono_l : ∀ k, (∀ y0 y1 y2 y3 y4, LeO (cr4_digits.l0 k y0 y1 y2 y3 y4) (cr4_digits.l0 (k + 1) y0 y1 y2 y3 y4))
 | 0 => fun _ _ _ _ _ r h => by simp [cr4_digits.l0] at h
 | k + 1 => by
  have ih0 := cr4_digits.mono_l k
  ·intro y0 y1 y2 y3 y4;unfold cr4_digits.l0
   repeat' first
   | (with_reducible exact ih0 _ _ _ _ _)
   | (with_reducible exact LeO.refl _)
   | (with_reducible exact LeO.none _)
   | (with_reducible refine LeO.ite ?_ ?_)
   | (with_reducible refine LeO.bind ?_ (fun _ => ?_))
   | exact ih0 _ _ _ _ _
   | exact LeO.none _
   | refine LeO.ite ?_ ?_
   | refine LeO.bind ?_ (fun _ => ?_)
theorem cr4_digits.mono : ∀ a0 a1 a2 k, LeO (cr4_digits.f k a0 a1 a2) (cr4_digits.f (k + 1) a0 a1 a2) := by
 intro a0 a1 a2 k;have ih0 := cr4_digits.mono_l k;unfold cr4_digits.f
 repeat' first
   | (with_reducible exact ih0 _ _ _ _ _)
   | (with_reducible exact LeO.refl _)
   | (with_reducible exact LeO.none _)
   | (with_reducible refine LeO.ite ?_ ?_)
   | (with_reducible refine LeO.bind ?_ (fun _ => ?_))
   | exact ih0 _ _ _ _ _
   | exact LeO.none _
   | refine LeO.ite ?_ ?_
   | refine LeO.bind ?_ (fun _ => ?_)
set_option maxHeartbeats 8000000 in
set_option maxRecDepth 100000 in
theorem cr4_digits.calls (k : Nat) (a0 : Int) (a1 : Int) (a2 : Int) (r : List Int) (w : World) (h : cr4_digits.f k a0 a1 a2 = some r) :
  Calls Try.prog 80 #[.int .i64 a0, .int .i64 a1, .int .i64 a2] w fun e w' => ∃ v0_ : Value, e = .returned (v0_) ∧ Kd.R (Kd.int .i64) 3 w' w.heap.size (fun _ => True) v0_ r ∧ Below w.heap.size w w' := by
 have HB := Ai0.mk (Below.refl w.heap.size w);have H : (if 0 ≤ a2 then (if (a2 : Int).toNat ≤ 35184372088832 then (cr4_digits.l0 k a0 a1 a2 (List.replicate (a2 : Int).toNat 0) 0) else (none)) else (none)) = some r := h;clear h;by_cases c4 : 0 ≤ a2
 ·rw [if_pos c4] at H;have c4b0 := eq_true c4;have c4b1 : decide (0 ≤ a2) = true := decide_eq_true c4;clear c4;by_cases c5 : (a2 : Int).toNat ≤ 35184372088832
  ·rw [if_pos c5] at H;have c5b0 := eq_true c5;have c5b1 : decide ((a2 : Int).toNat ≤ 35184372088832) = true := decide_eq_true c5;clear c5;obtain ⟨y163, hy163⟩ : ∃ y_ : List Int, y_ = (List.replicate (a2 : Int).toNat 0) := ⟨_, rfl⟩
   replace H : (cr4_digits.l0 k a0 a1 a2 y163 0) = some r := by first | (rw [hy163]; with_reducible exact H) | (have H2_ := (Option.bind_some _ _).symm.trans H; rw [hy163]; with_reducible exact H2_) | (have H2_ := (Option.bind_some _ _).symm.trans H; with_reducible exact H2_) | with_reducible exact H | (rw [hy163]; exact H) | exact H
   have Ny163 := Ai0.mk hy163;clear hy163;have H' := Ai0.mk H;clear H;go_enter Try.func80, Try.ntmps80
   go_wp2_with (first | ((with_reducible refine gate_dst (N := 10) rfl ?_); refine Kd.R_make (Kd.int .i64) _ 3 rfl (N := 10) rfl 25 _ _ rfl a2 rfl rfl Try.underlying25 (.int .i64 0) 8 info3 rfl (by decide) (by omega) 0 (ok := fun _ => True) (okp := fun _ => True) rfl (fun _ hk => hk) trivial (of_decide_eq_true (by first | (with_reducible assumption) | assumption)) (Nat.le_trans (Nat.mul_le_mul_right _ (of_decide_eq_true (by first | (with_reducible assumption) | assumption) : a2.toNat ≤ 35184372088832)) (by omega)) (Below.refl _ _) (Nat.le_refl _) ?_; intro v164 w6 ho7 hb hg_ hnew_; clear hg_ hnew_; (first | rw [← Ny163.out] at ho7 | (simp only [Int.reduceToNat] at ho7; rw [← Ny163.out] at ho7)); have n0_ := Ai0.mk (Kd.R_lower ho7 (bz1 (by repeat (first | (with_reducible first | exact HB.out | apply ba1 | apply pbN | apply bw1) | exact HB.out)))); have n1_ := Ai0.mk (bt1 (by repeat (first | (with_reducible first | exact HB.out | apply ba1 | apply pbN | apply bw1) | exact HB.out)) hb); clear HB; have HO165 := n0_; have HB := n1_; clear n0_ n1_; clear hb ho7))
   go_loopg [0, 8] k (fun kq v0 v8 w' => ∃ (x0_1 : Int) (x7_1 : List Int) (x8_1 : Int), v0 = .int .i64 x0_1 ∧ v8 = .int .i64 x8_1 ∧ Ai0 (cr4_digits.l0 kq x0_1 a1 a2 x7_1 x8_1 = some r) ∧ Ai0 (kq ≤ k) ∧ Ai0 (Kd.R (Kd.int .i64) 3 w' w.heap.size (fun _ => True) v164 x7_1) ∧ Ai0 (Below w.heap.size w w'))
   case atStart => exact ⟨(a0), (y163), (0), (by first | rfl | (simp; done) | (simp [*]; done)), (by first | rfl | (simp; done) | (simp [*]; done)), H', ⟨Nat.le_refl _⟩, ⟨by (with_reducible repeat (first | apply Kd.Ra1 | apply Kd.Rn1 | apply Kd.Rd1)); exact HO165.out⟩, ⟨by repeat (first | (with_reducible first | exact HB.out | apply ba1 | apply pbN | apply bw1) | exact HB.out)⟩⟩
   case round =>
    clear H'
    try clear p2
    try clear c4
    try clear c4b0
    try clear c4b1
    try clear c5
    try clear c5b0
    try clear c5b1
    obtain ⟨x0_1, x7_1, x8_1, rfl, rfl, HA, HK1, HO_7, HB⟩ := hrel
    cases gk with
    | zero => exact absurd HA.out (by simp [cr4_digits.l0])
    | succ k1 =>
     have H := HA.out;clear HA;simp only [cr4_digits.l0] at H;by_cases c8 : x8_1 < a2
     ·rw [if_pos c8] at H;have c8b0 : decide (x8_1 < a2) = true := decide_eq_true c8;clear c8;by_cases c9 : a1 = 0
      ·rw [if_pos c9] at H;exact absurd H (by simp)
      ·rw [if_neg c9] at H;have c9b0 : (a1 == 0) = false := beq_eq_false_iff_ne.mpr c9;have c9b1 : (a1 != 0) = true := bne_iff_ne.mpr c9;by_cases c10 : 0 ≤ x8_1
       ·rw [if_pos c10] at H;have c10b0 : decide (0 ≤ x8_1) = true := decide_eq_true c10;clear c10;by_cases c11 : x8_1 < (x7_1.length : Int)
        ·rw [if_pos c11] at H;have c11b0 : decide (x8_1 < (x7_1.length : Int)) = true := decide_eq_true c11;clear c11;(obtain ⟨y166, hy166⟩ : ∃ y_ : List Int, y_ = (x7_1.set (x8_1 : Int).toNat (Int.tmod x0_1 a1)) := ⟨_, rfl⟩);(replace H : (cr4_digits.l0 k1 (wrap64 (Int.tdiv x0_1 a1)) a1 a2 y166 (wrap64 (x8_1 + 1))) = some r := by first | (rw [hy166]; with_reducible exact H) | (have H2_ := (Option.bind_some _ _).symm.trans H; rw [hy166]; with_reducible exact H2_) | (have H2_ := (Option.bind_some _ _).symm.trans H; with_reducible exact H2_) | with_reducible exact H | (rw [hy166]; exact H) | exact H);have Ny166 := Ai0.mk hy166;clear hy166;have H' := Ai0.mk H;clear H;have p12 : 0 ≤ (x8_1 : Int) := of_decide_eq_true (by first | (with_reducible assumption) | assumption);have q12 : (x8_1 : Int) < ((x7_1.length : Int) : Int) := of_decide_eq_true (by first | (with_reducible assumption) | assumption);obtain ⟨go12, co12, eo12, gb12, gl12, cl12, HG12⟩ := Kd.R_form HO_7.out (by omega);(first | cases eo12 | (injection eo12 with ea_ en_ ec_; (first | subst ea_ | (injection ea_ with ea_; subst ea_)); subst ec_; clear en_));have GB12 := Ai0.mk gb12;have GG12 := Ai0.mk HG12;clear gb12 gl12 HG12;obtain ⟨hx12_0, hf12_0⟩ := Kd.R_celln 0 HO_7.out (x8_1 : Int) p12 q12;replace p12 := eq_true p12;replace q12 := eq_true q12;have HP13 := Kd.R_putg HO_7.out (x8_1 : Int) (Int.tmod x0_1 a1)
         go_wp2_with (first | ((with_reducible refine gate_store (t := 3) (p := 21) rfl ?_); refine store_event (t := 3) (p := 21) (v := ?vo_w14) (w1 := (wr.setCell ⟨go12, (x8_1 : Int).toNat, none⟩ (.int .i64 (Int.tmod x0_1 a1)))) ?hg ?ho ?hn ?hr ?_; (case ho => rfl); (case hg => rfl); (case hn => rfl); (case hr => first | (go_simp; done) | (go_simp; rfl)); intro w14 hw; have hg : wr.grownBy w14 (some go12) := (by rw [hw]; exact HP13.2); have hp_ : Kd.R (Kd.int .i64) 3 w14 w.heap.size (fun _ => True) (.slice (some ⟨go12, 0, none⟩) x7_1.length co12) y166 := (by rw [hw, Ny166.out]; exact HP13.1); clear HP13; have n0_ := Ai0.mk (hp_); have n1_ := Ai0.mk ((by rw [hw]; exact bs1 (HB.out) GB12.out : Below w.heap.size w w14)); clear HO_7; clear HB; have HO_7 := n0_; have HB := n1_; clear n0_ n1_; clear hg hw hp_))
         go_roundg k1
         case measure => have := HK1.out; omega
         case rel => exact ⟨(wrap64 (Int.tdiv x0_1 a1)), (y166), (wrap64 (x8_1 + 1)), (by first | rfl | (simp; done) | (simp [*]; done)), (by first | rfl | (simp; done) | (simp [*]; done)), H', ⟨by have := HK1.out; omega⟩, ⟨by (with_reducible repeat (first | apply Kd.Ra1 | apply Kd.Rn1 | apply Kd.Rd1)); exact HO_7.out⟩, ⟨by repeat (first | (with_reducible first | exact HB.out | apply ba1 | apply pbN | apply bw1) | exact HB.out)⟩⟩
        ·rw [if_neg c11] at H;exact absurd H (by simp)
       ·rw [if_neg c10] at H;exact absurd H (by simp)
     ·rw [if_neg c8] at H;have c8b0 : decide (x8_1 < a2) = false := decide_eq_false c8;clear c8;obtain rfl := Option.some.inj H
      go_wp2
      go_ret
      exact ⟨_, by first | rfl | (simp [eW0, eW1] <;> rfl) | (simp [*, eW0, eW1] <;> rfl), by (with_reducible repeat (first | apply Kd.Ra1 | apply Kd.Rn1 | apply Kd.Rd1)); exact HO_7.out, by repeat (first | (with_reducible first | exact HB.out | apply ba1 | apply pbN | apply bw1) | exact HB.out)⟩
  ·rw [if_neg c5] at H;exact absurd H (by simp)
 ·rw [if_neg c4] at H;exact absurd H (by simp)
mutual
def cr4_divides.l0 : Nat → List Int → Int → Int → List Int → Int → Option (Bool)
 | 0, _, _, _, _, _ => none
 | k + 1, x0, x2, x7, x8, x9 => if x9 ≥ x7 then (if 0 ≤ x9 then (if x9 < (x8.length : Int) then (cr4_divides.l1 k x0 x2 x7 x8 x9 (rd x8 x9) 0) else (none)) else (none)) else (cr4_divides.l2 k x8 0)
def cr4_divides.l1 : Nat → List Int → Int → Int → List Int → Int → Int → Int → Option (Bool)
 | 0, _, _, _, _, _, _, _ => none
 | k + 1, x0, x2, x7, x8, x9, x10, x11 => if x11 < x7 then (if 0 ≤ (wrap64 ((wrap64 (x9 - x7)) + x11)) then (if (wrap64 ((wrap64 (x9 - x7)) + x11)) < (x8.length : Int) then (if 0 ≤ x11 then (if x11 < (x0.length : Int) then (if x2 = 0 then (none) else (cr4_divides.l1 k x0 x2 x7 (x8.set ((wrap64 ((wrap64 (x9 - x7)) + x11)) : Int).toNat (Int.tmod (wrap64 ((rd x8 (wrap64 ((wrap64 (x9 - x7)) + x11))) + (wrap64 ((wrap64 (x2 - x10)) * (rd x0 x11))))) x2)) x9 x10 (wrap64 (x11 + 1)))) else (none)) else (none)) else (none)) else (none)) else (if 0 ≤ x9 then (if x9 < (x8.length : Int) then (cr4_divides.l0 k x0 x2 x7 (x8.set (x9 : Int).toNat 0) (wrap64 (x9 - 1))) else (none)) else (none))
def cr4_divides.l2 : Nat → List Int → Int → Option (Bool)
 | 0, _, _ => none
 | k + 1, x8, x12 => if x12 < (x8.length : Int) then (if 0 ≤ x12 then (if (rd x8 x12) = 0 then (cr4_divides.l2 k x8 (wrap64 (x12 + 1))) else (some false)) else (none)) else (some true)
end
def cr4_divides.f (k : Nat) (l0 : List Int) (l1 : List Int) (a2 : Int) : Option (Bool) := (some (([] : List Int) : List Int)).bind fun y167 => (if y167.length + l1.length < 17592186044416 then ((some (y167 ++ l1 : List Int)).bind fun y170 => (if y170.length < 17592186044416 then ((some (y170 ++ [1] : List Int)).bind fun y173 => (cr4_divides.l0 k l0 a2 (l0.length : Int) y173 (wrap64 ((y173.length : Int) - 1)))) else (none))) else (none))
theorem cr4_divides.mono_l : ∀ k, (∀ y0 y1 y2 y3 y4, LeO (cr4_divides.l0 k y0 y1 y2 y3 y4) (cr4_divides.l0 (k + 1) y0 y1 y2 y3 y4)) ∧ (∀ y0 y1 y2 y3 y4 y5 y6, LeO (cr4_divides.l1 k y0 y1 y2 y3 y4 y5 y6) (cr4_divides.l1 (k + 1) y0 y1 y2 y3 y4 y5 y6)) ∧ (∀ y0 y1, LeO (cr4_divides.l2 k y0 y1) (cr4_divides.l2 (k + 1) y0 y1))
 | 0 => ⟨fun _ _ _ _ _ r h => by simp [cr4_divides.l0] at h, fun _ _ _ _ _ _ _ r h => by simp [cr4_divides.l1] at h, fun _ _ r h => by simp [cr4_divides.l2] at h⟩
 | k + 1 => by
  obtain ⟨ih0, ih1, ih2⟩ := cr4_divides.mono_l k;refine ⟨?_, ?_, ?_⟩
  ·intro y0 y1 y2 y3 y4;unfold cr4_divides.l0
   repeat' first
   | (with_reducible exact ih0 _ _ _ _ _)
   | (with_reducible exact ih1 _ _ _ _ _ _ _)
   | (with_reducible exact ih2 _ _)
   | (with_reducible exact LeO.refl _)
   | (with_reducible exact LeO.none _)
   | (with_reducible refine LeO.ite ?_ ?_)
   | (with_reducible refine LeO.bind ?_ (fun _ => ?_))
   | exact ih0 _ _ _ _ _
   | exact ih1 _ _ _ _ _ _ _
   | exact ih2 _ _
   | exact LeO.none _
   | refine LeO.ite ?_ ?_
   | refine LeO.bind ?_ (fun _ => ?_)
  ·intro y0 y1 y2 y3 y4 y5 y6;unfold cr4_divides.l1
   repeat' first
   | (with_reducible exact ih0 _ _ _ _ _)
   | (with_reducible exact ih1 _ _ _ _ _ _ _)
   | (with_reducible exact ih2 _ _)
   | (with_reducible exact LeO.refl _)
   | (with_reducible exact LeO.none _)
   | (with_reducible refine LeO.ite ?_ ?_)
   | (with_reducible refine LeO.bind ?_ (fun _ => ?_))
   | exact ih0 _ _ _ _ _
   | exact ih1 _ _ _ _ _ _ _
   | exact ih2 _ _
   | exact LeO.none _
   | refine LeO.ite ?_ ?_
   | refine LeO.bind ?_ (fun _ => ?_)
  ·intro y0 y1;unfold cr4_divides.l2
   repeat' first
   | (with_reducible exact ih0 _ _ _ _ _)
   | (with_reducible exact ih1 _ _ _ _ _ _ _)
   | (with_reducible exact ih2 _ _)
   | (with_reducible exact LeO.refl _)
   | (with_reducible exact LeO.none _)
   | (with_reducible refine LeO.ite ?_ ?_)
   | (with_reducible refine LeO.bind ?_ (fun _ => ?_))
   | exact ih0 _ _ _ _ _
   | exact ih1 _ _ _ _ _ _ _
   | exact ih2 _ _
   | exact LeO.none _
   | refine LeO.ite ?_ ?_
   | refine LeO.bind ?_ (fun _ => ?_)
theorem cr4_divides.mono : ∀ a0 a1 a2 k, LeO (cr4_divides.f k a0 a1 a2) (cr4_divides.f (k + 1) a0 a1 a2) := by
 intro a0 a1 a2 k;obtain ⟨ih0, ih1, ih2⟩ := cr4_divides.mono_l k;unfold cr4_divides.f
 repeat' first
   | (with_reducible exact ih0 _ _ _ _ _)
   | (with_reducible exact ih1 _ _ _ _ _ _ _)
   | (with_reducible exact ih2 _ _)
   | (with_reducible exact LeO.refl _)
   | (with_reducible exact LeO.none _)
   | (with_reducible refine LeO.ite ?_ ?_)
   | (with_reducible refine LeO.bind ?_ (fun _ => ?_))
   | exact ih0 _ _ _ _ _
   | exact ih1 _ _ _ _ _ _ _
   | exact ih2 _ _
   | exact LeO.none _
   | refine LeO.ite ?_ ?_
   | refine LeO.bind ?_ (fun _ => ?_)
def cr4_divides.T11 : Bool × List (List Nat × List Nat) := (true, [([], []), ([], []), ([], []), ([1, 2], [1, 2]), ([], []), ([3, 4], [3, 4]), ([], []), ([], []), ([], []), ([7, 8], [7, 8]), ([], []), ([9, 10], [9, 10]), ([6, 11], [6, 11]), ([12], [12]), ([], []), ([], []), ([14, 15], [14, 15]), ([], []), ([], []), ([17, 18], [17, 18]), ([19], [19]), ([16, 20], [16, 20]), ([13, 21], [13, 21]), ([], []), ([22, 23], [22, 23]), ([0, 5, 0, 1, 2, 3, 4, 5, 6, 7, 8, 9, 10, 11, 12, 13, 14, 15, 16, 17, 18, 19, 20, 21, 22, 23, 24], [0, 5]), ([25, 24, 0, 1, 2, 3, 4, 5, 6, 7, 8, 9, 10, 11, 12, 13, 14, 15, 16, 17, 18, 19, 20, 21, 22, 23, 24], [24, 25])])
def cr4_divides.B11 : List Nat := [0, 0, 0, 6, 0, 30, 0, 0, 0, 384, 0, 1920, 4032, 8128, 0, 0, 49152, 0, 0, 393216, 917504, 2080768, 4194240, 0, 16777152, 33554431, 67108863]
theorem cr4_divides.tab11 : rtab .any (opsOf Try.f82 11) = cr4_divides.T11 := by kernel_rfl
theorem cr4_divides.bits11 : waitsOk cr4_divides.T11.2 cr4_divides.B11 = true := by kernel_rfl
set_option maxHeartbeats 8000000 in
set_option maxRecDepth 100000 in
theorem cr4_divides.calls (k : Nat) (A0 : Option Addr) (c0 : Nat) (l0 : List Int) (A1 : Option Addr) (c1 : Nat) (l1 : List Int) (a2 : Int) (r : Bool) (w : World) (hr0 : Kd.C (Kd.int .i64) w A0 l0.length l0) (hc0 : l0.length ≤ c0) (hr1 : Kd.C (Kd.int .i64) w A1 l1.length l1) (hc1 : l1.length ≤ c1) (h : cr4_divides.f k l0 l1 a2 = some r) :
  Calls Try.prog 82 #[.slice A0 l0.length c0, .slice A1 l1.length c1, .int .i64 a2] w fun e w' => e = .returned (.bool r) ∧ Below w.heap.size w w' := by
 have HR0 := Ai0.mk hr0;have HC0 := Ai0.mk hc0;clear hr0 hc0;have HR1 := Ai0.mk hr1;have HC1 := Ai0.mk hc1;clear hr1 hc1;have HB := Ai0.mk (Below.refl w.heap.size w);have H : ((some (([] : List Int) : List Int)).bind fun y167 => (if y167.length + l1.length < 17592186044416 then ((some (y167 ++ l1 : List Int)).bind fun y170 => (if y170.length < 17592186044416 then ((some (y170 ++ [1] : List Int)).bind fun y173 => (cr4_divides.l0 k l0 a2 (l0.length : Int) y173 (wrap64 ((y173.length : Int) - 1)))) else (none))) else (none))) = some r := h;clear h;obtain ⟨y167, hy167⟩ : ∃ y_ : List Int, y_ = (([] : List Int)) := ⟨_, rfl⟩
 replace H : (if y167.length + l1.length < 17592186044416 then ((some (y167 ++ l1 : List Int)).bind fun y170 => (if y170.length < 17592186044416 then ((some (y170 ++ [1] : List Int)).bind fun y173 => (cr4_divides.l0 k l0 a2 (l0.length : Int) y173 (wrap64 ((y173.length : Int) - 1)))) else (none))) else (none)) = some r := by first | (rw [hy167]; with_reducible exact H) | (have H2_ := (Option.bind_some _ _).symm.trans H; rw [hy167]; with_reducible exact H2_) | (have H2_ := (Option.bind_some _ _).symm.trans H; with_reducible exact H2_) | with_reducible exact H | (rw [hy167]; exact H) | exact H
 have Ny167 := Ai0.mk hy167;clear hy167;by_cases c4 : y167.length + l1.length < 17592186044416
 ·rw [if_pos c4] at H;have LMc4 := Ai0.mk c4;clear c4;obtain ⟨y170, hy170⟩ : ∃ y_ : List Int, y_ = (y167 ++ l1) := ⟨_, rfl⟩
  replace H : (if y170.length < 17592186044416 then ((some (y170 ++ [1] : List Int)).bind fun y173 => (cr4_divides.l0 k l0 a2 (l0.length : Int) y173 (wrap64 ((y173.length : Int) - 1)))) else (none)) = some r := by first | (rw [hy170]; with_reducible exact H) | (have H2_ := (Option.bind_some _ _).symm.trans H; rw [hy170]; with_reducible exact H2_) | (have H2_ := (Option.bind_some _ _).symm.trans H; with_reducible exact H2_) | with_reducible exact H | (rw [hy170]; exact H) | exact H
  have Ny170 := Ai0.mk hy170;clear hy170;by_cases c5 : y170.length < 17592186044416
  ·rw [if_pos c5] at H;have LMc5 := Ai0.mk c5;clear c5;obtain ⟨y173, hy173⟩ : ∃ y_ : List Int, y_ = (y170 ++ [1]) := ⟨_, rfl⟩
   replace H : (cr4_divides.l0 k l0 a2 (l0.length : Int) y173 (wrap64 ((y173.length : Int) - 1))) = some r := by first | (rw [hy173]; with_reducible exact H) | (have H2_ := (Option.bind_some _ _).symm.trans H; rw [hy173]; with_reducible exact H2_) | (have H2_ := (Option.bind_some _ _).symm.trans H; with_reducible exact H2_) | with_reducible exact H | (rw [hy173]; exact H) | exact H
   have Ny173 := Ai0.mk hy173;clear hy173;have H' := Ai0.mk H;clear H;go_enter Try.func82, Try.ntmps82
   go_wp2_with (first | ((with_reducible refine gate_dst (N := 15) rfl ?_); refine Kd.R_lit (Kd.int .i64) _ 3 ?hg (N := 15) ?hd (xs := ([] : List Int)) (inner := []) (ok := fun _ => True) (okp := fun _ => True) ?hr ?hp (fun _ hk => hk) trivial (Below.refl _ _) (Nat.le_refl _) (by simp) ?_; (case hd => rfl); (case hg => rfl); (case hr => first | (go_simp; done) | (go_simp; rfl)); (case hp => exact (Reps.none _ _)); intro v168 w6 ho7 hb hg_ hnew_; clear hg_ hnew_; (first | rw [← Ny167.out] at ho7 | (simp only [Int.reduceToNat] at ho7; rw [← Ny167.out] at ho7)); have n0_ := Ai0.mk (Kd.R_lower ho7 (bz1 (by repeat (first | (with_reducible first | exact HB.out | apply ba1 | apply pbN | apply bw1) | exact HB.out)))); have n1_ := Ai0.mk (bt1 (by repeat (first | (with_reducible first | exact HB.out | apply ba1 | apply pbN | apply bw1) | exact HB.out)) hb); clear HB; have HO169 := n0_; have HB := n1_; clear n0_ n1_; clear hb ho7) | ((with_reducible refine gate_builtin (b := .append) (xs := #[.tmp 15, .tmp 16]) rfl ?_); at_builtin; refine Kd.R_append_rows (Kd.int .i64) (w0 := w) w.heap.size rfl (.tmp 15) (.tmp 16) 25 3 (.int .i64 0) 8 rfl Try.underlying25 info3 rfl (by decide) (by omega) v168 y167 l1 _ _ _ (fun _ => True) (fun _ => False) rfl rfl ?aO ?aR (fun _ _ h => h) (fun _ h => h.elim) ?aF ?aB ?aS ?aL ?_; (case aR => repeat (first | exact (Kd.C_below HR1.out HB.out) | (with_reducible refine Kd.C_alloc ?_ _) | (with_reducible refine Kd.C_drewN ?_ _) | (with_reducible refine Kd.C_drew ?_))); (case aB => exact (by repeat (first | (with_reducible first | exact HB.out | apply ba1 | apply pbN | apply bw1) | exact HB.out))); (case aF => exact (fun _ _ => trivial)); (case aO => exact (by (with_reducible repeat (first | apply Kd.Ra1 | apply Kd.Rn1 | apply Kd.Rd1)); exact HO169.out)); (case aS => exact (bz1 (by repeat (first | (with_reducible first | exact HB.out | apply ba1 | apply pbN | apply bw1) | exact HB.out)))); (case aL => have := LMc4.out; omega); intro v171 w8 ho hb hg hat; rw [← Ny170.out] at ho; have n0_ := Ai0.mk (hb); have n1_ := Ai0.mk (ho); clear HB; clear HO169; have HB := n0_; have HO172 := n1_; clear n0_ n1_; clear ho hb hg hat) | ((with_reducible refine gate_builtin (b := .append) (xs := #[.tmp 18, .tmp 19]) rfl ?_); at_builtin; refine Kd.R_append (Kd.int .i64) (w0 := w) w.heap.size rfl (.tmp 18) (.tmp 19) 25 3 (.int .i64 0) 8 rfl Try.underlying25 info3 rfl (by decide) (by omega) v171 y170 1 [.int .i64 1] (fun _ => True) (fun _ => False) rfl rfl ?aP (fun _ hk => hk.elim) ?aF ?aO ?aB ?aS ?aL ?_; (case aP => exact rfl); (case aB => exact (by repeat (first | (with_reducible first | exact HB.out | apply ba1 | apply pbN | apply bw1) | exact HB.out))); (case aF => exact (fun _ _ => trivial)); (case aO => exact (by (with_reducible repeat (first | apply Kd.Ra1 | apply Kd.Rn1 | apply Kd.Rd1)); exact HO172.out)); (case aS => exact (bz1 (by repeat (first | (with_reducible first | exact HB.out | apply ba1 | apply pbN | apply bw1) | exact HB.out)))); (case aL => have := LMc5.out; omega); intro v174 w9 ho hb hg hat; rw [← Ny173.out] at ho; have n0_ := Ai0.mk (hb); have n1_ := Ai0.mk (ho); clear HB; clear HO172; have HB := n0_; have HO175 := n1_; clear n0_ n1_; clear ho hb hg hat; obtain ⟨Ao10, co10, eo10⟩ := Kd.R_slice HO175.out; subst eo10))
   go_loopg [9] k (fun kq v9 w' => ∃ (x8_1 : List Int) (x9_1 : Int), v9 = .int .i64 x9_1 ∧ Ai0 (cr4_divides.l0 kq l0 a2 (l0.length : Int) x8_1 x9_1 = some r) ∧ Ai0 (kq ≤ k) ∧ Ai0 (Kd.R (Kd.int .i64) 3 w' w.heap.size (fun _ => True) (.slice Ao10 y173.length co10) x8_1) ∧ Ai0 (Below w.heap.size w w'))
   case atStart => exact ⟨(y173), (wrap64 ((y173.length : Int) - 1)), (by first | rfl | (simp; done) | (simp [*]; done)), H', ⟨Nat.le_refl _⟩, ⟨by (with_reducible repeat (first | apply Kd.Ra1 | apply Kd.Rn1 | apply Kd.Rd1)); exact HO175.out⟩, ⟨by repeat (first | (with_reducible first | exact HB.out | apply ba1 | apply pbN | apply bw1) | exact HB.out)⟩⟩
   case round =>
    clear H'
    try clear c1
    try clear p2
    try clear c4
    try clear c5
    try clear p6
    try clear c8
    obtain ⟨x8_1, x9_1, rfl, HA, HK1, HO_8, HB⟩ := hrel;have hl8_1 := (Kd.R_reads' HO_8.out).1;rw [hl8_1] at HO_8;(try simp only [hl8_1])
    cases gk with
    | zero => exact absurd HA.out (by simp [cr4_divides.l0])
    | succ k1 =>
     have H := HA.out;clear HA;simp only [cr4_divides.l0] at H;by_cases c11 : x9_1 ≥ (l0.length : Int)
     ·rw [if_pos c11] at H;have c11b0 : decide ((l0.length : Int) ≤ x9_1) = true := decide_eq_true c11;(try (have c11b0h0 := c11b0; simp only [hl8_1] at c11b0h0));clear c11;by_cases c12 : 0 ≤ x9_1
      ·rw [if_pos c12] at H;have c12b0 : decide (0 ≤ x9_1) = true := decide_eq_true c12;clear c12;by_cases c13 : x9_1 < (x8_1.length : Int)
       ·rw [if_pos c13] at H;have c13b0 : decide (x9_1 < (x8_1.length : Int)) = true := decide_eq_true c13;(try (have c13b0h0 := c13b0; simp only [hl8_1] at c13b0h0));clear c13;have H' := Ai0.mk H;clear H;have p176 : 0 ≤ (x9_1 : Int) := of_decide_eq_true (by first | (with_reducible assumption) | assumption);have q176 : x9_1 < (x8_1.length : Int) := of_decide_eq_true (by first | (with_reducible assumption) | assumption);obtain ⟨ad176, e176, hx176_0⟩ := Kd.at_int (Kd.R_reads' HO_8.out).2.2 x9_1 p176 q176;cases e176;replace p176 := eq_true p176;replace q176 := eq_true q176
        go_wp2
        go_loopg [11] k1 (fun kq v11 w' => ∃ (x8_2 : List Int) (x11_2 : Int), v11 = .int .i64 x11_2 ∧ Ai0 (cr4_divides.l1 kq l0 a2 (l0.length : Int) x8_2 x9_1 (rd x8_1 x9_1) x11_2 = some r) ∧ Ai0 (kq ≤ k1) ∧ Ai0 (Kd.R (Kd.int .i64) 3 w' w.heap.size (fun _ => True) (.slice (some ad176) x8_1.length co10) x8_2) ∧ Ai0 (Below w.heap.size w w'))
        case atStart => exact ⟨(x8_1), (0), (by first | rfl | (simp; done) | (simp [*]; done)), H', ⟨Nat.le_refl _⟩, ⟨by (try simp only [hl8_1]); (with_reducible repeat (first | apply Kd.Ra1 | apply Kd.Rn1 | apply Kd.Rd1)); exact HO_8.out⟩, ⟨by repeat (first | (with_reducible first | exact HB.out | apply ba1 | apply pbN | apply bw1) | exact HB.out)⟩⟩
        case round =>
         clear H'
         try clear c1
         try clear p1
         try clear q1
         try clear hx1
         try clear p2
         try clear c4
         try clear c5
         try clear p6
         try clear c8
         try clear c11
         try clear c11b0
         try clear c12
         try clear c12b0
         try clear c13
         try clear c13b0
         try clear hx176_0
         try clear p176
         try clear p2
         try clear p6
         try clear q176
         obtain ⟨x8_2, x11_2, rfl, HA, HK2, HO_8, HB⟩ := hrel;have hl8_2 := (Kd.R_reads' HO_8.out).1;rw [hl8_2] at HO_8;(try simp only [hl8_2])
         cases gk with
         | zero => exact absurd HA.out (by simp [cr4_divides.l1])
         | succ k2 =>
          have H := HA.out;clear HA;simp only [cr4_divides.l1] at H;by_cases c14 : x11_2 < (l0.length : Int)
          ·rw [if_pos c14] at H;have c14b0 : decide (x11_2 < (l0.length : Int)) = true := decide_eq_true c14;(try (have c14b0h0 := c14b0; simp only [hl8_1] at c14b0h0));(try (have c14b0h1 := c14b0; simp only [hl8_2] at c14b0h1));clear c14;(obtain ⟨ji15, hji15⟩ : ∃ j_ : Int, (wrap64 ((wrap64 (x9_1 - (l0.length : Int))) + x11_2)) = j_ := ⟨_, rfl⟩);(replace H : (if 0 ≤ (ji15) then (if (ji15) < (x8_2.length : Int) then (if 0 ≤ x11_2 then (if x11_2 < (l0.length : Int) then (if a2 = 0 then (none) else (cr4_divides.l1 k2 l0 a2 (l0.length : Int) (x8_2.set ((ji15) : Int).toNat (Int.tmod (wrap64 ((rd x8_2 (ji15)) + (wrap64 ((wrap64 (a2 - (rd x8_1 x9_1))) * (rd l0 x11_2))))) a2)) x9_1 (rd x8_1 x9_1) (wrap64 (x11_2 + 1)))) else (none)) else (none)) else (none)) else (none)) = some r := by first | (rw [hji15] at H; exact H) | (simp only [hji15] at H ⊢; exact H));have hji15w : (IntKind.i64.wrap ((wrap64 (x9_1 - (l0.length : Int))) + x11_2)) = ji15 := (i64_w _).trans hji15;by_cases c16 : 0 ≤ (ji15)
           ·rw [if_pos c16] at H;have c16b0 : decide (0 ≤ (ji15)) = true := decide_eq_true c16;clear c16;by_cases c17 : (ji15) < (x8_2.length : Int)
            ·rw [if_pos c17] at H;have c17b0 : decide ((ji15) < (x8_2.length : Int)) = true := decide_eq_true c17;(try (have c17b0h0 := c17b0; simp only [hl8_1] at c17b0h0));(try (have c17b0h1 := c17b0; simp only [hl8_2] at c17b0h1));clear c17;by_cases c18 : 0 ≤ x11_2
             ·rw [if_pos c18] at H;have c18b0 : decide (0 ≤ x11_2) = true := decide_eq_true c18;clear c18;by_cases c19 : x11_2 < (l0.length : Int)
              ·rw [if_pos c19] at H;have c19b0 : decide (x11_2 < (l0.length : Int)) = true := decide_eq_true c19;(try (have c19b0h0 := c19b0; simp only [hl8_1] at c19b0h0));(try (have c19b0h1 := c19b0; simp only [hl8_2] at c19b0h1));clear c19;by_cases c20 : a2 = 0
               ·rw [if_pos c20] at H;exact absurd H (by simp)
               ·rw [if_neg c20] at H;have c20b0 : (a2 == 0) = false := beq_eq_false_iff_ne.mpr c20;have c20b1 : (a2 != 0) = true := bne_iff_ne.mpr c20;(obtain ⟨y179, hy179⟩ : ∃ y_ : List Int, y_ = (x8_2.set ((ji15) : Int).toNat (Int.tmod (wrap64 ((rd x8_2 (ji15)) + (wrap64 ((wrap64 (a2 - (rd x8_1 x9_1))) * (rd l0 x11_2))))) a2)) := ⟨_, rfl⟩);(replace H : (cr4_divides.l1 k2 l0 a2 (l0.length : Int) y179 x9_1 (rd x8_1 x9_1) (wrap64 (x11_2 + 1))) = some r := by first | (rw [hy179]; with_reducible exact H) | (have H2_ := (Option.bind_some _ _).symm.trans H; rw [hy179]; with_reducible exact H2_) | (have H2_ := (Option.bind_some _ _).symm.trans H; with_reducible exact H2_) | with_reducible exact H | (rw [hy179]; exact H) | exact H);have Ny179 := Ai0.mk hy179;clear hy179;have H' := Ai0.mk H;clear H
                try go_wp2
                have n0_ := Ai0.mk (Kd.Rd1 HO_8.out);have n1_ := Ai0.mk (bw1 HB.out);clear HO_8;clear HB;have HO_8 := n0_;have HB := n1_;clear n0_ n1_;have p177 : 0 ≤ ((ji15) : Int) := of_decide_eq_true (by first | (with_reducible assumption) | assumption);have q177 : (ji15) < (x8_2.length : Int) := of_decide_eq_true (by first | (with_reducible assumption) | assumption);obtain ⟨ad177, e177, hx177_0⟩ := Kd.at_int (Kd.R_reads' HO_8.out).2.2 (ji15) p177 q177;obtain rfl : ad176 = ad177 := (by injection e177);replace p177 := eq_true p177;replace q177 := eq_true q177;have p178 : 0 ≤ (x11_2 : Int) := of_decide_eq_true (by first | (with_reducible assumption) | assumption);have q178 : x11_2 < (l0.length : Int) := of_decide_eq_true (by first | (with_reducible assumption) | assumption);obtain ⟨ad178, e178, hx178_0⟩ := Kd.at_int HR0.out x11_2 p178 q178;have hw178_0 := hx178_0;cases e178;replace hx178_0 := (HB.out.cell (World.block_lt_of_cell? w _ hx178_0)).trans hx178_0;replace p178 := eq_true p178;replace q178 := eq_true q178;have p21 : 0 ≤ ((ji15) : Int) := of_decide_eq_true (by first | (with_reducible assumption) | assumption);have q21 : ((ji15) : Int) < ((x8_2.length : Int) : Int) := of_decide_eq_true (by first | (with_reducible assumption) | assumption);obtain ⟨go21, co21, eo21, gb21, gl21, cl21, HG21⟩ := Kd.R_form HO_8.out (by omega);(first | cases eo21 | (injection eo21 with ea_ en_ ec_; (first | subst ea_ | (injection ea_ with ea_; subst ea_)); subst ec_; clear en_));have GB21 := Ai0.mk gb21;have GG21 := Ai0.mk HG21;clear gb21 gl21 HG21;(first | simp only [add_plain] at hx176_0 | skip);(first | simp only [add_plain] at hx177_0 | skip);obtain ⟨hx21_0, hf21_0⟩ := Kd.R_celln 0 HO_8.out ((ji15) : Int) p21 q21;replace p21 := eq_true p21;replace q21 := eq_true q21;have HP23 := Kd.R_putn HO_8.out ((ji15) : Int) (Int.tmod (wrap64 ((rd x8_2 (ji15)) + (wrap64 ((wrap64 (a2 - (rd x8_1 x9_1))) * (rd l0 x11_2))))) a2);rw [← Ny179.out] at HP23;have HQ23 := Ai0.mk HP23;clear HP23;refine start_ (n := 27) (S := fun w' => w'.cell? ⟨go21, ((ji15)).toNat, none⟩ = some (.int .i64 (rd x8_2 (ji15))) ∧ w'.cell? (ad178.add (x11_2).toNat) = some (.int .i64 (rd l0 x11_2))) (ds := [26]) #[false, false, false, false, false, false, false, false, false, false, false, false, false, false, false, false, false, false, false, false, false, false, false, false, false, false, false] (by kernel_rfl) rfl rfl ⟨hx177_0, ((HB.out.cell (World.block_lt_of_cell? w _ hw178_0)).trans hw178_0)⟩ (fun hHeld => ?_); refine with_tabW cr4_divides.tab11 cr4_divides.bits11 (fun HT_ HW_ => ?_);(generalize wr.drew = w22 at HO_8 HB GG21 HQ23 hf21_0 hx177_0 hx178_0 hx21_0 hHeld ⊢);refine pure_ (i := 0) (N := some 38) (v := ?_) (a' := ?_) #[true, false, false, false, false, false, false, false, false, false, false, false, false, false, false, false, false, false, false, false, false, false, false, false, false, false, false] rfl rfl (any_of HT_.out (by kernel_rfl)) (fun _ _ _ h => h) (Or.inl ⟨by rfl, ?_⟩) ?_ ?_;rotate_left
                ·intro w';go_simp
                 with_reducible rfl
                rotate_left
                ·simp only [Act.put, l01_, l02_, l03_, i64_w, i32_w]
                 rfl
                refine pure_ (i := 1) (N := some 39) (v := ?_) (a' := ?_) #[true, true, false, false, false, false, false, false, false, false, false, false, false, false, false, false, false, false, false, false, false, false, false, false, false, false, false] rfl rfl (any_of HT_.out (by kernel_rfl)) (fun _ _ _ h => h) (Or.inl ⟨by rfl, ?_⟩) ?_ ?_;rotate_left
                ·intro w';go_simp
                 with_reducible rfl
                rotate_left
                ·simp only [Act.put, l01_, l02_, l03_, i64_w, i32_w]
                 rfl
                refine pure_ (i := 2) (N := some 40) (v := ?_) (a' := ?_) #[true, true, true, false, false, false, false, false, false, false, false, false, false, false, false, false, false, false, false, false, false, false, false, false, false, false, false] rfl rfl (any_of HT_.out (by kernel_rfl)) (fun _ _ _ h => h) (Or.inl ⟨by rfl, ?_⟩) ?_ ?_;rotate_left
                ·intro w';go_simp
                 with_reducible rfl
                rotate_left
                ·simp only [Act.put, l01_, l02_, l03_, i64_w, i32_w]
                 rfl
                refine pure_ (i := 3) (N := some 41) (v := ?_) (a' := ?_) #[true, true, true, true, false, false, false, false, false, false, false, false, false, false, false, false, false, false, false, false, false, false, false, false, false, false, false] rfl rfl (any_of HT_.out (by kernel_rfl)) (fun _ _ _ h => h) (Or.inl ⟨by rfl, ?_⟩) ?_ ?_;rotate_left
                ·intro w';go_simp
                 with_reducible rfl
                rotate_left
                ·simp only [Act.put, l01_, l02_, l03_, i64_w, i32_w]
                 rfl
                refine pure_ (i := 4) (N := some 42) (v := ?_) (a' := ?_) #[true, true, true, true, true, false, false, false, false, false, false, false, false, false, false, false, false, false, false, false, false, false, false, false, false, false, false] rfl rfl (any_of HT_.out (by kernel_rfl)) (fun _ _ _ h => h) (Or.inl ⟨by rfl, ?_⟩) ?_ ?_;rotate_left
                ·intro w';go_simp
                 with_reducible rfl
                rotate_left
                ·simp only [Act.put, l01_, l02_, l03_, i64_w, i32_w]
                 rfl
                refine pure_ (i := 5) (N := some 43) (v := ?_) (a' := ?_) #[true, true, true, true, true, true, false, false, false, false, false, false, false, false, false, false, false, false, false, false, false, false, false, false, false, false, false] rfl rfl (any_of HT_.out (by kernel_rfl)) (fun _ _ _ h => h) (Or.inl ⟨by rfl, ?_⟩) ?_ ?_;rotate_left
                ·intro w';go_simp
                 with_reducible rfl
                rotate_left
                ·simp only [Act.put, l01_, l02_, l03_, i64_w, i32_w]
                 rfl
                refine pure_ (i := 6) (N := some 44) (v := ?_) (a' := ?_) #[true, true, true, true, true, true, true, false, false, false, false, false, false, false, false, false, false, false, false, false, false, false, false, false, false, false, false] rfl rfl (any_of HT_.out (by kernel_rfl)) (fun _ _ _ h => h) (Or.inl ⟨by rfl, ?_⟩) ?_ ?_;rotate_left
                ·intro w';go_simp
                 with_reducible rfl
                rotate_left
                ·simp only [Act.put, l01_, l02_, l03_, i64_w, i32_w]
                 rfl
                refine pure_ (i := 7) (N := some 45) (v := ?_) (a' := ?_) #[true, true, true, true, true, true, true, true, false, false, false, false, false, false, false, false, false, false, false, false, false, false, false, false, false, false, false] rfl rfl (any_of HT_.out (by kernel_rfl)) (fun _ _ _ h => h) (Or.inl ⟨by rfl, ?_⟩) ?_ ?_;rotate_left
                ·intro w';go_simp
                 with_reducible rfl
                rotate_left
                ·simp only [Act.put, l01_, l02_, l03_, i64_w, i32_w]
                 rfl
                refine pure_ (i := 8) (N := some 46) (v := ?_) (a' := ?_) #[true, true, true, true, true, true, true, true, true, false, false, false, false, false, false, false, false, false, false, false, false, false, false, false, false, false, false] rfl rfl (any_of HT_.out (by kernel_rfl)) (fun _ _ _ h => h) (Or.inl ⟨by rfl, ?_⟩) ?_ ?_;rotate_left
                ·intro w';go_simp
                 with_reducible rfl
                rotate_left
                ·simp only [Act.put, l01_, l02_, l03_, i64_w, i32_w]
                 rfl
                refine pure_ (i := 9) (N := some 47) (v := ?_) (a' := ?_) #[true, true, true, true, true, true, true, true, true, true, false, false, false, false, false, false, false, false, false, false, false, false, false, false, false, false, false] rfl rfl (any_of HT_.out (by kernel_rfl)) (fun _ _ _ h => h) (Or.inl ⟨by rfl, ?_⟩) ?_ ?_;rotate_left
                ·intro w';go_simp
                 with_reducible rfl
                rotate_left
                ·simp only [Act.put, l01_, l02_, l03_, i64_w, i32_w]
                 rfl
                refine pure_ (i := 10) (N := some 48) (v := ?_) (a' := ?_) #[true, true, true, true, true, true, true, true, true, true, true, false, false, false, false, false, false, false, false, false, false, false, false, false, false, false, false] rfl rfl (any_of HT_.out (by kernel_rfl)) (fun _ _ _ h => h) (Or.inl ⟨by rfl, ?_⟩) ?_ ?_;rotate_left
                ·intro w';go_simp
                 with_reducible rfl
                rotate_left
                ·simp only [Act.put, l01_, l02_, l03_, i64_w, i32_w]
                 rfl
                refine pure_ (i := 11) (N := some 49) (v := ?_) (a' := ?_) #[true, true, true, true, true, true, true, true, true, true, true, true, false, false, false, false, false, false, false, false, false, false, false, false, false, false, false] rfl rfl (any_of HT_.out (by kernel_rfl)) (fun _ _ _ h => h) (Or.inl ⟨by rfl, ?_⟩) ?_ ?_;rotate_left
                ·intro w';go_simp
                 with_reducible rfl
                rotate_left
                ·simp only [Act.put, l01_, l02_, l03_, i64_w, i32_w]
                 rfl
                refine pure_ (i := 12) (N := some 50) (v := ?_) (a' := ?_) #[true, true, true, true, true, true, true, true, true, true, true, true, true, false, false, false, false, false, false, false, false, false, false, false, false, false, false] rfl rfl (any_of HT_.out (by kernel_rfl)) (fun _ _ _ h => h) (Or.inl ⟨by rfl, ?_⟩) ?_ ?_;rotate_left
                ·intro w';go_simp
                 with_reducible rfl
                rotate_left
                ·simp only [Act.put, l01_, l02_, l03_, i64_w, i32_w]
                 rfl
                refine pure_ (i := 14) (N := some 52) (v := ?_) (a' := ?_) #[true, true, true, true, true, true, true, true, true, true, true, true, true, false, true, false, false, false, false, false, false, false, false, false, false, false, false] rfl rfl (any_of HT_.out (by kernel_rfl)) (fun _ _ _ h => h) (Or.inl ⟨by rfl, ?_⟩) ?_ ?_;rotate_left
                ·intro w';go_simp
                 with_reducible rfl
                rotate_left
                ·simp only [Act.put, l01_, l02_, l03_, i64_w, i32_w]
                 rfl
                refine pure_ (i := 15) (N := some 53) (v := ?_) (a' := ?_) #[true, true, true, true, true, true, true, true, true, true, true, true, true, false, true, true, false, false, false, false, false, false, false, false, false, false, false] rfl rfl (any_of HT_.out (by kernel_rfl)) (fun _ _ _ h => h) (Or.inl ⟨by rfl, ?_⟩) ?_ ?_;rotate_left
                ·intro w';go_simp
                 with_reducible rfl
                rotate_left
                ·simp only [Act.put, l01_, l02_, l03_, i64_w, i32_w]
                 rfl
                refine pure_ (i := 16) (N := some 54) (v := ?_) (a' := ?_) #[true, true, true, true, true, true, true, true, true, true, true, true, true, false, true, true, true, false, false, false, false, false, false, false, false, false, false] rfl rfl (any_of HT_.out (by kernel_rfl)) (fun _ _ _ h => h) (Or.inl ⟨by rfl, ?_⟩) ?_ ?_;rotate_left
                ·intro w';go_simp
                 with_reducible rfl
                rotate_left
                ·simp only [Act.put, l01_, l02_, l03_, i64_w, i32_w]
                 rfl
                refine pure_ (i := 17) (N := some 55) (v := ?_) (a' := ?_) #[true, true, true, true, true, true, true, true, true, true, true, true, true, false, true, true, true, true, false, false, false, false, false, false, false, false, false] rfl rfl (any_of HT_.out (by kernel_rfl)) (fun _ _ _ h => h) (Or.inl ⟨by rfl, ?_⟩) ?_ ?_;rotate_left
                ·intro w';go_simp
                 with_reducible rfl
                rotate_left
                ·simp only [Act.put, l01_, l02_, l03_, i64_w, i32_w]
                 rfl
                refine pure_ (i := 18) (N := some 56) (v := ?_) (a' := ?_) #[true, true, true, true, true, true, true, true, true, true, true, true, true, false, true, true, true, true, true, false, false, false, false, false, false, false, false] rfl rfl (any_of HT_.out (by kernel_rfl)) (fun _ _ _ h => h) (Or.inl ⟨by rfl, ?_⟩) ?_ ?_;rotate_left
                ·intro w';go_simp
                 with_reducible rfl
                rotate_left
                ·simp only [Act.put, l01_, l02_, l03_, i64_w, i32_w]
                 rfl
                refine pure_ (i := 19) (N := some 57) (v := ?_) (a' := ?_) #[true, true, true, true, true, true, true, true, true, true, true, true, true, false, true, true, true, true, true, true, false, false, false, false, false, false, false] rfl rfl (any_of HT_.out (by kernel_rfl)) (fun _ _ _ h => h) (Or.inl ⟨by rfl, ?_⟩) ?_ ?_;rotate_left
                ·intro w';go_simp
                 with_reducible rfl
                rotate_left
                ·simp only [Act.put, l01_, l02_, l03_, i64_w, i32_w]
                 rfl
                refine pure_ (i := 23) (N := some 61) (v := ?_) (a' := ?_) #[true, true, true, true, true, true, true, true, true, true, true, true, true, false, true, true, true, true, true, true, false, false, false, true, false, false, false] rfl rfl (any_of HT_.out (by kernel_rfl)) (fun _ _ _ h => h) (Or.inl ⟨by rfl, ?_⟩) ?_ ?_;rotate_left
                ·intro w';go_simp
                 with_reducible rfl
                rotate_left
                ·simp only [Act.put, l01_, l02_, l03_, i64_w, i32_w]
                 rfl
                refine take_ (i := 13) (N := some 51) (v := ?_) (a' := ?_) #[true, true, true, true, true, true, true, true, true, true, true, true, true, true, true, true, true, true, true, true, false, false, false, true, false, false, false] rfl rfl (take_ofW HT_.out HW_.out (by kernel_rfl)) (fun _ _ _ h => h) (Or.inl ⟨by rfl, ?_⟩) hHeld ?_ ?_;rotate_left
                ·rintro w' ⟨s0, s1⟩
                 go_simp
                 with_reducible rfl
                rotate_left
                ·simp only [Act.put, l01_, l02_, l03_, i64_w, i32_w]
                 rfl
                refine take_ (i := 20) (N := some 58) (v := ?_) (a' := ?_) #[true, true, true, true, true, true, true, true, true, true, true, true, true, true, true, true, true, true, true, true, true, false, false, true, false, false, false] rfl rfl (take_ofW HT_.out HW_.out (by kernel_rfl)) (fun _ _ _ h => h) (Or.inl ⟨by rfl, ?_⟩) hHeld ?_ ?_;rotate_left
                ·rintro w' ⟨s0, s1⟩
                 go_simp
                 with_reducible rfl
                rotate_left
                ·simp only [Act.put, l01_, l02_, l03_, i64_w, i32_w]
                 rfl
                refine pure_ (i := 21) (N := some 59) (v := ?_) (a' := ?_) #[true, true, true, true, true, true, true, true, true, true, true, true, true, true, true, true, true, true, true, true, true, true, false, true, false, false, false] rfl rfl (any_of HT_.out (by kernel_rfl)) (fun _ _ _ h => h) (Or.inl ⟨by rfl, ?_⟩) ?_ ?_;rotate_left
                ·intro w';go_simp
                 with_reducible rfl
                rotate_left
                ·simp only [Act.put, l01_, l02_, l03_, i64_w, i32_w]
                 rfl
                refine pure_ (i := 22) (N := some 60) (v := ?_) (a' := ?_) #[true, true, true, true, true, true, true, true, true, true, true, true, true, true, true, true, true, true, true, true, true, true, true, true, false, false, false] rfl rfl (any_of HT_.out (by kernel_rfl)) (fun _ _ _ h => h) (Or.inl ⟨by rfl, ?_⟩) ?_ ?_;rotate_left
                ·intro w';go_simp
                 with_reducible rfl
                rotate_left
                ·simp only [Act.put, l01_, l02_, l03_, i64_w, i32_w]
                 rfl
                refine pure_ (i := 24) (N := some 62) (v := ?_) (a' := ?_) #[true, true, true, true, true, true, true, true, true, true, true, true, true, true, true, true, true, true, true, true, true, true, true, true, true, false, false] rfl rfl (any_of HT_.out (by kernel_rfl)) (fun _ _ _ h => h) (Or.inl ⟨by rfl, ?_⟩) ?_ ?_;rotate_left
                ·intro w';go_simp
                 with_reducible rfl
                rotate_left
                ·simp only [Act.put, l01_, l02_, l03_, i64_w, i32_w]
                 rfl
                refine pure_ (i := 25) (N := some 63) (v := ?_) (a' := ?_) #[true, true, true, true, true, true, true, true, true, true, true, true, true, true, true, true, true, true, true, true, true, true, true, true, true, true, false] rfl rfl (any_of HT_.out (by kernel_rfl)) (fun _ _ _ h => h) (Or.inl ⟨by rfl, ?_⟩) ?_ ?_;rotate_left
                ·intro w';go_simp
                 with_reducible rfl
                rotate_left
                ·simp only [Act.put, l01_, l02_, l03_, i64_w, i32_w]
                 rfl
                refine last_ (i := 26) (N := none) #[true, true, true, true, true, true, true, true, true, true, true, true, true, true, true, true, true, true, true, true, true, true, true, true, true, true, true] rfl rfl (one_of HT_.out (by kernel_rfl)) (by decide) (fun K hK => ?_);refine skip_ (w1 := ?_) (by rfl) rfl ?_ ?_;rotate_left
                ·go_simp
                 rfl
                refine hK.out _ _ ?_;clear hK K;refine done_ (done_of HT_.out (by kernel_rfl)) ?_
                try go_wp2
                (try simp only [← hl8_2]);(try simp only [add_plain] at *)
                go_roundg k2
                case measure => have := HK1.out; have := HK2.out; omega
                case rel => exact ⟨(y179), (wrap64 (x11_2 + 1)), (by first | rfl | (simp; done) | (simp [*]; done)), H', ⟨by have := HK1.out; have := HK2.out; omega⟩, ⟨by (try simp only [hl8_1]); (try simp only [hl8_2]); (with_reducible repeat (first | apply Kd.Ra1 | apply Kd.Rn1 | apply Kd.Rd1)); exact HQ23.out⟩, ⟨by repeat (first | (with_reducible first | exact HB.out | apply ba1 | apply pbN | apply bw1 | refine bs1 ?_ GB21.out) | exact HB.out)⟩⟩
              ·rw [if_neg c19] at H;exact absurd H (by simp)
             ·rw [if_neg c18] at H;exact absurd H (by simp)
            ·rw [if_neg c17] at H;exact absurd H (by simp)
           ·rw [if_neg c16] at H;exact absurd H (by simp)
          ·rw [if_neg c14] at H;have c14b0 : decide (x11_2 < (l0.length : Int)) = false := decide_eq_false c14;(try (have c14b0h0 := c14b0; simp only [hl8_1] at c14b0h0));(try (have c14b0h1 := c14b0; simp only [hl8_2] at c14b0h1));clear c14;by_cases c24 : 0 ≤ x9_1
           ·rw [if_pos c24] at H;have c24b0 : decide (0 ≤ x9_1) = true := decide_eq_true c24;clear c24;by_cases c25 : x9_1 < (x8_2.length : Int)
            ·rw [if_pos c25] at H;have c25b0 : decide (x9_1 < (x8_2.length : Int)) = true := decide_eq_true c25;(try (have c25b0h0 := c25b0; simp only [hl8_1] at c25b0h0));(try (have c25b0h1 := c25b0; simp only [hl8_2] at c25b0h1));clear c25;(obtain ⟨y180, hy180⟩ : ∃ y_ : List Int, y_ = (x8_2.set (x9_1 : Int).toNat 0) := ⟨_, rfl⟩);(replace H : (cr4_divides.l0 k2 l0 a2 (l0.length : Int) y180 (wrap64 (x9_1 - 1))) = some r := by first | (rw [hy180]; with_reducible exact H) | (have H2_ := (Option.bind_some _ _).symm.trans H; rw [hy180]; with_reducible exact H2_) | (have H2_ := (Option.bind_some _ _).symm.trans H; with_reducible exact H2_) | with_reducible exact H | (rw [hy180]; exact H) | exact H);have Ny180 := Ai0.mk hy180;clear hy180;have H' := Ai0.mk H;clear H;have p26 : 0 ≤ (x9_1 : Int) := of_decide_eq_true (by first | (with_reducible assumption) | assumption);have q26 : (x9_1 : Int) < ((x8_2.length : Int) : Int) := of_decide_eq_true (by first | (with_reducible assumption) | assumption);obtain ⟨go26, co26, eo26, gb26, gl26, cl26, HG26⟩ := Kd.R_form HO_8.out (by omega);(first | cases eo26 | (injection eo26 with ea_ en_ ec_; (first | subst ea_ | (injection ea_ with ea_; subst ea_)); subst ec_; clear en_));have GB26 := Ai0.mk gb26;have GG26 := Ai0.mk HG26;clear gb26 gl26 HG26;obtain ⟨hx26_0, hf26_0⟩ := Kd.R_celln 0 HO_8.out (x9_1 : Int) p26 q26;replace p26 := eq_true p26;replace q26 := eq_true q26;have HP27 := Kd.R_putg HO_8.out (x9_1 : Int) 0
             go_wp2_with (first | ((with_reducible refine gate_store (t := 3) (p := 66) rfl ?_); refine store_event (t := 3) (p := 66) (v := ?vo_w28) (w1 := (wr.setCell ⟨go26, (x9_1 : Int).toNat, none⟩ (.int .i64 0))) ?hg ?ho ?hn ?hr ?_; (case ho => rfl); (case hg => rfl); (case hn => rfl); (case hr => first | (go_simp; done) | (go_simp; rfl)); intro w28 hw; have hg : wr.grownBy w28 (some go26) := (by rw [hw]; exact HP27.2); have hp_ : Kd.R (Kd.int .i64) 3 w28 w.heap.size (fun _ => True) (.slice (some ⟨go26, 0, none⟩) x8_2.length co10) y180 := (by rw [hw, Ny180.out]; exact HP27.1); clear HP27; have n0_ := Ai0.mk (hp_); have n1_ := Ai0.mk ((by rw [hw]; exact bs1 (HB.out) GB26.out : Below w.heap.size w w28)); clear HO_8; clear HB; have HO_8 := n0_; have HB := n1_; clear n0_ n1_; clear hg hw hp_))
             (try simp only [← hl8_1, ← hl8_2]);(try simp only [add_plain] at *)
             go_roundg k2
             case measure => have := HK1.out; have := HK2.out; omega
             case rel => exact ⟨(y180), (wrap64 (x9_1 - 1)), (by first | rfl | (simp; done) | (simp [*]; done)), H', ⟨by have := HK1.out; have := HK2.out; omega⟩, ⟨by (try simp only [hl8_1]); (try simp only [hl8_2]); (with_reducible repeat (first | apply Kd.Ra1 | apply Kd.Rn1 | apply Kd.Rd1)); exact HO_8.out⟩, ⟨by repeat (first | (with_reducible first | exact HB.out | apply ba1 | apply pbN | apply bw1) | exact HB.out)⟩⟩
            ·rw [if_neg c25] at H;exact absurd H (by simp)
           ·rw [if_neg c24] at H;exact absurd H (by simp)
       ·rw [if_neg c13] at H;exact absurd H (by simp)
      ·rw [if_neg c12] at H;exact absurd H (by simp)
     ·rw [if_neg c11] at H;have c11b0 : decide ((l0.length : Int) ≤ x9_1) = false := decide_eq_false c11;(try (have c11b0h0 := c11b0; simp only [hl8_1] at c11b0h0));clear c11;have H' := Ai0.mk H;clear H
      go_wp2
      go_loopg [12] k1 (fun kq v12 w' => ∃ (x12_2 : Int), v12 = .int .i64 x12_2 ∧ Ai0 (cr4_divides.l2 kq x8_1 x12_2 = some r) ∧ Ai0 (kq ≤ k1) ∧ Ai0 (Kd.R (Kd.int .i64) 3 w' w.heap.size (fun _ => True) (.slice Ao10 x8_1.length co10) x8_1) ∧ Ai0 (Below w.heap.size w w'))
      case atStart => exact ⟨(0), (by first | rfl | (simp; done) | (simp [*]; done)), H', ⟨Nat.le_refl _⟩, ⟨by (try simp only [hl8_1]); (with_reducible repeat (first | apply Kd.Ra1 | apply Kd.Rn1 | apply Kd.Rd1)); exact HO_8.out⟩, ⟨by repeat (first | (with_reducible first | exact HB.out | apply ba1 | apply pbN | apply bw1) | exact HB.out)⟩⟩
      case round =>
       clear H'
       try clear c1
       try clear p1
       try clear q1
       try clear hx1
       try clear c2
       try clear p2
       try clear q2
       try clear hx2
       try clear c4
       try clear c5
       try clear p6
       try clear c8
       try clear c11
       try clear c11b0
       try clear c12
       try clear c12b0
       try clear c13
       try clear c13b0
       try clear c14
       try clear c14b0
       try clear c16
       try clear c16b0
       try clear c17
       try clear c17b0
       try clear p17
       try clear q17
       try clear hx17
       try clear c18
       try clear c18b0
       try clear c19
       try clear c19b0
       try clear c20
       try clear c20b0
       try clear c20b1
       try clear p21
       try clear q21
       try clear hx21
       try clear hf21
       try clear c24
       try clear c24b0
       try clear c25
       try clear c25b0
       try clear p26
       try clear q26
       try clear hx26
       try clear hf26
       try clear hx176_0
       try clear hx177_0
       try clear hx178_0
       try clear hx21_0
       try clear hx26_0
       try clear p1
       try clear p176
       try clear p177
       try clear p178
       try clear p2
       try clear p21
       try clear p26
       try clear p6
       try clear q1
       try clear q176
       try clear q177
       try clear q178
       try clear q21
       try clear q26
       obtain ⟨x12_2, rfl, HA, HK2, HO_8, HB⟩ := hrel
       cases gk with
       | zero => exact absurd HA.out (by simp [cr4_divides.l2])
       | succ k2 =>
        have H := HA.out;clear HA;simp only [cr4_divides.l2] at H;by_cases c29 : x12_2 < (x8_1.length : Int)
        ·rw [if_pos c29] at H;have c29b0 : decide (x12_2 < (x8_1.length : Int)) = true := decide_eq_true c29;(try (have c29b0h0 := c29b0; simp only [hl8_1] at c29b0h0));clear c29;by_cases c30 : 0 ≤ x12_2
         ·rw [if_pos c30] at H;have c30b0 : decide (0 ≤ x12_2) = true := decide_eq_true c30;clear c30;by_cases c31 : (rd x8_1 x12_2) = 0
          ·rw [if_pos c31] at H;have c31b0 : ((rd x8_1 x12_2) == 0) = true := beq_iff_eq.mpr c31;have c31b1 : ((rd x8_1 x12_2) != 0) = false := bne_eq_false_iff_eq.mpr c31;clear c31;have H' := Ai0.mk H;clear H;have p181 : 0 ≤ (x12_2 : Int) := of_decide_eq_true (by first | (with_reducible assumption) | assumption);have q181 : x12_2 < (x8_1.length : Int) := of_decide_eq_true (by first | (with_reducible assumption) | assumption);obtain ⟨ad181, e181, hx181_0⟩ := Kd.at_int (Kd.R_reads' HO_8.out).2.2 x12_2 p181 q181;cases e181;replace p181 := eq_true p181;replace q181 := eq_true q181
           go_wp2
           (try simp only [add_plain] at *)
           go_roundg k2
           case measure => have := HK1.out; have := HK2.out; omega
           case rel => exact ⟨(wrap64 (x12_2 + 1)), (by first | rfl | (simp; done) | (simp [*]; done)), H', ⟨by have := HK1.out; have := HK2.out; omega⟩, ⟨by (try simp only [hl8_1]); (with_reducible repeat (first | apply Kd.Ra1 | apply Kd.Rn1 | apply Kd.Rd1)); exact HO_8.out⟩, ⟨by repeat (first | (with_reducible first | exact HB.out | apply ba1 | apply pbN | apply bw1) | exact HB.out)⟩⟩
          ·rw [if_neg c31] at H;have c31b0 : ((rd x8_1 x12_2) == 0) = false := beq_eq_false_iff_ne.mpr c31;have c31b1 : ((rd x8_1 x12_2) != 0) = true := bne_iff_ne.mpr c31;obtain rfl := Option.some.inj H;have p181 : 0 ≤ (x12_2 : Int) := of_decide_eq_true (by first | (with_reducible assumption) | assumption);have q181 : x12_2 < (x8_1.length : Int) := of_decide_eq_true (by first | (with_reducible assumption) | assumption);obtain ⟨ad181, e181, hx181_0⟩ := Kd.at_int (Kd.R_reads' HO_8.out).2.2 x12_2 p181 q181;cases e181;replace p181 := eq_true p181;replace q181 := eq_true q181
           go_wp2
           go_ret
           exact ⟨by first | rfl | (simp [eW0, eW1] <;> rfl) | (simp [*, eW0, eW1] <;> rfl), by repeat (first | (with_reducible first | exact HB.out | apply ba1 | apply pbN | apply bw1) | exact HB.out)⟩
         ·rw [if_neg c30] at H;exact absurd H (by simp)
        ·rw [if_neg c29] at H;have c29b0 : decide (x12_2 < (x8_1.length : Int)) = false := decide_eq_false c29;(try (have c29b0h0 := c29b0; simp only [hl8_1] at c29b0h0));clear c29;obtain rfl := Option.some.inj H
         go_wp2
         go_ret
         exact ⟨by first | rfl | (simp [eW0, eW1] <;> rfl) | (simp [*, eW0, eW1] <;> rfl), by repeat (first | (with_reducible first | exact HB.out | apply ba1 | apply pbN | apply bw1) | exact HB.out)⟩
  ·rw [if_neg c5] at H;exact absurd H (by simp)
 ·rw [if_neg c4] at H;exact absurd H (by simp)
mutual
def cr4_irreducible.l0 : Nat → List Int → Int → Int → Int → Option (Bool)
 | 0, _, _, _, _ => none
 | k + 1, x0, x1, x5, x6 => if (wrap64 (2 * x6)) ≤ (x0.length : Int) then (cr4_irreducible.l1 k x0 x1 (wrap64 (x5 * x1)) x6 0) else (some true)
def cr4_irreducible.l1 : Nat → List Int → Int → Int → Int → Int → Option (Bool)
 | 0, _, _, _, _, _ => none
 | k + 1, x0, x1, x5, x6, x7 => if x7 < x5 then ((cr4_digits.f k x7 x1 x6).bind fun t182 => ((cr4_divides.f k t182 x0 x1).bind fun t185 => (if t185 = true then (some false) else (cr4_irreducible.l1 k x0 x1 x5 x6 (wrap64 (x7 + 1)))))) else (cr4_irreducible.l0 k x0 x1 x5 (wrap64 (x6 + 1)))
end
def cr4_irreducible.f (k : Nat) (l0 : List Int) (a1 : Int) : Option (Bool) := cr4_irreducible.l0 k l0 a1 1 1
theorem cr4_irreducible.mono_l : ∀ k, (∀ y0 y1 y2 y3, LeO (cr4_irreducible.l0 k y0 y1 y2 y3) (cr4_irreducible.l0 (k + 1) y0 y1 y2 y3)) ∧ (∀ y0 y1 y2 y3 y4, LeO (cr4_irreducible.l1 k y0 y1 y2 y3 y4) (cr4_irreducible.l1 (k + 1) y0 y1 y2 y3 y4))
 | 0 => ⟨fun _ _ _ _ r h => by simp [cr4_irreducible.l0] at h, fun _ _ _ _ _ r h => by simp [cr4_irreducible.l1] at h⟩
 | k + 1 => by
  obtain ⟨ih0, ih1⟩ := cr4_irreducible.mono_l k;refine ⟨?_, ?_⟩
  ·intro y0 y1 y2 y3;unfold cr4_irreducible.l0
   repeat' first
   | (with_reducible exact ih0 _ _ _ _)
   | (with_reducible exact ih1 _ _ _ _ _)
   | (with_reducible exact cr4_digits.mono _ _ _ _)
   | (with_reducible exact cr4_divides.mono _ _ _ _)
   | (with_reducible exact LeO.refl _)
   | (with_reducible exact LeO.none _)
   | (with_reducible refine LeO.ite ?_ ?_)
   | (with_reducible refine LeO.bind ?_ (fun _ => ?_))
   | exact ih0 _ _ _ _
   | exact ih1 _ _ _ _ _
   | exact cr4_digits.mono _ _ _ _
   | exact cr4_divides.mono _ _ _ _
   | exact LeO.none _
   | refine LeO.ite ?_ ?_
   | refine LeO.bind ?_ (fun _ => ?_)
  ·intro y0 y1 y2 y3 y4;unfold cr4_irreducible.l1
   repeat' first
   | (with_reducible exact ih0 _ _ _ _)
   | (with_reducible exact ih1 _ _ _ _ _)
   | (with_reducible exact cr4_digits.mono _ _ _ _)
   | (with_reducible exact cr4_divides.mono _ _ _ _)
   | (with_reducible exact LeO.refl _)
   | (with_reducible exact LeO.none _)
   | (with_reducible refine LeO.ite ?_ ?_)
   | (with_reducible refine LeO.bind ?_ (fun _ => ?_))
   | exact ih0 _ _ _ _
   | exact ih1 _ _ _ _ _
   | exact cr4_digits.mono _ _ _ _
   | exact cr4_divides.mono _ _ _ _
   | exact LeO.none _
   | refine LeO.ite ?_ ?_
   | refine LeO.bind ?_ (fun _ => ?_)
theorem cr4_irreducible.mono : ∀ a0 a1 k, LeO (cr4_irreducible.f k a0 a1) (cr4_irreducible.f (k + 1) a0 a1) := by
 intro a0 a1 k;obtain ⟨ih0, ih1⟩ := cr4_irreducible.mono_l k;unfold cr4_irreducible.f
 repeat' first
   | (with_reducible exact ih0 _ _ _ _)
   | (with_reducible exact ih1 _ _ _ _ _)
   | (with_reducible exact cr4_digits.mono _ _ _ _)
   | (with_reducible exact cr4_divides.mono _ _ _ _)
   | (with_reducible exact LeO.refl _)
   | (with_reducible exact LeO.none _)
   | (with_reducible refine LeO.ite ?_ ?_)
   | (with_reducible refine LeO.bind ?_ (fun _ => ?_))
   | exact ih0 _ _ _ _
   | exact ih1 _ _ _ _ _
   | exact cr4_digits.mono _ _ _ _
   | exact cr4_divides.mono _ _ _ _
   | exact LeO.none _
   | refine LeO.ite ?_ ?_
   | refine LeO.bind ?_ (fun _ => ?_)
set_option maxHeartbeats 8000000 in
set_option maxRecDepth 100000 in
theorem cr4_irreducible.calls (k : Nat) (A0 : Option Addr) (c0 : Nat) (l0 : List Int) (a1 : Int) (r : Bool) (w : World) (hr0 : Kd.C (Kd.int .i64) w A0 l0.length l0) (hc0 : l0.length ≤ c0) (h : cr4_irreducible.f k l0 a1 = some r) :
  Calls Try.prog 77 #[.slice A0 l0.length c0, .int .i64 a1] w fun e w' => e = .returned (.bool r) ∧ Below w.heap.size w w' := by
 have HR0 := Ai0.mk hr0;have HC0 := Ai0.mk hc0;clear hr0 hc0;have HB := Ai0.mk (Below.refl w.heap.size w);have H : (cr4_irreducible.l0 k l0 a1 1 1) = some r := h;clear h;have H' := Ai0.mk H;clear H;go_enter Try.func77, Try.ntmps77
 go_wp2
 go_loopg [5, 6] k (fun kq v5 v6 w' => ∃ (x5_1 : Int) (x6_1 : Int), v5 = .int .i64 x5_1 ∧ v6 = .int .i64 x6_1 ∧ Ai0 (cr4_irreducible.l0 kq l0 a1 x5_1 x6_1 = some r) ∧ Ai0 (kq ≤ k) ∧ Ai0 (Below w.heap.size w w'))
 case atStart => exact ⟨(1), (1), (by first | rfl | (simp; done) | (simp [*]; done)), (by first | rfl | (simp; done) | (simp [*]; done)), H', ⟨Nat.le_refl _⟩, ⟨by repeat (first | (with_reducible first | exact HB.out | apply ba1 | apply pbN | apply bw1) | exact HB.out)⟩⟩
 case round =>
  clear H'
  try clear p2
  obtain ⟨x5_1, x6_1, rfl, rfl, HA, HK1, HB⟩ := hrel
  cases gk with
  | zero => exact absurd HA.out (by simp [cr4_irreducible.l0])
  | succ k1 =>
   have H := HA.out;clear HA;simp only [cr4_irreducible.l0] at H;by_cases c3 : (wrap64 (2 * x6_1)) ≤ (l0.length : Int)
   ·rw [if_pos c3] at H;have c3b0 : decide ((wrap64 (2 * x6_1)) ≤ (l0.length : Int)) = true := decide_eq_true c3;clear c3;have H' := Ai0.mk H;clear H
    go_wp2
    go_loopg [7] k1 (fun kq v7 w' => ∃ (x7_2 : Int), v7 = .int .i64 x7_2 ∧ Ai0 (cr4_irreducible.l1 kq l0 a1 (wrap64 (x5_1 * a1)) x6_1 x7_2 = some r) ∧ Ai0 (kq ≤ k1) ∧ Ai0 (Below w.heap.size w w'))
    case atStart => exact ⟨(0), (by first | rfl | (simp; done) | (simp [*]; done)), H', ⟨Nat.le_refl _⟩, ⟨by repeat (first | (with_reducible first | exact HB.out | apply ba1 | apply pbN | apply bw1) | exact HB.out)⟩⟩
    case round =>
     clear H'
     try clear p2
     try clear c3
     try clear c3b0
     try clear p2
     obtain ⟨x7_2, rfl, HA, HK2, HB⟩ := hrel
     cases gk with
     | zero => exact absurd HA.out (by simp [cr4_irreducible.l1])
     | succ k2 =>
      have H := HA.out;clear HA;simp only [cr4_irreducible.l1] at H;by_cases c4 : x7_2 < (wrap64 (x5_1 * a1))
      ·rw [if_pos c4] at H;have c4b0 : decide (x7_2 < (wrap64 (x5_1 * a1))) = true := decide_eq_true c4;clear c4;replace H := Option.bind_eq_some_iff.mp H;obtain ⟨t182, A50, H⟩ := H;replace H : ((cr4_divides.f k2 t182 l0 a1).bind fun t185 => (if t185 = true then (some false) else (cr4_irreducible.l1 k2 l0 a1 (wrap64 (x5_1 * a1)) x6_1 (wrap64 (x7_2 + 1))))) = some r := H;have A5 := Ai0.mk A50;clear A50;replace H := Option.bind_eq_some_iff.mp H;obtain ⟨t185, A60, H⟩ := H;replace H : (if t185 = true then (some false) else (cr4_irreducible.l1 k2 l0 a1 (wrap64 (x5_1 * a1)) x6_1 (wrap64 (x7_2 + 1)))) = some r := H;have A6 := Ai0.mk A60;clear A60;by_cases c7 : t185 = true
       ·subst c7;(have H1 : (some false) = some r := by rw [if_pos rfl] at H; exact H);clear H;have H := H1;clear H1;obtain rfl := Option.some.inj H
        go_wp2_with (first | ((with_reducible refine gate_callee (f := 80) rfl ?_); refine goesL_ (some 26) rfl rfl Try.func80 (by kernel_rfl) rfl #[.int .i64 x7_2, .int .i64 a1, .int .i64 x6_1] rfl (by (try simp only [List.map_toArray, List.map_cons, List.map_nil]); first | done | rfl | (simp only [List.length_drop, List.length_take]; rfl)) ?_; (with_reducible refine (cr4_digits.calls k2 x7_2 a1 x6_1 t182 _ A5.out).mono ?_); rintro e w8 ⟨v183, rfl, ho0, hb⟩; refine ⟨_, rfl, ?_⟩; have n0_ := Ai0.mk (Kd.R_lower ho0 (bz1 (by repeat (first | (with_reducible first | exact HB.out | apply ba1 | apply pbN | apply bw1) | exact HB.out)))); have n1_ := Ai0.mk (bt1 (by repeat (first | (with_reducible first | exact HB.out | apply ba1 | apply pbN | apply bw1) | exact HB.out)) hb); clear HB; have HO184 := n0_; have HB := n1_; clear n0_ n1_; (try clear hb); (try clear hb2); (try clear hk); (try clear hi); (try clear ho0); obtain ⟨Ao9, co9, eo9⟩ := Kd.R_slice HO184.out; subst eo9) | ((with_reducible refine gate_callee (f := 82) rfl ?_); refine goesL_ (some 29) rfl rfl Try.func82 (by kernel_rfl) rfl #[.slice Ao9 t182.length co9, .slice A0 l0.length c0, .int .i64 a1] rfl (by (try simp only [List.map_toArray, List.map_cons, List.map_nil]); first | done | rfl | (simp only [List.length_drop, List.length_take]; rfl)) ?_; (with_reducible refine (cr4_divides.calls k2 _ _ t182 _ _ l0 a1 true _ ?side1 ?side2 ?side3 ?side4 A6.out).mono ?_); (case side1 => repeat (first | exact (Kd.R_reads' HO184.out).2.2 | (with_reducible refine Kd.C_alloc ?_ _) | (with_reducible refine Kd.C_drewN ?_ _) | (with_reducible refine Kd.C_drew ?_))); (case side2 => exact (Kd.R_reads' HO184.out).2.1); (case side3 => repeat (first | exact (Kd.C_below HR0.out HB.out) | (with_reducible refine Kd.C_alloc ?_ _) | (with_reducible refine Kd.C_drewN ?_ _) | (with_reducible refine Kd.C_drew ?_))); (case side4 => exact HC0.out); rintro e w10 ⟨rfl, hb⟩; refine ⟨_, rfl, ?_⟩; have n0_ := Ai0.mk (Kd.R_below (by (with_reducible repeat (first | apply Kd.Ra1 | apply Kd.Rn1 | apply Kd.Rd1)); exact HO184.out) hb); have n1_ := Ai0.mk (bt1 (by repeat (first | (with_reducible first | exact HB.out | apply ba1 | apply pbN | apply bw1) | exact HB.out)) hb); clear HO184; clear HB; have HO184 := n0_; have HB := n1_; clear n0_ n1_; (try clear hb); (try clear hb2); (try clear hk); (try clear hi)))
        go_ret
        exact ⟨by first | rfl | (simp [eW0, eW1] <;> rfl) | (simp [*, eW0, eW1] <;> rfl), by repeat (first | (with_reducible first | exact HB.out | apply ba1 | apply pbN | apply bw1) | exact HB.out)⟩
       ·replace c7 := Bool.eq_false_iff.mpr c7;subst c7;(have H1 : (cr4_irreducible.l1 k2 l0 a1 (wrap64 (x5_1 * a1)) x6_1 (wrap64 (x7_2 + 1))) = some r := by rw [if_neg (show ¬ (false = true) by decide)] at H; exact H);clear H;have H := H1;clear H1;have H' := Ai0.mk H;clear H
        go_wp2_with (first | ((with_reducible refine gate_callee (f := 80) rfl ?_); refine goesL_ (some 26) rfl rfl Try.func80 (by kernel_rfl) rfl #[.int .i64 x7_2, .int .i64 a1, .int .i64 x6_1] rfl (by (try simp only [List.map_toArray, List.map_cons, List.map_nil]); first | done | rfl | (simp only [List.length_drop, List.length_take]; rfl)) ?_; (with_reducible refine (cr4_digits.calls k2 x7_2 a1 x6_1 t182 _ A5.out).mono ?_); rintro e w11 ⟨v183, rfl, ho0, hb⟩; refine ⟨_, rfl, ?_⟩; have n0_ := Ai0.mk (Kd.R_lower ho0 (bz1 (by repeat (first | (with_reducible first | exact HB.out | apply ba1 | apply pbN | apply bw1) | exact HB.out)))); have n1_ := Ai0.mk (bt1 (by repeat (first | (with_reducible first | exact HB.out | apply ba1 | apply pbN | apply bw1) | exact HB.out)) hb); clear HB; have HO184 := n0_; have HB := n1_; clear n0_ n1_; (try clear hb); (try clear hb2); (try clear hk); (try clear hi); (try clear ho0); obtain ⟨Ao12, co12, eo12⟩ := Kd.R_slice HO184.out; subst eo12) | ((with_reducible refine gate_callee (f := 82) rfl ?_); refine goesL_ (some 29) rfl rfl Try.func82 (by kernel_rfl) rfl #[.slice Ao12 t182.length co12, .slice A0 l0.length c0, .int .i64 a1] rfl (by (try simp only [List.map_toArray, List.map_cons, List.map_nil]); first | done | rfl | (simp only [List.length_drop, List.length_take]; rfl)) ?_; (with_reducible refine (cr4_divides.calls k2 _ _ t182 _ _ l0 a1 false _ ?side1 ?side2 ?side3 ?side4 A6.out).mono ?_); (case side1 => repeat (first | exact (Kd.R_reads' HO184.out).2.2 | (with_reducible refine Kd.C_alloc ?_ _) | (with_reducible refine Kd.C_drewN ?_ _) | (with_reducible refine Kd.C_drew ?_))); (case side2 => exact (Kd.R_reads' HO184.out).2.1); (case side3 => repeat (first | exact (Kd.C_below HR0.out HB.out) | (with_reducible refine Kd.C_alloc ?_ _) | (with_reducible refine Kd.C_drewN ?_ _) | (with_reducible refine Kd.C_drew ?_))); (case side4 => exact HC0.out); rintro e w13 ⟨rfl, hb⟩; refine ⟨_, rfl, ?_⟩; have n0_ := Ai0.mk (Kd.R_below (by (with_reducible repeat (first | apply Kd.Ra1 | apply Kd.Rn1 | apply Kd.Rd1)); exact HO184.out) hb); have n1_ := Ai0.mk (bt1 (by repeat (first | (with_reducible first | exact HB.out | apply ba1 | apply pbN | apply bw1) | exact HB.out)) hb); clear HO184; clear HB; have HO184 := n0_; have HB := n1_; clear n0_ n1_; (try clear hb); (try clear hb2); (try clear hk); (try clear hi)))
        go_roundg k2
        case measure => have := HK1.out; have := HK2.out; omega
        case rel => exact ⟨(wrap64 (x7_2 + 1)), (by first | rfl | (simp; done) | (simp [*]; done)), H', ⟨by have := HK1.out; have := HK2.out; omega⟩, ⟨by repeat (first | (with_reducible first | exact HB.out | apply ba1 | apply pbN | apply bw1) | exact HB.out)⟩⟩
      ·rw [if_neg c4] at H;have c4b0 : decide (x7_2 < (wrap64 (x5_1 * a1))) = false := decide_eq_false c4;clear c4;have H' := Ai0.mk H;clear H
       go_wp2
       go_roundg k2
       case measure => have := HK1.out; have := HK2.out; omega
       case rel => exact ⟨((wrap64 (x5_1 * a1))), (wrap64 (x6_1 + 1)), (by first | rfl | (simp; done) | (simp [*]; done)), (by first | rfl | (simp; done) | (simp [*]; done)), H', ⟨by have := HK1.out; have := HK2.out; omega⟩, ⟨by repeat (first | (with_reducible first | exact HB.out | apply ba1 | apply pbN | apply bw1) | exact HB.out)⟩⟩
   ·rw [if_neg c3] at H;have c3b0 : decide ((wrap64 (2 * x6_1)) ≤ (l0.length : Int)) = false := decide_eq_false c3;clear c3;obtain rfl := Option.some.inj H
    go_wp2
    go_ret
    exact ⟨by first | rfl | (simp [eW0, eW1] <;> rfl) | (simp [*, eW0, eW1] <;> rfl), by repeat (first | (with_reducible first | exact HB.out | apply ba1 | apply pbN | apply bw1) | exact HB.out)⟩
mutual
def cr4_Check.j0 : Nat → Bool → Int → Int → List Int → Option (Int)
 | 0, _, _, _, _ => none
 | k + 1, x12, x187000, x187001, x187002 => if x12 = true then (some 1) else (if x187001 = 1 then (if (x187002.length : Int) = 0 then (some 0) else (some 1)) else (if (x187002.length : Int) = x187001 then (cr4_Check.l0 k 0 x187000 x187001 x187002) else (some 1)))
def cr4_Check.l0 : Nat → Int → Int → Int → List Int → Option (Int)
 | 0, _, _, _, _ => none
 | k + 1, x3, x187000, x187001, x187002 => if x3 < x187001 then (if 0 ≤ x3 then (if x3 < (x187002.length : Int) then (if (rd x187002 x3) < 0 then (some 1) else (if (rd x187002 x3) ≥ x187000 then (some 1) else (cr4_Check.l0 k (wrap64 (x3 + 1)) x187000 x187001 x187002))) else (none)) else (none)) else ((cr4_irreducible.f k x187002 x187000).bind fun t191 => (if t191 = true then (some 0) else (some 1)))
end
def cr4_Check.f (k : Nat) (a0_0 : Int) (a0_1 : Int) (l0_2 : List Int) : Option (Int) := (cr4_Order.f k a0_0 a0_1 l0_2).bind fun t187 => (if t187 = 0 then (cr4_Check.j0 k true a0_0 a0_1 l0_2) else ((cr4_prime.f k a0_0).bind fun t188 => (cr4_Check.j0 k (!t188) a0_0 a0_1 l0_2)))
theorem cr4_Check.mono_l : ∀ k, (∀ y0 y1 y2 y3, LeO (cr4_Check.j0 k y0 y1 y2 y3) (cr4_Check.j0 (k + 1) y0 y1 y2 y3)) ∧ (∀ y0 y1 y2 y3, LeO (cr4_Check.l0 k y0 y1 y2 y3) (cr4_Check.l0 (k + 1) y0 y1 y2 y3))
 | 0 => ⟨fun _ _ _ _ r h => by simp [cr4_Check.j0] at h, fun _ _ _ _ r h => by simp [cr4_Check.l0] at h⟩
 | k + 1 => by
  obtain ⟨ih0, ih1⟩ := cr4_Check.mono_l k;refine ⟨?_, ?_⟩
  ·intro y0 y1 y2 y3;unfold cr4_Check.j0
   repeat' first
   | (with_reducible exact ih0 _ _ _ _)
   | (with_reducible exact ih1 _ _ _ _)
   | (with_reducible exact cr4_Order.mono _ _ _ _)
   | (with_reducible exact cr4_irreducible.mono _ _ _)
   | (with_reducible exact cr4_prime.mono _ _)
   | (with_reducible exact LeO.refl _)
   | (with_reducible exact LeO.none _)
   | (with_reducible refine LeO.ite ?_ ?_)
   | (with_reducible refine LeO.bind ?_ (fun _ => ?_))
   | exact ih0 _ _ _ _
   | exact ih1 _ _ _ _
   | exact cr4_Order.mono _ _ _ _
   | exact cr4_irreducible.mono _ _ _
   | exact cr4_prime.mono _ _
   | exact LeO.none _
   | refine LeO.ite ?_ ?_
   | refine LeO.bind ?_ (fun _ => ?_)
  ·intro y0 y1 y2 y3;unfold cr4_Check.l0
   repeat' first
   | (with_reducible exact ih0 _ _ _ _)
   | (with_reducible exact ih1 _ _ _ _)
   | (with_reducible exact cr4_Order.mono _ _ _ _)
   | (with_reducible exact cr4_irreducible.mono _ _ _)
   | (with_reducible exact cr4_prime.mono _ _)
   | (with_reducible exact LeO.refl _)
   | (with_reducible exact LeO.none _)
   | (with_reducible refine LeO.ite ?_ ?_)
   | (with_reducible refine LeO.bind ?_ (fun _ => ?_))
   | exact ih0 _ _ _ _
   | exact ih1 _ _ _ _
   | exact cr4_Order.mono _ _ _ _
   | exact cr4_irreducible.mono _ _ _
   | exact cr4_prime.mono _ _
   | exact LeO.none _
   | refine LeO.ite ?_ ?_
   | refine LeO.bind ?_ (fun _ => ?_)
theorem cr4_Check.mono : ∀ a0 a1 a2 k, LeO (cr4_Check.f k a0 a1 a2) (cr4_Check.f (k + 1) a0 a1 a2) := by
 intro a0 a1 a2 k;obtain ⟨ih0, ih1⟩ := cr4_Check.mono_l k;unfold cr4_Check.f
 repeat' first
   | (with_reducible exact ih0 _ _ _ _)
   | (with_reducible exact ih1 _ _ _ _)
   | (with_reducible exact cr4_Order.mono _ _ _ _)
   | (with_reducible exact cr4_irreducible.mono _ _ _)
   | (with_reducible exact cr4_prime.mono _ _)
   | (with_reducible exact LeO.refl _)
   | (with_reducible exact LeO.none _)
   | (with_reducible refine LeO.ite ?_ ?_)
   | (with_reducible refine LeO.bind ?_ (fun _ => ?_))
   | exact ih0 _ _ _ _
   | exact ih1 _ _ _ _
   | exact cr4_Order.mono _ _ _ _
   | exact cr4_irreducible.mono _ _ _
   | exact cr4_prime.mono _ _
   | exact LeO.none _
   | refine LeO.ite ?_ ?_
   | refine LeO.bind ?_ (fun _ => ?_)
set_option maxHeartbeats 8000000 in
set_option maxRecDepth 100000 in
theorem cr4_Check.calls (k : Nat) (a0_0 : Int) (a0_1 : Int) (A0_2 : Option Addr) (c0_2 : Nat) (l0_2 : List Int) (r : Int) (w : World) (hr0_2 : Kd.C (Kd.int .i64) w A0_2 l0_2.length l0_2) (hc0_2 : l0_2.length ≤ c0_2) (h : cr4_Check.f k a0_0 a0_1 l0_2 = some r) :
  Calls Try.prog 59 #[.agg #[.int .i64 a0_0, .int .i64 a0_1, .slice A0_2 l0_2.length c0_2]] w fun e w' => e = .returned (.int .i64 r) ∧ Below w.heap.size w w' := by
 have hu44 := Try.underlying44;have HR0_2 := Ai0.mk hr0_2;have HC0_2 := Ai0.mk hc0_2;clear hr0_2 hc0_2;have HB := Ai0.mk (Below.refl w.heap.size w);have H : ((cr4_Order.f k a0_0 a0_1 l0_2).bind fun t187 => (if t187 = 0 then (cr4_Check.j0 k true a0_0 a0_1 l0_2) else ((cr4_prime.f k a0_0).bind fun t188 => (cr4_Check.j0 k (!t188) a0_0 a0_1 l0_2)))) = some r := h;clear h;have HC2 := Ai0.mk H;clear H;go_enter Try.func59, Try.ntmps59
 go_upto_region 1 with (first | ((with_reducible refine gate_dst (N := 1) rfl ?_); refine box_event ?hg (N := 1) ?hd (cs := #[.int .i64 a0_0, .int .i64 a0_1, .slice A0_2 l0_2.length c0_2]) (t := 44) ?hr ?_; (case hd => rfl); (case hg => rfl); (case hr => first | (go_simp; done) | (go_simp; rfl)); intro gb186 hg w3 hbox hb; have n0_ := Ai0.mk (bt1 (by repeat (first | (with_reducible first | exact HB.out | apply ba1 | apply pbN | apply bw1) | exact HB.out)) hb); have n1_ := Ai0.mk (hbox); have n2_ := Ai0.mk ((by rw [hg]; exact (bz1 (by repeat (first | (with_reducible first | exact HB.out | apply ba1 | apply pbN | apply bw1) | exact HB.out))) : w.heap.size ≤ gb186)); have n3_ := Ai0.mk ((by rw [hg]; exact (bz1 (by repeat (first | (with_reducible first | exact HB.out | apply ba1 | apply pbN | apply bw1) | exact HB.out))) : w.heap.size ≤ gb186)); clear HB; have HB := n0_; have BK186 := n1_; have GW186 := n2_; have GE186 := n3_; clear n0_ n1_ n2_ n3_; clear hb hbox hg))
 repeat (go_quiet (first | ((with_reducible refine gate_dst (N := 1) rfl ?_); refine box_event ?hg (N := 1) ?hd (cs := #[.int .i64 a0_0, .int .i64 a0_1, .slice A0_2 l0_2.length c0_2]) (t := 44) ?hr ?_; (case hd => rfl); (case hg => rfl); (case hr => first | (go_simp; done) | (go_simp; rfl)); intro gb186 hg w3 hbox hb; have n0_ := Ai0.mk (bt1 (by repeat (first | (with_reducible first | exact HB.out | apply ba1 | apply pbN | apply bw1) | exact HB.out)) hb); have n1_ := Ai0.mk (hbox); have n2_ := Ai0.mk ((by rw [hg]; exact (bz1 (by repeat (first | (with_reducible first | exact HB.out | apply ba1 | apply pbN | apply bw1) | exact HB.out))) : w.heap.size ≤ gb186)); have n3_ := Ai0.mk ((by rw [hg]; exact (bz1 (by repeat (first | (with_reducible first | exact HB.out | apply ba1 | apply pbN | apply bw1) | exact HB.out))) : w.heap.size ≤ gb186)); clear HB; have HB := n0_; have BK186 := n1_; have GW186 := n2_; have GE186 := n3_; clear n0_ n1_ n2_ n3_; clear hb hbox hg)); go_upto_region 1 with (first | ((with_reducible refine gate_dst (N := 1) rfl ?_); refine box_event ?hg (N := 1) ?hd (cs := #[.int .i64 a0_0, .int .i64 a0_1, .slice A0_2 l0_2.length c0_2]) (t := 44) ?hr ?_; (case hd => rfl); (case hg => rfl); (case hr => first | (go_simp; done) | (go_simp; rfl)); intro gb186 hg w3 hbox hb; have n0_ := Ai0.mk (bt1 (by repeat (first | (with_reducible first | exact HB.out | apply ba1 | apply pbN | apply bw1) | exact HB.out)) hb); have n1_ := Ai0.mk (hbox); have n2_ := Ai0.mk ((by rw [hg]; exact (bz1 (by repeat (first | (with_reducible first | exact HB.out | apply ba1 | apply pbN | apply bw1) | exact HB.out))) : w.heap.size ≤ gb186)); have n3_ := Ai0.mk ((by rw [hg]; exact (bz1 (by repeat (first | (with_reducible first | exact HB.out | apply ba1 | apply pbN | apply bw1) | exact HB.out))) : w.heap.size ≤ gb186)); clear HB; have HB := n0_; have BK186 := n1_; have GW186 := n2_; have GE186 := n3_; clear n0_ n1_ n2_ n3_; clear hb hbox hg)))
 (try simp only [Act.put, l01_, l02_, l03_])
 go_cut [12] (fun v12 wc => ∃ (kq : Nat) (x12_1 : Bool), v12 = .bool x12_1 ∧ Ai0 (cr4_Check.j0 kq x12_1 a0_0 a0_1 l0_2 = some r) ∧ Ai0 (kq ≤ k) ∧ Ai0 (wc.heap[gb186]? = some (.cells #[.int .i64 a0_0, .int .i64 a0_1, (.slice A0_2 l0_2.length c0_2)] 44 (0, 0))) ∧ Ai0 (Below w.heap.size w wc))
 case first =>
  have H := HC2.out;clear HC2;replace H := Option.bind_eq_some_iff.mp H;obtain ⟨t187, A40, H⟩ := H;replace H : (if t187 = 0 then (cr4_Check.j0 k true a0_0 a0_1 l0_2) else ((cr4_prime.f k a0_0).bind fun t188 => (cr4_Check.j0 k (!t188) a0_0 a0_1 l0_2))) = some r := H;have A4 := Ai0.mk A40;clear A40;by_cases c5 : t187 = 0
  ·rw [if_pos c5] at H;have c5b0 : (t187 == 0) = true := beq_iff_eq.mpr c5;have c5b1 : (t187 != 0) = false := bne_eq_false_iff_eq.mpr c5;clear c5;(first | rw [c5b0] | (simp only [i64_w, i32_w]; rw [c5b0]) | skip);have H' := Ai0.mk H;clear H;have hcz6_0 : w3.cell? ⟨gb186, 0, none⟩ = some (.int .i64 a0_0) := (kc1 BK186.out 0).trans rfl;have hcz6_1 : w3.cell? ⟨gb186, 1, none⟩ = some (.int .i64 a0_1) := (kc1 BK186.out 1).trans rfl;have hcz6_2 : w3.cell? ⟨gb186, 2, none⟩ = some (.slice A0_2 l0_2.length c0_2) := (kc1 BK186.out 2).trans rfl;have hfz6_0 := kf1 BK186.out 0;have hfz6_1 := kf1 BK186.out 1;have hfz6_2 := kf1 BK186.out 2
   go_wp2_with (first | (go_at_call 75; (with_reducible refine (cr4_Order.calls k a0_0 a0_1 _ _ l0_2 t187 _ ?side1 ?side2 A4.out).mono ?_); (case side1 => repeat (first | exact (Kd.C_below HR0_2.out HB.out) | (with_reducible refine Kd.C_alloc ?_ _) | (with_reducible refine Kd.C_drewN ?_ _) | (with_reducible refine Kd.C_drew ?_))); (case side2 => exact HC0_2.out); rintro e w7 ⟨rfl, hb⟩; have n0_ := Ai0.mk (kb1 (g := gb186) (o := .cells #[.int .i64 a0_0, .int .i64 a0_1, .slice A0_2 l0_2.length c0_2] 44 (0, 0)) (by (with_reducible repeat (first | refine kn1 ?_ _ | refine kd1 ?_ | refine ka1 ?_ _)); exact BK186.out) hb); have n1_ := Ai0.mk (bt1 (by repeat (first | (with_reducible first | exact HB.out | apply ba1 | apply pbN | apply bw1 | refine bs1 ?_ GE186.out) | exact HB.out)) hb); clear BK186; clear HB; have BK186 := n0_; have HB := n1_; clear n0_ n1_; (try clear hb); (try clear hb2); (try clear hk); (try clear hi)))
   repeat (go_quiet (first | (go_at_call 75; (with_reducible refine (cr4_Order.calls k a0_0 a0_1 _ _ l0_2 t187 _ ?side1 ?side2 A4.out).mono ?_); (case side1 => repeat (first | exact (Kd.C_below HR0_2.out HB.out) | (with_reducible refine Kd.C_alloc ?_ _) | (with_reducible refine Kd.C_drewN ?_ _) | (with_reducible refine Kd.C_drew ?_))); (case side2 => exact HC0_2.out); rintro e w7 ⟨rfl, hb⟩; have n0_ := Ai0.mk (kb1 (g := gb186) (o := .cells #[.int .i64 a0_0, .int .i64 a0_1, .slice A0_2 l0_2.length c0_2] 44 (0, 0)) (by (with_reducible repeat (first | refine kn1 ?_ _ | refine kd1 ?_ | refine ka1 ?_ _)); exact BK186.out) hb); have n1_ := Ai0.mk (bt1 (by repeat (first | (with_reducible first | exact HB.out | apply ba1 | apply pbN | apply bw1 | refine bs1 ?_ GE186.out) | exact HB.out)) hb); clear BK186; clear HB; have BK186 := n0_; have HB := n1_; clear n0_ n1_; (try clear hb); (try clear hb2); (try clear hk); (try clear hi))); try go_wp2_with (first | (go_at_call 75; (with_reducible refine (cr4_Order.calls k a0_0 a0_1 _ _ l0_2 t187 _ ?side1 ?side2 A4.out).mono ?_); (case side1 => repeat (first | exact (Kd.C_below HR0_2.out HB.out) | (with_reducible refine Kd.C_alloc ?_ _) | (with_reducible refine Kd.C_drewN ?_ _) | (with_reducible refine Kd.C_drew ?_))); (case side2 => exact HC0_2.out); rintro e w7 ⟨rfl, hb⟩; have n0_ := Ai0.mk (kb1 (g := gb186) (o := .cells #[.int .i64 a0_0, .int .i64 a0_1, .slice A0_2 l0_2.length c0_2] 44 (0, 0)) (by (with_reducible repeat (first | refine kn1 ?_ _ | refine kd1 ?_ | refine ka1 ?_ _)); exact BK186.out) hb); have n1_ := Ai0.mk (bt1 (by repeat (first | (with_reducible first | exact HB.out | apply ba1 | apply pbN | apply bw1 | refine bs1 ?_ GE186.out) | exact HB.out)) hb); clear BK186; clear HB; have BK186 := n0_; have HB := n1_; clear n0_ n1_; (try clear hb); (try clear hb2); (try clear hk); (try clear hi))))
   go_meet
   case rel => exact ⟨_, (true), (by first | rfl | (simp; done) | (simp [*]; done)), H', ⟨by first | omega | exact Nat.le_refl _⟩, ⟨by (with_reducible repeat (first | refine kn1 ?_ _ | refine kd1 ?_ | refine ka1 ?_ _)); exact BK186.out⟩, ⟨by repeat (first | (with_reducible first | exact HB.out | apply ba1 | apply pbN | apply bw1 | refine bs1 ?_ GE186.out) | exact HB.out)⟩⟩
  ·rw [if_neg c5] at H;have c5b0 : (t187 == 0) = false := beq_eq_false_iff_ne.mpr c5;have c5b1 : (t187 != 0) = true := bne_iff_ne.mpr c5;(first | rw [c5b0] | (simp only [i64_w, i32_w]; rw [c5b0]) | skip);replace H := Option.bind_eq_some_iff.mp H;obtain ⟨t188, A80, H⟩ := H;replace H : (cr4_Check.j0 k (!t188) a0_0 a0_1 l0_2) = some r := H;have A8 := Ai0.mk A80;clear A80;have H' := Ai0.mk H;clear H;have hcz9_0 : w3.cell? ⟨gb186, 0, none⟩ = some (.int .i64 a0_0) := (kc1 BK186.out 0).trans rfl;have hcz9_1 : w3.cell? ⟨gb186, 1, none⟩ = some (.int .i64 a0_1) := (kc1 BK186.out 1).trans rfl;have hcz9_2 : w3.cell? ⟨gb186, 2, none⟩ = some (.slice A0_2 l0_2.length c0_2) := (kc1 BK186.out 2).trans rfl;have hfz9_0 := kf1 BK186.out 0;have hfz9_1 := kf1 BK186.out 1;have hfz9_2 := kf1 BK186.out 2
   go_wp2_with (first | (go_at_call 75; (with_reducible refine (cr4_Order.calls k a0_0 a0_1 _ _ l0_2 t187 _ ?side1 ?side2 A4.out).mono ?_); (case side1 => repeat (first | exact (Kd.C_below HR0_2.out HB.out) | (with_reducible refine Kd.C_alloc ?_ _) | (with_reducible refine Kd.C_drewN ?_ _) | (with_reducible refine Kd.C_drew ?_))); (case side2 => exact HC0_2.out); rintro e w10 ⟨rfl, hb⟩; have n0_ := Ai0.mk (kb1 (g := gb186) (o := .cells #[.int .i64 a0_0, .int .i64 a0_1, .slice A0_2 l0_2.length c0_2] 44 (0, 0)) (by (with_reducible repeat (first | refine kn1 ?_ _ | refine kd1 ?_ | refine ka1 ?_ _)); exact BK186.out) hb); have n1_ := Ai0.mk (bt1 (by repeat (first | (with_reducible first | exact HB.out | apply ba1 | apply pbN | apply bw1 | refine bs1 ?_ GE186.out) | exact HB.out)) hb); clear BK186; clear HB; have BK186 := n0_; have HB := n1_; clear n0_ n1_; (try clear hb); (try clear hb2); (try clear hk); (try clear hi); have hcz11_0 : w10.cell? ⟨gb186, 0, none⟩ = some (.int .i64 a0_0) := (kc1 BK186.out 0).trans rfl; have hcz11_1 : w10.cell? ⟨gb186, 1, none⟩ = some (.int .i64 a0_1) := (kc1 BK186.out 1).trans rfl; have hcz11_2 : w10.cell? ⟨gb186, 2, none⟩ = some (.slice A0_2 l0_2.length c0_2) := (kc1 BK186.out 2).trans rfl; have hfz11_0 := kf1 BK186.out 0; have hfz11_1 := kf1 BK186.out 1; have hfz11_2 := kf1 BK186.out 2) | (go_at_call 76; (with_reducible refine (cr4_prime.calls k a0_0 t188 _ A8.out).mono ?_); rintro e w' ⟨rfl, ⟨nd, rfl⟩⟩; (try first | exact ⟨rfl, _, World.drewN_drewN _ _ _⟩ | exact ⟨rfl, _, Eq.trans (World.drewN_drewN _ _ _) (congrArg (World.drewN _) (Nat.add_assoc _ _ _))⟩)))
   repeat (go_quiet (first | (go_at_call 75; (with_reducible refine (cr4_Order.calls k a0_0 a0_1 _ _ l0_2 t187 _ ?side1 ?side2 A4.out).mono ?_); (case side1 => repeat (first | exact (Kd.C_below HR0_2.out HB.out) | (with_reducible refine Kd.C_alloc ?_ _) | (with_reducible refine Kd.C_drewN ?_ _) | (with_reducible refine Kd.C_drew ?_))); (case side2 => exact HC0_2.out); rintro e w10 ⟨rfl, hb⟩; have n0_ := Ai0.mk (kb1 (g := gb186) (o := .cells #[.int .i64 a0_0, .int .i64 a0_1, .slice A0_2 l0_2.length c0_2] 44 (0, 0)) (by (with_reducible repeat (first | refine kn1 ?_ _ | refine kd1 ?_ | refine ka1 ?_ _)); exact BK186.out) hb); have n1_ := Ai0.mk (bt1 (by repeat (first | (with_reducible first | exact HB.out | apply ba1 | apply pbN | apply bw1 | refine bs1 ?_ GE186.out) | exact HB.out)) hb); clear BK186; clear HB; have BK186 := n0_; have HB := n1_; clear n0_ n1_; (try clear hb); (try clear hb2); (try clear hk); (try clear hi); have hcz11_0 : w10.cell? ⟨gb186, 0, none⟩ = some (.int .i64 a0_0) := (kc1 BK186.out 0).trans rfl; have hcz11_1 : w10.cell? ⟨gb186, 1, none⟩ = some (.int .i64 a0_1) := (kc1 BK186.out 1).trans rfl; have hcz11_2 : w10.cell? ⟨gb186, 2, none⟩ = some (.slice A0_2 l0_2.length c0_2) := (kc1 BK186.out 2).trans rfl; have hfz11_0 := kf1 BK186.out 0; have hfz11_1 := kf1 BK186.out 1; have hfz11_2 := kf1 BK186.out 2) | (go_at_call 76; (with_reducible refine (cr4_prime.calls k a0_0 t188 _ A8.out).mono ?_); rintro e w' ⟨rfl, ⟨nd, rfl⟩⟩; (try first | exact ⟨rfl, _, World.drewN_drewN _ _ _⟩ | exact ⟨rfl, _, Eq.trans (World.drewN_drewN _ _ _) (congrArg (World.drewN _) (Nat.add_assoc _ _ _))⟩))); try go_wp2_with (first | (go_at_call 75; (with_reducible refine (cr4_Order.calls k a0_0 a0_1 _ _ l0_2 t187 _ ?side1 ?side2 A4.out).mono ?_); (case side1 => repeat (first | exact (Kd.C_below HR0_2.out HB.out) | (with_reducible refine Kd.C_alloc ?_ _) | (with_reducible refine Kd.C_drewN ?_ _) | (with_reducible refine Kd.C_drew ?_))); (case side2 => exact HC0_2.out); rintro e w10 ⟨rfl, hb⟩; have n0_ := Ai0.mk (kb1 (g := gb186) (o := .cells #[.int .i64 a0_0, .int .i64 a0_1, .slice A0_2 l0_2.length c0_2] 44 (0, 0)) (by (with_reducible repeat (first | refine kn1 ?_ _ | refine kd1 ?_ | refine ka1 ?_ _)); exact BK186.out) hb); have n1_ := Ai0.mk (bt1 (by repeat (first | (with_reducible first | exact HB.out | apply ba1 | apply pbN | apply bw1 | refine bs1 ?_ GE186.out) | exact HB.out)) hb); clear BK186; clear HB; have BK186 := n0_; have HB := n1_; clear n0_ n1_; (try clear hb); (try clear hb2); (try clear hk); (try clear hi); have hcz11_0 : w10.cell? ⟨gb186, 0, none⟩ = some (.int .i64 a0_0) := (kc1 BK186.out 0).trans rfl; have hcz11_1 : w10.cell? ⟨gb186, 1, none⟩ = some (.int .i64 a0_1) := (kc1 BK186.out 1).trans rfl; have hcz11_2 : w10.cell? ⟨gb186, 2, none⟩ = some (.slice A0_2 l0_2.length c0_2) := (kc1 BK186.out 2).trans rfl; have hfz11_0 := kf1 BK186.out 0; have hfz11_1 := kf1 BK186.out 1; have hfz11_2 := kf1 BK186.out 2) | (go_at_call 76; (with_reducible refine (cr4_prime.calls k a0_0 t188 _ A8.out).mono ?_); rintro e w' ⟨rfl, ⟨nd, rfl⟩⟩; (try first | exact ⟨rfl, _, World.drewN_drewN _ _ _⟩ | exact ⟨rfl, _, Eq.trans (World.drewN_drewN _ _ _) (congrArg (World.drewN _) (Nat.add_assoc _ _ _))⟩))))
   go_meet
   case rel => exact ⟨_, (!t188), (by first | rfl | (simp; done) | (simp [*]; done)), H', ⟨by first | omega | exact Nat.le_refl _⟩, ⟨by (with_reducible repeat (first | refine kn1 ?_ _ | refine kd1 ?_ | refine ka1 ?_ _)); exact BK186.out⟩, ⟨by repeat (first | (with_reducible first | exact HB.out | apply ba1 | apply pbN | apply bw1 | refine bs1 ?_ GE186.out) | exact HB.out)⟩⟩
 case rest =>
  clear HC2
  try clear p2
  try clear c5
  try clear c5b0
  try clear c5b1
  try clear hcz11_0
  try clear hcz11_1
  try clear hcz11_2
  try clear hcz6_0
  try clear hcz6_1
  try clear hcz6_2
  try clear hcz9_0
  try clear hcz9_1
  try clear hcz9_2
  try clear hfz11_0
  try clear hfz11_1
  try clear hfz11_2
  try clear hfz6_0
  try clear hfz6_1
  try clear hfz6_2
  try clear hfz9_0
  try clear hfz9_1
  try clear hfz9_2
  obtain ⟨kq, x12_1, rfl, HA, HJ1, BK186, HB⟩ := hcut
  cases kq with
  | zero => exact absurd HA.out (by simp [cr4_Check.j0])
  | succ kj1 =>
   have H := HA.out;clear HA;simp only [cr4_Check.j0] at H;by_cases c12 : x12_1 = true
   ·subst c12;(have H1 : (some 1) = some r := by rw [if_pos rfl] at H; exact H);clear H;have H := H1;clear H1;obtain rfl := Option.some.inj H
    go_wp2
    repeat (go_quiet (fail); try go_wp2)
    go_ret
    exact ⟨by first | rfl | (simp [eW0, eW1] <;> rfl) | (simp [*, eW0, eW1] <;> rfl), by repeat (first | (with_reducible first | exact HB.out | apply ba1 | apply pbN | apply bw1 | refine bs1 ?_ GE186.out) | exact HB.out)⟩
   ·replace c12 := Bool.eq_false_iff.mpr c12;subst c12;(have H1 : (if a0_1 = 1 then (if (l0_2.length : Int) = 0 then (some 0) else (some 1)) else (if (l0_2.length : Int) = a0_1 then (cr4_Check.l0 kj1 0 a0_0 a0_1 l0_2) else (some 1))) = some r := by rw [if_neg (show ¬ (false = true) by decide)] at H; exact H);clear H;have H := H1;clear H1;by_cases c13 : a0_1 = 1
    ·rw [if_pos c13] at H;have c13b0 : (a0_1 == 1) = true := beq_iff_eq.mpr c13;have c13b1 : (a0_1 != 1) = false := bne_eq_false_iff_eq.mpr c13;clear c13;by_cases c14 : (l0_2.length : Int) = 0
     case' pos =>
      rw [if_pos c14] at H;have c14b0 : ((l0_2.length : Int) == 0) = true := beq_iff_eq.mpr c14;have c14b1 : ((l0_2.length : Int) != 0) = false := bne_eq_false_iff_eq.mpr c14;clear c14;obtain rfl := Option.some.inj H
     case' neg =>
      rw [if_neg c14] at H;have c14b0 : ((l0_2.length : Int) == 0) = false := beq_eq_false_iff_ne.mpr c14;have c14b1 : ((l0_2.length : Int) != 0) = true := bne_iff_ne.mpr c14;(have c14b2 : ¬ (l0_2 = []) := fun h_ => c14 (by rw [h_]; rfl));obtain rfl := Option.some.inj H
     all_goals
      have hcz15_0 : wc.cell? ⟨gb186, 0, none⟩ = some (.int .i64 a0_0) := (kc1 BK186.out 0).trans rfl;have hcz15_1 : wc.cell? ⟨gb186, 1, none⟩ = some (.int .i64 a0_1) := (kc1 BK186.out 1).trans rfl;have hcz15_2 : wc.cell? ⟨gb186, 2, none⟩ = some (.slice A0_2 l0_2.length c0_2) := (kc1 BK186.out 2).trans rfl;have hfz15_0 := kf1 BK186.out 0;have hfz15_1 := kf1 BK186.out 1;have hfz15_2 := kf1 BK186.out 2
      go_wp2
      repeat (go_quiet (fail); try go_wp2)
      go_ret
      exact ⟨by first | rfl | (simp [eW0, eW1] <;> rfl) | (simp [*, eW0, eW1] <;> rfl), by repeat (first | (with_reducible first | exact HB.out | apply ba1 | apply pbN | apply bw1 | refine bs1 ?_ GE186.out) | exact HB.out)⟩
    ·rw [if_neg c13] at H;have c13b0 : (a0_1 == 1) = false := beq_eq_false_iff_ne.mpr c13;have c13b1 : (a0_1 != 1) = true := bne_iff_ne.mpr c13;by_cases c17 : (l0_2.length : Int) = a0_1
     ·rw [if_pos c17] at H;have c17b0 : ((l0_2.length : Int) == a0_1) = true := beq_iff_eq.mpr c17;have c17b1 : ((l0_2.length : Int) != a0_1) = false := bne_eq_false_iff_eq.mpr c17;clear c17;have H' := Ai0.mk H;clear H;have hcz18_0 : wc.cell? ⟨gb186, 0, none⟩ = some (.int .i64 a0_0) := (kc1 BK186.out 0).trans rfl;have hcz18_1 : wc.cell? ⟨gb186, 1, none⟩ = some (.int .i64 a0_1) := (kc1 BK186.out 1).trans rfl;have hcz18_2 : wc.cell? ⟨gb186, 2, none⟩ = some (.slice A0_2 l0_2.length c0_2) := (kc1 BK186.out 2).trans rfl;have hfz18_0 := kf1 BK186.out 0;have hfz18_1 := kf1 BK186.out 1;have hfz18_2 := kf1 BK186.out 2
      go_wp2
      repeat (go_quiet (fail); try go_wp2)
      go_loopg [3] kj1 (fun kq v3 w' => ∃ (x3_2 : Int), v3 = .int .i64 x3_2 ∧ Ai0 (cr4_Check.l0 kq x3_2 a0_0 a0_1 l0_2 = some r) ∧ Ai0 (kq ≤ kj1) ∧ Ai0 (w'.heap[gb186]? = some (.cells #[.int .i64 a0_0, .int .i64 a0_1, (.slice A0_2 l0_2.length c0_2)] 44 (0, 0))) ∧ Ai0 (Below w.heap.size w w'))
      case atStart => exact ⟨(0), (by first | rfl | (simp; done) | (simp [*]; done)), H', ⟨Nat.le_refl _⟩, ⟨by (with_reducible repeat (first | refine kn1 ?_ _ | refine kd1 ?_ | refine ka1 ?_ _)); exact BK186.out⟩, ⟨by repeat (first | (with_reducible first | exact HB.out | apply ba1 | apply pbN | apply bw1 | refine bs1 ?_ GE186.out) | exact HB.out)⟩⟩
      case round =>
       clear H'
       try clear c1
       try clear p2
       try clear c5
       try clear c5b0
       try clear c5b1
       try clear c12
       try clear c13
       try clear c13b0
       try clear c13b1
       try clear c14
       try clear c14b0
       try clear c14b1
       try clear c14b2
       try clear c17
       try clear c17b0
       try clear c17b1
       try clear hcz11_0
       try clear hcz11_1
       try clear hcz11_2
       try clear hcz15_0
       try clear hcz15_1
       try clear hcz15_2
       try clear hcz16_0
       try clear hcz16_1
       try clear hcz16_2
       try clear hcz18_0
       try clear hcz18_1
       try clear hcz18_2
       try clear hcz6_0
       try clear hcz6_1
       try clear hcz6_2
       try clear hcz9_0
       try clear hcz9_1
       try clear hcz9_2
       try clear hfz11_0
       try clear hfz11_1
       try clear hfz11_2
       try clear hfz15_0
       try clear hfz15_1
       try clear hfz15_2
       try clear hfz16_0
       try clear hfz16_1
       try clear hfz16_2
       try clear hfz18_0
       try clear hfz18_1
       try clear hfz18_2
       try clear hfz6_0
       try clear hfz6_1
       try clear hfz6_2
       try clear hfz9_0
       try clear hfz9_1
       try clear hfz9_2
       try clear p2
       obtain ⟨x3_2, rfl, HA, HK2, BK186, HB⟩ := hrel
       cases gk with
       | zero => exact absurd HA.out (by simp [cr4_Check.l0])
       | succ k2 =>
        have H := HA.out;clear HA;simp only [cr4_Check.l0] at H;by_cases c19 : x3_2 < a0_1
        ·rw [if_pos c19] at H;have c19b0 : decide (x3_2 < a0_1) = true := decide_eq_true c19;clear c19;by_cases c20 : 0 ≤ x3_2
         ·rw [if_pos c20] at H;have c20b0 : decide (0 ≤ x3_2) = true := decide_eq_true c20;clear c20;by_cases c21 : x3_2 < (l0_2.length : Int)
          ·rw [if_pos c21] at H;have c21b0 : decide (x3_2 < (l0_2.length : Int)) = true := decide_eq_true c21;clear c21;by_cases c22 : (rd l0_2 x3_2) < 0
           ·rw [if_pos c22] at H;have c22b0 : decide ((rd l0_2 x3_2) < 0) = true := decide_eq_true c22;clear c22;obtain rfl := Option.some.inj H;have hcz23_0 : wr.cell? ⟨gb186, 0, none⟩ = some (.int .i64 a0_0) := (kc1 BK186.out 0).trans rfl;have hcz23_1 : wr.cell? ⟨gb186, 1, none⟩ = some (.int .i64 a0_1) := (kc1 BK186.out 1).trans rfl;have hcz23_2 : wr.cell? ⟨gb186, 2, none⟩ = some (.slice A0_2 l0_2.length c0_2) := (kc1 BK186.out 2).trans rfl;have hfz23_0 := kf1 BK186.out 0;have hfz23_1 := kf1 BK186.out 1;have hfz23_2 := kf1 BK186.out 2;have p189 : 0 ≤ (x3_2 : Int) := of_decide_eq_true (by first | (with_reducible assumption) | assumption);have q189 : x3_2 < (l0_2.length : Int) := of_decide_eq_true (by first | (with_reducible assumption) | assumption);obtain ⟨ad189, e189, hx189_0⟩ := Kd.at_int HR0_2.out x3_2 p189 q189;cases e189;replace hx189_0 := (HB.out.cell (World.block_lt_of_cell? w _ hx189_0)).trans hx189_0;replace p189 := eq_true p189;replace q189 := eq_true q189
            go_wp2
            repeat (go_quiet (fail); try go_wp2)
            go_ret
            exact ⟨by first | rfl | (simp [eW0, eW1] <;> rfl) | (simp [*, eW0, eW1] <;> rfl), by repeat (first | (with_reducible first | exact HB.out | apply ba1 | apply pbN | apply bw1 | refine bs1 ?_ GE186.out) | exact HB.out)⟩
           ·rw [if_neg c22] at H;have c22b0 : decide ((rd l0_2 x3_2) < 0) = false := decide_eq_false c22;clear c22;by_cases c24 : (rd l0_2 x3_2) ≥ a0_0
            case' pos =>
             rw [if_pos c24] at H;have c24b0 : decide (a0_0 ≤ (rd l0_2 x3_2)) = true := decide_eq_true c24;clear c24;obtain rfl := Option.some.inj H
            case' neg =>
             rw [if_neg c24] at H;have c24b0 : decide (a0_0 ≤ (rd l0_2 x3_2)) = false := decide_eq_false c24;clear c24;have H' := Ai0.mk H;clear H
            all_goals
             have hcz25_0 : wr.cell? ⟨gb186, 0, none⟩ = some (.int .i64 a0_0) := (kc1 BK186.out 0).trans rfl;have hcz25_1 : wr.cell? ⟨gb186, 1, none⟩ = some (.int .i64 a0_1) := (kc1 BK186.out 1).trans rfl;have hcz25_2 : wr.cell? ⟨gb186, 2, none⟩ = some (.slice A0_2 l0_2.length c0_2) := (kc1 BK186.out 2).trans rfl;have hfz25_0 := kf1 BK186.out 0;have hfz25_1 := kf1 BK186.out 1;have hfz25_2 := kf1 BK186.out 2;have p189 : 0 ≤ (x3_2 : Int) := of_decide_eq_true (by first | (with_reducible assumption) | assumption);have q189 : x3_2 < (l0_2.length : Int) := of_decide_eq_true (by first | (with_reducible assumption) | assumption);obtain ⟨ad189, e189, hx189_0⟩ := Kd.at_int HR0_2.out x3_2 p189 q189;cases e189;replace hx189_0 := (HB.out.cell (World.block_lt_of_cell? w _ hx189_0)).trans hx189_0;replace p189 := eq_true p189;replace q189 := eq_true q189;have p190 : 0 ≤ (x3_2 : Int) := of_decide_eq_true (by first | (with_reducible assumption) | assumption);have q190 : x3_2 < (l0_2.length : Int) := of_decide_eq_true (by first | (with_reducible assumption) | assumption);obtain ⟨ad190, e190, hx190_0⟩ := Kd.at_int HR0_2.out x3_2 p190 q190;obtain rfl : ad189 = ad190 := (by injection e190);replace hx190_0 := (HB.out.cell (World.block_lt_of_cell? w _ hx190_0)).trans hx190_0;replace p190 := eq_true p190;replace q190 := eq_true q190
             go_wp2
             repeat (go_quiet (fail); try go_wp2)
            ·go_roundg k2
             case measure => have := HJ1.out; have := HK2.out; omega
             case rel => exact ⟨(wrap64 (x3_2 + 1)), (by first | rfl | (simp; done) | (simp [*]; done)), H', ⟨by have := HJ1.out; have := HK2.out; omega⟩, ⟨by (with_reducible repeat (first | refine kn1 ?_ _ | refine kd1 ?_ | refine ka1 ?_ _)); exact BK186.out⟩, ⟨by repeat (first | (with_reducible first | exact HB.out | apply ba1 | apply pbN | apply bw1 | refine bs1 ?_ GE186.out) | exact HB.out)⟩⟩
            ·go_ret
             exact ⟨by first | rfl | (simp [eW0, eW1] <;> rfl) | (simp [*, eW0, eW1] <;> rfl), by repeat (first | (with_reducible first | exact HB.out | apply ba1 | apply pbN | apply bw1 | refine bs1 ?_ GE186.out) | exact HB.out)⟩
          ·rw [if_neg c21] at H;exact absurd H (by simp)
         ·rw [if_neg c20] at H;exact absurd H (by simp)
        ·rw [if_neg c19] at H;have c19b0 : decide (x3_2 < a0_1) = false := decide_eq_false c19;clear c19;replace H := Option.bind_eq_some_iff.mp H;obtain ⟨t191, A270, H⟩ := H;replace H : (if t191 = true then (some 0) else (some 1)) = some r := H;have A27 := Ai0.mk A270;clear A270;by_cases c28 : t191 = true
         ·subst c28;(have H1 : (some 0) = some r := by rw [if_pos rfl] at H; exact H);clear H;have H := H1;clear H1;obtain rfl := Option.some.inj H;have hcz29_0 : wr.cell? ⟨gb186, 0, none⟩ = some (.int .i64 a0_0) := (kc1 BK186.out 0).trans rfl;have hcz29_1 : wr.cell? ⟨gb186, 1, none⟩ = some (.int .i64 a0_1) := (kc1 BK186.out 1).trans rfl;have hcz29_2 : wr.cell? ⟨gb186, 2, none⟩ = some (.slice A0_2 l0_2.length c0_2) := (kc1 BK186.out 2).trans rfl;have hfz29_0 := kf1 BK186.out 0;have hfz29_1 := kf1 BK186.out 1;have hfz29_2 := kf1 BK186.out 2
          go_wp2_with (first | (go_at_call 77; (with_reducible refine (cr4_irreducible.calls k2 _ _ l0_2 a0_0 true _ ?side1 ?side2 A27.out).mono ?_); (case side1 => repeat (first | exact (Kd.C_below HR0_2.out HB.out) | (with_reducible refine Kd.C_alloc ?_ _) | (with_reducible refine Kd.C_drewN ?_ _) | (with_reducible refine Kd.C_drew ?_))); (case side2 => exact HC0_2.out); rintro e w30 ⟨rfl, hb⟩; have n0_ := Ai0.mk (kb1 (g := gb186) (o := .cells #[.int .i64 a0_0, .int .i64 a0_1, .slice A0_2 l0_2.length c0_2] 44 (0, 0)) (by (with_reducible repeat (first | refine kn1 ?_ _ | refine kd1 ?_ | refine ka1 ?_ _)); exact BK186.out) hb); have n1_ := Ai0.mk (bt1 (by repeat (first | (with_reducible first | exact HB.out | apply ba1 | apply pbN | apply bw1 | refine bs1 ?_ GE186.out) | exact HB.out)) hb); clear BK186; clear HB; have BK186 := n0_; have HB := n1_; clear n0_ n1_; (try clear hb); (try clear hb2); (try clear hk); (try clear hi)))
          repeat (go_quiet (first | (go_at_call 77; (with_reducible refine (cr4_irreducible.calls k2 _ _ l0_2 a0_0 true _ ?side1 ?side2 A27.out).mono ?_); (case side1 => repeat (first | exact (Kd.C_below HR0_2.out HB.out) | (with_reducible refine Kd.C_alloc ?_ _) | (with_reducible refine Kd.C_drewN ?_ _) | (with_reducible refine Kd.C_drew ?_))); (case side2 => exact HC0_2.out); rintro e w30 ⟨rfl, hb⟩; have n0_ := Ai0.mk (kb1 (g := gb186) (o := .cells #[.int .i64 a0_0, .int .i64 a0_1, .slice A0_2 l0_2.length c0_2] 44 (0, 0)) (by (with_reducible repeat (first | refine kn1 ?_ _ | refine kd1 ?_ | refine ka1 ?_ _)); exact BK186.out) hb); have n1_ := Ai0.mk (bt1 (by repeat (first | (with_reducible first | exact HB.out | apply ba1 | apply pbN | apply bw1 | refine bs1 ?_ GE186.out) | exact HB.out)) hb); clear BK186; clear HB; have BK186 := n0_; have HB := n1_; clear n0_ n1_; (try clear hb); (try clear hb2); (try clear hk); (try clear hi))); try go_wp2_with (first | (go_at_call 77; (with_reducible refine (cr4_irreducible.calls k2 _ _ l0_2 a0_0 true _ ?side1 ?side2 A27.out).mono ?_); (case side1 => repeat (first | exact (Kd.C_below HR0_2.out HB.out) | (with_reducible refine Kd.C_alloc ?_ _) | (with_reducible refine Kd.C_drewN ?_ _) | (with_reducible refine Kd.C_drew ?_))); (case side2 => exact HC0_2.out); rintro e w30 ⟨rfl, hb⟩; have n0_ := Ai0.mk (kb1 (g := gb186) (o := .cells #[.int .i64 a0_0, .int .i64 a0_1, .slice A0_2 l0_2.length c0_2] 44 (0, 0)) (by (with_reducible repeat (first | refine kn1 ?_ _ | refine kd1 ?_ | refine ka1 ?_ _)); exact BK186.out) hb); have n1_ := Ai0.mk (bt1 (by repeat (first | (with_reducible first | exact HB.out | apply ba1 | apply pbN | apply bw1 | refine bs1 ?_ GE186.out) | exact HB.out)) hb); clear BK186; clear HB; have BK186 := n0_; have HB := n1_; clear n0_ n1_; (try clear hb); (try clear hb2); (try clear hk); (try clear hi))))
          go_ret
          exact ⟨by first | rfl | (simp [eW0, eW1] <;> rfl) | (simp [*, eW0, eW1] <;> rfl), by repeat (first | (with_reducible first | exact HB.out | apply ba1 | apply pbN | apply bw1 | refine bs1 ?_ GE186.out) | exact HB.out)⟩
         ·replace c28 := Bool.eq_false_iff.mpr c28;subst c28;(have H1 : (some 1) = some r := by rw [if_neg (show ¬ (false = true) by decide)] at H; exact H);clear H;have H := H1;clear H1;obtain rfl := Option.some.inj H;have hcz31_0 : wr.cell? ⟨gb186, 0, none⟩ = some (.int .i64 a0_0) := (kc1 BK186.out 0).trans rfl;have hcz31_1 : wr.cell? ⟨gb186, 1, none⟩ = some (.int .i64 a0_1) := (kc1 BK186.out 1).trans rfl;have hcz31_2 : wr.cell? ⟨gb186, 2, none⟩ = some (.slice A0_2 l0_2.length c0_2) := (kc1 BK186.out 2).trans rfl;have hfz31_0 := kf1 BK186.out 0;have hfz31_1 := kf1 BK186.out 1;have hfz31_2 := kf1 BK186.out 2
          go_wp2_with (first | (go_at_call 77; (with_reducible refine (cr4_irreducible.calls k2 _ _ l0_2 a0_0 false _ ?side1 ?side2 A27.out).mono ?_); (case side1 => repeat (first | exact (Kd.C_below HR0_2.out HB.out) | (with_reducible refine Kd.C_alloc ?_ _) | (with_reducible refine Kd.C_drewN ?_ _) | (with_reducible refine Kd.C_drew ?_))); (case side2 => exact HC0_2.out); rintro e w32 ⟨rfl, hb⟩; have n0_ := Ai0.mk (kb1 (g := gb186) (o := .cells #[.int .i64 a0_0, .int .i64 a0_1, .slice A0_2 l0_2.length c0_2] 44 (0, 0)) (by (with_reducible repeat (first | refine kn1 ?_ _ | refine kd1 ?_ | refine ka1 ?_ _)); exact BK186.out) hb); have n1_ := Ai0.mk (bt1 (by repeat (first | (with_reducible first | exact HB.out | apply ba1 | apply pbN | apply bw1 | refine bs1 ?_ GE186.out) | exact HB.out)) hb); clear BK186; clear HB; have BK186 := n0_; have HB := n1_; clear n0_ n1_; (try clear hb); (try clear hb2); (try clear hk); (try clear hi)))
          repeat (go_quiet (first | (go_at_call 77; (with_reducible refine (cr4_irreducible.calls k2 _ _ l0_2 a0_0 false _ ?side1 ?side2 A27.out).mono ?_); (case side1 => repeat (first | exact (Kd.C_below HR0_2.out HB.out) | (with_reducible refine Kd.C_alloc ?_ _) | (with_reducible refine Kd.C_drewN ?_ _) | (with_reducible refine Kd.C_drew ?_))); (case side2 => exact HC0_2.out); rintro e w32 ⟨rfl, hb⟩; have n0_ := Ai0.mk (kb1 (g := gb186) (o := .cells #[.int .i64 a0_0, .int .i64 a0_1, .slice A0_2 l0_2.length c0_2] 44 (0, 0)) (by (with_reducible repeat (first | refine kn1 ?_ _ | refine kd1 ?_ | refine ka1 ?_ _)); exact BK186.out) hb); have n1_ := Ai0.mk (bt1 (by repeat (first | (with_reducible first | exact HB.out | apply ba1 | apply pbN | apply bw1 | refine bs1 ?_ GE186.out) | exact HB.out)) hb); clear BK186; clear HB; have BK186 := n0_; have HB := n1_; clear n0_ n1_; (try clear hb); (try clear hb2); (try clear hk); (try clear hi))); try go_wp2_with (first | (go_at_call 77; (with_reducible refine (cr4_irreducible.calls k2 _ _ l0_2 a0_0 false _ ?side1 ?side2 A27.out).mono ?_); (case side1 => repeat (first | exact (Kd.C_below HR0_2.out HB.out) | (with_reducible refine Kd.C_alloc ?_ _) | (with_reducible refine Kd.C_drewN ?_ _) | (with_reducible refine Kd.C_drew ?_))); (case side2 => exact HC0_2.out); rintro e w32 ⟨rfl, hb⟩; have n0_ := Ai0.mk (kb1 (g := gb186) (o := .cells #[.int .i64 a0_0, .int .i64 a0_1, .slice A0_2 l0_2.length c0_2] 44 (0, 0)) (by (with_reducible repeat (first | refine kn1 ?_ _ | refine kd1 ?_ | refine ka1 ?_ _)); exact BK186.out) hb); have n1_ := Ai0.mk (bt1 (by repeat (first | (with_reducible first | exact HB.out | apply ba1 | apply pbN | apply bw1 | refine bs1 ?_ GE186.out) | exact HB.out)) hb); clear BK186; clear HB; have BK186 := n0_; have HB := n1_; clear n0_ n1_; (try clear hb); (try clear hb2); (try clear hk); (try clear hi))))
          go_ret
          exact ⟨by first | rfl | (simp [eW0, eW1] <;> rfl) | (simp [*, eW0, eW1] <;> rfl), by repeat (first | (with_reducible first | exact HB.out | apply ba1 | apply pbN | apply bw1 | refine bs1 ?_ GE186.out) | exact HB.out)⟩
     ·rw [if_neg c17] at H;have c17b0 : ((l0_2.length : Int) == a0_1) = false := beq_eq_false_iff_ne.mpr c17;have c17b1 : ((l0_2.length : Int) != a0_1) = true := bne_iff_ne.mpr c17;obtain rfl := Option.some.inj H;have hcz33_0 : wc.cell? ⟨gb186, 0, none⟩ = some (.int .i64 a0_0) := (kc1 BK186.out 0).trans rfl;have hcz33_1 : wc.cell? ⟨gb186, 1, none⟩ = some (.int .i64 a0_1) := (kc1 BK186.out 1).trans rfl;have hcz33_2 : wc.cell? ⟨gb186, 2, none⟩ = some (.slice A0_2 l0_2.length c0_2) := (kc1 BK186.out 2).trans rfl;have hfz33_0 := kf1 BK186.out 0;have hfz33_1 := kf1 BK186.out 1;have hfz33_2 := kf1 BK186.out 2
      go_wp2
      repeat (go_quiet (fail); try go_wp2)
      go_ret
      exact ⟨by first | rfl | (simp [eW0, eW1] <;> rfl) | (simp [*, eW0, eW1] <;> rfl), by repeat (first | (with_reducible first | exact HB.out | apply ba1 | apply pbN | apply bw1 | refine bs1 ?_ GE186.out) | exact HB.out)⟩
mutual
def cr9_Check.j0 : Nat → Bool → Int → Int → List Int → Int → List (List Int) → Option (Int)
 | 0, _, _, _, _, _, _ => none
 | k + 1, x26, x193000, x193001, x193002, x194000, x194001 => if x26 = true then (some 3) else (cr9_Check.l0 k 0 x193000 x193001 x193002 x194000 x194001)
def cr9_Check.l0 : Nat → Int → Int → Int → List Int → Int → List (List Int) → Option (Int)
 | 0, _, _, _, _, _, _ => none
 | k + 1, x6, x193000, x193001, x193002, x194000, x194001 => if x6 < (x194001.length : Int) then (if 0 ≤ x6 then (if ((rd_L1 x194001 x6).length : Int) = x194000 then (cr9_Check.l0 k (wrap64 (x6 + 1)) x193000 x193001 x193002 x194000 x194001) else (some 3)) else (none)) else (cr9_Check.l1 k 0 x193000 x193001 x193002 x194000 x194001)
def cr9_Check.l1 : Nat → Int → Int → Int → List Int → Int → List (List Int) → Option (Int)
 | 0, _, _, _, _, _, _ => none
 | k + 1, x7, x193000, x193001, x193002, x194000, x194001 => if x7 < (x194001.length : Int) then (if 0 ≤ x7 then ((cr9_Entries.f k x193000 x193001 x193002 (rd_L1 x194001 x7)).bind fun t197 => (if t197 = 0 then (cr9_Check.l1 k (wrap64 (x7 + 1)) x193000 x193001 x193002 x194000 x194001) else (some t197))) else (none)) else (some 0)
end
def cr9_Check.f (k : Nat) (a0_0 : Int) (a0_1 : Int) (l0_2 : List Int) (a1_0 : Int) (l1_1 : List (List Int)) : Option (Int) := (cr4_Check.f k a0_0 a0_1 l0_2).bind fun t194 => (if t194 = 0 then (if a1_0 < 0 then (cr9_Check.j0 k true a0_0 a0_1 l0_2 a1_0 l1_1) else (if a1_0 > 256 then (cr9_Check.j0 k true a0_0 a0_1 l0_2 a1_0 l1_1) else (cr9_Check.j0 k (decide ((l1_1.length : Int) > 256)) a0_0 a0_1 l0_2 a1_0 l1_1))) else (some t194))
theorem cr9_Check.mono_l : ∀ k, (∀ y0 y1 y2 y3 y4 y5, LeO (cr9_Check.j0 k y0 y1 y2 y3 y4 y5) (cr9_Check.j0 (k + 1) y0 y1 y2 y3 y4 y5)) ∧ (∀ y0 y1 y2 y3 y4 y5, LeO (cr9_Check.l0 k y0 y1 y2 y3 y4 y5) (cr9_Check.l0 (k + 1) y0 y1 y2 y3 y4 y5)) ∧ (∀ y0 y1 y2 y3 y4 y5, LeO (cr9_Check.l1 k y0 y1 y2 y3 y4 y5) (cr9_Check.l1 (k + 1) y0 y1 y2 y3 y4 y5))
 | 0 => ⟨fun _ _ _ _ _ _ r h => by simp [cr9_Check.j0] at h, fun _ _ _ _ _ _ r h => by simp [cr9_Check.l0] at h, fun _ _ _ _ _ _ r h => by simp [cr9_Check.l1] at h⟩
 | k + 1 => by
  obtain ⟨ih0, ih1, ih2⟩ := cr9_Check.mono_l k;refine ⟨?_, ?_, ?_⟩
  ·intro y0 y1 y2 y3 y4 y5;unfold cr9_Check.j0
   repeat' first
   | (with_reducible exact ih0 _ _ _ _ _ _)
   | (with_reducible exact ih1 _ _ _ _ _ _)
   | (with_reducible exact ih2 _ _ _ _ _ _)
   | (with_reducible exact cr4_Check.mono _ _ _ _)
   | (with_reducible exact cr9_Entries.mono _ _ _ _ _)
   | (with_reducible exact LeO.refl _)
   | (with_reducible exact LeO.none _)
   | (with_reducible refine LeO.ite ?_ ?_)
   | (with_reducible refine LeO.bind ?_ (fun _ => ?_))
   | exact ih0 _ _ _ _ _ _
   | exact ih1 _ _ _ _ _ _
   | exact ih2 _ _ _ _ _ _
   | exact cr4_Check.mono _ _ _ _
   | exact cr9_Entries.mono _ _ _ _ _
   | exact LeO.none _
   | refine LeO.ite ?_ ?_
   | refine LeO.bind ?_ (fun _ => ?_)
  ·intro y0 y1 y2 y3 y4 y5;unfold cr9_Check.l0
   repeat' first
   | (with_reducible exact ih0 _ _ _ _ _ _)
   | (with_reducible exact ih1 _ _ _ _ _ _)
   | (with_reducible exact ih2 _ _ _ _ _ _)
   | (with_reducible exact cr4_Check.mono _ _ _ _)
   | (with_reducible exact cr9_Entries.mono _ _ _ _ _)
   | (with_reducible exact LeO.refl _)
   | (with_reducible exact LeO.none _)
   | (with_reducible refine LeO.ite ?_ ?_)
   | (with_reducible refine LeO.bind ?_ (fun _ => ?_))
   | exact ih0 _ _ _ _ _ _
   | exact ih1 _ _ _ _ _ _
   | exact ih2 _ _ _ _ _ _
   | exact cr4_Check.mono _ _ _ _
   | exact cr9_Entries.mono _ _ _ _ _
   | exact LeO.none _
   | refine LeO.ite ?_ ?_
   | refine LeO.bind ?_ (fun _ => ?_)
  ·intro y0 y1 y2 y3 y4 y5;unfold cr9_Check.l1
   repeat' first
   | (with_reducible exact ih0 _ _ _ _ _ _)
   | (with_reducible exact ih1 _ _ _ _ _ _)
   | (with_reducible exact ih2 _ _ _ _ _ _)
   | (with_reducible exact cr4_Check.mono _ _ _ _)
   | (with_reducible exact cr9_Entries.mono _ _ _ _ _)
   | (with_reducible exact LeO.refl _)
   | (with_reducible exact LeO.none _)
   | (with_reducible refine LeO.ite ?_ ?_)
   | (with_reducible refine LeO.bind ?_ (fun _ => ?_))
   | exact ih0 _ _ _ _ _ _
   | exact ih1 _ _ _ _ _ _
   | exact ih2 _ _ _ _ _ _
   | exact cr4_Check.mono _ _ _ _
   | exact cr9_Entries.mono _ _ _ _ _
   | exact LeO.none _
   | refine LeO.ite ?_ ?_
   | refine LeO.bind ?_ (fun _ => ?_)
theorem cr9_Check.mono : ∀ a0 a1 a2 a3 a4 k, LeO (cr9_Check.f k a0 a1 a2 a3 a4) (cr9_Check.f (k + 1) a0 a1 a2 a3 a4) := by
 intro a0 a1 a2 a3 a4 k;obtain ⟨ih0, ih1, ih2⟩ := cr9_Check.mono_l k;unfold cr9_Check.f
 repeat' first
   | (with_reducible exact ih0 _ _ _ _ _ _)
   | (with_reducible exact ih1 _ _ _ _ _ _)
   | (with_reducible exact ih2 _ _ _ _ _ _)
   | (with_reducible exact cr4_Check.mono _ _ _ _)
   | (with_reducible exact cr9_Entries.mono _ _ _ _ _)
   | (with_reducible exact LeO.refl _)
   | (with_reducible exact LeO.none _)
   | (with_reducible refine LeO.ite ?_ ?_)
   | (with_reducible refine LeO.bind ?_ (fun _ => ?_))
   | exact ih0 _ _ _ _ _ _
   | exact ih1 _ _ _ _ _ _
   | exact ih2 _ _ _ _ _ _
   | exact cr4_Check.mono _ _ _ _
   | exact cr9_Entries.mono _ _ _ _ _
   | exact LeO.none _
   | refine LeO.ite ?_ ?_
   | refine LeO.bind ?_ (fun _ => ?_)
def cr9_Check.T9 : Bool × List (List Nat × List Nat) := (true, [([], []), ([0], [0]), ([], []), ([1, 2], [1, 2]), ([3], [3]), ([4], [4]), ([], []), ([6], [6]), ([5, 7], [5, 7])])
def cr9_Check.B9 : List Nat := [0, 1, 0, 7, 15, 31, 0, 64, 255]
theorem cr9_Check.tab9 : rtab .any (opsOf Try.f30 9) = cr9_Check.T9 := by kernel_rfl
theorem cr9_Check.bits9 : waitsOk cr9_Check.T9.2 cr9_Check.B9 = true := by kernel_rfl
def cr9_Check.T14 : Bool × List (List Nat × List Nat) := (true, [([], []), ([], []), ([1], [1]), ([], []), ([2, 3], [2, 3]), ([4], [4]), ([0, 5], [0, 5]), ([6, 6, 0, 1, 2, 3, 4, 5, 6], [6])])
def cr9_Check.B14 : List Nat := [0, 0, 2, 0, 14, 30, 63, 127]
theorem cr9_Check.tab14 : rtab .any (opsOf Try.f30 14) = cr9_Check.T14 := by kernel_rfl
theorem cr9_Check.bits14 : waitsOk cr9_Check.T14.2 cr9_Check.B14 = true := by kernel_rfl
set_option maxHeartbeats 8000000 in
set_option maxRecDepth 100000 in
theorem cr9_Check.calls (k : Nat) (a0_0 : Int) (a0_1 : Int) (A0_2 : Option Addr) (c0_2 : Nat) (l0_2 : List Int) (a1_0 : Int) (A1_1 : Option Addr) (c1_1 : Nat) (l1_1 : List (List Int)) (r : Int) (w : World) (hr0_2 : Kd.C (Kd.int .i64) w A0_2 l0_2.length l0_2) (hc0_2 : l0_2.length ≤ c0_2) (hr1_1 : Kd.C (Kd.slice 3 (Kd.int .i64)) w A1_1 l1_1.length l1_1) (hc1_1 : l1_1.length ≤ c1_1) (h : cr9_Check.f k a0_0 a0_1 l0_2 a1_0 l1_1 = some r) :
  Calls Try.prog 30 #[.agg #[.int .i64 a0_0, .int .i64 a0_1, .slice A0_2 l0_2.length c0_2], .agg #[.int .i64 a1_0, .slice A1_1 l1_1.length c1_1]] w fun e w' => e = .returned (.int .i64 r) ∧ Below w.heap.size w w' := by
 have hu44 := Try.underlying44;have hu24 := Try.underlying24;have HR0_2 := Ai0.mk hr0_2;have HC0_2 := Ai0.mk hc0_2;clear hr0_2 hc0_2;have HR1_1 := Ai0.mk hr1_1;have HC1_1 := Ai0.mk hc1_1;clear hr1_1 hc1_1;have HB := Ai0.mk (Below.refl w.heap.size w);have H : ((cr4_Check.f k a0_0 a0_1 l0_2).bind fun t194 => (if t194 = 0 then (if a1_0 < 0 then (cr9_Check.j0 k true a0_0 a0_1 l0_2 a1_0 l1_1) else (if a1_0 > 256 then (cr9_Check.j0 k true a0_0 a0_1 l0_2 a1_0 l1_1) else (cr9_Check.j0 k (decide ((l1_1.length : Int) > 256)) a0_0 a0_1 l0_2 a1_0 l1_1))) else (some t194))) = some r := h;clear h;replace H := Option.bind_eq_some_iff.mp H;obtain ⟨t194, A30, H⟩ := H;replace H : (if t194 = 0 then (if a1_0 < 0 then (cr9_Check.j0 k true a0_0 a0_1 l0_2 a1_0 l1_1) else (if a1_0 > 256 then (cr9_Check.j0 k true a0_0 a0_1 l0_2 a1_0 l1_1) else (cr9_Check.j0 k (decide ((l1_1.length : Int) > 256)) a0_0 a0_1 l0_2 a1_0 l1_1))) else (some t194)) = some r := H;have A3 := Ai0.mk A30;clear A30;by_cases c4 : t194 = 0
 ·rw [if_pos c4] at H;have c4b0 : (t194 == 0) = true := beq_iff_eq.mpr c4;have c4b1 : (t194 != 0) = false := bne_eq_false_iff_eq.mpr c4;clear c4;have HC5 := Ai0.mk H;clear H;go_enter Try.func30, Try.ntmps30
  go_upto_region 4 with (first | ((with_reducible refine gate_dst (N := 2) rfl ?_); (try (refine gate_guard (by rfl) ?_; dsimp only)); refine box_event ?hg (N := 2) ?hd (cs := #[.int .i64 a0_0, .int .i64 a0_1, .slice A0_2 l0_2.length c0_2]) (t := 44) ?hr ?_; (case hd => rfl); (case hg => rfl); (case hr => first | (go_simp; done) | (go_simp; rfl)); intro gb192 hg w6 hbox hb; have n0_ := Ai0.mk (bt1 (by repeat (first | (with_reducible first | exact HB.out | apply ba1 | apply pbN | apply bw1) | exact HB.out)) hb); have n1_ := Ai0.mk (hbox); have n2_ := Ai0.mk ((by rw [hg]; exact (bz1 (by repeat (first | (with_reducible first | exact HB.out | apply ba1 | apply pbN | apply bw1) | exact HB.out))) : w.heap.size ≤ gb192)); have n3_ := Ai0.mk ((by rw [hg]; exact (bz1 (by repeat (first | (with_reducible first | exact HB.out | apply ba1 | apply pbN | apply bw1) | exact HB.out))) : w.heap.size ≤ gb192)); clear HB; have HB := n0_; have BK192 := n1_; have GW192 := n2_; have GE192 := n3_; clear n0_ n1_ n2_ n3_; clear hb hbox hg) | ((with_reducible refine gate_dst (N := 3) rfl ?_); (try (refine gate_guard (by rfl) ?_; dsimp only)); refine box_event ?hg (N := 3) ?hd (cs := #[.int .i64 a1_0, .slice A1_1 l1_1.length c1_1]) (t := 24) ?hr ?_; (case hd => rfl); (case hg => rfl); (case hr => first | (go_simp; done) | (go_simp; rfl)); intro gb193 hg w7 hbox hb; have n0_ := Ai0.mk (kb1 (g := gb192) (o := .cells #[.int .i64 a0_0, .int .i64 a0_1, .slice A0_2 l0_2.length c0_2] 44 (0, 0)) (by (with_reducible repeat (first | refine kn1 ?_ _ | refine kd1 ?_ | refine ka1 ?_ _)); exact BK192.out) hb); have n1_ := Ai0.mk (bt1 (by repeat (first | (with_reducible first | exact HB.out | apply ba1 | apply pbN | apply bw1 | refine bs1 ?_ GE192.out) | exact HB.out)) hb); have n2_ := Ai0.mk (hbox); have n3_ := Ai0.mk ((by rw [hg]; exact (bz1 (by repeat (first | (with_reducible first | exact HB.out | apply ba1 | apply pbN | apply bw1 | refine bs1 ?_ GE192.out) | exact HB.out))) : w.heap.size ≤ gb193)); have n4_ := Ai0.mk ((by rw [hg]; exact (bz1 (by repeat (first | (with_reducible first | exact HB.out | apply ba1 | apply pbN | apply bw1 | refine bs1 ?_ GE192.out) | exact HB.out))) : w.heap.size ≤ gb193)); have n5_ := Ai0.mk ((by rw [hg]; exact Nat.ne_of_lt (blk_lt (g := gb192) (o := .cells #[.int .i64 a0_0, .int .i64 a0_1, .slice A0_2 l0_2.length c0_2] 44 (0, 0)) (by (with_reducible repeat (first | refine kn1 ?_ _ | refine kd1 ?_ | refine ka1 ?_ _)); exact BK192.out)) : gb192 ≠ gb193)); have n6_ := Ai0.mk ((by rw [hg]; exact Nat.ne_of_gt (blk_lt (g := gb192) (o := .cells #[.int .i64 a0_0, .int .i64 a0_1, .slice A0_2 l0_2.length c0_2] 44 (0, 0)) (by (with_reducible repeat (first | refine kn1 ?_ _ | refine kd1 ?_ | refine ka1 ?_ _)); exact BK192.out)) : gb193 ≠ gb192)); clear BK192; clear HB; have BK192 := n0_; have HB := n1_; have BK193 := n2_; have GW193 := n3_; have GE193 := n4_; have NB192_193 := n5_; have NB193_192 := n6_; clear n0_ n1_ n2_ n3_ n4_ n5_ n6_; clear hb hbox hg; have hnb8 := NB192_193.out; have hnc8 := NB193_192.out; have hcz9_0 : w7.cell? ⟨gb192, 0, none⟩ = some (.int .i64 a0_0) := (kc1 BK192.out 0).trans rfl; have hcz9_1 : w7.cell? ⟨gb192, 1, none⟩ = some (.int .i64 a0_1) := (kc1 BK192.out 1).trans rfl; have hcz9_2 : w7.cell? ⟨gb192, 2, none⟩ = some (.slice A0_2 l0_2.length c0_2) := (kc1 BK192.out 2).trans rfl; have hfz9_0 := kf1 BK192.out 0; have hfz9_1 := kf1 BK192.out 1; have hfz9_2 := kf1 BK192.out 2) | ((with_reducible refine gate_callee (f := 59) rfl ?_); refine goesL_ (some 9) rfl rfl Try.func59 (by kernel_rfl) rfl #[.agg #[.int .i64 a0_0, .int .i64 a0_1, .slice A0_2 l0_2.length c0_2]] rfl (by (try simp only [List.map_toArray, List.map_cons, List.map_nil]); first | done | rfl | (simp only [List.length_drop, List.length_take]; rfl)) ?_; (with_reducible refine (cr4_Check.calls k a0_0 a0_1 _ _ l0_2 t194 _ ?side1 ?side2 A3.out).mono ?_); (case side1 => repeat (first | exact (Kd.C_below HR0_2.out HB.out) | (with_reducible refine Kd.C_alloc ?_ _) | (with_reducible refine Kd.C_drewN ?_ _) | (with_reducible refine Kd.C_drew ?_))); (case side2 => exact HC0_2.out); rintro e w10 ⟨rfl, hb⟩; refine ⟨_, rfl, ?_⟩; have n0_ := Ai0.mk (kb1 (g := gb192) (o := .cells #[.int .i64 a0_0, .int .i64 a0_1, .slice A0_2 l0_2.length c0_2] 44 (0, 0)) (by (with_reducible repeat (first | refine kn1 ?_ _ | refine kd1 ?_ | refine ka1 ?_ _)); exact BK192.out) hb); have n1_ := Ai0.mk (kb1 (g := gb193) (o := .cells #[.int .i64 a1_0, .slice A1_1 l1_1.length c1_1] 24 (0, 0)) (by (with_reducible repeat (first | refine kn1 ?_ _ | refine kd1 ?_ | refine ka1 ?_ _)); exact BK193.out) hb); have n2_ := Ai0.mk (bt1 (by repeat (first | (with_reducible first | exact HB.out | apply ba1 | apply pbN | apply bw1 | refine bs1 ?_ GE192.out | refine bs1 ?_ GE193.out) | exact HB.out)) hb); clear BK192; clear BK193; clear HB; have BK192 := n0_; have BK193 := n1_; have HB := n2_; clear n0_ n1_ n2_; (try clear hb); (try clear hb2); (try clear hk); (try clear hi)))
  (try simp only [Act.put, l01_, l02_, l03_])
  go_cut [26] (fun v26 wc => ∃ (kq : Nat) (x26_4 : Bool), v26 = .bool x26_4 ∧ Ai0 (cr9_Check.j0 kq x26_4 a0_0 a0_1 l0_2 a1_0 l1_1 = some r) ∧ Ai0 (kq ≤ k) ∧ Ai0 (wc.heap[gb192]? = some (.cells #[.int .i64 a0_0, .int .i64 a0_1, (.slice A0_2 l0_2.length c0_2)] 44 (0, 0))) ∧ Ai0 (wc.heap[gb193]? = some (.cells #[.int .i64 a1_0, (.slice A1_1 l1_1.length c1_1)] 24 (0, 0))) ∧ Ai0 (Below w.heap.size w wc))
  case first =>
   have H := HC5.out;clear HC5;by_cases c11 : a1_0 < 0
   ·rw [if_pos c11] at H;have c11b0 : decide (a1_0 < 0) = true := decide_eq_true c11;clear c11;(first | rw [c11b0] | (simp only [i64_w, i32_w]; rw [c11b0]) | skip);have H' := Ai0.mk H;clear H;have hnb12 := NB193_192.out;have hnc12 := NB192_193.out;have hcz13_0 : w10.cell? ⟨gb193, 0, none⟩ = some (.int .i64 a1_0) := (kc1 BK193.out 0).trans rfl;have hcz13_1 : w10.cell? ⟨gb193, 1, none⟩ = some (.slice A1_1 l1_1.length c1_1) := (kc1 BK193.out 1).trans rfl;have hfz13_0 := kf1 BK193.out 0;have hfz13_1 := kf1 BK193.out 1
    go_wp2
    go_meet
    case rel => exact ⟨_, (true), (by first | rfl | (simp; done) | (simp [*]; done)), H', ⟨by first | omega | exact Nat.le_refl _⟩, ⟨by (with_reducible repeat (first | refine kn1 ?_ _ | refine kd1 ?_ | refine ka1 ?_ _)); exact BK192.out⟩, ⟨by (with_reducible repeat (first | refine kn1 ?_ _ | refine kd1 ?_ | refine ka1 ?_ _)); exact BK193.out⟩, ⟨by repeat (first | (with_reducible first | exact HB.out | apply ba1 | apply pbN | apply bw1 | refine bs1 ?_ GE192.out | refine bs1 ?_ GE193.out) | exact HB.out)⟩⟩
   ·rw [if_neg c11] at H;have c11b0 : decide (a1_0 < 0) = false := decide_eq_false c11;clear c11;(first | rw [c11b0] | (simp only [i64_w, i32_w]; rw [c11b0]) | skip);by_cases c14 : a1_0 > 256
    ·rw [if_pos c14] at H;have c14b0 : decide (256 < a1_0) = true := decide_eq_true c14;clear c14;have H' := Ai0.mk H;clear H;have hnb15 := NB193_192.out;have hnc15 := NB192_193.out;have hcz16_0 : w10.cell? ⟨gb193, 0, none⟩ = some (.int .i64 a1_0) := (kc1 BK193.out 0).trans rfl;have hcz16_1 : w10.cell? ⟨gb193, 1, none⟩ = some (.slice A1_1 l1_1.length c1_1) := (kc1 BK193.out 1).trans rfl;have hfz16_0 := kf1 BK193.out 0;have hfz16_1 := kf1 BK193.out 1
     go_wp2
     go_meet
     case rel => exact ⟨_, (true), (by first | rfl | (simp; done) | (simp [*]; done)), H', ⟨by first | omega | exact Nat.le_refl _⟩, ⟨by (with_reducible repeat (first | refine kn1 ?_ _ | refine kd1 ?_ | refine ka1 ?_ _)); exact BK192.out⟩, ⟨by (with_reducible repeat (first | refine kn1 ?_ _ | refine kd1 ?_ | refine ka1 ?_ _)); exact BK193.out⟩, ⟨by repeat (first | (with_reducible first | exact HB.out | apply ba1 | apply pbN | apply bw1 | refine bs1 ?_ GE192.out | refine bs1 ?_ GE193.out) | exact HB.out)⟩⟩
    ·rw [if_neg c14] at H;have c14b0 : decide (256 < a1_0) = false := decide_eq_false c14;clear c14;have H' := Ai0.mk H;clear H;have hnb17 := NB193_192.out;have hnc17 := NB192_193.out;have hcz18_0 : w10.cell? ⟨gb193, 0, none⟩ = some (.int .i64 a1_0) := (kc1 BK193.out 0).trans rfl;have hcz18_1 : w10.cell? ⟨gb193, 1, none⟩ = some (.slice A1_1 l1_1.length c1_1) := (kc1 BK193.out 1).trans rfl;have hfz18_0 := kf1 BK193.out 0;have hfz18_1 := kf1 BK193.out 1
     go_wp2
     go_meet
     case rel => exact ⟨_, (decide ((l1_1.length : Int) > 256)), (by first | rfl | (simp; done) | (simp [*]; done)), H', ⟨by first | omega | exact Nat.le_refl _⟩, ⟨by (with_reducible repeat (first | refine kn1 ?_ _ | refine kd1 ?_ | refine ka1 ?_ _)); exact BK192.out⟩, ⟨by (with_reducible repeat (first | refine kn1 ?_ _ | refine kd1 ?_ | refine ka1 ?_ _)); exact BK193.out⟩, ⟨by repeat (first | (with_reducible first | exact HB.out | apply ba1 | apply pbN | apply bw1 | refine bs1 ?_ GE192.out | refine bs1 ?_ GE193.out) | exact HB.out)⟩⟩
  case rest =>
   clear HC5
   try clear c1
   try clear p2
   try clear c3
   try clear c4
   try clear c4b0
   try clear c4b1
   try clear c5
   try clear c8
   try clear c11
   try clear c11b0
   try clear c12
   try clear c14
   try clear c14b0
   try clear c15
   try clear c17
   try clear hcz13_0
   try clear hcz13_1
   try clear hcz16_0
   try clear hcz16_1
   try clear hcz18_0
   try clear hcz18_1
   try clear hcz9_0
   try clear hcz9_1
   try clear hcz9_2
   try clear hfz13_0
   try clear hfz13_1
   try clear hfz16_0
   try clear hfz16_1
   try clear hfz18_0
   try clear hfz18_1
   try clear hfz9_0
   try clear hfz9_1
   try clear hfz9_2
   obtain ⟨kq, x26_4, rfl, HA, HJ4, BK192, BK193, HB⟩ := hcut
   cases kq with
   | zero => exact absurd HA.out (by simp [cr9_Check.j0])
   | succ kj4 =>
    have H := HA.out;clear HA;simp only [cr9_Check.j0] at H;by_cases c19 : x26_4 = true
    ·subst c19;(have H1 : (some 3) = some r := by rw [if_pos rfl] at H; exact H);clear H;have H := H1;clear H1;obtain rfl := Option.some.inj H
     go_wp2
     go_ret
     exact ⟨by first | rfl | (simp [eW0, eW1] <;> rfl) | (simp [*, eW0, eW1] <;> rfl), by repeat (first | (with_reducible first | exact HB.out | apply ba1 | apply pbN | apply bw1 | refine bs1 ?_ GE192.out | refine bs1 ?_ GE193.out) | exact HB.out)⟩
    ·replace c19 := Bool.eq_false_iff.mpr c19;subst c19;(have H1 : (cr9_Check.l0 kj4 0 a0_0 a0_1 l0_2 a1_0 l1_1) = some r := by rw [if_neg (show ¬ (false = true) by decide)] at H; exact H);clear H;have H := H1;clear H1;have H' := Ai0.mk H;clear H
     go_wp2
     go_loopg [6] kj4 (fun kq v6 w' => ∃ (x6_2 : Int), v6 = .int .i64 x6_2 ∧ Ai0 (cr9_Check.l0 kq x6_2 a0_0 a0_1 l0_2 a1_0 l1_1 = some r) ∧ Ai0 (kq ≤ kj4) ∧ Ai0 (w'.heap[gb192]? = some (.cells #[.int .i64 a0_0, .int .i64 a0_1, (.slice A0_2 l0_2.length c0_2)] 44 (0, 0))) ∧ Ai0 (w'.heap[gb193]? = some (.cells #[.int .i64 a1_0, (.slice A1_1 l1_1.length c1_1)] 24 (0, 0))) ∧ Ai0 (Below w.heap.size w w'))
     case atStart => exact ⟨(0), (by first | rfl | (simp; done) | (simp [*]; done)), H', ⟨Nat.le_refl _⟩, ⟨by (with_reducible repeat (first | refine kn1 ?_ _ | refine kd1 ?_ | refine ka1 ?_ _)); exact BK192.out⟩, ⟨by (with_reducible repeat (first | refine kn1 ?_ _ | refine kd1 ?_ | refine ka1 ?_ _)); exact BK193.out⟩, ⟨by repeat (first | (with_reducible first | exact HB.out | apply ba1 | apply pbN | apply bw1 | refine bs1 ?_ GE192.out | refine bs1 ?_ GE193.out) | exact HB.out)⟩⟩
     case round =>
      clear H'
      try clear c1
      try clear p2
      try clear c3
      try clear c4
      try clear c4b0
      try clear c4b1
      try clear c5
      try clear c8
      try clear c11
      try clear c11b0
      try clear c12
      try clear c14
      try clear c14b0
      try clear c15
      try clear c17
      try clear c19
      try clear hcz13_0
      try clear hcz13_1
      try clear hcz16_0
      try clear hcz16_1
      try clear hcz18_0
      try clear hcz18_1
      try clear hcz9_0
      try clear hcz9_1
      try clear hcz9_2
      try clear hfz13_0
      try clear hfz13_1
      try clear hfz16_0
      try clear hfz16_1
      try clear hfz18_0
      try clear hfz18_1
      try clear hfz9_0
      try clear hfz9_1
      try clear hfz9_2
      try clear p2
      obtain ⟨x6_2, rfl, HA, HK2, BK192, BK193, HB⟩ := hrel
      cases gk with
      | zero => exact absurd HA.out (by simp [cr9_Check.l0])
      | succ k2 =>
       have H := HA.out;clear HA;simp only [cr9_Check.l0] at H;by_cases c20 : x6_2 < (l1_1.length : Int)
       ·rw [if_pos c20] at H;have c20b0 : decide (x6_2 < (l1_1.length : Int)) = true := decide_eq_true c20;clear c20;by_cases c21 : 0 ≤ x6_2
        ·rw [if_pos c21] at H;have c21b0 : decide (0 ≤ x6_2) = true := decide_eq_true c21;clear c21;by_cases c22 : ((rd_L1 l1_1 x6_2).length : Int) = a1_0
         case' pos =>
          rw [if_pos c22] at H;have c22b0 : (((rd_L1 l1_1 x6_2).length : Int) == a1_0) = true := beq_iff_eq.mpr c22;have c22b1 : (((rd_L1 l1_1 x6_2).length : Int) != a1_0) = false := bne_eq_false_iff_eq.mpr c22;clear c22;have H' := Ai0.mk H;clear H
         case' neg =>
          rw [if_neg c22] at H;have c22b0 : (((rd_L1 l1_1 x6_2).length : Int) == a1_0) = false := beq_eq_false_iff_ne.mpr c22;have c22b1 : (((rd_L1 l1_1 x6_2).length : Int) != a1_0) = true := bne_iff_ne.mpr c22;obtain rfl := Option.some.inj H
         all_goals
          have hnb23 := NB193_192.out;have hnc23 := NB192_193.out;have hcz24_0 : wr.cell? ⟨gb193, 0, none⟩ = some (.int .i64 a1_0) := (kc1 BK193.out 0).trans rfl;have hcz24_1 : wr.cell? ⟨gb193, 1, none⟩ = some (.slice A1_1 l1_1.length c1_1) := (kc1 BK193.out 1).trans rfl;have hfz24_0 := kf1 BK193.out 0;have hfz24_1 := kf1 BK193.out 1
          try go_wp2
          have n0_ := Ai0.mk (kd1 BK192.out);have n1_ := Ai0.mk (kd1 BK193.out);have n2_ := Ai0.mk (bw1 HB.out);clear BK192;clear BK193;clear HB;have BK192 := n0_;have BK193 := n1_;have HB := n2_;clear n0_ n1_ n2_;have p195 : 0 ≤ (x6_2 : Int) := of_decide_eq_true (by first | (with_reducible assumption) | assumption);have q195 : x6_2 < (l1_1.length : Int) := of_decide_eq_true (by first | (with_reducible assumption) | assumption);obtain ⟨ad195, A195_0, c195_0, e195, hx195_0, hl195_0, hi195_0⟩ := at_L1 HR1_1.out x6_2 p195 q195;have hw195_0 := hx195_0;cases e195;replace hx195_0 := (HB.out.cell (World.block_lt_of_cell? w _ hx195_0)).trans hx195_0;have HR195_0 := Ai0.mk hi195_0;have HC195_0 := Ai0.mk hl195_0;clear hi195_0 hl195_0;replace p195 := eq_true p195;replace q195 := eq_true q195;refine start_ (n := 9) (S := fun w' => w'.cell? ⟨gb193, 0, none⟩ = some (.int .i64 a1_0) ∧ w'.cell? ⟨gb193, 1, none⟩ = some (.slice (some ad195) l1_1.length c1_1) ∧ w'.cell? (ad195.add (x6_2).toNat) = some (.slice A195_0 (rd_L1 l1_1 x6_2).length c195_0)) (ds := []) #[false, false, false, false, false, false, false, false, false] (by kernel_rfl) rfl rfl ⟨(kc1 BK193.out 0).trans rfl, (kc1 BK193.out 1).trans rfl, ((HB.out.cell (World.block_lt_of_cell? w _ hw195_0)).trans hw195_0)⟩ (fun hHeld => ?_); refine with_tabW cr9_Check.tab9 cr9_Check.bits9 (fun HT_ HW_ => ?_);(generalize wr.drew = w25 at BK192 BK193 HB HR195_0 hx195_0 hHeld ⊢);refine pure_ (i := 0) (N := some 34) (v := ?_) (a' := ?_) #[true, false, false, false, false, false, false, false, false] rfl rfl (any_of HT_.out (by kernel_rfl)) (fun _ _ _ h => h) (Or.inl ⟨by rfl, ?_⟩) ?_ ?_;rotate_left
          ·intro w';go_simp
           with_reducible rfl
          rotate_left
          ·simp only [Act.put, l01_, l02_, l03_, i64_w, i32_w]
           rfl
          refine pure_ (i := 2) (N := some 36) (v := ?_) (a' := ?_) #[true, false, true, false, false, false, false, false, false] rfl rfl (any_of HT_.out (by kernel_rfl)) (fun _ _ _ h => h) (Or.inl ⟨by rfl, ?_⟩) ?_ ?_;rotate_left
          ·intro w';go_simp
           with_reducible rfl
          rotate_left
          ·simp only [Act.put, l01_, l02_, l03_, i64_w, i32_w]
           rfl
          refine pure_ (i := 6) (N := some 40) (v := ?_) (a' := ?_) #[true, false, true, false, false, false, true, false, false] rfl rfl (any_of HT_.out (by kernel_rfl)) (fun _ _ _ h => h) (Or.inl ⟨by rfl, ?_⟩) ?_ ?_;rotate_left
          ·intro w';go_simp
           with_reducible rfl
          rotate_left
          ·simp only [Act.put, l01_, l02_, l03_, i64_w, i32_w]
           rfl
          refine take_ (i := 1) (N := some 35) (v := ?_) (a' := ?_) #[true, true, true, false, false, false, true, false, false] rfl rfl (take_ofW HT_.out HW_.out (by kernel_rfl)) (fun _ _ _ h => h) (Or.inl ⟨by rfl, ?_⟩) hHeld ?_ ?_;rotate_left
          ·rintro w' ⟨s0, s1, s2⟩
           go_simp
           with_reducible rfl
          rotate_left
          ·simp only [Act.put, l01_, l02_, l03_, i64_w, i32_w]
           rfl
          refine pure_ (i := 3) (N := some 37) (v := ?_) (a' := ?_) #[true, true, true, true, false, false, true, false, false] rfl rfl (any_of HT_.out (by kernel_rfl)) (fun _ _ _ h => h) (Or.inl ⟨by rfl, ?_⟩) ?_ ?_;rotate_left
          ·intro w';go_simp
           with_reducible rfl
          rotate_left
          ·simp only [Act.put, l01_, l02_, l03_, i64_w, i32_w]
           rfl
          refine take_ (i := 4) (N := some 38) (v := ?_) (a' := ?_) #[true, true, true, true, true, false, true, false, false] rfl rfl (take_ofW HT_.out HW_.out (by kernel_rfl)) (fun _ _ _ h => h) (Or.inl ⟨by rfl, ?_⟩) hHeld ?_ ?_;rotate_left
          ·rintro w' ⟨s0, s1, s2⟩
           go_simp
           with_reducible rfl
          rotate_left
          ·simp only [Act.put, l01_, l02_, l03_, i64_w, i32_w]
           rfl
          refine pure_ (i := 5) (N := some 39) (v := ?_) (a' := ?_) #[true, true, true, true, true, true, true, false, false] rfl rfl (any_of HT_.out (by kernel_rfl)) (fun _ _ _ h => h) (Or.inl ⟨by rfl, ?_⟩) ?_ ?_;rotate_left
          ·intro w';go_simp
           with_reducible rfl
          rotate_left
          ·simp only [Act.put, l01_, l02_, l03_, i64_w, i32_w]
           rfl
          refine take_ (i := 7) (N := some 41) (v := ?_) (a' := ?_) #[true, true, true, true, true, true, true, true, false] rfl rfl (take_ofW HT_.out HW_.out (by kernel_rfl)) (fun _ _ _ h => h) (Or.inl ⟨by rfl, ?_⟩) hHeld ?_ ?_;rotate_left
          ·rintro w' ⟨s0, s1, s2⟩
           go_simp
           with_reducible rfl
          rotate_left
          ·simp only [Act.put, l01_, l02_, l03_, i64_w, i32_w]
           rfl
          refine pure_ (i := 8) (N := some 42) (v := ?_) (a' := ?_) #[true, true, true, true, true, true, true, true, true] rfl rfl (any_of HT_.out (by kernel_rfl)) (fun _ _ _ h => h) (Or.inl ⟨by rfl, ?_⟩) ?_ ?_;rotate_left
          ·intro w';go_simp
           with_reducible rfl
          rotate_left
          ·simp only [Act.put, l01_, l02_, l03_, i64_w, i32_w]
           rfl
          refine done_ (done_of HT_.out (by kernel_rfl)) ?_
          try go_wp2
         ·go_ret
          exact ⟨by first | rfl | (simp [eW0, eW1] <;> rfl) | (simp [*, eW0, eW1] <;> rfl), by repeat (first | (with_reducible first | exact HB.out | apply ba1 | apply pbN | apply bw1 | refine bs1 ?_ GE192.out | refine bs1 ?_ GE193.out) | exact HB.out)⟩
         ·go_roundg k2
          case measure => have := HJ4.out; have := HK2.out; omega
          case rel => exact ⟨(wrap64 (x6_2 + 1)), (by first | rfl | (simp; done) | (simp [*]; done)), H', ⟨by have := HJ4.out; have := HK2.out; omega⟩, ⟨by (with_reducible repeat (first | refine kn1 ?_ _ | refine kd1 ?_ | refine ka1 ?_ _)); exact BK192.out⟩, ⟨by (with_reducible repeat (first | refine kn1 ?_ _ | refine kd1 ?_ | refine ka1 ?_ _)); exact BK193.out⟩, ⟨by repeat (first | (with_reducible first | exact HB.out | apply ba1 | apply pbN | apply bw1 | refine bs1 ?_ GE192.out | refine bs1 ?_ GE193.out) | exact HB.out)⟩⟩
        ·rw [if_neg c21] at H;exact absurd H (by simp)
       ·rw [if_neg c20] at H;have c20b0 : decide (x6_2 < (l1_1.length : Int)) = false := decide_eq_false c20;clear c20;have H' := Ai0.mk H;clear H;have hnb29 := NB193_192.out;have hnc29 := NB192_193.out;have hcz30_0 : wr.cell? ⟨gb193, 0, none⟩ = some (.int .i64 a1_0) := (kc1 BK193.out 0).trans rfl;have hcz30_1 : wr.cell? ⟨gb193, 1, none⟩ = some (.slice A1_1 l1_1.length c1_1) := (kc1 BK193.out 1).trans rfl;have hfz30_0 := kf1 BK193.out 0;have hfz30_1 := kf1 BK193.out 1
        go_wp2
        go_loopg [7] k2 (fun kq v7 w' => ∃ (x7_3 : Int), v7 = .int .i64 x7_3 ∧ Ai0 (cr9_Check.l1 kq x7_3 a0_0 a0_1 l0_2 a1_0 l1_1 = some r) ∧ Ai0 (kq ≤ k2) ∧ Ai0 (w'.heap[gb192]? = some (.cells #[.int .i64 a0_0, .int .i64 a0_1, (.slice A0_2 l0_2.length c0_2)] 44 (0, 0))) ∧ Ai0 (w'.heap[gb193]? = some (.cells #[.int .i64 a1_0, (.slice A1_1 l1_1.length c1_1)] 24 (0, 0))) ∧ Ai0 (Below w.heap.size w w'))
        case atStart => exact ⟨(0), (by first | rfl | (simp; done) | (simp [*]; done)), H', ⟨Nat.le_refl _⟩, ⟨by (with_reducible repeat (first | refine kn1 ?_ _ | refine kd1 ?_ | refine ka1 ?_ _)); exact BK192.out⟩, ⟨by (with_reducible repeat (first | refine kn1 ?_ _ | refine kd1 ?_ | refine ka1 ?_ _)); exact BK193.out⟩, ⟨by repeat (first | (with_reducible first | exact HB.out | apply ba1 | apply pbN | apply bw1 | refine bs1 ?_ GE192.out | refine bs1 ?_ GE193.out) | exact HB.out)⟩⟩
        case round =>
         clear H'
         try clear c1
         try clear p1
         try clear q1
         try clear hx1
         try clear c2
         try clear p2
         try clear c3
         try clear c4
         try clear c4b0
         try clear c4b1
         try clear c5
         try clear p6
         try clear c8
         try clear c11
         try clear c11b0
         try clear c12
         try clear c14
         try clear c14b0
         try clear c15
         try clear c17
         try clear c19
         try clear p19
         try clear q19
         try clear hx19
         try clear c20
         try clear c20b0
         try clear c21
         try clear c21b0
         try clear c22
         try clear c22b0
         try clear c22b1
         try clear c23
         try clear c26
         try clear c29
         try clear c30
         try clear hcz13_0
         try clear hcz13_1
         try clear hcz16_0
         try clear hcz16_1
         try clear hcz18_0
         try clear hcz18_1
         try clear hcz24_0
         try clear hcz24_1
         try clear hcz27_0
         try clear hcz27_1
         try clear hcz30_0
         try clear hcz30_1
         try clear hcz9_0
         try clear hcz9_1
         try clear hcz9_2
         try clear hfz13_0
         try clear hfz13_1
         try clear hfz16_0
         try clear hfz16_1
         try clear hfz18_0
         try clear hfz18_1
         try clear hfz24_0
         try clear hfz24_1
         try clear hfz27_0
         try clear hfz27_1
         try clear hfz30_0
         try clear hfz30_1
         try clear hfz9_0
         try clear hfz9_1
         try clear hfz9_2
         try clear hx195_0
         try clear p195
         try clear p2
         try clear q195
         obtain ⟨x7_3, rfl, HA, HK3, BK192, BK193, HB⟩ := hrel
         cases gk with
         | zero => exact absurd HA.out (by simp [cr9_Check.l1])
         | succ k3 =>
          have H := HA.out;clear HA;simp only [cr9_Check.l1] at H;by_cases c31 : x7_3 < (l1_1.length : Int)
          ·rw [if_pos c31] at H;have c31b0 : decide (x7_3 < (l1_1.length : Int)) = true := decide_eq_true c31;clear c31;by_cases c32 : 0 ≤ x7_3
           ·rw [if_pos c32] at H;have c32b0 : decide (0 ≤ x7_3) = true := decide_eq_true c32;clear c32;replace H := Option.bind_eq_some_iff.mp H;obtain ⟨t197, A330, H⟩ := H;replace H : (if t197 = 0 then (cr9_Check.l1 k3 (wrap64 (x7_3 + 1)) a0_0 a0_1 l0_2 a1_0 l1_1) else (some t197)) = some r := H;have A33 := Ai0.mk A330;clear A330;by_cases c34 : t197 = 0
            case' pos =>
             rw [if_pos c34] at H;have c34b0 : (t197 == 0) = true := beq_iff_eq.mpr c34;have c34b1 : (t197 != 0) = false := bne_eq_false_iff_eq.mpr c34;clear c34;have H' := Ai0.mk H;clear H
            case' neg =>
             rw [if_neg c34] at H;have c34b0 : (t197 == 0) = false := beq_eq_false_iff_ne.mpr c34;have c34b1 : (t197 != 0) = true := bne_iff_ne.mpr c34;obtain rfl := Option.some.inj H
            all_goals
             have hnb35 := NB193_192.out;have hnc35 := NB192_193.out;have hcz36_0 : wr.cell? ⟨gb193, 0, none⟩ = some (.int .i64 a1_0) := (kc1 BK193.out 0).trans rfl;have hcz36_1 : wr.cell? ⟨gb193, 1, none⟩ = some (.slice A1_1 l1_1.length c1_1) := (kc1 BK193.out 1).trans rfl;have hfz36_0 := kf1 BK193.out 0;have hfz36_1 := kf1 BK193.out 1
             try go_wp2
             have n0_ := Ai0.mk (kd1 BK192.out);have n1_ := Ai0.mk (kd1 BK193.out);have n2_ := Ai0.mk (bw1 HB.out);clear BK192;clear BK193;clear HB;have BK192 := n0_;have BK193 := n1_;have HB := n2_;clear n0_ n1_ n2_;have p196 : 0 ≤ (x7_3 : Int) := of_decide_eq_true (by first | (with_reducible assumption) | assumption);have q196 : x7_3 < (l1_1.length : Int) := of_decide_eq_true (by first | (with_reducible assumption) | assumption);obtain ⟨ad196, A196_0, c196_0, e196, hx196_0, hl196_0, hi196_0⟩ := at_L1 HR1_1.out x7_3 p196 q196;have hw196_0 := hx196_0;cases e196;replace hx196_0 := (HB.out.cell (World.block_lt_of_cell? w _ hx196_0)).trans hx196_0;have HR196_0 := Ai0.mk hi196_0;have HC196_0 := Ai0.mk hl196_0;clear hi196_0 hl196_0;replace p196 := eq_true p196;replace q196 := eq_true q196;refine start_ (n := 8) (S := fun w' => w'.cell? ⟨gb192, 0, none⟩ = some (.int .i64 a0_0) ∧ w'.cell? ⟨gb192, 1, none⟩ = some (.int .i64 a0_1) ∧ w'.cell? ⟨gb192, 2, none⟩ = some (.slice A0_2 l0_2.length c0_2) ∧ w'.cell? ⟨gb193, 0, none⟩ = some (.int .i64 a1_0) ∧ w'.cell? ⟨gb193, 1, none⟩ = some (.slice (some ad196) l1_1.length c1_1) ∧ w'.cell? (ad196.add (x7_3).toNat) = some (.slice A196_0 (rd_L1 l1_1 x7_3).length c196_0)) (ds := []) #[false, false, false, false, false, false, false, false] (by kernel_rfl) rfl rfl ⟨(kc1 BK192.out 0).trans rfl, (kc1 BK192.out 1).trans rfl, (kc1 BK192.out 2).trans rfl, (kc1 BK193.out 0).trans rfl, (kc1 BK193.out 1).trans rfl, ((HB.out.cell (World.block_lt_of_cell? w _ hw196_0)).trans hw196_0)⟩ (fun hHeld => ?_); refine with_tabW cr9_Check.tab14 cr9_Check.bits14 (fun HT_ HW_ => ?_);(generalize wr.drew = w37 at BK192 BK193 HB HR196_0 hx196_0 hHeld ⊢);refine pure_ (i := 1) (N := some 51) (v := ?_) (a' := ?_) #[false, true, false, false, false, false, false, false] rfl rfl (any_of HT_.out (by kernel_rfl)) (fun _ _ _ h => h) (Or.inl ⟨by rfl, ?_⟩) ?_ ?_;rotate_left
             ·intro w';go_simp
              with_reducible rfl
             rotate_left
             ·simp only [Act.put, l01_, l02_, l03_, i64_w, i32_w]
              rfl
             refine pure_ (i := 3) (N := some 53) (v := ?_) (a' := ?_) #[false, true, false, true, false, false, false, false] rfl rfl (any_of HT_.out (by kernel_rfl)) (fun _ _ _ h => h) (Or.inl ⟨by rfl, ?_⟩) ?_ ?_;rotate_left
             ·intro w';go_simp
              with_reducible rfl
             rotate_left
             ·simp only [Act.put, l01_, l02_, l03_, i64_w, i32_w]
              rfl
             refine take_ (i := 0) (N := some 50) (v := ?_) (a' := ?_) #[true, true, false, true, false, false, false, false] rfl rfl (take_ofW HT_.out HW_.out (by kernel_rfl)) (fun _ _ _ h => h) (Or.inl ⟨by rfl, ?_⟩) hHeld ?_ ?_;rotate_left
             ·rintro w' ⟨s0, s1, s2, s3, s4, s5⟩
              go_simp
              with_reducible rfl
             rotate_left
             ·simp only [Act.put, l01_, l02_, l03_, i64_w, i32_w]
              rfl
             refine take_ (i := 2) (N := some 52) (v := ?_) (a' := ?_) #[true, true, true, true, false, false, false, false] rfl rfl (take_ofW HT_.out HW_.out (by kernel_rfl)) (fun _ _ _ h => h) (Or.inl ⟨by rfl, ?_⟩) hHeld ?_ ?_;rotate_left
             ·rintro w' ⟨s0, s1, s2, s3, s4, s5⟩
              go_simp
              with_reducible rfl
             rotate_left
             ·simp only [Act.put, l01_, l02_, l03_, i64_w, i32_w]
              rfl
             refine pure_ (i := 4) (N := some 54) (v := ?_) (a' := ?_) #[true, true, true, true, true, false, false, false] rfl rfl (any_of HT_.out (by kernel_rfl)) (fun _ _ _ h => h) (Or.inl ⟨by rfl, ?_⟩) ?_ ?_;rotate_left
             ·intro w';go_simp
              with_reducible rfl
             rotate_left
             ·simp only [Act.put, l01_, l02_, l03_, i64_w, i32_w]
              rfl
             refine take_ (i := 5) (N := some 55) (v := ?_) (a' := ?_) #[true, true, true, true, true, true, false, false] rfl rfl (take_ofW HT_.out HW_.out (by kernel_rfl)) (fun _ _ _ h => h) (Or.inl ⟨by rfl, ?_⟩) hHeld ?_ ?_;rotate_left
             ·rintro w' ⟨s0, s1, s2, s3, s4, s5⟩
              go_simp
              with_reducible rfl
             rotate_left
             ·simp only [Act.put, l01_, l02_, l03_, i64_w, i32_w]
              rfl
             refine one_ (i := 6) (N := some 56) #[true, true, true, true, true, true, true, false] rfl rfl (one_of HT_.out (by kernel_rfl)) (by decide) (fun K hK => ?_);refine goes_ Try.func51 (by kernel_rfl) rfl #[.agg #[.int .i64 a0_0, .int .i64 a0_1, .slice A0_2 l0_2.length c0_2], .slice A196_0 (rd_L1 l1_1 x7_3).length c196_0] (by rfl) rfl rfl (by (try simp only [List.map_toArray, List.map_cons, List.map_nil]); first | done | rfl | (simp only [List.length_drop, List.length_take]; rfl)) ?_
             with_reducible refine (cr9_Entries.calls k3 a0_0 a0_1 _ _ l0_2 _ _ (rd_L1 l1_1 x7_3) t197 _ ?side1 ?side2 ?side3 ?side4 A33.out).mono ?_
             (case side1 => repeat (first | exact (Kd.C_below HR0_2.out HB.out) | (with_reducible refine Kd.C_alloc ?_ _) | (with_reducible refine Kd.C_drewN ?_ _) | (with_reducible refine Kd.C_drew ?_)));(case side2 => exact HC0_2.out);(case side3 => repeat (first | exact (Kd.C_below HR196_0.out HB.out) | (with_reducible refine Kd.C_alloc ?_ _) | (with_reducible refine Kd.C_drewN ?_ _) | (with_reducible refine Kd.C_drew ?_)));(case side4 => exact HC196_0.out)
             rintro e w38 ⟨rfl, hb⟩
             refine ⟨_, rfl, ?_⟩;have n0_ := Ai0.mk (kb1 (g := gb192) (o := .cells #[.int .i64 a0_0, .int .i64 a0_1, .slice A0_2 l0_2.length c0_2] 44 (0, 0)) (by (with_reducible repeat (first | refine kn1 ?_ _ | refine kd1 ?_ | refine ka1 ?_ _)); exact BK192.out) hb);have n1_ := Ai0.mk (kb1 (g := gb193) (o := .cells #[.int .i64 a1_0, .slice (some ad196) l1_1.length c1_1] 24 (0, 0)) (by (with_reducible repeat (first | refine kn1 ?_ _ | refine kd1 ?_ | refine ka1 ?_ _)); exact BK193.out) hb);have n2_ := Ai0.mk (bt1 (by repeat (first | (with_reducible first | exact HB.out | apply ba1 | apply pbN | apply bw1 | refine bs1 ?_ GE192.out | refine bs1 ?_ GE193.out) | exact HB.out)) hb);clear BK192;clear BK193;clear HB;have BK192 := n0_;have BK193 := n1_;have HB := n2_;clear n0_ n1_ n2_;(try clear hb);(try clear hb2);(try clear hk);(try clear hi);refine hK.out _ _ ⟨(kc1 BK192.out 0).trans rfl, (kc1 BK192.out 1).trans rfl, (kc1 BK192.out 2).trans rfl, (kc1 BK193.out 0).trans rfl, (kc1 BK193.out 1).trans rfl, ((HB.out.cell (World.block_lt_of_cell? w _ hw196_0)).trans hw196_0)⟩ (fun hHeld => ?_);clear hK K;refine norm_ (a' := ?_) ?_ ?_;rotate_left
             ·show Act.put _ (some 56) _ = _;simp only [Act.put, l01_, l02_, l03_, i64_w, i32_w]
              rfl
             refine pure_ (i := 7) (N := some 5) (v := ?_) (a' := ?_) #[true, true, true, true, true, true, true, true] rfl rfl (any_of HT_.out (by kernel_rfl)) (fun _ _ _ h => h) (Or.inl ⟨by rfl, ?_⟩) ?_ ?_;rotate_left
             ·intro w';go_simp
              with_reducible rfl
             rotate_left
             ·simp only [Act.put, l01_, l02_, l03_, i64_w, i32_w]
              rfl
             refine done_ (done_of HT_.out (by kernel_rfl)) ?_
             try go_wp2
            ·go_ret
             exact ⟨by first | rfl | (simp [eW0, eW1] <;> rfl) | (simp [*, eW0, eW1] <;> rfl), by repeat (first | (with_reducible first | exact HB.out | apply ba1 | apply pbN | apply bw1 | refine bs1 ?_ GE192.out | refine bs1 ?_ GE193.out) | exact HB.out)⟩
            ·go_roundg k3
             case measure => have := HJ4.out; have := HK2.out; have := HK3.out; omega
             case rel => exact ⟨(wrap64 (x7_3 + 1)), (by first | rfl | (simp; done) | (simp [*]; done)), H', ⟨by have := HJ4.out; have := HK2.out; have := HK3.out; omega⟩, ⟨by (with_reducible repeat (first | refine kn1 ?_ _ | refine kd1 ?_ | refine ka1 ?_ _)); exact BK192.out⟩, ⟨by (with_reducible repeat (first | refine kn1 ?_ _ | refine kd1 ?_ | refine ka1 ?_ _)); exact BK193.out⟩, ⟨by repeat (first | (with_reducible first | exact HB.out | apply ba1 | apply pbN | apply bw1 | refine bs1 ?_ GE192.out | refine bs1 ?_ GE193.out) | exact HB.out)⟩⟩
           ·rw [if_neg c32] at H;exact absurd H (by simp)
          ·rw [if_neg c31] at H;have c31b0 : decide (x7_3 < (l1_1.length : Int)) = false := decide_eq_false c31;clear c31;obtain rfl := Option.some.inj H;have hnb43 := NB193_192.out;have hnc43 := NB192_193.out;have hcz44_0 : wr.cell? ⟨gb193, 0, none⟩ = some (.int .i64 a1_0) := (kc1 BK193.out 0).trans rfl;have hcz44_1 : wr.cell? ⟨gb193, 1, none⟩ = some (.slice A1_1 l1_1.length c1_1) := (kc1 BK193.out 1).trans rfl;have hfz44_0 := kf1 BK193.out 0;have hfz44_1 := kf1 BK193.out 1
           go_wp2
           go_ret
           exact ⟨by first | rfl | (simp [eW0, eW1] <;> rfl) | (simp [*, eW0, eW1] <;> rfl), by repeat (first | (with_reducible first | exact HB.out | apply ba1 | apply pbN | apply bw1 | refine bs1 ?_ GE192.out | refine bs1 ?_ GE193.out) | exact HB.out)⟩
 ·rw [if_neg c4] at H;have c4b0 : (t194 == 0) = false := beq_eq_false_iff_ne.mpr c4;have c4b1 : (t194 != 0) = true := bne_iff_ne.mpr c4;obtain rfl := Option.some.inj H;go_enter Try.func30, Try.ntmps30
  go_wp2_with (first | ((with_reducible refine gate_dst (N := 2) rfl ?_); (try (refine gate_guard (by rfl) ?_; dsimp only)); refine box_event ?hg (N := 2) ?hd (cs := #[.int .i64 a0_0, .int .i64 a0_1, .slice A0_2 l0_2.length c0_2]) (t := 44) ?hr ?_; (case hd => rfl); (case hg => rfl); (case hr => first | (go_simp; done) | (go_simp; rfl)); intro gb192 hg w45 hbox hb; have n0_ := Ai0.mk (bt1 (by repeat (first | (with_reducible first | exact HB.out | apply ba1 | apply pbN | apply bw1) | exact HB.out)) hb); have n1_ := Ai0.mk (hbox); have n2_ := Ai0.mk ((by rw [hg]; exact (bz1 (by repeat (first | (with_reducible first | exact HB.out | apply ba1 | apply pbN | apply bw1) | exact HB.out))) : w.heap.size ≤ gb192)); have n3_ := Ai0.mk ((by rw [hg]; exact (bz1 (by repeat (first | (with_reducible first | exact HB.out | apply ba1 | apply pbN | apply bw1) | exact HB.out))) : w.heap.size ≤ gb192)); clear HB; have HB := n0_; have BK192 := n1_; have GW192 := n2_; have GE192 := n3_; clear n0_ n1_ n2_ n3_; clear hb hbox hg) | ((with_reducible refine gate_dst (N := 3) rfl ?_); (try (refine gate_guard (by rfl) ?_; dsimp only)); refine box_event ?hg (N := 3) ?hd (cs := #[.int .i64 a1_0, .slice A1_1 l1_1.length c1_1]) (t := 24) ?hr ?_; (case hd => rfl); (case hg => rfl); (case hr => first | (go_simp; done) | (go_simp; rfl)); intro gb193 hg w46 hbox hb; have n0_ := Ai0.mk (kb1 (g := gb192) (o := .cells #[.int .i64 a0_0, .int .i64 a0_1, .slice A0_2 l0_2.length c0_2] 44 (0, 0)) (by (with_reducible repeat (first | refine kn1 ?_ _ | refine kd1 ?_ | refine ka1 ?_ _)); exact BK192.out) hb); have n1_ := Ai0.mk (bt1 (by repeat (first | (with_reducible first | exact HB.out | apply ba1 | apply pbN | apply bw1 | refine bs1 ?_ GE192.out) | exact HB.out)) hb); have n2_ := Ai0.mk (hbox); have n3_ := Ai0.mk ((by rw [hg]; exact (bz1 (by repeat (first | (with_reducible first | exact HB.out | apply ba1 | apply pbN | apply bw1 | refine bs1 ?_ GE192.out) | exact HB.out))) : w.heap.size ≤ gb193)); have n4_ := Ai0.mk ((by rw [hg]; exact (bz1 (by repeat (first | (with_reducible first | exact HB.out | apply ba1 | apply pbN | apply bw1 | refine bs1 ?_ GE192.out) | exact HB.out))) : w.heap.size ≤ gb193)); have n5_ := Ai0.mk ((by rw [hg]; exact Nat.ne_of_lt (blk_lt (g := gb192) (o := .cells #[.int .i64 a0_0, .int .i64 a0_1, .slice A0_2 l0_2.length c0_2] 44 (0, 0)) (by (with_reducible repeat (first | refine kn1 ?_ _ | refine kd1 ?_ | refine ka1 ?_ _)); exact BK192.out)) : gb192 ≠ gb193)); have n6_ := Ai0.mk ((by rw [hg]; exact Nat.ne_of_gt (blk_lt (g := gb192) (o := .cells #[.int .i64 a0_0, .int .i64 a0_1, .slice A0_2 l0_2.length c0_2] 44 (0, 0)) (by (with_reducible repeat (first | refine kn1 ?_ _ | refine kd1 ?_ | refine ka1 ?_ _)); exact BK192.out)) : gb193 ≠ gb192)); clear BK192; clear HB; have BK192 := n0_; have HB := n1_; have BK193 := n2_; have GW193 := n3_; have GE193 := n4_; have NB192_193 := n5_; have NB193_192 := n6_; clear n0_ n1_ n2_ n3_ n4_ n5_ n6_; clear hb hbox hg; have hnb47 := NB192_193.out; have hnc47 := NB193_192.out; have hcz48_0 : w46.cell? ⟨gb192, 0, none⟩ = some (.int .i64 a0_0) := (kc1 BK192.out 0).trans rfl; have hcz48_1 : w46.cell? ⟨gb192, 1, none⟩ = some (.int .i64 a0_1) := (kc1 BK192.out 1).trans rfl; have hcz48_2 : w46.cell? ⟨gb192, 2, none⟩ = some (.slice A0_2 l0_2.length c0_2) := (kc1 BK192.out 2).trans rfl; have hfz48_0 := kf1 BK192.out 0; have hfz48_1 := kf1 BK192.out 1; have hfz48_2 := kf1 BK192.out 2) | ((with_reducible refine gate_callee (f := 59) rfl ?_); refine goesL_ (some 9) rfl rfl Try.func59 (by kernel_rfl) rfl #[.agg #[.int .i64 a0_0, .int .i64 a0_1, .slice A0_2 l0_2.length c0_2]] rfl (by (try simp only [List.map_toArray, List.map_cons, List.map_nil]); first | done | rfl | (simp only [List.length_drop, List.length_take]; rfl)) ?_; (with_reducible refine (cr4_Check.calls k a0_0 a0_1 _ _ l0_2 t194 _ ?side1 ?side2 A3.out).mono ?_); (case side1 => repeat (first | exact (Kd.C_below HR0_2.out HB.out) | (with_reducible refine Kd.C_alloc ?_ _) | (with_reducible refine Kd.C_drewN ?_ _) | (with_reducible refine Kd.C_drew ?_))); (case side2 => exact HC0_2.out); rintro e w49 ⟨rfl, hb⟩; refine ⟨_, rfl, ?_⟩; have n0_ := Ai0.mk (kb1 (g := gb192) (o := .cells #[.int .i64 a0_0, .int .i64 a0_1, .slice A0_2 l0_2.length c0_2] 44 (0, 0)) (by (with_reducible repeat (first | refine kn1 ?_ _ | refine kd1 ?_ | refine ka1 ?_ _)); exact BK192.out) hb); have n1_ := Ai0.mk (kb1 (g := gb193) (o := .cells #[.int .i64 a1_0, .slice A1_1 l1_1.length c1_1] 24 (0, 0)) (by (with_reducible repeat (first | refine kn1 ?_ _ | refine kd1 ?_ | refine ka1 ?_ _)); exact BK193.out) hb); have n2_ := Ai0.mk (bt1 (by repeat (first | (with_reducible first | exact HB.out | apply ba1 | apply pbN | apply bw1 | refine bs1 ?_ GE192.out | refine bs1 ?_ GE193.out) | exact HB.out)) hb); clear BK192; clear BK193; clear HB; have BK192 := n0_; have BK193 := n1_; have HB := n2_; clear n0_ n1_ n2_; (try clear hb); (try clear hb2); (try clear hk); (try clear hi)))
  go_ret
  exact ⟨by first | rfl | (simp [eW0, eW1] <;> rfl) | (simp [*, eW0, eW1] <;> rfl), by repeat (first | (with_reducible first | exact HB.out | apply ba1 | apply pbN | apply bw1 | refine bs1 ?_ GE192.out | refine bs1 ?_ GE193.out) | exact HB.out)⟩
end Go.Proofs.Ytmclalniilkjiaa.Q
