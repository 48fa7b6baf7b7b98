-- Joined by pack.py, a program of this work: Qx26 Fw Qx95 PureMessageMinSums Rw WSized
import Derived.Test.YtmclalniilkjiaaZMinSums0
import Derived.Test.YtmclalniilkjiaaZMinSums2
import Derived.Test.YtmclalniilkjiaaZMinSums4
import Derived.Test.YtmclalniilkjiaaZMinSums3
import Derived.Deep.Matrix
import Derived.Lib.SmallJoins
import Derived.SizedLaws
import Derived.ChangeSlices
namespace Go.Proofs.Ytmclalniilkjiaa.Q
open Go.RowKit Go.Proofs.YtmclalniilkjiaaW.PrintWords Go.Proofs.YtmclalniilkjiaaW.PrintLast Go.Proofs.YtmclalniilkjiaaW.PrintMore
open List renaming setIfInBounds_toArray → l01_, set_cons_zero → l02_, set_cons_succ → l03_
attribute [local go_sem] max2_int min2_int max_two min_two max_three min_three max_four min_four
set_option linter.unusedVariables false
set_option linter.unusedSimpArgs false
mutual
def crM_Few.j0 : Nat → Int → Bool → Int → List (List Int) → Option (Bool)
 | 0, _, _, _, _ => none
 | k + 1, x2, x18, x155000, x155001 => if x18 = true then (some false) else (crM_Few.l0 k x2 0 x155000 x155001)
def crM_Few.l0 : Nat → Int → Int → Int → List (List Int) → Option (Bool)
 | 0, _, _, _, _ => none
 | k + 1, x2, x7, x155000, x155001 => if x7 < (x155001.length : Int) then (if 0 ≤ x7 then (if ((rd_L1 x155001 x7).length : Int) > x2 then (some false) else (crM_Few.l0 k x2 (wrap64 (x7 + 1)) x155000 x155001)) else (none)) else (some true)
end
def crM_Few.f (k : Nat) (a0_0 : Int) (l0_1 : List (List Int)) (a1 : Int) (a2 : Int) : Option (Bool) := if (l0_1.length : Int) > a1 then (crM_Few.j0 k a2 true a0_0 l0_1) else (crM_Few.j0 k a2 (decide (a0_0 > a2)) a0_0 l0_1)
theorem crM_Few.mono_l : ∀ k, (∀ y0 y1 y2 y3, LeO (crM_Few.j0 k y0 y1 y2 y3) (crM_Few.j0 (k + 1) y0 y1 y2 y3)) ∧ (∀ y0 y1 y2 y3, LeO (crM_Few.l0 k y0 y1 y2 y3) (crM_Few.l0 (k + 1) y0 y1 y2 y3))
 | 0 => ⟨fun _ _ _ _ r h => by simp [crM_Few.j0] at h, fun _ _ _ _ r h => by simp [crM_Few.l0] at h⟩
 | k + 1 => by
  obtain ⟨ih0, ih1⟩ := crM_Few.mono_l k;refine ⟨?_, ?_⟩
  ·intro y0 y1 y2 y3;unfold crM_Few.j0
   repeat' first
   | (with_reducible exact ih0 _ _ _ _)
   | (with_reducible exact ih1 _ _ _ _)
   | (with_reducible exact LeO.refl _)
   | (with_reducible exact LeO.none _)
   | (with_reducible refine LeO.ite ?_ ?_)
   | (with_reducible refine LeO.bind ?_ (fun _ => ?_))
   | exact ih0 _ _ _ _
   | exact ih1 _ _ _ _
   | exact LeO.none _
   | refine LeO.ite ?_ ?_
   | refine LeO.bind ?_ (fun _ => ?_)
  ·intro y0 y1 y2 y3;unfold crM_Few.l0
   repeat' first
   | (with_reducible exact ih0 _ _ _ _)
   | (with_reducible exact ih1 _ _ _ _)
   | (with_reducible exact LeO.refl _)
   | (with_reducible exact LeO.none _)
   | (with_reducible refine LeO.ite ?_ ?_)
   | (with_reducible refine LeO.bind ?_ (fun _ => ?_))
   | exact ih0 _ _ _ _
   | exact ih1 _ _ _ _
   | exact LeO.none _
   | refine LeO.ite ?_ ?_
   | refine LeO.bind ?_ (fun _ => ?_)
theorem crM_Few.mono : ∀ a0 a1 a2 a3 k, LeO (crM_Few.f k a0 a1 a2 a3) (crM_Few.f (k + 1) a0 a1 a2 a3) := by
 intro a0 a1 a2 a3 k;obtain ⟨ih0, ih1⟩ := crM_Few.mono_l k;unfold crM_Few.f
 repeat' first
   | (with_reducible exact ih0 _ _ _ _)
   | (with_reducible exact ih1 _ _ _ _)
   | (with_reducible exact LeO.refl _)
   | (with_reducible exact LeO.none _)
   | (with_reducible refine LeO.ite ?_ ?_)
   | (with_reducible refine LeO.bind ?_ (fun _ => ?_))
   | exact ih0 _ _ _ _
   | exact ih1 _ _ _ _
   | exact LeO.none _
   | refine LeO.ite ?_ ?_
   | refine LeO.bind ?_ (fun _ => ?_)
set_option maxHeartbeats 8000000 in
set_option maxRecDepth 100000 in
theorem crM_Few.calls (k : Nat) (a0_0 : Int) (A0_1 : Option Addr) (c0_1 : Nat) (l0_1 : List (List Int)) (a1 : Int) (a2 : Int) (r : Bool) (w : World) (hr0_1 : Kd.C (Kd.slice 3 (Kd.int .i64)) w A0_1 l0_1.length l0_1) (hc0_1 : l0_1.length ≤ c0_1) (h : crM_Few.f k a0_0 l0_1 a1 a2 = some r) :
  Calls Try.prog 14 #[.agg #[.int .i64 a0_0, .slice A0_1 l0_1.length c0_1], .int .i64 a1, .int .i64 a2] w fun e w' => e = .returned (.bool r) ∧ Below w.heap.size w w' := by
 have hu24 := Try.underlying24;have HR0_1 := Ai0.mk hr0_1;have HC0_1 := Ai0.mk hc0_1;clear hr0_1 hc0_1;have HB := Ai0.mk (Below.refl w.heap.size w);have H : (if (l0_1.length : Int) > a1 then (crM_Few.j0 k a2 true a0_0 l0_1) else (crM_Few.j0 k a2 (decide (a0_0 > a2)) a0_0 l0_1)) = some r := h;clear h;have HC4 := Ai0.mk H;clear H;go_enter Try.func14, Try.ntmps14
 go_upto_region 1 with (first | ((with_reducible refine gate_dst (N := 3) rfl ?_); refine box_event ?hg (N := 3) ?hd (cs := #[.int .i64 a0_0, .slice A0_1 l0_1.length c0_1]) (t := 24) ?hr ?_; (case hd => rfl); (case hg => rfl); (case hr => first | (go_simp; done) | (go_simp; rfl)); intro gb154 hg w5 hbox hb; have n0_ := Ai0.mk (bt1 bl_ hb); have n1_ := Ai0.mk (hbox); have n2_ := Ai0.mk ((by rw [hg]; exact (bz1 bl_) : w.heap.size ≤ gb154)); have n3_ := Ai0.mk ((by rw [hg]; exact (bz1 bl_) : w.heap.size ≤ gb154)); clear HB; have HB := n0_; have BK154 := n1_; have GW154 := n2_; have GE154 := n3_; clear n0_ n1_ n2_ n3_; clear hb hbox hg))
 (try simp only [Act.put, l01_, l02_, l03_])
 go_cut [18] (fun v18 wc => ∃ (kq : Nat) (x18_3 : Bool), v18 = .bool x18_3 ∧ Ai0 (crM_Few.j0 kq a2 x18_3 a0_0 l0_1 = some r) ∧ Ai0 (kq ≤ k) ∧ Ai0 (wc.heap[gb154]? = some (.cells #[.int .i64 a0_0, (.slice A0_1 l0_1.length c0_1)] 24 (0, 0))) ∧ Ai0 (Below w.heap.size w wc))
 case first =>
  have H := HC4.out;clear HC4;by_cases c6 : (l0_1.length : Int) > a1
  ·rw [if_pos c6] at H;have c6b0 : decide (a1 < (l0_1.length : Int)) = true := decide_eq_true c6;clear c6;(first | rw [c6b0] | (simp only [i64_w, i32_w]; rw [c6b0]) | skip);have H' := Ai0.mk H;clear H;have hcz7_0 : w5.cell? ⟨gb154, 0, none⟩ = some (.int .i64 a0_0) := (kc1 BK154.out 0).trans rfl;have hcz7_1 : w5.cell? ⟨gb154, 1, none⟩ = some (.slice A0_1 l0_1.length c0_1) := (kc1 BK154.out 1).trans rfl;have hfz7_0 := kf1 BK154.out 0;have hfz7_1 := kf1 BK154.out 1
   go_wp2
   go_meet
   case rel => exact ⟨_, (true), rf_, H', ⟨by first | omega | exact Nat.le_refl _⟩, ⟨kk_ BK154.out⟩, ⟨bl_⟩⟩
  ·rw [if_neg c6] at H;have c6b0 : decide (a1 < (l0_1.length : Int)) = false := decide_eq_false c6;clear c6;(first | rw [c6b0] | (simp only [i64_w, i32_w]; rw [c6b0]) | skip);have H' := Ai0.mk H;clear H;have hcz8_0 : w5.cell? ⟨gb154, 0, none⟩ = some (.int .i64 a0_0) := (kc1 BK154.out 0).trans rfl;have hcz8_1 : w5.cell? ⟨gb154, 1, none⟩ = some (.slice A0_1 l0_1.length c0_1) := (kc1 BK154.out 1).trans rfl;have hfz8_0 := kf1 BK154.out 0;have hfz8_1 := kf1 BK154.out 1
   go_wp2
   go_meet
   case rel => exact ⟨_, (decide (a0_0 > a2)), rf_, H', ⟨by first | omega | exact Nat.le_refl _⟩, ⟨kk_ BK154.out⟩, ⟨bl_⟩⟩
 case rest =>
  clear HC4
  try clear c1
  try clear p2
  try clear c6
  try clear c6b0
  try clear hcz7_0
  try clear hcz7_1
  try clear hcz8_0
  try clear hcz8_1
  try clear hfz7_0
  try clear hfz7_1
  try clear hfz8_0
  try clear hfz8_1
  obtain ⟨kq, x18_3, rfl, HA, HJ3, BK154, HB⟩ := hcut
  cases kq with
  | zero => exact absurd HA.out (by simp [crM_Few.j0])
  | succ kj3 =>
   have H := HA.out;clear HA;simp only [crM_Few.j0] at H;by_cases c9 : x18_3 = true
   ·subst c9;(have H1 : (some false) = some r := by rw [if_pos rfl] at H; exact H);clear H;have H := H1;clear H1;obtain rfl := Option.some.inj H
    go_wp2
    go_ret
    exact ⟨by first | rfl | (simp [eW0, eW1] <;> rfl) | (simp [*, eW0, eW1] <;> rfl), bl_⟩
   ·replace c9 := Bool.eq_false_iff.mpr c9;subst c9;(have H1 : (crM_Few.l0 kj3 a2 0 a0_0 l0_1) = some r := by rw [if_neg (show ¬ (false = true) by decide)] at H; exact H);clear H;have H := H1;clear H1;have H' := Ai0.mk H;clear H
    go_wp2
    go_loopg [7] kj3 (fun kq v7 w' => ∃ (x7_2 : Int), v7 = .int .i64 x7_2 ∧ Ai0 (crM_Few.l0 kq a2 x7_2 a0_0 l0_1 = some r) ∧ Ai0 (kq ≤ kj3) ∧ Ai0 (w'.heap[gb154]? = some (.cells #[.int .i64 a0_0, (.slice A0_1 l0_1.length c0_1)] 24 (0, 0))) ∧ Ai0 (Below w.heap.size w w'))
    case atStart => exact ⟨(0), rf_, H', ⟨Nat.le_refl _⟩, ⟨kk_ BK154.out⟩, ⟨bl_⟩⟩
    case round =>
     clear H'
     try clear c1
     try clear p2
     try clear c6
     try clear c6b0
     try clear c9
     try clear hcz7_0
     try clear hcz7_1
     try clear hcz8_0
     try clear hcz8_1
     try clear hfz7_0
     try clear hfz7_1
     try clear hfz8_0
     try clear hfz8_1
     try clear p2
     obtain ⟨x7_2, rfl, HA, HK2, BK154, HB⟩ := hrel
     cases gk with
     | zero => exact absurd HA.out (by simp [crM_Few.l0])
     | succ k2 =>
      have H := HA.out;clear HA;simp only [crM_Few.l0] at H;by_cases c10 : x7_2 < (l0_1.length : Int)
      ·rw [if_pos c10] at H;have c10b0 : decide (x7_2 < (l0_1.length : Int)) = true := decide_eq_true c10;clear c10;by_cases c11 : 0 ≤ x7_2
       ·rw [if_pos c11] at H;have c11b0 : decide (0 ≤ x7_2) = true := decide_eq_true c11;clear c11;by_cases c12 : ((rd_L1 l0_1 x7_2).length : Int) > a2
        ·rw [if_pos c12] at H;have c12b0 : decide (a2 < ((rd_L1 l0_1 x7_2).length : Int)) = true := decide_eq_true c12;clear c12;obtain rfl := Option.some.inj H;have hcz13_0 : wr.cell? ⟨gb154, 0, none⟩ = some (.int .i64 a0_0) := (kc1 BK154.out 0).trans rfl;have hcz13_1 : wr.cell? ⟨gb154, 1, none⟩ = some (.slice A0_1 l0_1.length c0_1) := (kc1 BK154.out 1).trans rfl;have hfz13_0 := kf1 BK154.out 0;have hfz13_1 := kf1 BK154.out 1;have p155 : 0 ≤ (x7_2 : Int) := od_;have q155 : x7_2 < (l0_1.length : Int) := od_;obtain ⟨ad155, A155_0, c155_0, e155, hx155_0, hl155_0, hi155_0⟩ := at_L1 HR0_1.out x7_2 p155 q155;cases e155;replace hx155_0 := (HB.out.cell (World.block_lt_of_cell? w _ hx155_0)).trans hx155_0;have HR155_0 := Ai0.mk hi155_0;have HC155_0 := Ai0.mk hl155_0;clear hi155_0 hl155_0;replace p155 := eq_true p155;replace q155 := eq_true q155
         go_wp2
         go_ret
         exact ⟨by first | rfl | (simp [eW0, eW1] <;> rfl) | (simp [*, eW0, eW1] <;> rfl), bl_⟩
        ·rw [if_neg c12] at H;have c12b0 : decide (a2 < ((rd_L1 l0_1 x7_2).length : Int)) = false := decide_eq_false c12;clear c12;have H' := Ai0.mk H;clear H;have hcz14_0 : wr.cell? ⟨gb154, 0, none⟩ = some (.int .i64 a0_0) := (kc1 BK154.out 0).trans rfl;have hcz14_1 : wr.cell? ⟨gb154, 1, none⟩ = some (.slice A0_1 l0_1.length c0_1) := (kc1 BK154.out 1).trans rfl;have hfz14_0 := kf1 BK154.out 0;have hfz14_1 := kf1 BK154.out 1;have p155 : 0 ≤ (x7_2 : Int) := od_;have q155 : x7_2 < (l0_1.length : Int) := od_;obtain ⟨ad155, A155_0, c155_0, e155, hx155_0, hl155_0, hi155_0⟩ := at_L1 HR0_1.out x7_2 p155 q155;cases e155;replace hx155_0 := (HB.out.cell (World.block_lt_of_cell? w _ hx155_0)).trans hx155_0;have HR155_0 := Ai0.mk hi155_0;have HC155_0 := Ai0.mk hl155_0;clear hi155_0 hl155_0;replace p155 := eq_true p155;replace q155 := eq_true q155
         go_wp2
         go_roundg k2
         case measure => have := HJ3.out; have := HK2.out; omega
         case rel => exact ⟨(wrap64 (x7_2 + 1)), rf_, H', ⟨by have := HJ3.out; have := HK2.out; omega⟩, ⟨kk_ BK154.out⟩, ⟨bl_⟩⟩
       ·rw [if_neg c11] at H;exact absurd H (by simp)
      ·rw [if_neg c10] at H;have c10b0 : decide (x7_2 < (l0_1.length : Int)) = false := decide_eq_false c10;clear c10;obtain rfl := Option.some.inj H;have hcz15_0 : wr.cell? ⟨gb154, 0, none⟩ = some (.int .i64 a0_0) := (kc1 BK154.out 0).trans rfl;have hcz15_1 : wr.cell? ⟨gb154, 1, none⟩ = some (.slice A0_1 l0_1.length c0_1) := (kc1 BK154.out 1).trans rfl;have hfz15_0 := kf1 BK154.out 0;have hfz15_1 := kf1 BK154.out 1
       go_wp2
       go_ret
       exact ⟨by first | rfl | (simp [eW0, eW1] <;> rfl) | (simp [*, eW0, eW1] <;> rfl), bl_⟩
end Go.Proofs.Ytmclalniilkjiaa.Q
/- The printed Few functions end; what they tell. No condition. -/
namespace Go.Proofs.Ytmclalniilkjiaa.Fw
open Go.RowKit Go.Proofs.Ytmclalniilkjiaa.Q Go.Proofs.YtmclalniilkjiaaW.PrintWords Go.Proofs.YtmclalniilkjiaaW.PrintLast Go.Proofs.Ytmclalniilkjiaa.Ba Go.Proofs.Ytmclalniilkjiaa.Ck

theorem few9_l0 (c : Int) (rows : List (List Int)) (hr : rows.length ≤ 2000) : ∀ (d i : Nat) (x : Int), i + d = rows.length → 0 ≤ x → x ≤ 2000 → ∃ b, Ev (fun k => cr9_Few.l0 k x (i : Int) c rows) b
 | 0, i, x, h, h0, h1 => ⟨true, Ev.step (f := fun _ => some true) (fun k => by simp only [cr9_Few.l0]; rw [if_neg (by omega)]) (Ev.now _)⟩
 | d + 1, i, x, h, h0, h1 => by
  by_cases hx : ((rows.getD i []).length : Int) > x
  ·refine ⟨false, Ev.step (f := fun _ => some false) (fun k => ?_) (Ev.now _)⟩
   simp only [cr9_Few.l0, rd_L1_nat]
   rw [if_pos (by omega), if_pos (by omega), if_pos hx]
  ·obtain ⟨b, ih⟩ := few9_l0 c rows hr d (i + 1) (x - (rows.getD i []).length) (by omega) (by omega) (by omega)
   refine ⟨b, Ev.step (fun k => ?_) ih⟩
   simp only [cr9_Few.l0, rd_L1_nat]
   rw [if_pos (by omega), if_pos (by omega), if_neg hx, w64_id (by omega) (by omega), w64_id (by omega) (by omega)]
   rfl
theorem few9 (c : Int) (rows : List (List Int)) : ∃ b, Ev (fun k => cr9_Few.f k c rows 2000) b ∧ (b = true → rows.length ≤ 2000 ∧ c ≤ 260) := by
 have hj : Ev (fun k => cr9_Few.j0 k 2000 true c rows) false := Ev.step (f := fun _ => some false) (fun k => by simp only [cr9_Few.j0]; rw [if_pos trivial]) (Ev.now _)
 unfold cr9_Few.f
 by_cases h1 : c > 260
 ·exact ⟨false, Ev.congr (fun k => if_pos h1) hj, fun h => by cases h⟩
 by_cases h2 : (rows.length : Int) > 2000
 ·exact ⟨false, Ev.congr (fun k => if_neg h1) (by rw [decide_eq_true h2]; exact hj), fun h => by cases h⟩
 obtain ⟨b, hb⟩ := few9_l0 c rows (by omega) rows.length 0 (2000 - rows.length) (by omega) (by omega) (by omega)
 refine ⟨b, Ev.congr (fun k => if_neg h1) ?_, fun _ => ⟨by omega, by omega⟩⟩
 rw [decide_eq_false h2]
 refine Ev.step (fun k => ?_) hb
 simp only [cr9_Few.j0]
 rw [if_neg Bool.false_ne_true, w64_id (by omega) (by omega)]
 rfl
theorem few45_l0 (c : Int) (rows : List (List Int)) (m : Int) (hr : rows.length ≤ 4611686018427387904) : ∀ (d i : Nat), i + d = rows.length → (∀ j, j < i → ((rows.getD j []).length : Int) ≤ m) → ∃ b, Ev (fun k => crM_Few.l0 k m (i : Int) c rows) b ∧ (b = true → ∀ j, j < rows.length → ((rows.getD j []).length : Int) ≤ m)
 | 0, i, h, h0 => ⟨true, Ev.step (f := fun _ => some true) (fun k => by simp only [crM_Few.l0]; rw [if_neg (by omega)]) (Ev.now _), fun _ j hj => h0 j (by omega)⟩
 | d + 1, i, h, h0 => by
  by_cases hx : ((rows.getD i []).length : Int) > m
  ·refine ⟨false, Ev.step (f := fun _ => some false) (fun k => ?_) (Ev.now _), fun h => by cases h⟩
   simp only [crM_Few.l0, rd_L1_nat]
   rw [if_pos (by omega), if_pos (by omega), if_pos hx]
  ·obtain ⟨b, ih, hb⟩ := few45_l0 c rows m hr d (i + 1) (by omega) (fun j hj => by by_cases e : j = i; (· subst e; omega); (· exact h0 j (by omega)))
   refine ⟨b, Ev.step (fun k => ?_) ih, hb⟩
   simp only [crM_Few.l0, rd_L1_nat]
   rw [if_pos (by omega), if_pos (by omega), if_neg hx, w64_id (by omega) (by omega)]
   rfl
theorem few45 (c : Int) (rows : List (List Int)) (n m : Int) (hn : n ≤ 4611686018427387904) : ∃ b, Ev (fun k => crM_Few.f k c rows n m) b ∧ (b = true → (rows.length : Int) ≤ n ∧ c ≤ m ∧ ∀ j, j < rows.length → ((rows.getD j []).length : Int) ≤ m) := by
 have hj : Ev (fun k => crM_Few.j0 k m true c rows) false := Ev.step (f := fun _ => some false) (fun k => by simp only [crM_Few.j0]; rw [if_pos trivial]) (Ev.now _)
 unfold crM_Few.f
 by_cases h1 : (rows.length : Int) > n
 ·exact ⟨false, Ev.congr (fun k => if_pos h1) hj, fun h => by cases h⟩
 by_cases h2 : c > m
 ·exact ⟨false, Ev.congr (fun k => if_neg h1) (by rw [decide_eq_true h2]; exact hj), fun h => by cases h⟩
 obtain ⟨b, hb, hb2⟩ := few45_l0 c rows m (by omega) rows.length 0 (by omega) (fun j hj => by omega)
 refine ⟨b, Ev.congr (fun k => if_neg h1) ?_, fun h => ⟨by omega, by omega, hb2 h⟩⟩
 rw [decide_eq_false h2]
 refine Ev.step (fun k => ?_) hb
 simp only [crM_Few.j0]
 rw [if_neg Bool.false_ne_true]
 rfl
end Go.Proofs.Ytmclalniilkjiaa.Fw
namespace Go.Proofs.Ytmclalniilkjiaa.Q
open Go.RowKit Go.Proofs.YtmclalniilkjiaaW.PrintWords Go.Proofs.YtmclalniilkjiaaW.PrintLast Go.Proofs.YtmclalniilkjiaaW.PrintMore
open List renaming setIfInBounds_toArray → l01_, set_cons_zero → l02_, set_cons_succ → l03_
attribute [local go_sem] max2_int min2_int max_two min_two max_three min_three max_four min_four
set_option linter.unusedVariables false
set_option linter.unusedSimpArgs false
def cw_MessageMinSums.j0 : Nat → List Int → Int → Bool → Int → List (List Int) → Option (Bool)
 | 0, _, _, _, _, _ => none
 | k + 1, x1, x2, x52, x683000, x683001 => if x52 = true then (some true) else ((message_MinSum.f k x683000 x683001 x1 x2).bind fun bt691 => ((crM_MinSum.f k x683000 x683001 x1 x2).bind fun bt696 => (if bt691.2.2 = bt696.2.2 then (if bt691.2.1 = bt696.2.1 then ((cr9_SameInts.f k bt691.1 bt696.1).bind fun t701 => (some t701)) else (some false)) else (some false))))
def cw_MessageMinSums.f (k : Nat) (a0_0 : Int) (l0_1 : List (List Int)) (l1 : List Int) (a2 : Int) : Option (Bool) := (cr9_Few.f k a0_0 l0_1 2000).bind fun t683 => (if t683 = true then ((crM_Args.f k a0_0 l0_1 l1 a2).bind fun t684 => (if t684 = 0 then ((crM_Few.f k a0_0 l0_1 6 8).bind fun t690 => (if t690 = true then (cw_MessageMinSums.j0 k l1 a2 (decide (a2 > 8)) a0_0 l0_1) else (cw_MessageMinSums.j0 k l1 a2 true a0_0 l0_1))) else ((message_MinSum.f k a0_0 l0_1 l1 a2).bind fun bt685 => (if bt685.2.2 = t684 then (if (bt685.1.length : Int) = 0 then (some (bt685.2.1 == 0)) else (some false)) else (some false))))) else (some true))
theorem cw_MessageMinSums.mono_l : ∀ k, (∀ y0 y1 y2 y3 y4, LeO (cw_MessageMinSums.j0 k y0 y1 y2 y3 y4) (cw_MessageMinSums.j0 (k + 1) y0 y1 y2 y3 y4))
 | 0 => fun _ _ _ _ _ r h => by simp [cw_MessageMinSums.j0] at h
 | k + 1 => by
  have ih0 := cw_MessageMinSums.mono_l k
  ·intro y0 y1 y2 y3 y4;unfold cw_MessageMinSums.j0
   repeat' first
   | (with_reducible exact ih0 _ _ _ _ _)
   | (with_reducible exact cr9_Few.mono _ _ _ _)
   | (with_reducible exact cr9_SameInts.mono _ _ _)
   | (with_reducible exact crM_Args.mono _ _ _ _ _)
   | (with_reducible exact crM_Few.mono _ _ _ _ _)
   | (with_reducible exact crM_MinSum.mono _ _ _ _ _)
   | (with_reducible exact message_MinSum.mono _ _ _ _ _)
   | (with_reducible exact LeO.refl _)
   | (with_reducible exact LeO.none _)
   | (with_reducible refine LeO.ite ?_ ?_)
   | (with_reducible refine LeO.bind ?_ (fun _ => ?_))
   | exact ih0 _ _ _ _ _
   | exact cr9_Few.mono _ _ _ _
   | exact cr9_SameInts.mono _ _ _
   | exact crM_Args.mono _ _ _ _ _
   | exact crM_Few.mono _ _ _ _ _
   | exact crM_MinSum.mono _ _ _ _ _
   | exact message_MinSum.mono _ _ _ _ _
   | exact LeO.none _
   | refine LeO.ite ?_ ?_
   | refine LeO.bind ?_ (fun _ => ?_)
theorem cw_MessageMinSums.mono : ∀ a0 a1 a2 a3 k, LeO (cw_MessageMinSums.f k a0 a1 a2 a3) (cw_MessageMinSums.f (k + 1) a0 a1 a2 a3) := by
 intro a0 a1 a2 a3 k;have ih0 := cw_MessageMinSums.mono_l k;unfold cw_MessageMinSums.f
 repeat' first
   | (with_reducible exact ih0 _ _ _ _ _)
   | (with_reducible exact cr9_Few.mono _ _ _ _)
   | (with_reducible exact cr9_SameInts.mono _ _ _)
   | (with_reducible exact crM_Args.mono _ _ _ _ _)
   | (with_reducible exact crM_Few.mono _ _ _ _ _)
   | (with_reducible exact crM_MinSum.mono _ _ _ _ _)
   | (with_reducible exact message_MinSum.mono _ _ _ _ _)
   | (with_reducible exact LeO.refl _)
   | (with_reducible exact LeO.none _)
   | (with_reducible refine LeO.ite ?_ ?_)
   | (with_reducible refine LeO.bind ?_ (fun _ => ?_))
   | exact ih0 _ _ _ _ _
   | exact cr9_Few.mono _ _ _ _
   | exact cr9_SameInts.mono _ _ _
   | exact crM_Args.mono _ _ _ _ _
   | exact crM_Few.mono _ _ _ _ _
   | exact crM_MinSum.mono _ _ _ _ _
   | exact message_MinSum.mono _ _ _ _ _
   | exact LeO.none _
   | refine LeO.ite ?_ ?_
   | refine LeO.bind ?_ (fun _ => ?_)
set_option maxHeartbeats 8000000 in
set_option maxRecDepth 100000 in
theorem cw_MessageMinSums.calls (k : Nat) (a0_0 : Int) (A0_1 : Option Addr) (c0_1 : Nat) (l0_1 : List (List Int)) (A1 : Option Addr) (c1 : Nat) (l1 : List Int) (a2 : Int) (r : Bool) (w : World) (hr0_1 : Kd.C (Kd.slice 3 (Kd.int .i64)) w A0_1 l0_1.length l0_1) (hc0_1 : l0_1.length ≤ c0_1) (hr1 : Kd.C (Kd.int .i64) w A1 l1.length l1) (hc1 : l1.length ≤ c1) (h : cw_MessageMinSums.f k a0_0 l0_1 l1 a2 = some r) :
  Calls Try.prog 12 #[.agg #[.int .i64 a0_0, .slice A0_1 l0_1.length c0_1], .slice A1 l1.length c1, .int .i64 a2] w fun e w' => e = .returned (.bool r) ∧ Below w.heap.size w w' := by
 have hu24 := Try.underlying24;have HR0_1 := Ai0.mk hr0_1;have HC0_1 := Ai0.mk hc0_1;clear hr0_1 hc0_1;have HR1 := Ai0.mk hr1;have HC1 := Ai0.mk hc1;clear hr1 hc1;have HB := Ai0.mk (Below.refl w.heap.size w);have H : ((cr9_Few.f k a0_0 l0_1 2000).bind fun t683 => (if t683 = true then ((crM_Args.f k a0_0 l0_1 l1 a2).bind fun t684 => (if t684 = 0 then ((crM_Few.f k a0_0 l0_1 6 8).bind fun t690 => (if t690 = true then (cw_MessageMinSums.j0 k l1 a2 (decide (a2 > 8)) a0_0 l0_1) else (cw_MessageMinSums.j0 k l1 a2 true a0_0 l0_1))) else ((message_MinSum.f k a0_0 l0_1 l1 a2).bind fun bt685 => (if bt685.2.2 = t684 then (if (bt685.1.length : Int) = 0 then (some (bt685.2.1 == 0)) else (some false)) else (some false))))) else (some true))) = some r := h;clear h;replace H := Option.bind_eq_some_iff.mp H;obtain ⟨t683, A40, H⟩ := H;replace H : (if t683 = true then ((crM_Args.f k a0_0 l0_1 l1 a2).bind fun t684 => (if t684 = 0 then ((crM_Few.f k a0_0 l0_1 6 8).bind fun t690 => (if t690 = true then (cw_MessageMinSums.j0 k l1 a2 (decide (a2 > 8)) a0_0 l0_1) else (cw_MessageMinSums.j0 k l1 a2 true a0_0 l0_1))) else ((message_MinSum.f k a0_0 l0_1 l1 a2).bind fun bt685 => (if bt685.2.2 = t684 then (if (bt685.1.length : Int) = 0 then (some (bt685.2.1 == 0)) else (some false)) else (some false))))) else (some true)) = some r := H;have A4 := Ai0.mk A40;clear A40;by_cases c5 : t683 = true
 ·subst c5;have H1 : ((crM_Args.f k a0_0 l0_1 l1 a2).bind fun t684 => (if t684 = 0 then ((crM_Few.f k a0_0 l0_1 6 8).bind fun t690 => (if t690 = true then (cw_MessageMinSums.j0 k l1 a2 (decide (a2 > 8)) a0_0 l0_1) else (cw_MessageMinSums.j0 k l1 a2 true a0_0 l0_1))) else ((message_MinSum.f k a0_0 l0_1 l1 a2).bind fun bt685 => (if bt685.2.2 = t684 then (if (bt685.1.length : Int) = 0 then (some (bt685.2.1 == 0)) else (some false)) else (some false))))) = some r := by rw [if_pos rfl] at H; exact H
  clear H;have H := H1;clear H1;replace H := Option.bind_eq_some_iff.mp H;obtain ⟨t684, A60, H⟩ := H;replace H : (if t684 = 0 then ((crM_Few.f k a0_0 l0_1 6 8).bind fun t690 => (if t690 = true then (cw_MessageMinSums.j0 k l1 a2 (decide (a2 > 8)) a0_0 l0_1) else (cw_MessageMinSums.j0 k l1 a2 true a0_0 l0_1))) else ((message_MinSum.f k a0_0 l0_1 l1 a2).bind fun bt685 => (if bt685.2.2 = t684 then (if (bt685.1.length : Int) = 0 then (some (bt685.2.1 == 0)) else (some false)) else (some false)))) = some r := H;have A6 := Ai0.mk A60;clear A60;by_cases c7 : t684 = 0
  ·rw [if_pos c7] at H;have c7b0 : (t684 == 0) = true := beq_iff_eq.mpr c7;have c7b1 : (t684 != 0) = false := bne_eq_false_iff_eq.mpr c7;clear c7;have HC8 := Ai0.mk H;clear H;go_enter Try.func12, Try.ntmps12
   go_upto_region 7 with (first | ((with_reducible refine gate_dst (N := 3) rfl ?_); (try (refine gate_guard (by rfl) ?_; dsimp only)); refine box_event ?hg (N := 3) ?hd (cs := #[.int .i64 a0_0, .slice A0_1 l0_1.length c0_1]) (t := 24) ?hr ?_; (case hd => rfl); (case hg => rfl); (case hr => first | (go_simp; done) | (go_simp; rfl)); intro gb682 hg w9 hbox hb; have n0_ := Ai0.mk (bt1 bl_ hb); have n1_ := Ai0.mk (hbox); have n2_ := Ai0.mk ((by rw [hg]; exact (bz1 bl_) : w.heap.size ≤ gb682)); have n3_ := Ai0.mk ((by rw [hg]; exact (bz1 bl_) : w.heap.size ≤ gb682)); clear HB; have HB := n0_; have BK682 := n1_; have GW682 := n2_; have GE682 := n3_; clear n0_ n1_ n2_ n3_; clear hb hbox hg; have hcz10_0 : w9.cell? ⟨gb682, 0, none⟩ = some (.int .i64 a0_0) := (kc1 BK682.out 0).trans rfl; have hcz10_1 : w9.cell? ⟨gb682, 1, none⟩ = some (.slice A0_1 l0_1.length c0_1) := (kc1 BK682.out 1).trans rfl; have hfz10_0 := kf1 BK682.out 0; have hfz10_1 := kf1 BK682.out 1) | ((with_reducible refine gate_callee (f := 28) rfl ?_); refine goesL_ (some 18) rfl rfl Try.func28 (by kernel_rfl) rfl #[.agg #[.int .i64 a0_0, .slice A0_1 l0_1.length c0_1], .int .i64 2000] rfl (by (try simp only [List.map_toArray, List.map_cons, List.map_nil]); first | done | rfl | (simp only [List.length_drop, List.length_take]; rfl)) ?_; (with_reducible refine (cr9_Few.calls k a0_0 _ _ l0_1 2000 true _ ?side1 ?side2 A4.out).mono ?_); (case side1 => exact kc_ HR0_1.out); (case side2 => exact HC0_1.out); rintro e w11 ⟨rfl, hb⟩; refine ⟨_, rfl, ?_⟩; have n0_ := Ai0.mk (kb1 (g := gb682) (o := .cells #[.int .i64 a0_0, .slice A0_1 l0_1.length c0_1] 24 (0, 0)) (kk_ BK682.out) hb); have n1_ := Ai0.mk (bt1 bl_ hb); clear BK682; clear HB; have BK682 := n0_; have HB := n1_; clear n0_ n1_; (try clear hb); (try clear hb2); (try clear hk); (try clear hi); have hcz12_0 : w11.cell? ⟨gb682, 0, none⟩ = some (.int .i64 a0_0) := (kc1 BK682.out 0).trans rfl; have hcz12_1 : w11.cell? ⟨gb682, 1, none⟩ = some (.slice A0_1 l0_1.length c0_1) := (kc1 BK682.out 1).trans rfl; have hfz12_0 := kf1 BK682.out 0; have hfz12_1 := kf1 BK682.out 1) | ((with_reducible refine gate_callee (f := 15) rfl ?_); refine goesL_ (some 23) rfl rfl Try.func15 (by kernel_rfl) rfl #[.agg #[.int .i64 a0_0, .slice A0_1 l0_1.length c0_1], .slice A1 l1.length c1, .int .i64 a2] rfl (by (try simp only [List.map_toArray, List.map_cons, List.map_nil]); first | done | rfl | (simp only [List.length_drop, List.length_take]; rfl)) ?_; (with_reducible refine (crM_Args.calls k a0_0 _ _ l0_1 _ _ l1 a2 t684 _ ?side1 ?side2 ?side3 ?side4 A6.out).mono ?_); (case side1 => exact kc_ HR0_1.out); (case side2 => exact HC0_1.out); (case side3 => exact kc_ HR1.out); (case side4 => exact HC1.out); rintro e w13 ⟨rfl, hb⟩; refine ⟨_, rfl, ?_⟩; have n0_ := Ai0.mk (kb1 (g := gb682) (o := .cells #[.int .i64 a0_0, .slice A0_1 l0_1.length c0_1] 24 (0, 0)) (kk_ BK682.out) hb); have n1_ := Ai0.mk (bt1 bl_ hb); clear BK682; clear HB; have BK682 := n0_; have HB := n1_; clear n0_ n1_; (try clear hb); (try clear hb2); (try clear hk); (try clear hi)))
   (try simp only [Act.put, l01_, l02_, l03_])
   go_cut [52] (fun v52 wc => ∃ (kq : Nat) (x52_7 : Bool), v52 = .bool x52_7 ∧ Ai0 (cw_MessageMinSums.j0 kq l1 a2 x52_7 a0_0 l0_1 = some r) ∧ Ai0 (kq ≤ k) ∧ Ai0 (wc.heap[gb682]? = some (.cells #[.int .i64 a0_0, (.slice A0_1 l0_1.length c0_1)] 24 (0, 0))) ∧ Ai0 (Below w.heap.size w wc))
   case first =>
    have H := HC8.out;clear HC8;replace H := Option.bind_eq_some_iff.mp H;obtain ⟨t690, A140, H⟩ := H;replace H : (if t690 = true then (cw_MessageMinSums.j0 k l1 a2 (decide (a2 > 8)) a0_0 l0_1) else (cw_MessageMinSums.j0 k l1 a2 true a0_0 l0_1)) = some r := H;have A14 := Ai0.mk A140;clear A140;by_cases c15 : t690 = true
    ·subst c15;(have H1 : (cw_MessageMinSums.j0 k l1 a2 (decide (a2 > 8)) a0_0 l0_1) = some r := by rw [if_pos rfl] at H; exact H);clear H;have H := H1;clear H1;have H' := Ai0.mk H;clear H;have hcz16_0 : w13.cell? ⟨gb682, 0, none⟩ = some (.int .i64 a0_0) := (kc1 BK682.out 0).trans rfl;have hcz16_1 : w13.cell? ⟨gb682, 1, none⟩ = some (.slice A0_1 l0_1.length c0_1) := (kc1 BK682.out 1).trans rfl;have hfz16_0 := kf1 BK682.out 0;have hfz16_1 := kf1 BK682.out 1
     go_wp2_with (first | ((with_reducible refine gate_callee (f := 14) rfl ?_); refine goesL_ (some 47) rfl rfl Try.func14 (by kernel_rfl) rfl #[.agg #[.int .i64 a0_0, .slice A0_1 l0_1.length c0_1], .int .i64 6, .int .i64 8] rfl (by (try simp only [List.map_toArray, List.map_cons, List.map_nil]); first | done | rfl | (simp only [List.length_drop, List.length_take]; rfl)) ?_; (with_reducible refine (crM_Few.calls k a0_0 _ _ l0_1 6 8 true _ ?side1 ?side2 A14.out).mono ?_); (case side1 => exact kc_ HR0_1.out); (case side2 => exact HC0_1.out); rintro e w17 ⟨rfl, hb⟩; refine ⟨_, rfl, ?_⟩; have n0_ := Ai0.mk (kb1 (g := gb682) (o := .cells #[.int .i64 a0_0, .slice A0_1 l0_1.length c0_1] 24 (0, 0)) (kk_ BK682.out) hb); have n1_ := Ai0.mk (bt1 bl_ hb); clear BK682; clear HB; have BK682 := n0_; have HB := n1_; clear n0_ n1_; (try clear hb); (try clear hb2); (try clear hk); (try clear hi)))
     go_meet
     case rel => exact ⟨_, (decide (a2 > 8)), rf_, H', ⟨by first | omega | exact Nat.le_refl _⟩, ⟨kk_ BK682.out⟩, ⟨bl_⟩⟩
    ·replace c15 := Bool.eq_false_iff.mpr c15;subst c15;(have H1 : (cw_MessageMinSums.j0 k l1 a2 true a0_0 l0_1) = some r := by rw [if_neg (show ¬ (false = true) by decide)] at H; exact H);clear H;have H := H1;clear H1;have H' := Ai0.mk H;clear H;have hcz18_0 : w13.cell? ⟨gb682, 0, none⟩ = some (.int .i64 a0_0) := (kc1 BK682.out 0).trans rfl;have hcz18_1 : w13.cell? ⟨gb682, 1, none⟩ = some (.slice A0_1 l0_1.length c0_1) := (kc1 BK682.out 1).trans rfl;have hfz18_0 := kf1 BK682.out 0;have hfz18_1 := kf1 BK682.out 1
     go_wp2_with (first | ((with_reducible refine gate_callee (f := 14) rfl ?_); refine goesL_ (some 47) rfl rfl Try.func14 (by kernel_rfl) rfl #[.agg #[.int .i64 a0_0, .slice A0_1 l0_1.length c0_1], .int .i64 6, .int .i64 8] rfl (by (try simp only [List.map_toArray, List.map_cons, List.map_nil]); first | done | rfl | (simp only [List.length_drop, List.length_take]; rfl)) ?_; (with_reducible refine (crM_Few.calls k a0_0 _ _ l0_1 6 8 false _ ?side1 ?side2 A14.out).mono ?_); (case side1 => exact kc_ HR0_1.out); (case side2 => exact HC0_1.out); rintro e w19 ⟨rfl, hb⟩; refine ⟨_, rfl, ?_⟩; have n0_ := Ai0.mk (kb1 (g := gb682) (o := .cells #[.int .i64 a0_0, .slice A0_1 l0_1.length c0_1] 24 (0, 0)) (kk_ BK682.out) hb); have n1_ := Ai0.mk (bt1 bl_ hb); clear BK682; clear HB; have BK682 := n0_; have HB := n1_; clear n0_ n1_; (try clear hb); (try clear hb2); (try clear hk); (try clear hi)))
     go_meet
     case rel => exact ⟨_, (true), rf_, H', ⟨by first | omega | exact Nat.le_refl _⟩, ⟨kk_ BK682.out⟩, ⟨bl_⟩⟩
   case rest =>
    clear HC8
    try clear c1
    try clear c2
    try clear p2
    try clear c5
    try clear c7
    try clear c7b0
    try clear c7b1
    try clear c12
    try clear c14
    try clear c15
    try clear hcz10_0
    try clear hcz10_1
    try clear hcz12_0
    try clear hcz12_1
    try clear hcz16_0
    try clear hcz16_1
    try clear hcz18_0
    try clear hcz18_1
    try clear hfz10_0
    try clear hfz10_1
    try clear hfz12_0
    try clear hfz12_1
    try clear hfz16_0
    try clear hfz16_1
    try clear hfz18_0
    try clear hfz18_1
    obtain ⟨kq, x52_7, rfl, HA, HJ7, BK682, HB⟩ := hcut
    cases kq with
    | zero => exact absurd HA.out (by simp [cw_MessageMinSums.j0])
    | succ kj7 =>
     have H := HA.out;clear HA;simp only [cw_MessageMinSums.j0] at H;by_cases c20 : x52_7 = true
     ·subst c20;(have H1 : (some true) = some r := by rw [if_pos rfl] at H; exact H);clear H;have H := H1;clear H1;obtain rfl := Option.some.inj H
      go_wp2
      go_ret
      exact ⟨by first | rfl | (simp [eW0, eW1] <;> rfl) | (simp [*, eW0, eW1] <;> rfl), bl_⟩
     ·replace c20 := Bool.eq_false_iff.mpr c20;subst c20;(have H1 : ((message_MinSum.f kj7 a0_0 l0_1 l1 a2).bind fun bt691 => ((crM_MinSum.f kj7 a0_0 l0_1 l1 a2).bind fun bt696 => (if bt691.2.2 = bt696.2.2 then (if bt691.2.1 = bt696.2.1 then ((cr9_SameInts.f kj7 bt691.1 bt696.1).bind fun t701 => (some t701)) else (some false)) else (some false)))) = some r := by rw [if_neg (show ¬ (false = true) by decide)] at H; exact H);clear H;have H := H1;clear H1;replace H := Option.bind_eq_some_iff.mp H;obtain ⟨⟨t691, t694, t695⟩, A210, H⟩ := H;replace H : ((crM_MinSum.f kj7 a0_0 l0_1 l1 a2).bind fun bt696 => (if t695 = bt696.2.2 then (if t694 = bt696.2.1 then ((cr9_SameInts.f kj7 t691 bt696.1).bind fun t701 => (some t701)) else (some false)) else (some false))) = some r := H;have A21 := Ai0.mk A210;clear A210;replace H := Option.bind_eq_some_iff.mp H;obtain ⟨⟨t696, t699, t700⟩, A220, H⟩ := H;replace H : (if t695 = t700 then (if t694 = t699 then ((cr9_SameInts.f kj7 t691 t696).bind fun t701 => (some t701)) else (some false)) else (some false)) = some r := H;have A22 := Ai0.mk A220;clear A220;by_cases c23 : t695 = t700
      ·rw [if_pos c23] at H;have c23b0 : (t695 == t700) = true := beq_iff_eq.mpr c23;have c23b1 : (t695 != t700) = false := bne_eq_false_iff_eq.mpr c23;clear c23;by_cases c24 : t694 = t699
       ·rw [if_pos c24] at H;have c24b0 : (t694 == t699) = true := beq_iff_eq.mpr c24;have c24b1 : (t694 != t699) = false := bne_eq_false_iff_eq.mpr c24;clear c24;replace H := Option.bind_eq_some_iff.mp H;obtain ⟨t701, A250, H⟩ := H;replace H : (some t701) = some r := H;have A25 := Ai0.mk A250;clear A250;obtain rfl := Option.some.inj H;have hcz26_0 : wc.cell? ⟨gb682, 0, none⟩ = some (.int .i64 a0_0) := (kc1 BK682.out 0).trans rfl;have hcz26_1 : wc.cell? ⟨gb682, 1, none⟩ = some (.slice A0_1 l0_1.length c0_1) := (kc1 BK682.out 1).trans rfl;have hfz26_0 := kf1 BK682.out 0;have hfz26_1 := kf1 BK682.out 1
        go_wp2_with (first | ((with_reducible refine gate_callee (f := 19) rfl ?_); refine goesL_ (some 57) rfl rfl Try.func19 (by kernel_rfl) rfl #[.agg #[.int .i64 a0_0, .slice A0_1 l0_1.length c0_1], .slice A1 l1.length c1, .int .i64 a2] rfl (by (try simp only [List.map_toArray, List.map_cons, List.map_nil]); first | done | rfl | (simp only [List.length_drop, List.length_take]; rfl)) ?_; (with_reducible refine (message_MinSum.calls kj7 a0_0 _ _ l0_1 _ _ l1 a2 t691 t694 t695 _ ?side1 ?side2 ?side3 ?side4 A21.out).mono ?_); (case side1 => exact kc_ HR0_1.out); (case side2 => exact HC0_1.out); (case side3 => exact kc_ HR1.out); (case side4 => exact HC1.out); rintro e w27 ⟨v692, rfl, ho0, hb⟩; refine ⟨_, rfl, ?_⟩; have n0_ := Ai0.mk (Kd.R_lower ho0 (bz1 bl_)); have n1_ := Ai0.mk (kb1 (g := gb682) (o := .cells #[.int .i64 a0_0, .slice A0_1 l0_1.length c0_1] 24 (0, 0)) (kk_ BK682.out) hb); have n2_ := Ai0.mk (bt1 bl_ hb); clear BK682; clear HB; have HO693 := n0_; have BK682 := n1_; have HB := n2_; clear n0_ n1_ n2_; (try clear hb); (try clear hb2); (try clear hk); (try clear hi); (try clear ho0); have hcz28_0 : w27.cell? ⟨gb682, 0, none⟩ = some (.int .i64 a0_0) := (kc1 BK682.out 0).trans rfl; have hcz28_1 : w27.cell? ⟨gb682, 1, none⟩ = some (.slice A0_1 l0_1.length c0_1) := (kc1 BK682.out 1).trans rfl; have hfz28_0 := kf1 BK682.out 0; have hfz28_1 := kf1 BK682.out 1) | ((with_reducible refine gate_callee (f := 42) rfl ?_); refine goesL_ (some 65) rfl rfl Try.func42 (by kernel_rfl) rfl #[.agg #[.int .i64 a0_0, .slice A0_1 l0_1.length c0_1], .slice A1 l1.length c1, .int .i64 a2] rfl (by (try simp only [List.map_toArray, List.map_cons, List.map_nil]); first | done | rfl | (simp only [List.length_drop, List.length_take]; rfl)) ?_; (with_reducible refine (crM_MinSum.calls kj7 a0_0 _ _ l0_1 _ _ l1 a2 t696 t699 t700 _ ?side1 ?side2 ?side3 ?side4 A22.out).mono ?_); (case side1 => exact kc_ HR0_1.out); (case side2 => exact HC0_1.out); (case side3 => exact kc_ HR1.out); (case side4 => exact HC1.out); rintro e w29 ⟨v697, rfl, ho0, hb⟩; refine ⟨_, rfl, ?_⟩; have n0_ := Ai0.mk (Kd.R_elder' (kr_ HO693.out) (Kd.R_base ho0) hb); have n1_ := Ai0.mk (Kd.R_lower (Kd.R_new' ho0 (Kd.R_lt (kr_ HO693.out))) (bz1 bl_)); have n2_ := Ai0.mk (kb1 (g := gb682) (o := .cells #[.int .i64 a0_0, .slice A0_1 l0_1.length c0_1] 24 (0, 0)) (kk_ BK682.out) hb); have n3_ := Ai0.mk (bt1 bl_ hb); clear HO693; clear BK682; clear HB; have HO693 := n0_; have HO698 := n1_; have BK682 := n2_; have HB := n3_; clear n0_ n1_ n2_ n3_; (try clear hb); (try clear hb2); (try clear hk); (try clear hi); (try clear ho0); obtain ⟨Ao30, co30, eo30⟩ := Kd.R_slice HO693.out; subst eo30; obtain ⟨Ao31, co31, eo31⟩ := Kd.R_slice HO698.out; subst eo31) | (go_at_call 27; (with_reducible refine (cr9_SameInts.calls kj7 _ _ t691 _ _ t696 t701 _ ?side1 ?side2 ?side3 ?side4 A25.out).mono ?_); (case side1 => repeat (first | exact (Kd.R_reads' HO693.out).2.2 | (with_reducible refine Kd.C_alloc ?_ _) | (with_reducible refine Kd.C_drewN ?_ _) | (with_reducible refine Kd.C_drew ?_))); (case side2 => exact (Kd.R_reads' HO693.out).2.1); (case side3 => repeat (first | exact (Kd.R_reads' HO698.out).2.2 | (with_reducible refine Kd.C_alloc ?_ _) | (with_reducible refine Kd.C_drewN ?_ _) | (with_reducible refine Kd.C_drew ?_))); (case side4 => exact (Kd.R_reads' HO698.out).2.1); rintro e w' ⟨rfl, ⟨nd, rfl⟩⟩))
        go_ret
        exact ⟨by first | rfl | (simp [eW0, eW1] <;> rfl) | (simp [*, eW0, eW1] <;> rfl), bl_⟩
       ·rw [if_neg c24] at H;have c24b0 : (t694 == t699) = false := beq_eq_false_iff_ne.mpr c24;have c24b1 : (t694 != t699) = true := bne_iff_ne.mpr c24;obtain rfl := Option.some.inj H;have hcz32_0 : wc.cell? ⟨gb682, 0, none⟩ = some (.int .i64 a0_0) := (kc1 BK682.out 0).trans rfl;have hcz32_1 : wc.cell? ⟨gb682, 1, none⟩ = some (.slice A0_1 l0_1.length c0_1) := (kc1 BK682.out 1).trans rfl;have hfz32_0 := kf1 BK682.out 0;have hfz32_1 := kf1 BK682.out 1
        go_wp2_with (first | ((with_reducible refine gate_callee (f := 19) rfl ?_); refine goesL_ (some 57) rfl rfl Try.func19 (by kernel_rfl) rfl #[.agg #[.int .i64 a0_0, .slice A0_1 l0_1.length c0_1], .slice A1 l1.length c1, .int .i64 a2] rfl (by (try simp only [List.map_toArray, List.map_cons, List.map_nil]); first | done | rfl | (simp only [List.length_drop, List.length_take]; rfl)) ?_; (with_reducible refine (message_MinSum.calls kj7 a0_0 _ _ l0_1 _ _ l1 a2 t691 t694 t695 _ ?side1 ?side2 ?side3 ?side4 A21.out).mono ?_); (case side1 => exact kc_ HR0_1.out); (case side2 => exact HC0_1.out); (case side3 => exact kc_ HR1.out); (case side4 => exact HC1.out); rintro e w33 ⟨v692, rfl, ho0, hb⟩; refine ⟨_, rfl, ?_⟩; have n0_ := Ai0.mk (Kd.R_lower ho0 (bz1 bl_)); have n1_ := Ai0.mk (kb1 (g := gb682) (o := .cells #[.int .i64 a0_0, .slice A0_1 l0_1.length c0_1] 24 (0, 0)) (kk_ BK682.out) hb); have n2_ := Ai0.mk (bt1 bl_ hb); clear BK682; clear HB; have HO693 := n0_; have BK682 := n1_; have HB := n2_; clear n0_ n1_ n2_; (try clear hb); (try clear hb2); (try clear hk); (try clear hi); (try clear ho0); have hcz34_0 : w33.cell? ⟨gb682, 0, none⟩ = some (.int .i64 a0_0) := (kc1 BK682.out 0).trans rfl; have hcz34_1 : w33.cell? ⟨gb682, 1, none⟩ = some (.slice A0_1 l0_1.length c0_1) := (kc1 BK682.out 1).trans rfl; have hfz34_0 := kf1 BK682.out 0; have hfz34_1 := kf1 BK682.out 1) | ((with_reducible refine gate_callee (f := 42) rfl ?_); refine goesL_ (some 65) rfl rfl Try.func42 (by kernel_rfl) rfl #[.agg #[.int .i64 a0_0, .slice A0_1 l0_1.length c0_1], .slice A1 l1.length c1, .int .i64 a2] rfl (by (try simp only [List.map_toArray, List.map_cons, List.map_nil]); first | done | rfl | (simp only [List.length_drop, List.length_take]; rfl)) ?_; (with_reducible refine (crM_MinSum.calls kj7 a0_0 _ _ l0_1 _ _ l1 a2 t696 t699 t700 _ ?side1 ?side2 ?side3 ?side4 A22.out).mono ?_); (case side1 => exact kc_ HR0_1.out); (case side2 => exact HC0_1.out); (case side3 => exact kc_ HR1.out); (case side4 => exact HC1.out); rintro e w35 ⟨v697, rfl, ho0, hb⟩; refine ⟨_, rfl, ?_⟩; have n0_ := Ai0.mk (Kd.R_elder' (kr_ HO693.out) (Kd.R_base ho0) hb); have n1_ := Ai0.mk (Kd.R_lower (Kd.R_new' ho0 (Kd.R_lt (kr_ HO693.out))) (bz1 bl_)); have n2_ := Ai0.mk (kb1 (g := gb682) (o := .cells #[.int .i64 a0_0, .slice A0_1 l0_1.length c0_1] 24 (0, 0)) (kk_ BK682.out) hb); have n3_ := Ai0.mk (bt1 bl_ hb); clear HO693; clear BK682; clear HB; have HO693 := n0_; have HO698 := n1_; have BK682 := n2_; have HB := n3_; clear n0_ n1_ n2_ n3_; (try clear hb); (try clear hb2); (try clear hk); (try clear hi); (try clear ho0)))
        go_ret
        exact ⟨by first | rfl | (simp [eW0, eW1] <;> rfl) | (simp [*, eW0, eW1] <;> rfl), bl_⟩
      ·rw [if_neg c23] at H;have c23b0 : (t695 == t700) = false := beq_eq_false_iff_ne.mpr c23;have c23b1 : (t695 != t700) = true := bne_iff_ne.mpr c23;obtain rfl := Option.some.inj H;have hcz36_0 : wc.cell? ⟨gb682, 0, none⟩ = some (.int .i64 a0_0) := (kc1 BK682.out 0).trans rfl;have hcz36_1 : wc.cell? ⟨gb682, 1, none⟩ = some (.slice A0_1 l0_1.length c0_1) := (kc1 BK682.out 1).trans rfl;have hfz36_0 := kf1 BK682.out 0;have hfz36_1 := kf1 BK682.out 1
       go_wp2_with (first | ((with_reducible refine gate_callee (f := 19) rfl ?_); refine goesL_ (some 57) rfl rfl Try.func19 (by kernel_rfl) rfl #[.agg #[.int .i64 a0_0, .slice A0_1 l0_1.length c0_1], .slice A1 l1.length c1, .int .i64 a2] rfl (by (try simp only [List.map_toArray, List.map_cons, List.map_nil]); first | done | rfl | (simp only [List.length_drop, List.length_take]; rfl)) ?_; (with_reducible refine (message_MinSum.calls kj7 a0_0 _ _ l0_1 _ _ l1 a2 t691 t694 t695 _ ?side1 ?side2 ?side3 ?side4 A21.out).mono ?_); (case side1 => exact kc_ HR0_1.out); (case side2 => exact HC0_1.out); (case side3 => exact kc_ HR1.out); (case side4 => exact HC1.out); rintro e w37 ⟨v692, rfl, ho0, hb⟩; refine ⟨_, rfl, ?_⟩; have n0_ := Ai0.mk (Kd.R_lower ho0 (bz1 bl_)); have n1_ := Ai0.mk (kb1 (g := gb682) (o := .cells #[.int .i64 a0_0, .slice A0_1 l0_1.length c0_1] 24 (0, 0)) (kk_ BK682.out) hb); have n2_ := Ai0.mk (bt1 bl_ hb); clear BK682; clear HB; have HO693 := n0_; have BK682 := n1_; have HB := n2_; clear n0_ n1_ n2_; (try clear hb); (try clear hb2); (try clear hk); (try clear hi); (try clear ho0); have hcz38_0 : w37.cell? ⟨gb682, 0, none⟩ = some (.int .i64 a0_0) := (kc1 BK682.out 0).trans rfl; have hcz38_1 : w37.cell? ⟨gb682, 1, none⟩ = some (.slice A0_1 l0_1.length c0_1) := (kc1 BK682.out 1).trans rfl; have hfz38_0 := kf1 BK682.out 0; have hfz38_1 := kf1 BK682.out 1) | ((with_reducible refine gate_callee (f := 42) rfl ?_); refine goesL_ (some 65) rfl rfl Try.func42 (by kernel_rfl) rfl #[.agg #[.int .i64 a0_0, .slice A0_1 l0_1.length c0_1], .slice A1 l1.length c1, .int .i64 a2] rfl (by (try simp only [List.map_toArray, List.map_cons, List.map_nil]); first | done | rfl | (simp only [List.length_drop, List.length_take]; rfl)) ?_; (with_reducible refine (crM_MinSum.calls kj7 a0_0 _ _ l0_1 _ _ l1 a2 t696 t699 t700 _ ?side1 ?side2 ?side3 ?side4 A22.out).mono ?_); (case side1 => exact kc_ HR0_1.out); (case side2 => exact HC0_1.out); (case side3 => exact kc_ HR1.out); (case side4 => exact HC1.out); rintro e w39 ⟨v697, rfl, ho0, hb⟩; refine ⟨_, rfl, ?_⟩; have n0_ := Ai0.mk (Kd.R_elder' (kr_ HO693.out) (Kd.R_base ho0) hb); have n1_ := Ai0.mk (Kd.R_lower (Kd.R_new' ho0 (Kd.R_lt (kr_ HO693.out))) (bz1 bl_)); have n2_ := Ai0.mk (kb1 (g := gb682) (o := .cells #[.int .i64 a0_0, .slice A0_1 l0_1.length c0_1] 24 (0, 0)) (kk_ BK682.out) hb); have n3_ := Ai0.mk (bt1 bl_ hb); clear HO693; clear BK682; clear HB; have HO693 := n0_; have HO698 := n1_; have BK682 := n2_; have HB := n3_; clear n0_ n1_ n2_ n3_; (try clear hb); (try clear hb2); (try clear hk); (try clear hi); (try clear ho0)))
       go_ret
       exact ⟨by first | rfl | (simp [eW0, eW1] <;> rfl) | (simp [*, eW0, eW1] <;> rfl), bl_⟩
  ·rw [if_neg c7] at H;have c7b0 : (t684 == 0) = false := beq_eq_false_iff_ne.mpr c7;have c7b1 : (t684 != 0) = true := bne_iff_ne.mpr c7;replace H := Option.bind_eq_some_iff.mp H;obtain ⟨⟨t685, t688, t689⟩, A400, H⟩ := H;replace H : (if t689 = t684 then (if (t685.length : Int) = 0 then (some (t688 == 0)) else (some false)) else (some false)) = some r := H;have A40 := Ai0.mk A400;clear A400;by_cases c41 : t689 = t684
   ·rw [if_pos c41] at H;have c41b0 : (t689 == t684) = true := beq_iff_eq.mpr c41;have c41b1 : (t689 != t684) = false := bne_eq_false_iff_eq.mpr c41;clear c41;by_cases c42 : (t685.length : Int) = 0
    case' pos =>
     rw [if_pos c42] at H;have c42b0 : ((t685.length : Int) == 0) = true := beq_iff_eq.mpr c42;have c42b1 : ((t685.length : Int) != 0) = false := bne_eq_false_iff_eq.mpr c42;clear c42;obtain rfl := Option.some.inj H
    case' neg =>
     rw [if_neg c42] at H;have c42b0 : ((t685.length : Int) == 0) = false := beq_eq_false_iff_ne.mpr c42;have c42b1 : ((t685.length : Int) != 0) = true := bne_iff_ne.mpr c42;(have c42b2 : ¬ (t685 = []) := fun h_ => c42 (by rw [h_]; rfl));obtain rfl := Option.some.inj H
    all_goals
     go_enter Try.func12, Try.ntmps12
     go_wp2_with (first | ((with_reducible refine gate_dst (N := 3) rfl ?_); (try (refine gate_guard (by rfl) ?_; dsimp only)); refine box_event ?hg (N := 3) ?hd (cs := #[.int .i64 a0_0, .slice A0_1 l0_1.length c0_1]) (t := 24) ?hr ?_; (case hd => rfl); (case hg => rfl); (case hr => first | (go_simp; done) | (go_simp; rfl)); intro gb682 hg w43 hbox hb; have n0_ := Ai0.mk (bt1 bl_ hb); have n1_ := Ai0.mk (hbox); have n2_ := Ai0.mk ((by rw [hg]; exact (bz1 bl_) : w.heap.size ≤ gb682)); have n3_ := Ai0.mk ((by rw [hg]; exact (bz1 bl_) : w.heap.size ≤ gb682)); clear HB; have HB := n0_; have BK682 := n1_; have GW682 := n2_; have GE682 := n3_; clear n0_ n1_ n2_ n3_; clear hb hbox hg; have hcz44_0 : w43.cell? ⟨gb682, 0, none⟩ = some (.int .i64 a0_0) := (kc1 BK682.out 0).trans rfl; have hcz44_1 : w43.cell? ⟨gb682, 1, none⟩ = some (.slice A0_1 l0_1.length c0_1) := (kc1 BK682.out 1).trans rfl; have hfz44_0 := kf1 BK682.out 0; have hfz44_1 := kf1 BK682.out 1) | ((with_reducible refine gate_callee (f := 28) rfl ?_); refine goesL_ (some 18) rfl rfl Try.func28 (by kernel_rfl) rfl #[.agg #[.int .i64 a0_0, .slice A0_1 l0_1.length c0_1], .int .i64 2000] rfl (by (try simp only [List.map_toArray, List.map_cons, List.map_nil]); first | done | rfl | (simp only [List.length_drop, List.length_take]; rfl)) ?_; (with_reducible refine (cr9_Few.calls k a0_0 _ _ l0_1 2000 true _ ?side1 ?side2 A4.out).mono ?_); (case side1 => exact kc_ HR0_1.out); (case side2 => exact HC0_1.out); rintro e w45 ⟨rfl, hb⟩; refine ⟨_, rfl, ?_⟩; have n0_ := Ai0.mk (kb1 (g := gb682) (o := .cells #[.int .i64 a0_0, .slice A0_1 l0_1.length c0_1] 24 (0, 0)) (kk_ BK682.out) hb); have n1_ := Ai0.mk (bt1 bl_ hb); clear BK682; clear HB; have BK682 := n0_; have HB := n1_; clear n0_ n1_; (try clear hb); (try clear hb2); (try clear hk); (try clear hi); have hcz46_0 : w45.cell? ⟨gb682, 0, none⟩ = some (.int .i64 a0_0) := (kc1 BK682.out 0).trans rfl; have hcz46_1 : w45.cell? ⟨gb682, 1, none⟩ = some (.slice A0_1 l0_1.length c0_1) := (kc1 BK682.out 1).trans rfl; have hfz46_0 := kf1 BK682.out 0; have hfz46_1 := kf1 BK682.out 1) | ((with_reducible refine gate_callee (f := 15) rfl ?_); refine goesL_ (some 23) rfl rfl Try.func15 (by kernel_rfl) rfl #[.agg #[.int .i64 a0_0, .slice A0_1 l0_1.length c0_1], .slice A1 l1.length c1, .int .i64 a2] rfl (by (try simp only [List.map_toArray, List.map_cons, List.map_nil]); first | done | rfl | (simp only [List.length_drop, List.length_take]; rfl)) ?_; (with_reducible refine (crM_Args.calls k a0_0 _ _ l0_1 _ _ l1 a2 t684 _ ?side1 ?side2 ?side3 ?side4 A6.out).mono ?_); (case side1 => exact kc_ HR0_1.out); (case side2 => exact HC0_1.out); (case side3 => exact kc_ HR1.out); (case side4 => exact HC1.out); rintro e w47 ⟨rfl, hb⟩; refine ⟨_, rfl, ?_⟩; have n0_ := Ai0.mk (kb1 (g := gb682) (o := .cells #[.int .i64 a0_0, .slice A0_1 l0_1.length c0_1] 24 (0, 0)) (kk_ BK682.out) hb); have n1_ := Ai0.mk (bt1 bl_ hb); clear BK682; clear HB; have BK682 := n0_; have HB := n1_; clear n0_ n1_; (try clear hb); (try clear hb2); (try clear hk); (try clear hi); have hcz48_0 : w47.cell? ⟨gb682, 0, none⟩ = some (.int .i64 a0_0) := (kc1 BK682.out 0).trans rfl; have hcz48_1 : w47.cell? ⟨gb682, 1, none⟩ = some (.slice A0_1 l0_1.length c0_1) := (kc1 BK682.out 1).trans rfl; have hfz48_0 := kf1 BK682.out 0; have hfz48_1 := kf1 BK682.out 1) | ((with_reducible refine gate_callee (f := 19) rfl ?_); refine goesL_ (some 30) rfl rfl Try.func19 (by kernel_rfl) rfl #[.agg #[.int .i64 a0_0, .slice A0_1 l0_1.length c0_1], .slice A1 l1.length c1, .int .i64 a2] rfl (by (try simp only [List.map_toArray, List.map_cons, List.map_nil]); first | done | rfl | (simp only [List.length_drop, List.length_take]; rfl)) ?_; (with_reducible refine (message_MinSum.calls k a0_0 _ _ l0_1 _ _ l1 a2 t685 t688 t689 _ ?side1 ?side2 ?side3 ?side4 A40.out).mono ?_); (case side1 => exact kc_ HR0_1.out); (case side2 => exact HC0_1.out); (case side3 => exact kc_ HR1.out); (case side4 => exact HC1.out); rintro e w49 ⟨v686, rfl, ho0, hb⟩; refine ⟨_, rfl, ?_⟩; have n0_ := Ai0.mk (Kd.R_lower ho0 (bz1 bl_)); have n1_ := Ai0.mk (kb1 (g := gb682) (o := .cells #[.int .i64 a0_0, .slice A0_1 l0_1.length c0_1] 24 (0, 0)) (kk_ BK682.out) hb); have n2_ := Ai0.mk (bt1 bl_ hb); clear BK682; clear HB; have HO687 := n0_; have BK682 := n1_; have HB := n2_; clear n0_ n1_ n2_; (try clear hb); (try clear hb2); (try clear hk); (try clear hi); (try clear ho0); obtain ⟨Ao50, co50, eo50⟩ := Kd.R_slice HO687.out; subst eo50))
     go_ret
     exact ⟨by first | rfl | (simp [eW0, eW1] <;> rfl) | (simp [*, eW0, eW1] <;> rfl), bl_⟩
   ·rw [if_neg c41] at H;have c41b0 : (t689 == t684) = false := beq_eq_false_iff_ne.mpr c41;have c41b1 : (t689 != t684) = true := bne_iff_ne.mpr c41;obtain rfl := Option.some.inj H;go_enter Try.func12, Try.ntmps12
    go_wp2_with (first | ((with_reducible refine gate_dst (N := 3) rfl ?_); (try (refine gate_guard (by rfl) ?_; dsimp only)); refine box_event ?hg (N := 3) ?hd (cs := #[.int .i64 a0_0, .slice A0_1 l0_1.length c0_1]) (t := 24) ?hr ?_; (case hd => rfl); (case hg => rfl); (case hr => first | (go_simp; done) | (go_simp; rfl)); intro gb682 hg w59 hbox hb; have n0_ := Ai0.mk (bt1 bl_ hb); have n1_ := Ai0.mk (hbox); have n2_ := Ai0.mk ((by rw [hg]; exact (bz1 bl_) : w.heap.size ≤ gb682)); have n3_ := Ai0.mk ((by rw [hg]; exact (bz1 bl_) : w.heap.size ≤ gb682)); clear HB; have HB := n0_; have BK682 := n1_; have GW682 := n2_; have GE682 := n3_; clear n0_ n1_ n2_ n3_; clear hb hbox hg; have hcz60_0 : w59.cell? ⟨gb682, 0, none⟩ = some (.int .i64 a0_0) := (kc1 BK682.out 0).trans rfl; have hcz60_1 : w59.cell? ⟨gb682, 1, none⟩ = some (.slice A0_1 l0_1.length c0_1) := (kc1 BK682.out 1).trans rfl; have hfz60_0 := kf1 BK682.out 0; have hfz60_1 := kf1 BK682.out 1) | ((with_reducible refine gate_callee (f := 28) rfl ?_); refine goesL_ (some 18) rfl rfl Try.func28 (by kernel_rfl) rfl #[.agg #[.int .i64 a0_0, .slice A0_1 l0_1.length c0_1], .int .i64 2000] rfl (by (try simp only [List.map_toArray, List.map_cons, List.map_nil]); first | done | rfl | (simp only [List.length_drop, List.length_take]; rfl)) ?_; (with_reducible refine (cr9_Few.calls k a0_0 _ _ l0_1 2000 true _ ?side1 ?side2 A4.out).mono ?_); (case side1 => exact kc_ HR0_1.out); (case side2 => exact HC0_1.out); rintro e w61 ⟨rfl, hb⟩; refine ⟨_, rfl, ?_⟩; have n0_ := Ai0.mk (kb1 (g := gb682) (o := .cells #[.int .i64 a0_0, .slice A0_1 l0_1.length c0_1] 24 (0, 0)) (kk_ BK682.out) hb); have n1_ := Ai0.mk (bt1 bl_ hb); clear BK682; clear HB; have BK682 := n0_; have HB := n1_; clear n0_ n1_; (try clear hb); (try clear hb2); (try clear hk); (try clear hi); have hcz62_0 : w61.cell? ⟨gb682, 0, none⟩ = some (.int .i64 a0_0) := (kc1 BK682.out 0).trans rfl; have hcz62_1 : w61.cell? ⟨gb682, 1, none⟩ = some (.slice A0_1 l0_1.length c0_1) := (kc1 BK682.out 1).trans rfl; have hfz62_0 := kf1 BK682.out 0; have hfz62_1 := kf1 BK682.out 1) | ((with_reducible refine gate_callee (f := 15) rfl ?_); refine goesL_ (some 23) rfl rfl Try.func15 (by kernel_rfl) rfl #[.agg #[.int .i64 a0_0, .slice A0_1 l0_1.length c0_1], .slice A1 l1.length c1, .int .i64 a2] rfl (by (try simp only [List.map_toArray, List.map_cons, List.map_nil]); first | done | rfl | (simp only [List.length_drop, List.length_take]; rfl)) ?_; (with_reducible refine (crM_Args.calls k a0_0 _ _ l0_1 _ _ l1 a2 t684 _ ?side1 ?side2 ?side3 ?side4 A6.out).mono ?_); (case side1 => exact kc_ HR0_1.out); (case side2 => exact HC0_1.out); (case side3 => exact kc_ HR1.out); (case side4 => exact HC1.out); rintro e w63 ⟨rfl, hb⟩; refine ⟨_, rfl, ?_⟩; have n0_ := Ai0.mk (kb1 (g := gb682) (o := .cells #[.int .i64 a0_0, .slice A0_1 l0_1.length c0_1] 24 (0, 0)) (kk_ BK682.out) hb); have n1_ := Ai0.mk (bt1 bl_ hb); clear BK682; clear HB; have BK682 := n0_; have HB := n1_; clear n0_ n1_; (try clear hb); (try clear hb2); (try clear hk); (try clear hi); have hcz64_0 : w63.cell? ⟨gb682, 0, none⟩ = some (.int .i64 a0_0) := (kc1 BK682.out 0).trans rfl; have hcz64_1 : w63.cell? ⟨gb682, 1, none⟩ = some (.slice A0_1 l0_1.length c0_1) := (kc1 BK682.out 1).trans rfl; have hfz64_0 := kf1 BK682.out 0; have hfz64_1 := kf1 BK682.out 1) | ((with_reducible refine gate_callee (f := 19) rfl ?_); refine goesL_ (some 30) rfl rfl Try.func19 (by kernel_rfl) rfl #[.agg #[.int .i64 a0_0, .slice A0_1 l0_1.length c0_1], .slice A1 l1.length c1, .int .i64 a2] rfl (by (try simp only [List.map_toArray, List.map_cons, List.map_nil]); first | done | rfl | (simp only [List.length_drop, List.length_take]; rfl)) ?_; (with_reducible refine (message_MinSum.calls k a0_0 _ _ l0_1 _ _ l1 a2 t685 t688 t689 _ ?side1 ?side2 ?side3 ?side4 A40.out).mono ?_); (case side1 => exact kc_ HR0_1.out); (case side2 => exact HC0_1.out); (case side3 => exact kc_ HR1.out); (case side4 => exact HC1.out); rintro e w65 ⟨v686, rfl, ho0, hb⟩; refine ⟨_, rfl, ?_⟩; have n0_ := Ai0.mk (Kd.R_lower ho0 (bz1 bl_)); have n1_ := Ai0.mk (kb1 (g := gb682) (o := .cells #[.int .i64 a0_0, .slice A0_1 l0_1.length c0_1] 24 (0, 0)) (kk_ BK682.out) hb); have n2_ := Ai0.mk (bt1 bl_ hb); clear BK682; clear HB; have HO687 := n0_; have BK682 := n1_; have HB := n2_; clear n0_ n1_ n2_; (try clear hb); (try clear hb2); (try clear hk); (try clear hi); (try clear ho0)))
    go_ret
    exact ⟨by first | rfl | (simp [eW0, eW1] <;> rfl) | (simp [*, eW0, eW1] <;> rfl), bl_⟩
 ·replace c5 := Bool.eq_false_iff.mpr c5;subst c5;have H1 : (some true) = some r := by rw [if_neg (show ¬ (false = true) by decide)] at H; exact H
  clear H;have H := H1;clear H1;obtain rfl := Option.some.inj H;go_enter Try.func12, Try.ntmps12
  go_wp2_with (first | ((with_reducible refine gate_dst (N := 3) rfl ?_); (try (refine gate_guard (by rfl) ?_; dsimp only)); refine box_event ?hg (N := 3) ?hd (cs := #[.int .i64 a0_0, .slice A0_1 l0_1.length c0_1]) (t := 24) ?hr ?_; (case hd => rfl); (case hg => rfl); (case hr => first | (go_simp; done) | (go_simp; rfl)); intro gb682 hg w66 hbox hb; have n0_ := Ai0.mk (bt1 bl_ hb); have n1_ := Ai0.mk (hbox); have n2_ := Ai0.mk ((by rw [hg]; exact (bz1 bl_) : w.heap.size ≤ gb682)); have n3_ := Ai0.mk ((by rw [hg]; exact (bz1 bl_) : w.heap.size ≤ gb682)); clear HB; have HB := n0_; have BK682 := n1_; have GW682 := n2_; have GE682 := n3_; clear n0_ n1_ n2_ n3_; clear hb hbox hg; have hcz67_0 : w66.cell? ⟨gb682, 0, none⟩ = some (.int .i64 a0_0) := (kc1 BK682.out 0).trans rfl; have hcz67_1 : w66.cell? ⟨gb682, 1, none⟩ = some (.slice A0_1 l0_1.length c0_1) := (kc1 BK682.out 1).trans rfl; have hfz67_0 := kf1 BK682.out 0; have hfz67_1 := kf1 BK682.out 1) | ((with_reducible refine gate_callee (f := 28) rfl ?_); refine goesL_ (some 18) rfl rfl Try.func28 (by kernel_rfl) rfl #[.agg #[.int .i64 a0_0, .slice A0_1 l0_1.length c0_1], .int .i64 2000] rfl (by (try simp only [List.map_toArray, List.map_cons, List.map_nil]); first | done | rfl | (simp only [List.length_drop, List.length_take]; rfl)) ?_; (with_reducible refine (cr9_Few.calls k a0_0 _ _ l0_1 2000 false _ ?side1 ?side2 A4.out).mono ?_); (case side1 => exact kc_ HR0_1.out); (case side2 => exact HC0_1.out); rintro e w68 ⟨rfl, hb⟩; refine ⟨_, rfl, ?_⟩; have n0_ := Ai0.mk (kb1 (g := gb682) (o := .cells #[.int .i64 a0_0, .slice A0_1 l0_1.length c0_1] 24 (0, 0)) (kk_ BK682.out) hb); have n1_ := Ai0.mk (bt1 bl_ hb); clear BK682; clear HB; have BK682 := n0_; have HB := n1_; clear n0_ n1_; (try clear hb); (try clear hb2); (try clear hk); (try clear hi)))
  go_ret
  exact ⟨by first | rfl | (simp [eW0, eW1] <;> rfl) | (simp [*, eW0, eW1] <;> rfl), bl_⟩
end Go.Proofs.Ytmclalniilkjiaa.Q
/- MessageMinSums: for every matrix, all inputs and all numbers of rounds. -/
namespace Go.Proofs.Ytmclalniilkjiaa.Pure
open Go.RowKit Go.Proofs.Ytmclalniilkjiaa.Q Go.Proofs.YtmclalniilkjiaaW.PrintWords Go.Proofs.YtmclalniilkjiaaW.PrintLast Go.Proofs.YtmclalniilkjiaaW.PrintMore Go.Proofs.Ytmclalniilkjiaa.Ba Go.Proofs.Ytmclalniilkjiaa.Ck Go.Proofs.Ytmclalniilkjiaa.Gr Go.Proofs.Ytmclalniilkjiaa.Un Go.Proofs.Ytmclalniilkjiaa.Fl Go.Proofs.Ytmclalniilkjiaa.Fw Go.Proofs.Ytmclalniilkjiaa.Ms Go.Proofs.Ytmclalniilkjiaa.Rv Go.Proofs.Ytmclalniilkjiaa.Rp Go.Proofs.Ytmclalniilkjiaa.Be Go.Proofs.Ytmclalniilkjiaa.Mi

theorem MessageMinSums_ev (c : Int) (rows : List (List Int)) (inp : List Int) (n : Int) : Ev (fun k => cw_MessageMinSums.f k c rows inp n) true := by
 have hj : Ev (fun k => cw_MessageMinSums.j0 k inp n true c rows) true := Ev.step (f := fun _ => some true) (fun k => by simp only [cw_MessageMinSums.j0]; rw [if_pos trivial]) (Ev.now _)
 unfold cw_MessageMinSums.f
 obtain ⟨b, hb, _⟩ := few9 c rows
 refine hb.bind ?_
 by_cases hb0 : ¬ b = true
 ·exact Ev.congr (fun k => if_neg hb0) (Ev.now _)
 have hb1 : b = true := Decidable.not_not.1 hb0
 refine Ev.congr (fun k => if_pos hb1) ((args_ev c rows inp n).bind ?_)
 by_cases h : args c rows inp n = 0
 ·obtain ⟨C, ok, R, rfl, hR⟩ := args_ok h
  refine Ev.congr (fun k => if_pos h) ?_
  obtain ⟨b2, hb2, _⟩ := few45 c rows 6 8 (by omega)
  refine hb2.bind ?_
  by_cases hb0 : ¬ b2 = true
  ·exact Ev.congr (fun k => if_neg hb0) hj
  have hb3 : b2 = true := Decidable.not_not.1 hb0
  refine Ev.congr (fun k => if_pos hb3) ?_
  by_cases h16 : (R : Int) > 8
  ·rw [decide_eq_true h16]; exact hj
  rw [decide_eq_false h16]
  have hC := ok.hC
  have hw := mres_word rows C inp R 0
  refine Ev.step (f := fun k => (message_MinSum.f k c rows inp (R : Int)).bind fun bt691 => ((crM_MinSum.f k c rows inp (R : Int)).bind fun bt696 => (if bt691.2.2 = bt696.2.2 then (if bt691.2.1 = bt696.2.1 then ((cr9_SameInts.f k bt691.1 bt696.1).bind fun t701 => (some t701)) else (some false)) else (some false)))) (fun k => by
   simp only [cw_MessageMinSums.j0]
   exact if_neg (by decide)) ?_
  refine (MinSum_ok ok R hR h).bind ((rMinSum_ok ok R hR).bind (Ev.congr (fun k => if_pos rfl) (Ev.congr (fun k => if_pos rfl) ?_)))
  exact (same_self _ (by omega)).bind (Ev.now _)
 ·refine Ev.congr (fun k => if_neg h) ((MinSum_no h).bind (Ev.congr (fun k => if_pos rfl) (Ev.congr (fun k => if_pos rfl) (Ev.now _))))
open Go.Proofs.Ytmclalniilkjiaa in
theorem MessageMinSums (a0_0 : Int) (A0_1 : Option Addr) (c0_1 : Nat) (l0_1 : List (List Int)) (A1 : Option Addr) (c1 : Nat) (l1 : List Int) (a2 : Int) (w : World) (hr0_1 : Kd.C (Kd.slice 3 (Kd.int .i64)) w A0_1 l0_1.length l0_1) (hc0_1 : l0_1.length ≤ c0_1) (hr1 : Kd.C (Kd.int .i64) w A1 l1.length l1) (hc1 : l1.length ≤ c1) (_ : l1.length * 8 ≤ 140737488351232) (_ : (Lit.int .i64 a0_0).wf = true) (_ : (Lit.int .i64 a2).wf = true) :
  Calls Try.prog 12 #[.agg #[.int .i64 a0_0, .slice A0_1 l0_1.length c0_1], .slice A1 l1.length c1, .int .i64 a2] w fun e w' => e = .returned (.bool true) ∧ Below w.heap.size w w' := by
 obtain ⟨k, h⟩ := (MessageMinSums_ev a0_0 l0_1 l1 a2).rounds
 exact cw_MessageMinSums.calls k a0_0 A0_1 c0_1 l0_1 A1 c1 l1 a2 true w hr0_1 hc0_1 hr1 hc1 h
end Go.Proofs.Ytmclalniilkjiaa.Pure
/- An argument of rows of whole numbers, opened as a list of lists. No condition. -/
namespace Go.Proofs.Ytmclalniilkjiaa.Rw
open Go.ChangeShapes Go.WideShapes Go.ChangeAt Go.RowKit Go.Joins Go.Deep Go.Proofs.YtmclalniilkjiaaW.PrintWords
theorem open_rows {H : Type} {enc : TypeId × Value → H} {P : Program} {w : World} {base : Nat} {held : Bool} {t e q : TypeId} {fuel : Nat} {v : Value} {x : DataW H × List MemPlace} (ht : P.underlying t = some (.slice e)) (he : P.underlying e = some (.slice q)) (hq : P.underlying q = some (.int .i64))
  (ce : P.cellsOf e = 1) (cq : P.cellsOf q = 1) (d : Nat) (h : DataW.trod enc P w base (fun _ => true) held fuel t [v] = some x) :
  ∃ (a : Option Addr) (cap : Nat) (rows : List (List Int)), v = .slice a rows.length cap ∧ rows.length ≤ cap ∧ Kd.C (Kd.slice d (Kd.int .i64)) w a rows.length rows := by
 rcases open_int_rows ht he hq ce cq h with ⟨hcs, _⟩ | ⟨a, len, cap, A, L, C, Z, hcs, _, hl, hm, _, hrow⟩
 ·simp only [List.cons.injEq, and_true] at hcs
  exact ⟨none, 0, [], hcs, Nat.le_refl _, Kd.C_nil _ _⟩
 ·simp only [List.cons.injEq, and_true] at hcs
  have each : ∀ r, r < len → ∃ l : List Int, L r = l.length ∧ ReadsInt w .i64 (A r) l.length l ∧ l.length ≤ C r := by
   intro r hr
   obtain ⟨_, h2, h3, h4, h5, h6, h7⟩ := hrow r (by omega)
   have hi : (A r = none ∧ L r = 0 ∧ C r = 0 ∧ Z r = []) ∨ ∃ x, A r = some x ∧ L r ≤ C r ∧ C r ≤ maxLen ∧ (Z r).length = C r ∧ (∀ i, i < (Z r).length → w.cell? (x.add i) = some (.int .i64 ((Z r).getD i 0))) ∧ ∀ n ∈ Z r, (Lit.int .i64 n).wf = true := by
    cases ha : A r with
    | none =>
     have hc := h6 ha
     exact Or.inl ⟨rfl, by omega, hc, List.eq_nil_of_length_eq_zero (by omega)⟩
    | some x => exact Or.inr ⟨x, rfl, h2, h3, h4, fun i hi => (h7 x ha).2 i (by omega), h5⟩
   obtain ⟨l, e1, e2, _, _, e3⟩ := ReadsInt.ofRowC hi
   exact ⟨l, e1, e2, e3⟩
  obtain ⟨y, hy⟩ := choose_lt each
  have hlen : ((List.range len).map y).length = len := by simp
  refine ⟨some a, cap, (List.range len).map y, by rw [hlen]; exact hcs, by rw [hlen]; exact hl, rfl, ?_, fun _ => ⟨a, rfl, fun j p hj => ?_⟩⟩
  ·rw [hlen]; have : maxLen = 9223372036854775807 := rfl; omega
  ·obtain ⟨hj1, hj2⟩ := List.getElem?_eq_some_iff.1 hj
   have hjl : j < len := by rw [hlen] at hj1; exact hj1
   have ep : p = y j := by rw [← hj2]; simp
   subst ep
   obtain ⟨h1, _⟩ := hrow j (by omega)
   obtain ⟨e1, e2, e3⟩ := hy j hjl
   refine ⟨[.slice (A j) (y j).length (C j)], rfl, ⟨A j, C j, rfl, e3, Kd.C_of_reads (d := (0 : Int)) (h1 := fun _ => rfl) e2⟩, fun i u hi => ?_⟩
   cases i with
   | zero =>
    simp only [List.getElem?_cons_zero, Option.some.injEq] at hi
    subst hi
    show w.cell? (a.add (j * 1 + 0)) = _
    rw [Nat.mul_one, Nat.add_zero, h1, e1]
   | succ i => simp at hi
end Go.Proofs.Ytmclalniilkjiaa.Rw
namespace Go.Proofs.YtmclalniilkjiaaW.PrintWords
open Go.ChangeShapes Go.WideShapes
theorem sized_ints {H : Type} {enc : TypeId × Value → H} {P : Program} {W : World} {base : Nat} {spare : Nat → Bool} {held : Bool} {t e : TypeId} {k : IntKind} {a : Option Addr} {len cap : Nat} {d : DataW H} {ps : List MemPlace} {ts : List TypeId} {ds : List (DataW H)} {j : Nat}
  (hsz : (DataW.weightsEach P ts ds).all (· ≤ reachBytes) = true) (ht : ts[j]? = some t) (hd : ds[j]? = some d) (hu : P.underlying t = some (.slice e)) (he : P.underlying e = some (.int k)) (hc : P.cellsOf e = 1) {B : Nat} (hB : P.bytesOf e = B)
  (h : DataW.Trod enc P W base spare held t (.slice a len cap) d ps) : len * B ≤ 140737488351232 := by
 obtain ⟨fuel, hf⟩ := h
 rcases open_ints hu he hc hf with ⟨hcs, _⟩ | ⟨x, l, c, zs, hcs, _, hl, _, hz, hx, _, _⟩
 ·simp [Value.cells] at hcs
  obtain ⟨rfl, rfl, rfl⟩ := hcs
  simp
 ·simp [Value.cells] at hcs
  obtain ⟨rfl, rfl, rfl⟩ := hcs
  obtain ⟨hx, _⟩ := Prod.mk.inj hx
  subst hx
  have z := sized_slice hsz ht hd hu
  rw [hB] at z
  have hl2 : len ≤ zs.length := by
   rw [hz]
   split
   ·exact hl
   ·exact Nat.le_refl _
  have h1 : (lits (H := H) k (zs.take len)).length + (lits (H := H) k (zs.drop len)).length = zs.length := by
   simp [lits]
   omega
  rw [h1] at z
  exact Nat.le_trans (Nat.mul_le_mul_right _ hl2) z
end Go.Proofs.YtmclalniilkjiaaW.PrintWords
