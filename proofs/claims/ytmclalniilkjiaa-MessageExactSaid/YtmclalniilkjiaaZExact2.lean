-- Joined by pack.py, a program of this work: Qx28 Qx29 Qx30 Qx31 Qx32 Qx33 Qx34 Qx35 Qx36 Ck Qx15 Qx16 Gr Qx39 Qx40
import Derived.Test.YtmclalniilkjiaaZExact0
import Derived.Test.YtmclalniilkjiaaZExact1
namespace Go.Proofs.Ytmclalniilkjiaa.Q
open Go.RowKit Go.Proofs.YtmclalniilkjiaaW.PrintWords Go.Proofs.YtmclalniilkjiaaW.PrintLast Go.Proofs.YtmclalniilkjiaaW.PrintMore
open List renaming setIfInBounds_toArray → l01_, set_cons_zero → l02_, set_cons_succ → l03_
attribute [local go_sem] max2_int min2_int max_two min_two max_three min_three max_four min_four
set_option linter.unusedVariables false
set_option linter.unusedSimpArgs false
mutual
def cr4_Order.j0 : Nat → Bool → Int → Int → List Int → Option (Int)
 | 0, _, _, _, _ => none
 | k + 1, x17, x158000, x158001, x158002 => if x17 = true then (some 0) else (cr4_Order.l0 k 1 0 x158000 x158001 x158002)
def cr4_Order.l0 : Nat → Int → Int → Int → Int → List Int → Option (Int)
 | 0, _, _, _, _, _ => none
 | k + 1, x3, x4, x158000, x158001, x158002 => if x4 < x158001 then (if x158000 = 0 then (none) else (if x3 > (wrap64 (Int.tdiv (256 : Int) x158000)) then (some 0) else (cr4_Order.l0 k (wrap64 (x3 * x158000)) (wrap64 (x4 + 1)) x158000 x158001 x158002))) else (some x3)
end
def cr4_Order.f (k : Nat) (a0_0 : Int) (a0_1 : Int) (l0_2 : List Int) : Option (Int) := if a0_0 < 2 then (cr4_Order.j0 k true a0_0 a0_1 l0_2) else (if a0_1 < 1 then (cr4_Order.j0 k true a0_0 a0_1 l0_2) else (cr4_Order.j0 k (decide (a0_1 > 8)) a0_0 a0_1 l0_2))
theorem cr4_Order.mono_l : ∀ k, (∀ y0 y1 y2 y3, LeO (cr4_Order.j0 k y0 y1 y2 y3) (cr4_Order.j0 (k + 1) y0 y1 y2 y3)) ∧ (∀ y0 y1 y2 y3 y4, LeO (cr4_Order.l0 k y0 y1 y2 y3 y4) (cr4_Order.l0 (k + 1) y0 y1 y2 y3 y4))
 | 0 => ⟨fun _ _ _ _ r h => by simp [cr4_Order.j0] at h, fun _ _ _ _ _ r h => by simp [cr4_Order.l0] at h⟩
 | k + 1 => by
  obtain ⟨ih0, ih1⟩ := cr4_Order.mono_l k;refine ⟨?_, ?_⟩
  ·intro y0 y1 y2 y3;unfold cr4_Order.j0
   repeat' first
   | (with_reducible exact ih0 _ _ _ _)
   | (with_reducible exact ih1 _ _ _ _ _)
   | (with_reducible exact LeO.refl _)
   | (with_reducible exact LeO.none _)
   | (with_reducible refine LeO.ite ?_ ?_)
   | (with_reducible refine LeO.bind ?_ (fun _ => ?_))
   | exact ih0 _ _ _ _
   | exact ih1 _ _ _ _ _
   | exact LeO.none _
   | refine LeO.ite ?_ ?_
   | refine LeO.bind ?_ (fun _ => ?_)
  ·intro y0 y1 y2 y3 y4;unfold cr4_Order.l0
   repeat' first
   | (with_reducible exact ih0 _ _ _ _)
   | (with_reducible exact ih1 _ _ _ _ _)
   | (with_reducible exact LeO.refl _)
   | (with_reducible exact LeO.none _)
   | (with_reducible refine LeO.ite ?_ ?_)
   | (with_reducible refine LeO.bind ?_ (fun _ => ?_))
   | exact ih0 _ _ _ _
   | exact ih1 _ _ _ _ _
   | exact LeO.none _
   | refine LeO.ite ?_ ?_
   | refine LeO.bind ?_ (fun _ => ?_)
theorem cr4_Order.mono : ∀ a0 a1 a2 k, LeO (cr4_Order.f k a0 a1 a2) (cr4_Order.f (k + 1) a0 a1 a2) := by
 intro a0 a1 a2 k;obtain ⟨ih0, ih1⟩ := cr4_Order.mono_l k;unfold cr4_Order.f
 repeat' first
   | (with_reducible exact ih0 _ _ _ _)
   | (with_reducible exact ih1 _ _ _ _ _)
   | (with_reducible exact LeO.refl _)
   | (with_reducible exact LeO.none _)
   | (with_reducible refine LeO.ite ?_ ?_)
   | (with_reducible refine LeO.bind ?_ (fun _ => ?_))
   | exact ih0 _ _ _ _
   | exact ih1 _ _ _ _ _
   | exact LeO.none _
   | refine LeO.ite ?_ ?_
   | refine LeO.bind ?_ (fun _ => ?_)
set_option maxHeartbeats 8000000 in
set_option maxRecDepth 100000 in
theorem cr4_Order.calls (k : Nat) (a0_0 : Int) (a0_1 : Int) (A0_2 : Option Addr) (c0_2 : Nat) (l0_2 : List Int) (r : Int) (w : World) (hr0_2 : Kd.C (Kd.int .i64) w A0_2 l0_2.length l0_2) (hc0_2 : l0_2.length ≤ c0_2) (h : cr4_Order.f k a0_0 a0_1 l0_2 = some r) :
  Calls Try.prog 75 #[.agg #[.int .i64 a0_0, .int .i64 a0_1, .slice A0_2 l0_2.length c0_2]] w fun e w' => e = .returned (.int .i64 r) ∧ Below w.heap.size w w' := by
 have hu44 := Try.underlying44;have HR0_2 := Ai0.mk hr0_2;have HC0_2 := Ai0.mk hc0_2;clear hr0_2 hc0_2;have HB := Ai0.mk (Below.refl w.heap.size w);have H : (if a0_0 < 2 then (cr4_Order.j0 k true a0_0 a0_1 l0_2) else (if a0_1 < 1 then (cr4_Order.j0 k true a0_0 a0_1 l0_2) else (cr4_Order.j0 k (decide (a0_1 > 8)) a0_0 a0_1 l0_2))) = some r := h;clear h;have HC2 := Ai0.mk H;clear H;go_enter Try.func75, Try.ntmps75
 go_upto_region 1 with (first | ((with_reducible refine gate_dst (N := 1) rfl ?_); refine box_event ?hg (N := 1) ?hd (cs := #[.int .i64 a0_0, .int .i64 a0_1, .slice A0_2 l0_2.length c0_2]) (t := 44) ?hr ?_; (case hd => rfl); (case hg => rfl); (case hr => first | (go_simp; done) | (go_simp; rfl)); intro gb157 hg w3 hbox hb; have n0_ := Ai0.mk (bt1 bl_ hb); have n1_ := Ai0.mk (hbox); have n2_ := Ai0.mk ((by rw [hg]; exact (bz1 bl_) : w.heap.size ≤ gb157)); have n3_ := Ai0.mk ((by rw [hg]; exact (bz1 bl_) : w.heap.size ≤ gb157)); clear HB; have HB := n0_; have BK157 := n1_; have GW157 := n2_; have GE157 := n3_; clear n0_ n1_ n2_ n3_; clear hb hbox hg))
 (try simp only [Act.put, l01_, l02_, l03_])
 go_cut [17] (fun v17 wc => ∃ (kq : Nat) (x17_1 : Bool), v17 = .bool x17_1 ∧ Ai0 (cr4_Order.j0 kq x17_1 a0_0 a0_1 l0_2 = some r) ∧ Ai0 (kq ≤ k) ∧ Ai0 (wc.heap[gb157]? = some (.cells #[.int .i64 a0_0, .int .i64 a0_1, (.slice A0_2 l0_2.length c0_2)] 44 (0, 0))) ∧ Ai0 (Below w.heap.size w wc))
 case first =>
  have H := HC2.out;clear HC2;by_cases c4 : a0_0 < 2
  ·rw [if_pos c4] at H;have c4b0 : decide (a0_0 < 2) = true := decide_eq_true c4;clear c4;(first | rw [c4b0] | (simp only [i64_w, i32_w]; rw [c4b0]) | skip);have H' := Ai0.mk H;clear H;have hcz5_0 : w3.cell? ⟨gb157, 0, none⟩ = some (.int .i64 a0_0) := (kc1 BK157.out 0).trans rfl;have hcz5_1 : w3.cell? ⟨gb157, 1, none⟩ = some (.int .i64 a0_1) := (kc1 BK157.out 1).trans rfl;have hcz5_2 : w3.cell? ⟨gb157, 2, none⟩ = some (.slice A0_2 l0_2.length c0_2) := (kc1 BK157.out 2).trans rfl;have hfz5_0 := kf1 BK157.out 0;have hfz5_1 := kf1 BK157.out 1;have hfz5_2 := kf1 BK157.out 2
   go_wp2
   go_meet
   case rel => exact ⟨_, (true), rf_, H', ⟨by first | omega | exact Nat.le_refl _⟩, ⟨kk_ BK157.out⟩, ⟨bl_⟩⟩
  ·rw [if_neg c4] at H;have c4b0 : decide (a0_0 < 2) = false := decide_eq_false c4;clear c4;(first | rw [c4b0] | (simp only [i64_w, i32_w]; rw [c4b0]) | skip);by_cases c6 : a0_1 < 1
   ·rw [if_pos c6] at H;have c6b0 : decide (a0_1 < 1) = true := decide_eq_true c6;clear c6;have H' := Ai0.mk H;clear H;have hcz7_0 : w3.cell? ⟨gb157, 0, none⟩ = some (.int .i64 a0_0) := (kc1 BK157.out 0).trans rfl;have hcz7_1 : w3.cell? ⟨gb157, 1, none⟩ = some (.int .i64 a0_1) := (kc1 BK157.out 1).trans rfl;have hcz7_2 : w3.cell? ⟨gb157, 2, none⟩ = some (.slice A0_2 l0_2.length c0_2) := (kc1 BK157.out 2).trans rfl;have hfz7_0 := kf1 BK157.out 0;have hfz7_1 := kf1 BK157.out 1;have hfz7_2 := kf1 BK157.out 2
    go_wp2
    go_meet
    case rel => exact ⟨_, (true), rf_, H', ⟨by first | omega | exact Nat.le_refl _⟩, ⟨kk_ BK157.out⟩, ⟨bl_⟩⟩
   ·rw [if_neg c6] at H;have c6b0 : decide (a0_1 < 1) = false := decide_eq_false c6;clear c6;have H' := Ai0.mk H;clear H;have hcz8_0 : w3.cell? ⟨gb157, 0, none⟩ = some (.int .i64 a0_0) := (kc1 BK157.out 0).trans rfl;have hcz8_1 : w3.cell? ⟨gb157, 1, none⟩ = some (.int .i64 a0_1) := (kc1 BK157.out 1).trans rfl;have hcz8_2 : w3.cell? ⟨gb157, 2, none⟩ = some (.slice A0_2 l0_2.length c0_2) := (kc1 BK157.out 2).trans rfl;have hfz8_0 := kf1 BK157.out 0;have hfz8_1 := kf1 BK157.out 1;have hfz8_2 := kf1 BK157.out 2
    go_wp2
    go_meet
    case rel => exact ⟨_, (decide (a0_1 > 8)), rf_, H', ⟨by first | omega | exact Nat.le_refl _⟩, ⟨kk_ BK157.out⟩, ⟨bl_⟩⟩
 case rest =>
  clear HC2
  try clear p2
  try clear c4
  try clear c4b0
  try clear c6
  try clear c6b0
  try clear c7
  try clear hcz5_0
  try clear hcz5_1
  try clear hcz5_2
  try clear hcz7_0
  try clear hcz7_1
  try clear hcz7_2
  try clear hcz8_0
  try clear hcz8_1
  try clear hcz8_2
  try clear hfz5_0
  try clear hfz5_1
  try clear hfz5_2
  try clear hfz7_0
  try clear hfz7_1
  try clear hfz7_2
  try clear hfz8_0
  try clear hfz8_1
  try clear hfz8_2
  obtain ⟨kq, x17_1, rfl, HA, HJ1, BK157, HB⟩ := hcut
  cases kq with
  | zero => exact absurd HA.out (by simp [cr4_Order.j0])
  | succ kj1 =>
   have H := HA.out;clear HA;simp only [cr4_Order.j0] at H;by_cases c9 : x17_1 = true
   ·subst c9;(have H1 : (some 0) = some r := by rw [if_pos rfl] at H; exact H);clear H;have H := H1;clear H1;obtain rfl := Option.some.inj H
    go_wp2
    go_ret
    exact ⟨by first | rfl | (simp [eW0, eW1] <;> rfl) | (simp [*, eW0, eW1] <;> rfl), bl_⟩
   ·replace c9 := Bool.eq_false_iff.mpr c9;subst c9;(have H1 : (cr4_Order.l0 kj1 1 0 a0_0 a0_1 l0_2) = some r := by rw [if_neg (show ¬ (false = true) by decide)] at H; exact H);clear H;have H := H1;clear H1;have H' := Ai0.mk H;clear H
    go_wp2
    go_loopg [3, 4] kj1 (fun kq v3 v4 w' => ∃ (x3_2 : Int) (x4_2 : Int), v3 = .int .i64 x3_2 ∧ v4 = .int .i64 x4_2 ∧ Ai0 (cr4_Order.l0 kq x3_2 x4_2 a0_0 a0_1 l0_2 = some r) ∧ Ai0 (kq ≤ kj1) ∧ Ai0 (w'.heap[gb157]? = some (.cells #[.int .i64 a0_0, .int .i64 a0_1, (.slice A0_2 l0_2.length c0_2)] 44 (0, 0))) ∧ Ai0 (Below w.heap.size w w'))
    case atStart => exact ⟨(1), (0), rf_, rf_, H', ⟨Nat.le_refl _⟩, ⟨kk_ BK157.out⟩, ⟨bl_⟩⟩
    case round =>
     clear H'
     try clear p2
     try clear c4
     try clear c4b0
     try clear c6
     try clear c6b0
     try clear c7
     try clear c9
     try clear hcz5_0
     try clear hcz5_1
     try clear hcz5_2
     try clear hcz7_0
     try clear hcz7_1
     try clear hcz7_2
     try clear hcz8_0
     try clear hcz8_1
     try clear hcz8_2
     try clear hfz5_0
     try clear hfz5_1
     try clear hfz5_2
     try clear hfz7_0
     try clear hfz7_1
     try clear hfz7_2
     try clear hfz8_0
     try clear hfz8_1
     try clear hfz8_2
     try clear p2
     obtain ⟨x3_2, x4_2, rfl, rfl, HA, HK2, BK157, HB⟩ := hrel
     cases gk with
     | zero => exact absurd HA.out (by simp [cr4_Order.l0])
     | succ k2 =>
      have H := HA.out;clear HA;simp only [cr4_Order.l0] at H;by_cases c10 : x4_2 < a0_1
      ·rw [if_pos c10] at H;have c10b0 : decide (x4_2 < a0_1) = true := decide_eq_true c10;clear c10;by_cases c11 : a0_0 = 0
       ·rw [if_pos c11] at H;exact absurd H (by simp)
       ·rw [if_neg c11] at H;have c11b0 : (a0_0 == 0) = false := beq_eq_false_iff_ne.mpr c11;have c11b1 : (a0_0 != 0) = true := bne_iff_ne.mpr c11;by_cases c12 : x3_2 > (wrap64 (Int.tdiv (256 : Int) a0_0))
        ·rw [if_pos c12] at H;have c12b0 : decide ((wrap64 (Int.tdiv (256 : Int) a0_0)) < x3_2) = true := decide_eq_true c12;clear c12;obtain rfl := Option.some.inj H;have hcz13_0 : wr.cell? ⟨gb157, 0, none⟩ = some (.int .i64 a0_0) := (kc1 BK157.out 0).trans rfl;have hcz13_1 : wr.cell? ⟨gb157, 1, none⟩ = some (.int .i64 a0_1) := (kc1 BK157.out 1).trans rfl;have hcz13_2 : wr.cell? ⟨gb157, 2, none⟩ = some (.slice A0_2 l0_2.length c0_2) := (kc1 BK157.out 2).trans rfl;have hfz13_0 := kf1 BK157.out 0;have hfz13_1 := kf1 BK157.out 1;have hfz13_2 := kf1 BK157.out 2
         go_wp2
         go_ret
         exact ⟨by first | rfl | (simp [eW0, eW1] <;> rfl) | (simp [*, eW0, eW1] <;> rfl), bl_⟩
        ·rw [if_neg c12] at H;have c12b0 : decide ((wrap64 (Int.tdiv (256 : Int) a0_0)) < x3_2) = false := decide_eq_false c12;clear c12;have H' := Ai0.mk H;clear H;have hcz14_0 : wr.cell? ⟨gb157, 0, none⟩ = some (.int .i64 a0_0) := (kc1 BK157.out 0).trans rfl;have hcz14_1 : wr.cell? ⟨gb157, 1, none⟩ = some (.int .i64 a0_1) := (kc1 BK157.out 1).trans rfl;have hcz14_2 : wr.cell? ⟨gb157, 2, none⟩ = some (.slice A0_2 l0_2.length c0_2) := (kc1 BK157.out 2).trans rfl;have hfz14_0 := kf1 BK157.out 0;have hfz14_1 := kf1 BK157.out 1;have hfz14_2 := kf1 BK157.out 2
         go_wp2
         go_roundg k2
         case measure => have := HJ1.out; have := HK2.out; omega
         case rel => exact ⟨(wrap64 (x3_2 * a0_0)), (wrap64 (x4_2 + 1)), rf_, rf_, H', ⟨by have := HJ1.out; have := HK2.out; omega⟩, ⟨kk_ BK157.out⟩, ⟨bl_⟩⟩
      ·rw [if_neg c10] at H;have c10b0 : decide (x4_2 < a0_1) = false := decide_eq_false c10;clear c10;obtain rfl := Option.some.inj H;have hcz15_0 : wr.cell? ⟨gb157, 0, none⟩ = some (.int .i64 a0_0) := (kc1 BK157.out 0).trans rfl;have hcz15_1 : wr.cell? ⟨gb157, 1, none⟩ = some (.int .i64 a0_1) := (kc1 BK157.out 1).trans rfl;have hcz15_2 : wr.cell? ⟨gb157, 2, none⟩ = some (.slice A0_2 l0_2.length c0_2) := (kc1 BK157.out 2).trans rfl;have hfz15_0 := kf1 BK157.out 0;have hfz15_1 := kf1 BK157.out 1;have hfz15_2 := kf1 BK157.out 2
       go_wp2
       go_ret
       exact ⟨by first | rfl | (simp [eW0, eW1] <;> rfl) | (simp [*, eW0, eW1] <;> rfl), bl_⟩
def cr4_Is.f (k : Nat) (a0_0 : Int) (a0_1 : Int) (l0_2 : List Int) (a1 : Int) : Option (Bool) := if a1 ≥ 0 then ((cr4_Order.f k a0_0 a0_1 l0_2).bind fun t159 => (some (decide (a1 < t159)))) else (some false)
theorem cr4_Is.mono : ∀ a0 a1 a2 a3 k, LeO (cr4_Is.f k a0 a1 a2 a3) (cr4_Is.f (k + 1) a0 a1 a2 a3) := by
 intro a0 a1 a2 a3 k;unfold cr4_Is.f
 repeat' first
   | (with_reducible exact cr4_Order.mono _ _ _ _)
   | (with_reducible exact LeO.refl _)
   | (with_reducible exact LeO.none _)
   | (with_reducible refine LeO.ite ?_ ?_)
   | (with_reducible refine LeO.bind ?_ (fun _ => ?_))
   | exact cr4_Order.mono _ _ _ _
   | exact LeO.none _
   | refine LeO.ite ?_ ?_
   | refine LeO.bind ?_ (fun _ => ?_)
set_option maxHeartbeats 8000000 in
set_option maxRecDepth 100000 in
theorem cr4_Is.calls (k : Nat) (a0_0 : Int) (a0_1 : Int) (A0_2 : Option Addr) (c0_2 : Nat) (l0_2 : List Int) (a1 : Int) (r : Bool) (w : World) (hr0_2 : Kd.C (Kd.int .i64) w A0_2 l0_2.length l0_2) (hc0_2 : l0_2.length ≤ c0_2) (h : cr4_Is.f k a0_0 a0_1 l0_2 a1 = some r) :
  Calls Try.prog 71 #[.agg #[.int .i64 a0_0, .int .i64 a0_1, .slice A0_2 l0_2.length c0_2], .int .i64 a1] w fun e w' => e = .returned (.bool r) ∧ Below w.heap.size w w' := by
 have hu44 := Try.underlying44;have HR0_2 := Ai0.mk hr0_2;have HC0_2 := Ai0.mk hc0_2;clear hr0_2 hc0_2;have HB := Ai0.mk (Below.refl w.heap.size w);have H : (if a1 ≥ 0 then ((cr4_Order.f k a0_0 a0_1 l0_2).bind fun t159 => (some (decide (a1 < t159)))) else (some false)) = some r := h;clear h;by_cases c3 : a1 ≥ 0
 ·rw [if_pos c3] at H;have c3b0 : decide (0 ≤ a1) = true := decide_eq_true c3;clear c3;replace H := Option.bind_eq_some_iff.mp H;obtain ⟨t159, A40, H⟩ := H;replace H : (some (decide (a1 < t159))) = some r := H;have A4 := Ai0.mk A40;clear A40;obtain rfl := Option.some.inj H;go_enter Try.func71, Try.ntmps71
  go_wp2_with (first | ((with_reducible refine gate_dst (N := 2) rfl ?_); refine box_event ?hg (N := 2) ?hd (cs := #[.int .i64 a0_0, .int .i64 a0_1, .slice A0_2 l0_2.length c0_2]) (t := 44) ?hr ?_; (case hd => rfl); (case hg => rfl); (case hr => first | (go_simp; done) | (go_simp; rfl)); intro gb158 hg w5 hbox hb; have n0_ := Ai0.mk (bt1 bl_ hb); have n1_ := Ai0.mk (hbox); have n2_ := Ai0.mk ((by rw [hg]; exact (bz1 bl_) : w.heap.size ≤ gb158)); have n3_ := Ai0.mk ((by rw [hg]; exact (bz1 bl_) : w.heap.size ≤ gb158)); clear HB; have HB := n0_; have BK158 := n1_; have GW158 := n2_; have GE158 := n3_; clear n0_ n1_ n2_ n3_; clear hb hbox hg; have hcz6_0 : w5.cell? ⟨gb158, 0, none⟩ = some (.int .i64 a0_0) := (kc1 BK158.out 0).trans rfl; have hcz6_1 : w5.cell? ⟨gb158, 1, none⟩ = some (.int .i64 a0_1) := (kc1 BK158.out 1).trans rfl; have hcz6_2 : w5.cell? ⟨gb158, 2, none⟩ = some (.slice A0_2 l0_2.length c0_2) := (kc1 BK158.out 2).trans rfl; have hfz6_0 := kf1 BK158.out 0; have hfz6_1 := kf1 BK158.out 1; have hfz6_2 := kf1 BK158.out 2) | (go_at_call 75; (with_reducible refine (cr4_Order.calls k a0_0 a0_1 _ _ l0_2 t159 _ ?side1 ?side2 A4.out).mono ?_); (case side1 => exact kc_ HR0_2.out); (case side2 => exact HC0_2.out); rintro e w7 ⟨rfl, hb⟩; have n0_ := Ai0.mk (kb1 (g := gb158) (o := .cells #[.int .i64 a0_0, .int .i64 a0_1, .slice A0_2 l0_2.length c0_2] 44 (0, 0)) (kk_ BK158.out) hb); have n1_ := Ai0.mk (bt1 bl_ hb); clear BK158; clear HB; have BK158 := n0_; have HB := n1_; clear n0_ n1_; (try clear hb); (try clear hb2); (try clear hk); (try clear hi)))
  go_ret
  exact ⟨by first | rfl | (simp [eW0, eW1] <;> rfl) | (simp [*, eW0, eW1] <;> rfl), bl_⟩
 ·rw [if_neg c3] at H;have c3b0 : decide (0 ≤ a1) = false := decide_eq_false c3;clear c3;obtain rfl := Option.some.inj H;go_enter Try.func71, Try.ntmps71
  go_wp2_with (first | ((with_reducible refine gate_dst (N := 2) rfl ?_); refine box_event ?hg (N := 2) ?hd (cs := #[.int .i64 a0_0, .int .i64 a0_1, .slice A0_2 l0_2.length c0_2]) (t := 44) ?hr ?_; (case hd => rfl); (case hg => rfl); (case hr => first | (go_simp; done) | (go_simp; rfl)); intro gb158 hg w8 hbox hb; have n0_ := Ai0.mk (bt1 bl_ hb); have n1_ := Ai0.mk (hbox); have n2_ := Ai0.mk ((by rw [hg]; exact (bz1 bl_) : w.heap.size ≤ gb158)); have n3_ := Ai0.mk ((by rw [hg]; exact (bz1 bl_) : w.heap.size ≤ gb158)); clear HB; have HB := n0_; have BK158 := n1_; have GW158 := n2_; have GE158 := n3_; clear n0_ n1_ n2_ n3_; clear hb hbox hg))
  go_ret
  exact ⟨by first | rfl | (simp [eW0, eW1] <;> rfl) | (simp [*, eW0, eW1] <;> rfl), bl_⟩
def cr9_Entries.l0 : Nat → List Int → Int → Int → Int → List Int → Option (Int)
 | 0, _, _, _, _, _ => none
 | k + 1, x1, x5, x161000, x161001, x161002 => if x5 < (x1.length : Int) then (if 0 ≤ x5 then ((cr4_Is.f k x161000 x161001 x161002 (rd x1 x5)).bind fun t162 => (if t162 = true then (cr9_Entries.l0 k x1 (wrap64 (x5 + 1)) x161000 x161001 x161002) else (some 2))) else (none)) else (some 0)
def cr9_Entries.f (k : Nat) (a0_0 : Int) (a0_1 : Int) (l0_2 : List Int) (l1 : List Int) : Option (Int) := cr9_Entries.l0 k l1 0 a0_0 a0_1 l0_2
theorem cr9_Entries.mono_l : ∀ k, (∀ y0 y1 y2 y3 y4, LeO (cr9_Entries.l0 k y0 y1 y2 y3 y4) (cr9_Entries.l0 (k + 1) y0 y1 y2 y3 y4))
 | 0 => fun _ _ _ _ _ r h => by simp [cr9_Entries.l0] at h
 | k + 1 => by
  have ih0 := cr9_Entries.mono_l k
  ·intro y0 y1 y2 y3 y4;unfold cr9_Entries.l0
   repeat' first
   | (with_reducible exact ih0 _ _ _ _ _)
   | (with_reducible exact cr4_Is.mono _ _ _ _ _)
   | (with_reducible exact LeO.refl _)
   | (with_reducible exact LeO.none _)
   | (with_reducible refine LeO.ite ?_ ?_)
   | (with_reducible refine LeO.bind ?_ (fun _ => ?_))
   | exact ih0 _ _ _ _ _
   | exact cr4_Is.mono _ _ _ _ _
   | exact LeO.none _
   | refine LeO.ite ?_ ?_
   | refine LeO.bind ?_ (fun _ => ?_)
theorem cr9_Entries.mono : ∀ a0 a1 a2 a3 k, LeO (cr9_Entries.f k a0 a1 a2 a3) (cr9_Entries.f (k + 1) a0 a1 a2 a3) := by
 intro a0 a1 a2 a3 k;have ih0 := cr9_Entries.mono_l k;unfold cr9_Entries.f
 repeat' first
   | (with_reducible exact ih0 _ _ _ _ _)
   | (with_reducible exact cr4_Is.mono _ _ _ _ _)
   | (with_reducible exact LeO.refl _)
   | (with_reducible exact LeO.none _)
   | (with_reducible refine LeO.ite ?_ ?_)
   | (with_reducible refine LeO.bind ?_ (fun _ => ?_))
   | exact ih0 _ _ _ _ _
   | exact cr4_Is.mono _ _ _ _ _
   | exact LeO.none _
   | refine LeO.ite ?_ ?_
   | refine LeO.bind ?_ (fun _ => ?_)
set_option maxHeartbeats 8000000 in
set_option maxRecDepth 100000 in
theorem cr9_Entries.calls (k : Nat) (a0_0 : Int) (a0_1 : Int) (A0_2 : Option Addr) (c0_2 : Nat) (l0_2 : List Int) (A1 : Option Addr) (c1 : Nat) (l1 : List Int) (r : Int) (w : World) (hr0_2 : Kd.C (Kd.int .i64) w A0_2 l0_2.length l0_2) (hc0_2 : l0_2.length ≤ c0_2) (hr1 : Kd.C (Kd.int .i64) w A1 l1.length l1) (hc1 : l1.length ≤ c1) (h : cr9_Entries.f k a0_0 a0_1 l0_2 l1 = some r) :
  Calls Try.prog 51 #[.agg #[.int .i64 a0_0, .int .i64 a0_1, .slice A0_2 l0_2.length c0_2], .slice A1 l1.length c1] w fun e w' => e = .returned (.int .i64 r) ∧ Below w.heap.size w w' := by
 have hu44 := Try.underlying44;have HR0_2 := Ai0.mk hr0_2;have HC0_2 := Ai0.mk hc0_2;clear hr0_2 hc0_2;have HR1 := Ai0.mk hr1;have HC1 := Ai0.mk hc1;clear hr1 hc1;have HB := Ai0.mk (Below.refl w.heap.size w);have H : (cr9_Entries.l0 k l1 0 a0_0 a0_1 l0_2) = some r := h;clear h;have H' := Ai0.mk H;clear H;go_enter Try.func51, Try.ntmps51
 go_wp2_with (first | ((with_reducible refine gate_dst (N := 2) rfl ?_); refine box_event ?hg (N := 2) ?hd (cs := #[.int .i64 a0_0, .int .i64 a0_1, .slice A0_2 l0_2.length c0_2]) (t := 44) ?hr ?_; (case hd => rfl); (case hg => rfl); (case hr => first | (go_simp; done) | (go_simp; rfl)); intro gb160 hg w3 hbox hb; have n0_ := Ai0.mk (bt1 bl_ hb); have n1_ := Ai0.mk (hbox); have n2_ := Ai0.mk ((by rw [hg]; exact (bz1 bl_) : w.heap.size ≤ gb160)); have n3_ := Ai0.mk ((by rw [hg]; exact (bz1 bl_) : w.heap.size ≤ gb160)); clear HB; have HB := n0_; have BK160 := n1_; have GW160 := n2_; have GE160 := n3_; clear n0_ n1_ n2_ n3_; clear hb hbox hg))
 go_loopg [5] k (fun kq v5 w' => ∃ (x5_1 : Int), v5 = .int .i64 x5_1 ∧ Ai0 (cr9_Entries.l0 kq l1 x5_1 a0_0 a0_1 l0_2 = some r) ∧ Ai0 (kq ≤ k) ∧ Ai0 (w'.heap[gb160]? = some (.cells #[.int .i64 a0_0, .int .i64 a0_1, (.slice A0_2 l0_2.length c0_2)] 44 (0, 0))) ∧ Ai0 (Below w.heap.size w w'))
 case atStart => exact ⟨(0), rf_, H', ⟨Nat.le_refl _⟩, ⟨kk_ BK160.out⟩, ⟨bl_⟩⟩
 case round =>
  clear H'
  try clear c1
  try clear p2
  obtain ⟨x5_1, rfl, HA, HK1, BK160, HB⟩ := hrel
  cases gk with
  | zero => exact absurd HA.out (by simp [cr9_Entries.l0])
  | succ k1 =>
   have H := HA.out;clear HA;simp only [cr9_Entries.l0] at H;by_cases c4 : x5_1 < (l1.length : Int)
   ·rw [if_pos c4] at H;have c4b0 : decide (x5_1 < (l1.length : Int)) = true := decide_eq_true c4;clear c4;by_cases c5 : 0 ≤ x5_1
    ·rw [if_pos c5] at H;have c5b0 : decide (0 ≤ x5_1) = true := decide_eq_true c5;clear c5;replace H := Option.bind_eq_some_iff.mp H;obtain ⟨t162, A60, H⟩ := H;replace H : (if t162 = true then (cr9_Entries.l0 k1 l1 (wrap64 (x5_1 + 1)) a0_0 a0_1 l0_2) else (some 2)) = some r := H;have A6 := Ai0.mk A60;clear A60;by_cases c7 : t162 = true
     case' pos =>
      subst c7;(have H1 : (cr9_Entries.l0 k1 l1 (wrap64 (x5_1 + 1)) a0_0 a0_1 l0_2) = some r := by rw [if_pos rfl] at H; exact H);clear H;have H := H1;clear H1;have H' := Ai0.mk H;clear H
     case' neg =>
      replace c7 := Bool.eq_false_iff.mpr c7;subst c7;(have H1 : (some 2) = some r := by rw [if_neg (show ¬ (false = true) by decide)] at H; exact H);clear H;have H := H1;clear H1;obtain rfl := Option.some.inj H
     all_goals
      try go_wp2
      have n0_ := Ai0.mk (kd1 BK160.out);have n1_ := Ai0.mk (bw1 HB.out);clear BK160;clear HB;have BK160 := n0_;have HB := n1_;clear n0_ n1_;have p161 : 0 ≤ (x5_1 : Int) := od_;have q161 : x5_1 < (l1.length : Int) := od_;obtain ⟨ad161, e161, hx161_0⟩ := Kd.at_int HR1.out x5_1 p161 q161;have hw161_0 := hx161_0;cases e161;replace hx161_0 := (HB.out.cell (World.block_lt_of_cell? w _ hx161_0)).trans hx161_0;replace p161 := eq_true p161;replace q161 := eq_true q161;refine start_ (n := 7) (S := fun w' => w'.cell? ⟨gb160, 0, none⟩ = some (.int .i64 a0_0) ∧ w'.cell? ⟨gb160, 1, none⟩ = some (.int .i64 a0_1) ∧ w'.cell? ⟨gb160, 2, none⟩ = some (.slice A0_2 l0_2.length c0_2) ∧ w'.cell? (ad161.add (x5_1).toNat) = some (.int .i64 (rd l1 x5_1))) (ds := []) #[false, false, false, false, false, false, false] (by kernel_rfl) rfl rfl ⟨(kc1 BK160.out 0).trans rfl, (kc1 BK160.out 1).trans rfl, (kc1 BK160.out 2).trans rfl, ((HB.out.cell (World.block_lt_of_cell? w _ hw161_0)).trans hw161_0)⟩ (fun hHeld => ?_);(generalize wr.drew = w8 at BK160 HB hx161_0 hHeld ⊢);refine pure_ (i := 1) (N := some 13) (v := ?_) (a' := ?_) #[false, true, false, false, false, false, false] rfl rfl (by kernel_rfl) (fun _ _ _ h => h) (Or.inl ⟨by rfl, ?_⟩) ?_ ?_;rotate_left
      ·intro w';go_simp
       with_reducible rfl
      rotate_left
      ·simp only [Act.put, l01_, l02_, l03_, i64_w, i32_w]
       rfl
      refine pure_ (i := 2) (N := some 14) (v := ?_) (a' := ?_) #[false, true, true, false, false, false, false] rfl rfl (by kernel_rfl) (fun _ _ _ h => h) (Or.inl ⟨by rfl, ?_⟩) ?_ ?_;rotate_left
      ·intro w';go_simp
       with_reducible rfl
      rotate_left
      ·simp only [Act.put, l01_, l02_, l03_, i64_w, i32_w]
       rfl
      refine pure_ (i := 3) (N := some 15) (v := ?_) (a' := ?_) #[false, true, true, true, false, false, false] rfl rfl (by kernel_rfl) (fun _ _ _ h => h) (Or.inl ⟨by rfl, ?_⟩) ?_ ?_;rotate_left
      ·intro w';go_simp
       with_reducible rfl
      rotate_left
      ·simp only [Act.put, l01_, l02_, l03_, i64_w, i32_w]
       rfl
      refine take_ (i := 0) (N := some 12) (v := ?_) (a' := ?_) #[true, true, true, true, false, false, false] rfl rfl (by kernel_rfl) (fun _ _ _ h => h) (Or.inl ⟨by rfl, ?_⟩) hHeld ?_ ?_;rotate_left
      ·rintro w' ⟨s0, s1, s2, s3⟩
       go_simp
       with_reducible rfl
      rotate_left
      ·simp only [Act.put, l01_, l02_, l03_, i64_w, i32_w]
       rfl
      refine take_ (i := 4) (N := some 16) (v := ?_) (a' := ?_) #[true, true, true, true, true, false, false] rfl rfl (by kernel_rfl) (fun _ _ _ h => h) (Or.inl ⟨by rfl, ?_⟩) hHeld ?_ ?_;rotate_left
      ·rintro w' ⟨s0, s1, s2, s3⟩
       go_simp
       with_reducible rfl
      rotate_left
      ·simp only [Act.put, l01_, l02_, l03_, i64_w, i32_w]
       rfl
      refine one_ (i := 5) (N := some 17) #[true, true, true, true, true, true, false] rfl rfl (by kernel_rfl) (by decide) (fun K hK => ?_);refine goes_ Try.func71 (by kernel_rfl) rfl #[.agg #[.int .i64 a0_0, .int .i64 a0_1, .slice A0_2 l0_2.length c0_2], .int .i64 (rd l1 x5_1)] (by rfl) rfl rfl (by (try simp only [List.map_toArray, List.map_cons, List.map_nil]); first | done | rfl | (simp only [List.length_drop, List.length_take]; rfl)) ?_
     ·with_reducible refine (cr4_Is.calls k1 a0_0 a0_1 _ _ l0_2 (rd l1 x5_1) false _ ?side1 ?side2 A6.out).mono ?_
      (case side1 => exact kc_ HR0_2.out);(case side2 => exact HC0_2.out)
      rintro e w11 ⟨rfl, hb⟩
      refine ⟨_, rfl, ?_⟩;have n0_ := Ai0.mk (kb1 (g := gb160) (o := .cells #[.int .i64 a0_0, .int .i64 a0_1, .slice A0_2 l0_2.length c0_2] 44 (0, 0)) (kk_ BK160.out) hb);have n1_ := Ai0.mk (bt1 bl_ hb);clear BK160;clear HB;have BK160 := n0_;have HB := n1_;clear n0_ n1_;(try clear hb);(try clear hb2);(try clear hk);(try clear hi);refine hK.out _ _ ⟨(kc1 BK160.out 0).trans rfl, (kc1 BK160.out 1).trans rfl, (kc1 BK160.out 2).trans rfl, ((HB.out.cell (World.block_lt_of_cell? w _ hw161_0)).trans hw161_0)⟩ (fun hHeld => ?_);clear hK K;refine norm_ (a' := ?_) ?_ ?_;rotate_left
      ·show Act.put _ (some 17) _ = _;simp only [Act.put, l01_, l02_, l03_, i64_w, i32_w]
       rfl
      refine pure_ (i := 6) (N := some 18) (v := ?_) (a' := ?_) #[true, true, true, true, true, true, true] rfl rfl (by kernel_rfl) (fun _ _ _ h => h) (Or.inl ⟨by rfl, ?_⟩) ?_ ?_;rotate_left
      ·intro w';go_simp
       with_reducible rfl
      rotate_left
      ·simp only [Act.put, l01_, l02_, l03_, i64_w, i32_w]
       rfl
      refine done_ (by kernel_rfl) ?_
      try go_wp2
      go_ret
      exact ⟨by first | rfl | (simp [eW0, eW1] <;> rfl) | (simp [*, eW0, eW1] <;> rfl), bl_⟩
     ·with_reducible refine (cr4_Is.calls k1 a0_0 a0_1 _ _ l0_2 (rd l1 x5_1) true _ ?side1 ?side2 A6.out).mono ?_
      (case side1 => exact kc_ HR0_2.out);(case side2 => exact HC0_2.out)
      rintro e w9 ⟨rfl, hb⟩
      refine ⟨_, rfl, ?_⟩;have n0_ := Ai0.mk (kb1 (g := gb160) (o := .cells #[.int .i64 a0_0, .int .i64 a0_1, .slice A0_2 l0_2.length c0_2] 44 (0, 0)) (kk_ BK160.out) hb);have n1_ := Ai0.mk (bt1 bl_ hb);clear BK160;clear HB;have BK160 := n0_;have HB := n1_;clear n0_ n1_;(try clear hb);(try clear hb2);(try clear hk);(try clear hi);refine hK.out _ _ ⟨(kc1 BK160.out 0).trans rfl, (kc1 BK160.out 1).trans rfl, (kc1 BK160.out 2).trans rfl, ((HB.out.cell (World.block_lt_of_cell? w _ hw161_0)).trans hw161_0)⟩ (fun hHeld => ?_);clear hK K;refine norm_ (a' := ?_) ?_ ?_;rotate_left
      ·show Act.put _ (some 17) _ = _;simp only [Act.put, l01_, l02_, l03_, i64_w, i32_w]
       rfl
      refine pure_ (i := 6) (N := some 18) (v := ?_) (a' := ?_) #[true, true, true, true, true, true, true] rfl rfl (by kernel_rfl) (fun _ _ _ h => h) (Or.inl ⟨by rfl, ?_⟩) ?_ ?_;rotate_left
      ·intro w';go_simp
       with_reducible rfl
      rotate_left
      ·simp only [Act.put, l01_, l02_, l03_, i64_w, i32_w]
       rfl
      refine done_ (by kernel_rfl) ?_
      try go_wp2
      go_roundg k1
      case measure => have := HK1.out; omega
      case rel => exact ⟨(wrap64 (x5_1 + 1)), rf_, H', ⟨by have := HK1.out; omega⟩, ⟨kk_ BK160.out⟩, ⟨bl_⟩⟩
    ·rw [if_neg c5] at H;exact absurd H (by simp)
   ·rw [if_neg c4] at H;have c4b0 : decide (x5_1 < (l1.length : Int)) = false := decide_eq_false c4;clear c4;obtain rfl := Option.some.inj H
    go_wp2
    go_ret
    exact ⟨by first | rfl | (simp [eW0, eW1] <;> rfl) | (simp [*, eW0, eW1] <;> rfl), bl_⟩
def cr4_prime.l0 : Nat → Int → Int → Option (Bool)
 | 0, _, _ => none
 | k + 1, x0, x3 => if x3 < x0 then (if x3 = 0 then (none) else (if (Int.tmod x0 x3) = 0 then (some false) else (cr4_prime.l0 k x0 (wrap64 (x3 + 1))))) else (some true)
def cr4_prime.f (k : Nat) (a0 : Int) : Option (Bool) := cr4_prime.l0 k a0 2
theorem cr4_prime.mono_l : ∀ k, (∀ y0 y1, LeO (cr4_prime.l0 k y0 y1) (cr4_prime.l0 (k + 1) y0 y1))
 | 0 => fun _ _ r h => by simp [cr4_prime.l0] at h
 | k + 1 => by
  have ih0 := cr4_prime.mono_l k
  ·intro y0 y1;unfold cr4_prime.l0
   repeat' first
   | (with_reducible exact ih0 _ _)
   | (with_reducible exact LeO.refl _)
   | (with_reducible exact LeO.none _)
   | (with_reducible refine LeO.ite ?_ ?_)
   | (with_reducible refine LeO.bind ?_ (fun _ => ?_))
   | exact ih0 _ _
   | exact LeO.none _
   | refine LeO.ite ?_ ?_
   | refine LeO.bind ?_ (fun _ => ?_)
theorem cr4_prime.mono : ∀ a0 k, LeO (cr4_prime.f k a0) (cr4_prime.f (k + 1) a0) := by
 intro a0 k;have ih0 := cr4_prime.mono_l k;unfold cr4_prime.f
 repeat' first
   | (with_reducible exact ih0 _ _)
   | (with_reducible exact LeO.refl _)
   | (with_reducible exact LeO.none _)
   | (with_reducible refine LeO.ite ?_ ?_)
   | (with_reducible refine LeO.bind ?_ (fun _ => ?_))
   | exact ih0 _ _
   | exact LeO.none _
   | refine LeO.ite ?_ ?_
   | refine LeO.bind ?_ (fun _ => ?_)
set_option maxHeartbeats 8000000 in
set_option maxRecDepth 100000 in
theorem cr4_prime.calls (k : Nat) (a0 : Int) (r : Bool) (w : World) (h : cr4_prime.f k a0 = some r) :
  Calls Try.prog 76 #[.int .i64 a0] w fun e w' => e = .returned (.bool r) ∧ Drawn0 w w' := by
 have H : (cr4_prime.l0 k a0 2) = some r := h;clear h;have H' := Ai0.mk H;clear H;go_enter Try.func76, Try.ntmps76
 go_wp2
 go_loopg [3] k (fun kq v3 w' => ∃ (x3_1 : Int), v3 = .int .i64 x3_1 ∧ Ai0 (cr4_prime.l0 kq a0 x3_1 = some r) ∧ Ai0 (kq ≤ k) ∧ Drawn0 w w')
 case atStart => exact ⟨(2), rf_, H', ⟨Nat.le_refl _⟩, by repeat (first | exact Drawn0.refl _ | apply Drawn0.step)⟩
 case round =>
  clear H';obtain ⟨x3_1, rfl, HA, HK1, ⟨m1, rfl⟩⟩ := hrel
  cases gk with
  | zero => exact absurd HA.out (by simp [cr4_prime.l0])
  | succ k1 =>
   have H := HA.out;clear HA;simp only [cr4_prime.l0] at H;by_cases c2 : x3_1 < a0
   ·rw [if_pos c2] at H;have c2b0 : decide (x3_1 < a0) = true := decide_eq_true c2;clear c2;by_cases c3 : x3_1 = 0
    ·rw [if_pos c3] at H;exact absurd H (by simp)
    ·rw [if_neg c3] at H;have c3b0 : (x3_1 == 0) = false := beq_eq_false_iff_ne.mpr c3;have c3b1 : (x3_1 != 0) = true := bne_iff_ne.mpr c3;by_cases c4 : (Int.tmod a0 x3_1) = 0
     ·rw [if_pos c4] at H;have c4b0 : ((Int.tmod a0 x3_1) == 0) = true := beq_iff_eq.mpr c4;have c4b1 : ((Int.tmod a0 x3_1) != 0) = false := bne_eq_false_iff_eq.mpr c4;clear c4;obtain rfl := Option.some.inj H
      go_wp2
      go_ret
      exact ⟨by first | rfl | (simp; done) | (simp [*]; done), by repeat (first | exact Drawn0.refl _ | apply Drawn0.step)⟩
     ·rw [if_neg c4] at H;have c4b0 : ((Int.tmod a0 x3_1) == 0) = false := beq_eq_false_iff_ne.mpr c4;have c4b1 : ((Int.tmod a0 x3_1) != 0) = true := bne_iff_ne.mpr c4;have H' := Ai0.mk H;clear H
      go_wp2
      go_roundg k1
      case measure => have := HK1.out; omega
      case rel => exact ⟨(wrap64 (x3_1 + 1)), rf_, H', ⟨by have := HK1.out; omega⟩, by repeat (first | exact Drawn0.refl _ | apply Drawn0.step)⟩
   ·rw [if_neg c2] at H;have c2b0 : decide (x3_1 < a0) = false := decide_eq_false c2;clear c2;obtain rfl := Option.some.inj H
    go_wp2
    go_ret
    exact ⟨by first | rfl | (simp; done) | (simp [*]; done), by repeat (first | exact Drawn0.refl _ | apply Drawn0.step)⟩
def cr4_digits.l0 : Nat → Int → Int → Int → List Int → Int → Option (List Int)
 | 0, _, _, _, _, _ => none
 | k + 1, x0, x1, x2, x7, x8 => if x8 < x2 then (if x1 = 0 then (none) else (if 0 ≤ x8 then (if x8 < (x7.length : Int) then (cr4_digits.l0 k (wrap64 (Int.tdiv x0 x1)) x1 x2 (x7.set (x8 : Int).toNat (Int.tmod x0 x1)) (wrap64 (x8 + 1))) else (none)) else (none))) else (some x7)
def cr4_digits.f (k : Nat) (a0 : Int) (a1 : Int) (a2 : Int) : Option (List Int) := if 0 ≤ a2 then (if (a2 : Int).toNat ≤ 35184372088832 then (cr4_digits.l0 k a0 a1 a2 (List.replicate (a2 : Int).toNat 0) 0) else (none)) else (none)
theorem cr4_digits.mono_l : ∀ k, (∀ y0 y1 y2 y3 y4, LeO (cr4_digits.l0 k y0 y1 y2 y3 y4) (cr4_digits.l0 (k + 1) y0 y1 y2 y3 y4))
 | 0 => fun _ _ _ _ _ r h => by simp [cr4_digits.l0] at h
 | k + 1 => by
  have ih0 := cr4_digits.mono_l k
  ·intro y0 y1 y2 y3 y4;unfold cr4_digits.l0
   repeat' first
   | (with_reducible exact ih0 _ _ _ _ _)
   | (with_reducible exact LeO.refl _)
   | (with_reducible exact LeO.none _)
   | (with_reducible refine LeO.ite ?_ ?_)
   | (with_reducible refine LeO.bind ?_ (fun _ => ?_))
   | exact ih0 _ _ _ _ _
   | exact LeO.none _
   | refine LeO.ite ?_ ?_
   | refine LeO.bind ?_ (fun _ => ?_)
theorem cr4_digits.mono : ∀ a0 a1 a2 k, LeO (cr4_digits.f k a0 a1 a2) (cr4_digits.f (k + 1) a0 a1 a2) := by
 intro a0 a1 a2 k;have ih0 := cr4_digits.mono_l k;unfold cr4_digits.f
 repeat' first
   | (with_reducible exact ih0 _ _ _ _ _)
   | (with_reducible exact LeO.refl _)
   | (with_reducible exact LeO.none _)
   | (with_reducible refine LeO.ite ?_ ?_)
   | (with_reducible refine LeO.bind ?_ (fun _ => ?_))
   | exact ih0 _ _ _ _ _
   | exact LeO.none _
   | refine LeO.ite ?_ ?_
   | refine LeO.bind ?_ (fun _ => ?_)
set_option maxHeartbeats 8000000 in
set_option maxRecDepth 100000 in
theorem cr4_digits.calls (k : Nat) (a0 : Int) (a1 : Int) (a2 : Int) (r : List Int) (w : World) (h : cr4_digits.f k a0 a1 a2 = some r) :
  Calls Try.prog 80 #[.int .i64 a0, .int .i64 a1, .int .i64 a2] w fun e w' => ∃ v0_ : Value, e = .returned (v0_) ∧ Kd.R (Kd.int .i64) 3 w' w.heap.size (fun _ => True) v0_ r ∧ Below w.heap.size w w' := by
 have HB := Ai0.mk (Below.refl w.heap.size w);have H : (if 0 ≤ a2 then (if (a2 : Int).toNat ≤ 35184372088832 then (cr4_digits.l0 k a0 a1 a2 (List.replicate (a2 : Int).toNat 0) 0) else (none)) else (none)) = some r := h;clear h;by_cases c4 : 0 ≤ a2
 ·rw [if_pos c4] at H;have c4b0 := eq_true c4;have c4b1 : decide (0 ≤ a2) = true := decide_eq_true c4;clear c4;by_cases c5 : (a2 : Int).toNat ≤ 35184372088832
  ·rw [if_pos c5] at H;have c5b0 := eq_true c5;have c5b1 : decide ((a2 : Int).toNat ≤ 35184372088832) = true := decide_eq_true c5;clear c5;obtain ⟨y163, hy163⟩ : ∃ y_ : List Int, y_ = (List.replicate (a2 : Int).toNat 0) := ⟨_, rfl⟩
   replace H : (cr4_digits.l0 k a0 a1 a2 y163 0) = some r := by first | (rw [hy163]; with_reducible exact H) | (have H2_ := (Option.bind_some _ _).symm.trans H; rw [hy163]; with_reducible exact H2_) | (have H2_ := (Option.bind_some _ _).symm.trans H; with_reducible exact H2_) | with_reducible exact H | (rw [hy163]; exact H) | exact H
   have Ny163 := Ai0.mk hy163;clear hy163;have H' := Ai0.mk H;clear H;go_enter Try.func80, Try.ntmps80
   go_wp2_with (first | ((with_reducible refine gate_dst (N := 10) rfl ?_); refine Kd.R_make (Kd.int .i64) _ 3 rfl (N := 10) rfl 25 _ _ rfl a2 rfl rfl Try.underlying25 (.int .i64 0) 8 info3 rfl (by decide) (by omega) 0 (ok := fun _ => True) (okp := fun _ => True) rfl (fun _ hk => hk) trivial od_ (Nat.le_trans (Nat.mul_le_mul_right _ (od_ : a2.toNat ≤ 35184372088832)) (by omega)) (Below.refl _ _) (Nat.le_refl _) ?_; intro v164 w6 ho7 hb hg_ hnew_; clear hg_ hnew_; (first | rw [← Ny163.out] at ho7 | (simp only [Int.reduceToNat] at ho7; rw [← Ny163.out] at ho7)); have n0_ := Ai0.mk (Kd.R_lower ho7 (bz1 bl_)); have n1_ := Ai0.mk (bt1 bl_ hb); clear HB; have HO165 := n0_; have HB := n1_; clear n0_ n1_; clear hb ho7))
   go_loopg [0, 8] k (fun kq v0 v8 w' => ∃ (x0_1 : Int) (x7_1 : List Int) (x8_1 : Int), v0 = .int .i64 x0_1 ∧ v8 = .int .i64 x8_1 ∧ Ai0 (cr4_digits.l0 kq x0_1 a1 a2 x7_1 x8_1 = some r) ∧ Ai0 (kq ≤ k) ∧ Ai0 (Kd.R (Kd.int .i64) 3 w' w.heap.size (fun _ => True) v164 x7_1) ∧ Ai0 (Below w.heap.size w w'))
   case atStart => exact ⟨(a0), (y163), (0), rf_, rf_, H', ⟨Nat.le_refl _⟩, ⟨kr_ HO165.out⟩, ⟨bl_⟩⟩
   case round =>
    clear H'
    try clear p2
    try clear c4
    try clear c4b0
    try clear c4b1
    try clear c5
    try clear c5b0
    try clear c5b1
    obtain ⟨x0_1, x7_1, x8_1, rfl, rfl, HA, HK1, HO_7, HB⟩ := hrel
    cases gk with
    | zero => exact absurd HA.out (by simp [cr4_digits.l0])
    | succ k1 =>
     have H := HA.out;clear HA;simp only [cr4_digits.l0] at H;by_cases c8 : x8_1 < a2
     ·rw [if_pos c8] at H;have c8b0 : decide (x8_1 < a2) = true := decide_eq_true c8;clear c8;by_cases c9 : a1 = 0
      ·rw [if_pos c9] at H;exact absurd H (by simp)
      ·rw [if_neg c9] at H;have c9b0 : (a1 == 0) = false := beq_eq_false_iff_ne.mpr c9;have c9b1 : (a1 != 0) = true := bne_iff_ne.mpr c9;by_cases c10 : 0 ≤ x8_1
       ·rw [if_pos c10] at H;have c10b0 : decide (0 ≤ x8_1) = true := decide_eq_true c10;clear c10;by_cases c11 : x8_1 < (x7_1.length : Int)
        ·rw [if_pos c11] at H;have c11b0 : decide (x8_1 < (x7_1.length : Int)) = true := decide_eq_true c11;clear c11;(obtain ⟨y166, hy166⟩ : ∃ y_ : List Int, y_ = (x7_1.set (x8_1 : Int).toNat (Int.tmod x0_1 a1)) := ⟨_, rfl⟩);(replace H : (cr4_digits.l0 k1 (wrap64 (Int.tdiv x0_1 a1)) a1 a2 y166 (wrap64 (x8_1 + 1))) = some r := by first | (rw [hy166]; with_reducible exact H) | (have H2_ := (Option.bind_some _ _).symm.trans H; rw [hy166]; with_reducible exact H2_) | (have H2_ := (Option.bind_some _ _).symm.trans H; with_reducible exact H2_) | with_reducible exact H | (rw [hy166]; exact H) | exact H);have Ny166 := Ai0.mk hy166;clear hy166;have H' := Ai0.mk H;clear H;have p12 : 0 ≤ (x8_1 : Int) := od_;have q12 : (x8_1 : Int) < ((x7_1.length : Int) : Int) := od_;obtain ⟨go12, co12, eo12, gb12, gl12, cl12, HG12⟩ := Kd.R_form HO_7.out (by omega);(first | cases eo12 | (injection eo12 with ea_ en_ ec_; (first | subst ea_ | (injection ea_ with ea_; subst ea_)); subst ec_; clear en_));have GB12 := Ai0.mk gb12;have GG12 := Ai0.mk HG12;clear gb12 gl12 HG12;obtain ⟨hx12_0, hf12_0⟩ := Kd.R_celln 0 HO_7.out (x8_1 : Int) p12 q12;replace p12 := eq_true p12;replace q12 := eq_true q12;have HP13 := Kd.R_putg HO_7.out (x8_1 : Int) (Int.tmod x0_1 a1)
         go_wp2_with (first | ((with_reducible refine gate_store (t := 3) (p := 21) rfl ?_); refine store_event (t := 3) (p := 21) (v := ?vo_w14) (w1 := (wr.setCell ⟨go12, (x8_1 : Int).toNat, none⟩ (.int .i64 (Int.tmod x0_1 a1)))) ?hg ?ho ?hn ?hr ?_; (case ho => rfl); (case hg => rfl); (case hn => rfl); (case hr => first | (go_simp; done) | (go_simp; rfl)); intro w14 hw; have hg : wr.grownBy w14 (some go12) := (by rw [hw]; exact HP13.2); have hp_ : Kd.R (Kd.int .i64) 3 w14 w.heap.size (fun _ => True) (.slice (some ⟨go12, 0, none⟩) x7_1.length co12) y166 := (by rw [hw, Ny166.out]; exact HP13.1); clear HP13; have n0_ := Ai0.mk (hp_); have n1_ := Ai0.mk ((by rw [hw]; exact bs1 (HB.out) GB12.out : Below w.heap.size w w14)); clear HO_7; clear HB; have HO_7 := n0_; have HB := n1_; clear n0_ n1_; clear hg hw hp_))
         go_roundg k1
         case measure => have := HK1.out; omega
         case rel => exact ⟨(wrap64 (Int.tdiv x0_1 a1)), (y166), (wrap64 (x8_1 + 1)), rf_, rf_, H', ⟨by have := HK1.out; omega⟩, ⟨kr_ HO_7.out⟩, ⟨bl_⟩⟩
        ·rw [if_neg c11] at H;exact absurd H (by simp)
       ·rw [if_neg c10] at H;exact absurd H (by simp)
     ·rw [if_neg c8] at H;have c8b0 : decide (x8_1 < a2) = false := decide_eq_false c8;clear c8;obtain rfl := Option.some.inj H
      go_wp2
      go_ret
      exact ⟨_, by first | rfl | (simp [eW0, eW1] <;> rfl) | (simp [*, eW0, eW1] <;> rfl), by (with_reducible repeat (first | apply Kd.Ra1 | apply Kd.Rn1 | apply Kd.Rd1)); exact HO_7.out, bl_⟩
  ·rw [if_neg c5] at H;exact absurd H (by simp)
 ·rw [if_neg c4] at H;exact absurd H (by simp)
mutual
def cr4_divides.l0 : Nat → List Int → Int → Int → List Int → Int → Option (Bool)
 | 0, _, _, _, _, _ => none
 | k + 1, x0, x2, x7, x8, x9 => if x9 ≥ x7 then (if 0 ≤ x9 then (if x9 < (x8.length : Int) then (cr4_divides.l1 k x0 x2 x7 x8 x9 (rd x8 x9) 0) else (none)) else (none)) else (cr4_divides.l2 k x8 0)
def cr4_divides.l1 : Nat → List Int → Int → Int → List Int → Int → Int → Int → Option (Bool)
 | 0, _, _, _, _, _, _, _ => none
 | k + 1, x0, x2, x7, x8, x9, x10, x11 => if x11 < x7 then (if 0 ≤ (wrap64 ((wrap64 (x9 - x7)) + x11)) then (if (wrap64 ((wrap64 (x9 - x7)) + x11)) < (x8.length : Int) then (if 0 ≤ x11 then (if x11 < (x0.length : Int) then (if x2 = 0 then (none) else (cr4_divides.l1 k x0 x2 x7 (x8.set ((wrap64 ((wrap64 (x9 - x7)) + x11)) : Int).toNat (Int.tmod (wrap64 ((rd x8 (wrap64 ((wrap64 (x9 - x7)) + x11))) + (wrap64 ((wrap64 (x2 - x10)) * (rd x0 x11))))) x2)) x9 x10 (wrap64 (x11 + 1)))) else (none)) else (none)) else (none)) else (none)) else (if 0 ≤ x9 then (if x9 < (x8.length : Int) then (cr4_divides.l0 k x0 x2 x7 (x8.set (x9 : Int).toNat 0) (wrap64 (x9 - 1))) else (none)) else (none))
def cr4_divides.l2 : Nat → List Int → Int → Option (Bool)
 | 0, _, _ => none
 | k + 1, x8, x12 => if x12 < (x8.length : Int) then (if 0 ≤ x12 then (if (rd x8 x12) = 0 then (cr4_divides.l2 k x8 (wrap64 (x12 + 1))) else (some false)) else (none)) else (some true)
end
def cr4_divides.f (k : Nat) (l0 : List Int) (l1 : List Int) (a2 : Int) : Option (Bool) := (some (([] : List Int) : List Int)).bind fun y167 => (if y167.length + l1.length < 17592186044416 then ((some (y167 ++ l1 : List Int)).bind fun y170 => (if y170.length < 17592186044416 then ((some (y170 ++ [1] : List Int)).bind fun y173 => (cr4_divides.l0 k l0 a2 (l0.length : Int) y173 (wrap64 ((y173.length : Int) - 1)))) else (none))) else (none))
theorem cr4_divides.mono_l : ∀ k, (∀ y0 y1 y2 y3 y4, LeO (cr4_divides.l0 k y0 y1 y2 y3 y4) (cr4_divides.l0 (k + 1) y0 y1 y2 y3 y4)) ∧ (∀ y0 y1 y2 y3 y4 y5 y6, LeO (cr4_divides.l1 k y0 y1 y2 y3 y4 y5 y6) (cr4_divides.l1 (k + 1) y0 y1 y2 y3 y4 y5 y6)) ∧ (∀ y0 y1, LeO (cr4_divides.l2 k y0 y1) (cr4_divides.l2 (k + 1) y0 y1))
 | 0 => ⟨fun _ _ _ _ _ r h => by simp [cr4_divides.l0] at h, fun _ _ _ _ _ _ _ r h => by simp [cr4_divides.l1] at h, fun _ _ r h => by simp [cr4_divides.l2] at h⟩
 | k + 1 => by
  obtain ⟨ih0, ih1, ih2⟩ := cr4_divides.mono_l k;refine ⟨?_, ?_, ?_⟩
  ·intro y0 y1 y2 y3 y4;unfold cr4_divides.l0
   repeat' first
   | (with_reducible exact ih0 _ _ _ _ _)
   | (with_reducible exact ih1 _ _ _ _ _ _ _)
   | (with_reducible exact ih2 _ _)
   | (with_reducible exact LeO.refl _)
   | (with_reducible exact LeO.none _)
   | (with_reducible refine LeO.ite ?_ ?_)
   | (with_reducible refine LeO.bind ?_ (fun _ => ?_))
   | exact ih0 _ _ _ _ _
   | exact ih1 _ _ _ _ _ _ _
   | exact ih2 _ _
   | exact LeO.none _
   | refine LeO.ite ?_ ?_
   | refine LeO.bind ?_ (fun _ => ?_)
  ·intro y0 y1 y2 y3 y4 y5 y6;unfold cr4_divides.l1
   repeat' first
   | (with_reducible exact ih0 _ _ _ _ _)
   | (with_reducible exact ih1 _ _ _ _ _ _ _)
   | (with_reducible exact ih2 _ _)
   | (with_reducible exact LeO.refl _)
   | (with_reducible exact LeO.none _)
   | (with_reducible refine LeO.ite ?_ ?_)
   | (with_reducible refine LeO.bind ?_ (fun _ => ?_))
   | exact ih0 _ _ _ _ _
   | exact ih1 _ _ _ _ _ _ _
   | exact ih2 _ _
   | exact LeO.none _
   | refine LeO.ite ?_ ?_
   | refine LeO.bind ?_ (fun _ => ?_)
  ·intro y0 y1;unfold cr4_divides.l2
   repeat' first
   | (with_reducible exact ih0 _ _ _ _ _)
   | (with_reducible exact ih1 _ _ _ _ _ _ _)
   | (with_reducible exact ih2 _ _)
   | (with_reducible exact LeO.refl _)
   | (with_reducible exact LeO.none _)
   | (with_reducible refine LeO.ite ?_ ?_)
   | (with_reducible refine LeO.bind ?_ (fun _ => ?_))
   | exact ih0 _ _ _ _ _
   | exact ih1 _ _ _ _ _ _ _
   | exact ih2 _ _
   | exact LeO.none _
   | refine LeO.ite ?_ ?_
   | refine LeO.bind ?_ (fun _ => ?_)
theorem cr4_divides.mono : ∀ a0 a1 a2 k, LeO (cr4_divides.f k a0 a1 a2) (cr4_divides.f (k + 1) a0 a1 a2) := by
 intro a0 a1 a2 k;obtain ⟨ih0, ih1, ih2⟩ := cr4_divides.mono_l k;unfold cr4_divides.f
 repeat' first
   | (with_reducible exact ih0 _ _ _ _ _)
   | (with_reducible exact ih1 _ _ _ _ _ _ _)
   | (with_reducible exact ih2 _ _)
   | (with_reducible exact LeO.refl _)
   | (with_reducible exact LeO.none _)
   | (with_reducible refine LeO.ite ?_ ?_)
   | (with_reducible refine LeO.bind ?_ (fun _ => ?_))
   | exact ih0 _ _ _ _ _
   | exact ih1 _ _ _ _ _ _ _
   | exact ih2 _ _
   | exact LeO.none _
   | refine LeO.ite ?_ ?_
   | refine LeO.bind ?_ (fun _ => ?_)
def cr4_divides.T11 : Bool × List (List Nat × List Nat) := (true, [([], []), ([], []), ([], []), ([1, 2], [1, 2]), ([], []), ([3, 4], [3, 4]), ([], []), ([], []), ([], []), ([7, 8], [7, 8]), ([], []), ([9, 10], [9, 10]), ([6, 11], [6, 11]), ([12], [12]), ([], []), ([], []), ([14, 15], [14, 15]), ([], []), ([], []), ([17, 18], [17, 18]), ([19], [19]), ([16, 20], [16, 20]), ([13, 21], [13, 21]), ([], []), ([22, 23], [22, 23]), ([0, 5, 0, 1, 2, 3, 4, 5, 6, 7, 8, 9, 10, 11, 12, 13, 14, 15, 16, 17, 18, 19, 20, 21, 22, 23, 24], [0, 5]), ([25, 24, 0, 1, 2, 3, 4, 5, 6, 7, 8, 9, 10, 11, 12, 13, 14, 15, 16, 17, 18, 19, 20, 21, 22, 23, 24], [24, 25])])
def cr4_divides.B11 : List Nat := [0, 0, 0, 6, 0, 30, 0, 0, 0, 384, 0, 1920, 4032, 8128, 0, 0, 49152, 0, 0, 393216, 917504, 2080768, 4194240, 0, 16777152, 33554431, 67108863]
theorem cr4_divides.tab11 : rtab .any (opsOf Try.f82 11) = cr4_divides.T11 := by kernel_rfl
theorem cr4_divides.bits11 : waitsOk cr4_divides.T11.2 cr4_divides.B11 = true := by kernel_rfl
set_option maxHeartbeats 8000000 in
set_option maxRecDepth 100000 in
theorem cr4_divides.calls (k : Nat) (A0 : Option Addr) (c0 : Nat) (l0 : List Int) (A1 : Option Addr) (c1 : Nat) (l1 : List Int) (a2 : Int) (r : Bool) (w : World) (hr0 : Kd.C (Kd.int .i64) w A0 l0.length l0) (hc0 : l0.length ≤ c0) (hr1 : Kd.C (Kd.int .i64) w A1 l1.length l1) (hc1 : l1.length ≤ c1) (h : cr4_divides.f k l0 l1 a2 = some r) :
  Calls Try.prog 82 #[.slice A0 l0.length c0, .slice A1 l1.length c1, .int .i64 a2] w fun e w' => e = .returned (.bool r) ∧ Below w.heap.size w w' := by
 have HR0 := Ai0.mk hr0;have HC0 := Ai0.mk hc0;clear hr0 hc0;have HR1 := Ai0.mk hr1;have HC1 := Ai0.mk hc1;clear hr1 hc1;have HB := Ai0.mk (Below.refl w.heap.size w);have H : ((some (([] : List Int) : List Int)).bind fun y167 => (if y167.length + l1.length < 17592186044416 then ((some (y167 ++ l1 : List Int)).bind fun y170 => (if y170.length < 17592186044416 then ((some (y170 ++ [1] : List Int)).bind fun y173 => (cr4_divides.l0 k l0 a2 (l0.length : Int) y173 (wrap64 ((y173.length : Int) - 1)))) else (none))) else (none))) = some r := h;clear h;obtain ⟨y167, hy167⟩ : ∃ y_ : List Int, y_ = (([] : List Int)) := ⟨_, rfl⟩
 replace H : (if y167.length + l1.length < 17592186044416 then ((some (y167 ++ l1 : List Int)).bind fun y170 => (if y170.length < 17592186044416 then ((some (y170 ++ [1] : List Int)).bind fun y173 => (cr4_divides.l0 k l0 a2 (l0.length : Int) y173 (wrap64 ((y173.length : Int) - 1)))) else (none))) else (none)) = some r := by first | (rw [hy167]; with_reducible exact H) | (have H2_ := (Option.bind_some _ _).symm.trans H; rw [hy167]; with_reducible exact H2_) | (have H2_ := (Option.bind_some _ _).symm.trans H; with_reducible exact H2_) | with_reducible exact H | (rw [hy167]; exact H) | exact H
 have Ny167 := Ai0.mk hy167;clear hy167;by_cases c4 : y167.length + l1.length < 17592186044416
 ·rw [if_pos c4] at H;have LMc4 := Ai0.mk c4;clear c4;obtain ⟨y170, hy170⟩ : ∃ y_ : List Int, y_ = (y167 ++ l1) := ⟨_, rfl⟩
  replace H : (if y170.length < 17592186044416 then ((some (y170 ++ [1] : List Int)).bind fun y173 => (cr4_divides.l0 k l0 a2 (l0.length : Int) y173 (wrap64 ((y173.length : Int) - 1)))) else (none)) = some r := by first | (rw [hy170]; with_reducible exact H) | (have H2_ := (Option.bind_some _ _).symm.trans H; rw [hy170]; with_reducible exact H2_) | (have H2_ := (Option.bind_some _ _).symm.trans H; with_reducible exact H2_) | with_reducible exact H | (rw [hy170]; exact H) | exact H
  have Ny170 := Ai0.mk hy170;clear hy170;by_cases c5 : y170.length < 17592186044416
  ·rw [if_pos c5] at H;have LMc5 := Ai0.mk c5;clear c5;obtain ⟨y173, hy173⟩ : ∃ y_ : List Int, y_ = (y170 ++ [1]) := ⟨_, rfl⟩
   replace H : (cr4_divides.l0 k l0 a2 (l0.length : Int) y173 (wrap64 ((y173.length : Int) - 1))) = some r := by first | (rw [hy173]; with_reducible exact H) | (have H2_ := (Option.bind_some _ _).symm.trans H; rw [hy173]; with_reducible exact H2_) | (have H2_ := (Option.bind_some _ _).symm.trans H; with_reducible exact H2_) | with_reducible exact H | (rw [hy173]; exact H) | exact H
   have Ny173 := Ai0.mk hy173;clear hy173;have H' := Ai0.mk H;clear H;go_enter Try.func82, Try.ntmps82
   go_wp2_with (first | ((with_reducible refine gate_dst (N := 15) rfl ?_); refine Kd.R_lit (Kd.int .i64) _ 3 ?hg (N := 15) ?hd (xs := ([] : List Int)) (inner := []) (ok := fun _ => True) (okp := fun _ => True) ?hr ?hp (fun _ hk => hk) trivial (Below.refl _ _) (Nat.le_refl _) (by simp) ?_; (case hd => rfl); (case hg => rfl); (case hr => first | (go_simp; done) | (go_simp; rfl)); (case hp => exact (Reps.none _ _)); intro v168 w6 ho7 hb hg_ hnew_; clear hg_ hnew_; (first | rw [← Ny167.out] at ho7 | (simp only [Int.reduceToNat] at ho7; rw [← Ny167.out] at ho7)); have n0_ := Ai0.mk (Kd.R_lower ho7 (bz1 bl_)); have n1_ := Ai0.mk (bt1 bl_ hb); clear HB; have HO169 := n0_; have HB := n1_; clear n0_ n1_; clear hb ho7) | ((with_reducible refine gate_builtin (b := .append) (xs := #[.tmp 15, .tmp 16]) rfl ?_); at_builtin; refine Kd.R_append_rows (Kd.int .i64) (w0 := w) w.heap.size rfl (.tmp 15) (.tmp 16) 25 3 (.int .i64 0) 8 rfl Try.underlying25 info3 rfl (by decide) (by omega) v168 y167 l1 _ _ _ (fun _ => True) (fun _ => False) rfl rfl ?aO ?aR (fun _ _ h => h) (fun _ h => h.elim) ?aF ?aB ?aS ?aL ?_; (case aR => exact kc_ HR1.out); (case aB => exact bl_); (case aF => exact (fun _ _ => trivial)); (case aO => exact (kr_ HO169.out)); (case aS => exact (bz1 bl_)); (case aL => have := LMc4.out; omega); intro v171 w8 ho hb hg hat; rw [← Ny170.out] at ho; have n0_ := Ai0.mk (hb); have n1_ := Ai0.mk (ho); clear HB; clear HO169; have HB := n0_; have HO172 := n1_; clear n0_ n1_; clear ho hb hg hat) | ((with_reducible refine gate_builtin (b := .append) (xs := #[.tmp 18, .tmp 19]) rfl ?_); at_builtin; refine Kd.R_append (Kd.int .i64) (w0 := w) w.heap.size rfl (.tmp 18) (.tmp 19) 25 3 (.int .i64 0) 8 rfl Try.underlying25 info3 rfl (by decide) (by omega) v171 y170 1 [.int .i64 1] (fun _ => True) (fun _ => False) rfl rfl ?aP (fun _ hk => hk.elim) ?aF ?aO ?aB ?aS ?aL ?_; (case aP => exact rfl); (case aB => exact bl_); (case aF => exact (fun _ _ => trivial)); (case aO => exact (kr_ HO172.out)); (case aS => exact (bz1 bl_)); (case aL => have := LMc5.out; omega); intro v174 w9 ho hb hg hat; rw [← Ny173.out] at ho; have n0_ := Ai0.mk (hb); have n1_ := Ai0.mk (ho); clear HB; clear HO172; have HB := n0_; have HO175 := n1_; clear n0_ n1_; clear ho hb hg hat; obtain ⟨Ao10, co10, eo10⟩ := Kd.R_slice HO175.out; subst eo10))
   go_loopg [9] k (fun kq v9 w' => ∃ (x8_1 : List Int) (x9_1 : Int), v9 = .int .i64 x9_1 ∧ Ai0 (cr4_divides.l0 kq l0 a2 (l0.length : Int) x8_1 x9_1 = some r) ∧ Ai0 (kq ≤ k) ∧ Ai0 (Kd.R (Kd.int .i64) 3 w' w.heap.size (fun _ => True) (.slice Ao10 y173.length co10) x8_1) ∧ Ai0 (Below w.heap.size w w'))
   case atStart => exact ⟨(y173), (wrap64 ((y173.length : Int) - 1)), rf_, H', ⟨Nat.le_refl _⟩, ⟨kr_ HO175.out⟩, ⟨bl_⟩⟩
   case round =>
    clear H'
    try clear c1
    try clear p2
    try clear c4
    try clear c5
    try clear p6
    try clear c8
    obtain ⟨x8_1, x9_1, rfl, HA, HK1, HO_8, HB⟩ := hrel;have hl8_1 := (Kd.R_reads' HO_8.out).1;rw [hl8_1] at HO_8;(try simp only [hl8_1])
    cases gk with
    | zero => exact absurd HA.out (by simp [cr4_divides.l0])
    | succ k1 =>
     have H := HA.out;clear HA;simp only [cr4_divides.l0] at H;by_cases c11 : x9_1 ≥ (l0.length : Int)
     ·rw [if_pos c11] at H;have c11b0 : decide ((l0.length : Int) ≤ x9_1) = true := decide_eq_true c11;(try (have c11b0h0 := c11b0; simp only [hl8_1] at c11b0h0));clear c11;by_cases c12 : 0 ≤ x9_1
      ·rw [if_pos c12] at H;have c12b0 : decide (0 ≤ x9_1) = true := decide_eq_true c12;clear c12;by_cases c13 : x9_1 < (x8_1.length : Int)
       ·rw [if_pos c13] at H;have c13b0 : decide (x9_1 < (x8_1.length : Int)) = true := decide_eq_true c13;(try (have c13b0h0 := c13b0; simp only [hl8_1] at c13b0h0));clear c13;have H' := Ai0.mk H;clear H;have p176 : 0 ≤ (x9_1 : Int) := od_;have q176 : x9_1 < (x8_1.length : Int) := od_;obtain ⟨ad176, e176, hx176_0⟩ := Kd.at_int (Kd.R_reads' HO_8.out).2.2 x9_1 p176 q176;cases e176;replace p176 := eq_true p176;replace q176 := eq_true q176
        go_wp2
        go_loopg [11] k1 (fun kq v11 w' => ∃ (x8_2 : List Int) (x11_2 : Int), v11 = .int .i64 x11_2 ∧ Ai0 (cr4_divides.l1 kq l0 a2 (l0.length : Int) x8_2 x9_1 (rd x8_1 x9_1) x11_2 = some r) ∧ Ai0 (kq ≤ k1) ∧ Ai0 (Kd.R (Kd.int .i64) 3 w' w.heap.size (fun _ => True) (.slice (some ad176) x8_1.length co10) x8_2) ∧ Ai0 (Below w.heap.size w w'))
        case atStart => exact ⟨(x8_1), (0), rf_, H', ⟨Nat.le_refl _⟩, ⟨by (try simp only [hl8_1]); (with_reducible repeat (first | apply Kd.Ra1 | apply Kd.Rn1 | apply Kd.Rd1)); exact HO_8.out⟩, ⟨bl_⟩⟩
        case round =>
         clear H'
         try clear c1
         try clear p1
         try clear q1
         try clear hx1
         try clear p2
         try clear c4
         try clear c5
         try clear p6
         try clear c8
         try clear c11
         try clear c11b0
         try clear c12
         try clear c12b0
         try clear c13
         try clear c13b0
         try clear hx176_0
         try clear p176
         try clear p2
         try clear p6
         try clear q176
         obtain ⟨x8_2, x11_2, rfl, HA, HK2, HO_8, HB⟩ := hrel;have hl8_2 := (Kd.R_reads' HO_8.out).1;rw [hl8_2] at HO_8;(try simp only [hl8_2])
         cases gk with
         | zero => exact absurd HA.out (by simp [cr4_divides.l1])
         | succ k2 =>
          have H := HA.out;clear HA;simp only [cr4_divides.l1] at H;by_cases c14 : x11_2 < (l0.length : Int)
          ·rw [if_pos c14] at H;have c14b0 : decide (x11_2 < (l0.length : Int)) = true := decide_eq_true c14;(try (have c14b0h0 := c14b0; simp only [hl8_1] at c14b0h0));(try (have c14b0h1 := c14b0; simp only [hl8_2] at c14b0h1));clear c14;(obtain ⟨ji15, hji15⟩ : ∃ j_ : Int, (wrap64 ((wrap64 (x9_1 - (l0.length : Int))) + x11_2)) = j_ := ⟨_, rfl⟩);(replace H : (if 0 ≤ (ji15) then (if (ji15) < (x8_2.length : Int) then (if 0 ≤ x11_2 then (if x11_2 < (l0.length : Int) then (if a2 = 0 then (none) else (cr4_divides.l1 k2 l0 a2 (l0.length : Int) (x8_2.set ((ji15) : Int).toNat (Int.tmod (wrap64 ((rd x8_2 (ji15)) + (wrap64 ((wrap64 (a2 - (rd x8_1 x9_1))) * (rd l0 x11_2))))) a2)) x9_1 (rd x8_1 x9_1) (wrap64 (x11_2 + 1)))) else (none)) else (none)) else (none)) else (none)) = some r := by first | (rw [hji15] at H; exact H) | (simp only [hji15] at H ⊢; exact H));have hji15w : (IntKind.i64.wrap ((wrap64 (x9_1 - (l0.length : Int))) + x11_2)) = ji15 := (i64_w _).trans hji15;by_cases c16 : 0 ≤ (ji15)
           ·rw [if_pos c16] at H;have c16b0 : decide (0 ≤ (ji15)) = true := decide_eq_true c16;clear c16;by_cases c17 : (ji15) < (x8_2.length : Int)
            ·rw [if_pos c17] at H;have c17b0 : decide ((ji15) < (x8_2.length : Int)) = true := decide_eq_true c17;(try (have c17b0h0 := c17b0; simp only [hl8_1] at c17b0h0));(try (have c17b0h1 := c17b0; simp only [hl8_2] at c17b0h1));clear c17;by_cases c18 : 0 ≤ x11_2
             ·rw [if_pos c18] at H;have c18b0 : decide (0 ≤ x11_2) = true := decide_eq_true c18;clear c18;by_cases c19 : x11_2 < (l0.length : Int)
              ·rw [if_pos c19] at H;have c19b0 : decide (x11_2 < (l0.length : Int)) = true := decide_eq_true c19;(try (have c19b0h0 := c19b0; simp only [hl8_1] at c19b0h0));(try (have c19b0h1 := c19b0; simp only [hl8_2] at c19b0h1));clear c19;by_cases c20 : a2 = 0
               ·rw [if_pos c20] at H;exact absurd H (by simp)
               ·rw [if_neg c20] at H;have c20b0 : (a2 == 0) = false := beq_eq_false_iff_ne.mpr c20;have c20b1 : (a2 != 0) = true := bne_iff_ne.mpr c20;(obtain ⟨y179, hy179⟩ : ∃ y_ : List Int, y_ = (x8_2.set ((ji15) : Int).toNat (Int.tmod (wrap64 ((rd x8_2 (ji15)) + (wrap64 ((wrap64 (a2 - (rd x8_1 x9_1))) * (rd l0 x11_2))))) a2)) := ⟨_, rfl⟩);(replace H : (cr4_divides.l1 k2 l0 a2 (l0.length : Int) y179 x9_1 (rd x8_1 x9_1) (wrap64 (x11_2 + 1))) = some r := by first | (rw [hy179]; with_reducible exact H) | (have H2_ := (Option.bind_some _ _).symm.trans H; rw [hy179]; with_reducible exact H2_) | (have H2_ := (Option.bind_some _ _).symm.trans H; with_reducible exact H2_) | with_reducible exact H | (rw [hy179]; exact H) | exact H);have Ny179 := Ai0.mk hy179;clear hy179;have H' := Ai0.mk H;clear H
                try go_wp2
                have n0_ := Ai0.mk (Kd.Rd1 HO_8.out);have n1_ := Ai0.mk (bw1 HB.out);clear HO_8;clear HB;have HO_8 := n0_;have HB := n1_;clear n0_ n1_;have p177 : 0 ≤ ((ji15) : Int) := od_;have q177 : (ji15) < (x8_2.length : Int) := od_;obtain ⟨ad177, e177, hx177_0⟩ := Kd.at_int (Kd.R_reads' HO_8.out).2.2 (ji15) p177 q177;obtain rfl : ad176 = ad177 := (by injection e177);replace p177 := eq_true p177;replace q177 := eq_true q177;have p178 : 0 ≤ (x11_2 : Int) := od_;have q178 : x11_2 < (l0.length : Int) := od_;obtain ⟨ad178, e178, hx178_0⟩ := Kd.at_int HR0.out x11_2 p178 q178;have hw178_0 := hx178_0;cases e178;replace hx178_0 := (HB.out.cell (World.block_lt_of_cell? w _ hx178_0)).trans hx178_0;replace p178 := eq_true p178;replace q178 := eq_true q178;have p21 : 0 ≤ ((ji15) : Int) := od_;have q21 : ((ji15) : Int) < ((x8_2.length : Int) : Int) := od_;obtain ⟨go21, co21, eo21, gb21, gl21, cl21, HG21⟩ := Kd.R_form HO_8.out (by omega);(first | cases eo21 | (injection eo21 with ea_ en_ ec_; (first | subst ea_ | (injection ea_ with ea_; subst ea_)); subst ec_; clear en_));have GB21 := Ai0.mk gb21;have GG21 := Ai0.mk HG21;clear gb21 gl21 HG21;(first | simp only [add_plain] at hx176_0 | skip);(first | simp only [add_plain] at hx177_0 | skip);obtain ⟨hx21_0, hf21_0⟩ := Kd.R_celln 0 HO_8.out ((ji15) : Int) p21 q21;replace p21 := eq_true p21;replace q21 := eq_true q21;have HP23 := Kd.R_putn HO_8.out ((ji15) : Int) (Int.tmod (wrap64 ((rd x8_2 (ji15)) + (wrap64 ((wrap64 (a2 - (rd x8_1 x9_1))) * (rd l0 x11_2))))) a2);rw [← Ny179.out] at HP23;have HQ23 := Ai0.mk HP23;clear HP23;refine start_ (n := 27) (S := fun w' => w'.cell? ⟨go21, ((ji15)).toNat, none⟩ = some (.int .i64 (rd x8_2 (ji15))) ∧ w'.cell? (ad178.add (x11_2).toNat) = some (.int .i64 (rd l0 x11_2))) (ds := [26]) #[false, false, false, false, false, false, false, false, false, false, false, false, false, false, false, false, false, false, false, false, false, false, false, false, false, false, false] (by kernel_rfl) rfl rfl ⟨hx177_0, ((HB.out.cell (World.block_lt_of_cell? w _ hw178_0)).trans hw178_0)⟩ (fun hHeld => ?_); refine with_tabW cr4_divides.tab11 cr4_divides.bits11 (fun HT_ HW_ => ?_);(generalize wr.drew = w22 at HO_8 HB GG21 HQ23 hf21_0 hx177_0 hx178_0 hx21_0 hHeld ⊢);refine pure_ (i := 0) (N := some 38) (v := ?_) (a' := ?_) #[true, false, false, false, false, false, false, false, false, false, false, false, false, false, false, false, false, false, false, false, false, false, false, false, false, false, false] rfl rfl (any_of HT_.out (by kernel_rfl)) (fun _ _ _ h => h) (Or.inl ⟨by rfl, ?_⟩) ?_ ?_;rotate_left
                ·intro w';go_simp
                 with_reducible rfl
                rotate_left
                ·simp only [Act.put, l01_, l02_, l03_, i64_w, i32_w]
                 rfl
                refine pure_ (i := 1) (N := some 39) (v := ?_) (a' := ?_) #[true, true, false, false, false, false, false, false, false, false, false, false, false, false, false, false, false, false, false, false, false, false, false, false, false, false, false] rfl rfl (any_of HT_.out (by kernel_rfl)) (fun _ _ _ h => h) (Or.inl ⟨by rfl, ?_⟩) ?_ ?_;rotate_left
                ·intro w';go_simp
                 with_reducible rfl
                rotate_left
                ·simp only [Act.put, l01_, l02_, l03_, i64_w, i32_w]
                 rfl
                refine pure_ (i := 2) (N := some 40) (v := ?_) (a' := ?_) #[true, true, true, false, false, false, false, false, false, false, false, false, false, false, false, false, false, false, false, false, false, false, false, false, false, false, false] rfl rfl (any_of HT_.out (by kernel_rfl)) (fun _ _ _ h => h) (Or.inl ⟨by rfl, ?_⟩) ?_ ?_;rotate_left
                ·intro w';go_simp
                 with_reducible rfl
                rotate_left
                ·simp only [Act.put, l01_, l02_, l03_, i64_w, i32_w]
                 rfl
                refine pure_ (i := 3) (N := some 41) (v := ?_) (a' := ?_) #[true, true, true, true, false, false, false, false, false, false, false, false, false, false, false, false, false, false, false, false, false, false, false, false, false, false, false] rfl rfl (any_of HT_.out (by kernel_rfl)) (fun _ _ _ h => h) (Or.inl ⟨by rfl, ?_⟩) ?_ ?_;rotate_left
                ·intro w';go_simp
                 with_reducible rfl
                rotate_left
                ·simp only [Act.put, l01_, l02_, l03_, i64_w, i32_w]
                 rfl
                refine pure_ (i := 4) (N := some 42) (v := ?_) (a' := ?_) #[true, true, true, true, true, false, false, false, false, false, false, false, false, false, false, false, false, false, false, false, false, false, false, false, false, false, false] rfl rfl (any_of HT_.out (by kernel_rfl)) (fun _ _ _ h => h) (Or.inl ⟨by rfl, ?_⟩) ?_ ?_;rotate_left
                ·intro w';go_simp
                 with_reducible rfl
                rotate_left
                ·simp only [Act.put, l01_, l02_, l03_, i64_w, i32_w]
                 rfl
                refine pure_ (i := 5) (N := some 43) (v := ?_) (a' := ?_) #[true, true, true, true, true, true, false, false, false, false, false, false, false, false, false, false, false, false, false, false, false, false, false, false, false, false, false] rfl rfl (any_of HT_.out (by kernel_rfl)) (fun _ _ _ h => h) (Or.inl ⟨by rfl, ?_⟩) ?_ ?_;rotate_left
                ·intro w';go_simp
                 with_reducible rfl
                rotate_left
                ·simp only [Act.put, l01_, l02_, l03_, i64_w, i32_w]
                 rfl
                refine pure_ (i := 6) (N := some 44) (v := ?_) (a' := ?_) #[true, true, true, true, true, true, true, false, false, false, false, false, false, false, false, false, false, false, false, false, false, false, false, false, false, false, false] rfl rfl (any_of HT_.out (by kernel_rfl)) (fun _ _ _ h => h) (Or.inl ⟨by rfl, ?_⟩) ?_ ?_;rotate_left
                ·intro w';go_simp
                 with_reducible rfl
                rotate_left
                ·simp only [Act.put, l01_, l02_, l03_, i64_w, i32_w]
                 rfl
                refine pure_ (i := 7) (N := some 45) (v := ?_) (a' := ?_) #[true, true, true, true, true, true, true, true, false, false, false, false, false, false, false, false, false, false, false, false, false, false, false, false, false, false, false] rfl rfl (any_of HT_.out (by kernel_rfl)) (fun _ _ _ h => h) (Or.inl ⟨by rfl, ?_⟩) ?_ ?_;rotate_left
                ·intro w';go_simp
                 with_reducible rfl
                rotate_left
                ·simp only [Act.put, l01_, l02_, l03_, i64_w, i32_w]
                 rfl
                refine pure_ (i := 8) (N := some 46) (v := ?_) (a' := ?_) #[true, true, true, true, true, true, true, true, true, false, false, false, false, false, false, false, false, false, false, false, false, false, false, false, false, false, false] rfl rfl (any_of HT_.out (by kernel_rfl)) (fun _ _ _ h => h) (Or.inl ⟨by rfl, ?_⟩) ?_ ?_;rotate_left
                ·intro w';go_simp
                 with_reducible rfl
                rotate_left
                ·simp only [Act.put, l01_, l02_, l03_, i64_w, i32_w]
                 rfl
                refine pure_ (i := 9) (N := some 47) (v := ?_) (a' := ?_) #[true, true, true, true, true, true, true, true, true, true, false, false, false, false, false, false, false, false, false, false, false, false, false, false, false, false, false] rfl rfl (any_of HT_.out (by kernel_rfl)) (fun _ _ _ h => h) (Or.inl ⟨by rfl, ?_⟩) ?_ ?_;rotate_left
                ·intro w';go_simp
                 with_reducible rfl
                rotate_left
                ·simp only [Act.put, l01_, l02_, l03_, i64_w, i32_w]
                 rfl
                refine pure_ (i := 10) (N := some 48) (v := ?_) (a' := ?_) #[true, true, true, true, true, true, true, true, true, true, true, false, false, false, false, false, false, false, false, false, false, false, false, false, false, false, false] rfl rfl (any_of HT_.out (by kernel_rfl)) (fun _ _ _ h => h) (Or.inl ⟨by rfl, ?_⟩) ?_ ?_;rotate_left
                ·intro w';go_simp
                 with_reducible rfl
                rotate_left
                ·simp only [Act.put, l01_, l02_, l03_, i64_w, i32_w]
                 rfl
                refine pure_ (i := 11) (N := some 49) (v := ?_) (a' := ?_) #[true, true, true, true, true, true, true, true, true, true, true, true, false, false, false, false, false, false, false, false, false, false, false, false, false, false, false] rfl rfl (any_of HT_.out (by kernel_rfl)) (fun _ _ _ h => h) (Or.inl ⟨by rfl, ?_⟩) ?_ ?_;rotate_left
                ·intro w';go_simp
                 with_reducible rfl
                rotate_left
                ·simp only [Act.put, l01_, l02_, l03_, i64_w, i32_w]
                 rfl
                refine pure_ (i := 12) (N := some 50) (v := ?_) (a' := ?_) #[true, true, true, true, true, true, true, true, true, true, true, true, true, false, false, false, false, false, false, false, false, false, false, false, false, false, false] rfl rfl (any_of HT_.out (by kernel_rfl)) (fun _ _ _ h => h) (Or.inl ⟨by rfl, ?_⟩) ?_ ?_;rotate_left
                ·intro w';go_simp
                 with_reducible rfl
                rotate_left
                ·simp only [Act.put, l01_, l02_, l03_, i64_w, i32_w]
                 rfl
                refine pure_ (i := 14) (N := some 52) (v := ?_) (a' := ?_) #[true, true, true, true, true, true, true, true, true, true, true, true, true, false, true, false, false, false, false, false, false, false, false, false, false, false, false] rfl rfl (any_of HT_.out (by kernel_rfl)) (fun _ _ _ h => h) (Or.inl ⟨by rfl, ?_⟩) ?_ ?_;rotate_left
                ·intro w';go_simp
                 with_reducible rfl
                rotate_left
                ·simp only [Act.put, l01_, l02_, l03_, i64_w, i32_w]
                 rfl
                refine pure_ (i := 15) (N := some 53) (v := ?_) (a' := ?_) #[true, true, true, true, true, true, true, true, true, true, true, true, true, false, true, true, false, false, false, false, false, false, false, false, false, false, false] rfl rfl (any_of HT_.out (by kernel_rfl)) (fun _ _ _ h => h) (Or.inl ⟨by rfl, ?_⟩) ?_ ?_;rotate_left
                ·intro w';go_simp
                 with_reducible rfl
                rotate_left
                ·simp only [Act.put, l01_, l02_, l03_, i64_w, i32_w]
                 rfl
                refine pure_ (i := 16) (N := some 54) (v := ?_) (a' := ?_) #[true, true, true, true, true, true, true, true, true, true, true, true, true, false, true, true, true, false, false, false, false, false, false, false, false, false, false] rfl rfl (any_of HT_.out (by kernel_rfl)) (fun _ _ _ h => h) (Or.inl ⟨by rfl, ?_⟩) ?_ ?_;rotate_left
                ·intro w';go_simp
                 with_reducible rfl
                rotate_left
                ·simp only [Act.put, l01_, l02_, l03_, i64_w, i32_w]
                 rfl
                refine pure_ (i := 17) (N := some 55) (v := ?_) (a' := ?_) #[true, true, true, true, true, true, true, true, true, true, true, true, true, false, true, true, true, true, false, false, false, false, false, false, false, false, false] rfl rfl (any_of HT_.out (by kernel_rfl)) (fun _ _ _ h => h) (Or.inl ⟨by rfl, ?_⟩) ?_ ?_;rotate_left
                ·intro w';go_simp
                 with_reducible rfl
                rotate_left
                ·simp only [Act.put, l01_, l02_, l03_, i64_w, i32_w]
                 rfl
                refine pure_ (i := 18) (N := some 56) (v := ?_) (a' := ?_) #[true, true, true, true, true, true, true, true, true, true, true, true, true, false, true, true, true, true, true, false, false, false, false, false, false, false, false] rfl rfl (any_of HT_.out (by kernel_rfl)) (fun _ _ _ h => h) (Or.inl ⟨by rfl, ?_⟩) ?_ ?_;rotate_left
                ·intro w';go_simp
                 with_reducible rfl
                rotate_left
                ·simp only [Act.put, l01_, l02_, l03_, i64_w, i32_w]
                 rfl
                refine pure_ (i := 19) (N := some 57) (v := ?_) (a' := ?_) #[true, true, true, true, true, true, true, true, true, true, true, true, true, false, true, true, true, true, true, true, false, false, false, false, false, false, false] rfl rfl (any_of HT_.out (by kernel_rfl)) (fun _ _ _ h => h) (Or.inl ⟨by rfl, ?_⟩) ?_ ?_;rotate_left
                ·intro w';go_simp
                 with_reducible rfl
                rotate_left
                ·simp only [Act.put, l01_, l02_, l03_, i64_w, i32_w]
                 rfl
                refine pure_ (i := 23) (N := some 61) (v := ?_) (a' := ?_) #[true, true, true, true, true, true, true, true, true, true, true, true, true, false, true, true, true, true, true, true, false, false, false, true, false, false, false] rfl rfl (any_of HT_.out (by kernel_rfl)) (fun _ _ _ h => h) (Or.inl ⟨by rfl, ?_⟩) ?_ ?_;rotate_left
                ·intro w';go_simp
                 with_reducible rfl
                rotate_left
                ·simp only [Act.put, l01_, l02_, l03_, i64_w, i32_w]
                 rfl
                refine take_ (i := 13) (N := some 51) (v := ?_) (a' := ?_) #[true, true, true, true, true, true, true, true, true, true, true, true, true, true, true, true, true, true, true, true, false, false, false, true, false, false, false] rfl rfl (take_ofW HT_.out HW_.out (by kernel_rfl)) (fun _ _ _ h => h) (Or.inl ⟨by rfl, ?_⟩) hHeld ?_ ?_;rotate_left
                ·rintro w' ⟨s0, s1⟩
                 go_simp
                 with_reducible rfl
                rotate_left
                ·simp only [Act.put, l01_, l02_, l03_, i64_w, i32_w]
                 rfl
                refine take_ (i := 20) (N := some 58) (v := ?_) (a' := ?_) #[true, true, true, true, true, true, true, true, true, true, true, true, true, true, true, true, true, true, true, true, true, false, false, true, false, false, false] rfl rfl (take_ofW HT_.out HW_.out (by kernel_rfl)) (fun _ _ _ h => h) (Or.inl ⟨by rfl, ?_⟩) hHeld ?_ ?_;rotate_left
                ·rintro w' ⟨s0, s1⟩
                 go_simp
                 with_reducible rfl
                rotate_left
                ·simp only [Act.put, l01_, l02_, l03_, i64_w, i32_w]
                 rfl
                refine pure_ (i := 21) (N := some 59) (v := ?_) (a' := ?_) #[true, true, true, true, true, true, true, true, true, true, true, true, true, true, true, true, true, true, true, true, true, true, false, true, false, false, false] rfl rfl (any_of HT_.out (by kernel_rfl)) (fun _ _ _ h => h) (Or.inl ⟨by rfl, ?_⟩) ?_ ?_;rotate_left
                ·intro w';go_simp
                 with_reducible rfl
                rotate_left
                ·simp only [Act.put, l01_, l02_, l03_, i64_w, i32_w]
                 rfl
                refine pure_ (i := 22) (N := some 60) (v := ?_) (a' := ?_) #[true, true, true, true, true, true, true, true, true, true, true, true, true, true, true, true, true, true, true, true, true, true, true, true, false, false, false] rfl rfl (any_of HT_.out (by kernel_rfl)) (fun _ _ _ h => h) (Or.inl ⟨by rfl, ?_⟩) ?_ ?_;rotate_left
                ·intro w';go_simp
                 with_reducible rfl
                rotate_left
                ·simp only [Act.put, l01_, l02_, l03_, i64_w, i32_w]
                 rfl
                refine pure_ (i := 24) (N := some 62) (v := ?_) (a' := ?_) #[true, true, true, true, true, true, true, true, true, true, true, true, true, true, true, true, true, true, true, true, true, true, true, true, true, false, false] rfl rfl (any_of HT_.out (by kernel_rfl)) (fun _ _ _ h => h) (Or.inl ⟨by rfl, ?_⟩) ?_ ?_;rotate_left
                ·intro w';go_simp
                 with_reducible rfl
                rotate_left
                ·simp only [Act.put, l01_, l02_, l03_, i64_w, i32_w]
                 rfl
                refine pure_ (i := 25) (N := some 63) (v := ?_) (a' := ?_) #[true, true, true, true, true, true, true, true, true, true, true, true, true, true, true, true, true, true, true, true, true, true, true, true, true, true, false] rfl rfl (any_of HT_.out (by kernel_rfl)) (fun _ _ _ h => h) (Or.inl ⟨by rfl, ?_⟩) ?_ ?_;rotate_left
                ·intro w';go_simp
                 with_reducible rfl
                rotate_left
                ·simp only [Act.put, l01_, l02_, l03_, i64_w, i32_w]
                 rfl
                refine last_ (i := 26) (N := none) #[true, true, true, true, true, true, true, true, true, true, true, true, true, true, true, true, true, true, true, true, true, true, true, true, true, true, true] rfl rfl (one_of HT_.out (by kernel_rfl)) (by decide) (fun K hK => ?_);refine skip_ (w1 := ?_) (by rfl) rfl ?_ ?_;rotate_left
                ·go_simp
                 rfl
                refine hK.out _ _ ?_;clear hK K;refine done_ (done_of HT_.out (by kernel_rfl)) ?_
                try go_wp2
                (try simp only [← hl8_2]);(try simp only [add_plain] at *)
                go_roundg k2
                case measure => have := HK1.out; have := HK2.out; omega
                case rel => exact ⟨(y179), (wrap64 (x11_2 + 1)), rf_, H', ⟨by have := HK1.out; have := HK2.out; omega⟩, ⟨by (try simp only [hl8_1]); (try simp only [hl8_2]); (with_reducible repeat (first | apply Kd.Ra1 | apply Kd.Rn1 | apply Kd.Rd1)); exact HQ23.out⟩, ⟨bl_⟩⟩
              ·rw [if_neg c19] at H;exact absurd H (by simp)
             ·rw [if_neg c18] at H;exact absurd H (by simp)
            ·rw [if_neg c17] at H;exact absurd H (by simp)
           ·rw [if_neg c16] at H;exact absurd H (by simp)
          ·rw [if_neg c14] at H;have c14b0 : decide (x11_2 < (l0.length : Int)) = false := decide_eq_false c14;(try (have c14b0h0 := c14b0; simp only [hl8_1] at c14b0h0));(try (have c14b0h1 := c14b0; simp only [hl8_2] at c14b0h1));clear c14;by_cases c24 : 0 ≤ x9_1
           ·rw [if_pos c24] at H;have c24b0 : decide (0 ≤ x9_1) = true := decide_eq_true c24;clear c24;by_cases c25 : x9_1 < (x8_2.length : Int)
            ·rw [if_pos c25] at H;have c25b0 : decide (x9_1 < (x8_2.length : Int)) = true := decide_eq_true c25;(try (have c25b0h0 := c25b0; simp only [hl8_1] at c25b0h0));(try (have c25b0h1 := c25b0; simp only [hl8_2] at c25b0h1));clear c25;(obtain ⟨y180, hy180⟩ : ∃ y_ : List Int, y_ = (x8_2.set (x9_1 : Int).toNat 0) := ⟨_, rfl⟩);(replace H : (cr4_divides.l0 k2 l0 a2 (l0.length : Int) y180 (wrap64 (x9_1 - 1))) = some r := by first | (rw [hy180]; with_reducible exact H) | (have H2_ := (Option.bind_some _ _).symm.trans H; rw [hy180]; with_reducible exact H2_) | (have H2_ := (Option.bind_some _ _).symm.trans H; with_reducible exact H2_) | with_reducible exact H | (rw [hy180]; exact H) | exact H);have Ny180 := Ai0.mk hy180;clear hy180;have H' := Ai0.mk H;clear H;have p26 : 0 ≤ (x9_1 : Int) := od_;have q26 : (x9_1 : Int) < ((x8_2.length : Int) : Int) := od_;obtain ⟨go26, co26, eo26, gb26, gl26, cl26, HG26⟩ := Kd.R_form HO_8.out (by omega);(first | cases eo26 | (injection eo26 with ea_ en_ ec_; (first | subst ea_ | (injection ea_ with ea_; subst ea_)); subst ec_; clear en_));have GB26 := Ai0.mk gb26;have GG26 := Ai0.mk HG26;clear gb26 gl26 HG26;obtain ⟨hx26_0, hf26_0⟩ := Kd.R_celln 0 HO_8.out (x9_1 : Int) p26 q26;replace p26 := eq_true p26;replace q26 := eq_true q26;have HP27 := Kd.R_putg HO_8.out (x9_1 : Int) 0
             go_wp2_with (first | ((with_reducible refine gate_store (t := 3) (p := 66) rfl ?_); refine store_event (t := 3) (p := 66) (v := ?vo_w28) (w1 := (wr.setCell ⟨go26, (x9_1 : Int).toNat, none⟩ (.int .i64 0))) ?hg ?ho ?hn ?hr ?_; (case ho => rfl); (case hg => rfl); (case hn => rfl); (case hr => first | (go_simp; done) | (go_simp; rfl)); intro w28 hw; have hg : wr.grownBy w28 (some go26) := (by rw [hw]; exact HP27.2); have hp_ : Kd.R (Kd.int .i64) 3 w28 w.heap.size (fun _ => True) (.slice (some ⟨go26, 0, none⟩) x8_2.length co10) y180 := (by rw [hw, Ny180.out]; exact HP27.1); clear HP27; have n0_ := Ai0.mk (hp_); have n1_ := Ai0.mk ((by rw [hw]; exact bs1 (HB.out) GB26.out : Below w.heap.size w w28)); clear HO_8; clear HB; have HO_8 := n0_; have HB := n1_; clear n0_ n1_; clear hg hw hp_))
             (try simp only [← hl8_1, ← hl8_2]);(try simp only [add_plain] at *)
             go_roundg k2
             case measure => have := HK1.out; have := HK2.out; omega
             case rel => exact ⟨(y180), (wrap64 (x9_1 - 1)), rf_, H', ⟨by have := HK1.out; have := HK2.out; omega⟩, ⟨by (try simp only [hl8_1]); (try simp only [hl8_2]); (with_reducible repeat (first | apply Kd.Ra1 | apply Kd.Rn1 | apply Kd.Rd1)); exact HO_8.out⟩, ⟨bl_⟩⟩
            ·rw [if_neg c25] at H;exact absurd H (by simp)
           ·rw [if_neg c24] at H;exact absurd H (by simp)
       ·rw [if_neg c13] at H;exact absurd H (by simp)
      ·rw [if_neg c12] at H;exact absurd H (by simp)
     ·rw [if_neg c11] at H;have c11b0 : decide ((l0.length : Int) ≤ x9_1) = false := decide_eq_false c11;(try (have c11b0h0 := c11b0; simp only [hl8_1] at c11b0h0));clear c11;have H' := Ai0.mk H;clear H
      go_wp2
      go_loopg [12] k1 (fun kq v12 w' => ∃ (x12_2 : Int), v12 = .int .i64 x12_2 ∧ Ai0 (cr4_divides.l2 kq x8_1 x12_2 = some r) ∧ Ai0 (kq ≤ k1) ∧ Ai0 (Kd.R (Kd.int .i64) 3 w' w.heap.size (fun _ => True) (.slice Ao10 x8_1.length co10) x8_1) ∧ Ai0 (Below w.heap.size w w'))
      case atStart => exact ⟨(0), rf_, H', ⟨Nat.le_refl _⟩, ⟨by (try simp only [hl8_1]); (with_reducible repeat (first | apply Kd.Ra1 | apply Kd.Rn1 | apply Kd.Rd1)); exact HO_8.out⟩, ⟨bl_⟩⟩
      case round =>
       clear H'
       try clear c1
       try clear p1
       try clear q1
       try clear hx1
       try clear c2
       try clear p2
       try clear q2
       try clear hx2
       try clear c4
       try clear c5
       try clear p6
       try clear c8
       try clear c11
       try clear c11b0
       try clear c12
       try clear c12b0
       try clear c13
       try clear c13b0
       try clear c14
       try clear c14b0
       try clear c16
       try clear c16b0
       try clear c17
       try clear c17b0
       try clear p17
       try clear q17
       try clear hx17
       try clear c18
       try clear c18b0
       try clear c19
       try clear c19b0
       try clear c20
       try clear c20b0
       try clear c20b1
       try clear p21
       try clear q21
       try clear hx21
       try clear hf21
       try clear c24
       try clear c24b0
       try clear c25
       try clear c25b0
       try clear p26
       try clear q26
       try clear hx26
       try clear hf26
       try clear hx176_0
       try clear hx177_0
       try clear hx178_0
       try clear hx21_0
       try clear hx26_0
       try clear p1
       try clear p176
       try clear p177
       try clear p178
       try clear p2
       try clear p21
       try clear p26
       try clear p6
       try clear q1
       try clear q176
       try clear q177
       try clear q178
       try clear q21
       try clear q26
       obtain ⟨x12_2, rfl, HA, HK2, HO_8, HB⟩ := hrel
       cases gk with
       | zero => exact absurd HA.out (by simp [cr4_divides.l2])
       | succ k2 =>
        have H := HA.out;clear HA;simp only [cr4_divides.l2] at H;by_cases c29 : x12_2 < (x8_1.length : Int)
        ·rw [if_pos c29] at H;have c29b0 : decide (x12_2 < (x8_1.length : Int)) = true := decide_eq_true c29;(try (have c29b0h0 := c29b0; simp only [hl8_1] at c29b0h0));clear c29;by_cases c30 : 0 ≤ x12_2
         ·rw [if_pos c30] at H;have c30b0 : decide (0 ≤ x12_2) = true := decide_eq_true c30;clear c30;by_cases c31 : (rd x8_1 x12_2) = 0
          ·rw [if_pos c31] at H;have c31b0 : ((rd x8_1 x12_2) == 0) = true := beq_iff_eq.mpr c31;have c31b1 : ((rd x8_1 x12_2) != 0) = false := bne_eq_false_iff_eq.mpr c31;clear c31;have H' := Ai0.mk H;clear H;have p181 : 0 ≤ (x12_2 : Int) := od_;have q181 : x12_2 < (x8_1.length : Int) := od_;obtain ⟨ad181, e181, hx181_0⟩ := Kd.at_int (Kd.R_reads' HO_8.out).2.2 x12_2 p181 q181;cases e181;replace p181 := eq_true p181;replace q181 := eq_true q181
           go_wp2
           (try simp only [add_plain] at *)
           go_roundg k2
           case measure => have := HK1.out; have := HK2.out; omega
           case rel => exact ⟨(wrap64 (x12_2 + 1)), rf_, H', ⟨by have := HK1.out; have := HK2.out; omega⟩, ⟨by (try simp only [hl8_1]); (with_reducible repeat (first | apply Kd.Ra1 | apply Kd.Rn1 | apply Kd.Rd1)); exact HO_8.out⟩, ⟨bl_⟩⟩
          ·rw [if_neg c31] at H;have c31b0 : ((rd x8_1 x12_2) == 0) = false := beq_eq_false_iff_ne.mpr c31;have c31b1 : ((rd x8_1 x12_2) != 0) = true := bne_iff_ne.mpr c31;obtain rfl := Option.some.inj H;have p181 : 0 ≤ (x12_2 : Int) := od_;have q181 : x12_2 < (x8_1.length : Int) := od_;obtain ⟨ad181, e181, hx181_0⟩ := Kd.at_int (Kd.R_reads' HO_8.out).2.2 x12_2 p181 q181;cases e181;replace p181 := eq_true p181;replace q181 := eq_true q181
           go_wp2
           go_ret
           exact ⟨by first | rfl | (simp [eW0, eW1] <;> rfl) | (simp [*, eW0, eW1] <;> rfl), bl_⟩
         ·rw [if_neg c30] at H;exact absurd H (by simp)
        ·rw [if_neg c29] at H;have c29b0 : decide (x12_2 < (x8_1.length : Int)) = false := decide_eq_false c29;(try (have c29b0h0 := c29b0; simp only [hl8_1] at c29b0h0));clear c29;obtain rfl := Option.some.inj H
         go_wp2
         go_ret
         exact ⟨by first | rfl | (simp [eW0, eW1] <;> rfl) | (simp [*, eW0, eW1] <;> rfl), bl_⟩
  ·rw [if_neg c5] at H;exact absurd H (by simp)
 ·rw [if_neg c4] at H;exact absurd H (by simp)
mutual
def cr4_irreducible.l0 : Nat → List Int → Int → Int → Int → Option (Bool)
 | 0, _, _, _, _ => none
 | k + 1, x0, x1, x5, x6 => if (wrap64 (2 * x6)) ≤ (x0.length : Int) then (cr4_irreducible.l1 k x0 x1 (wrap64 (x5 * x1)) x6 0) else (some true)
def cr4_irreducible.l1 : Nat → List Int → Int → Int → Int → Int → Option (Bool)
 | 0, _, _, _, _, _ => none
 | k + 1, x0, x1, x5, x6, x7 => if x7 < x5 then ((cr4_digits.f k x7 x1 x6).bind fun t182 => ((cr4_divides.f k t182 x0 x1).bind fun t185 => (if t185 = true then (some false) else (cr4_irreducible.l1 k x0 x1 x5 x6 (wrap64 (x7 + 1)))))) else (cr4_irreducible.l0 k x0 x1 x5 (wrap64 (x6 + 1)))
end
def cr4_irreducible.f (k : Nat) (l0 : List Int) (a1 : Int) : Option (Bool) := cr4_irreducible.l0 k l0 a1 1 1
theorem cr4_irreducible.mono_l : ∀ k, (∀ y0 y1 y2 y3, LeO (cr4_irreducible.l0 k y0 y1 y2 y3) (cr4_irreducible.l0 (k + 1) y0 y1 y2 y3)) ∧ (∀ y0 y1 y2 y3 y4, LeO (cr4_irreducible.l1 k y0 y1 y2 y3 y4) (cr4_irreducible.l1 (k + 1) y0 y1 y2 y3 y4))
 | 0 => ⟨fun _ _ _ _ r h => by simp [cr4_irreducible.l0] at h, fun _ _ _ _ _ r h => by simp [cr4_irreducible.l1] at h⟩
 | k + 1 => by
  obtain ⟨ih0, ih1⟩ := cr4_irreducible.mono_l k;refine ⟨?_, ?_⟩
  ·intro y0 y1 y2 y3;unfold cr4_irreducible.l0
   repeat' first
   | (with_reducible exact ih0 _ _ _ _)
   | (with_reducible exact ih1 _ _ _ _ _)
   | (with_reducible exact cr4_digits.mono _ _ _ _)
   | (with_reducible exact cr4_divides.mono _ _ _ _)
   | (with_reducible exact LeO.refl _)
   | (with_reducible exact LeO.none _)
   | (with_reducible refine LeO.ite ?_ ?_)
   | (with_reducible refine LeO.bind ?_ (fun _ => ?_))
   | exact ih0 _ _ _ _
   | exact ih1 _ _ _ _ _
   | exact cr4_digits.mono _ _ _ _
   | exact cr4_divides.mono _ _ _ _
   | exact LeO.none _
   | refine LeO.ite ?_ ?_
   | refine LeO.bind ?_ (fun _ => ?_)
  ·intro y0 y1 y2 y3 y4;unfold cr4_irreducible.l1
   repeat' first
   | (with_reducible exact ih0 _ _ _ _)
   | (with_reducible exact ih1 _ _ _ _ _)
   | (with_reducible exact cr4_digits.mono _ _ _ _)
   | (with_reducible exact cr4_divides.mono _ _ _ _)
   | (with_reducible exact LeO.refl _)
   | (with_reducible exact LeO.none _)
   | (with_reducible refine LeO.ite ?_ ?_)
   | (with_reducible refine LeO.bind ?_ (fun _ => ?_))
   | exact ih0 _ _ _ _
   | exact ih1 _ _ _ _ _
   | exact cr4_digits.mono _ _ _ _
   | exact cr4_divides.mono _ _ _ _
   | exact LeO.none _
   | refine LeO.ite ?_ ?_
   | refine LeO.bind ?_ (fun _ => ?_)
theorem cr4_irreducible.mono : ∀ a0 a1 k, LeO (cr4_irreducible.f k a0 a1) (cr4_irreducible.f (k + 1) a0 a1) := by
 intro a0 a1 k;obtain ⟨ih0, ih1⟩ := cr4_irreducible.mono_l k;unfold cr4_irreducible.f
 repeat' first
   | (with_reducible exact ih0 _ _ _ _)
   | (with_reducible exact ih1 _ _ _ _ _)
   | (with_reducible exact cr4_digits.mono _ _ _ _)
   | (with_reducible exact cr4_divides.mono _ _ _ _)
   | (with_reducible exact LeO.refl _)
   | (with_reducible exact LeO.none _)
   | (with_reducible refine LeO.ite ?_ ?_)
   | (with_reducible refine LeO.bind ?_ (fun _ => ?_))
   | exact ih0 _ _ _ _
   | exact ih1 _ _ _ _ _
   | exact cr4_digits.mono _ _ _ _
   | exact cr4_divides.mono _ _ _ _
   | exact LeO.none _
   | refine LeO.ite ?_ ?_
   | refine LeO.bind ?_ (fun _ => ?_)
set_option maxHeartbeats 8000000 in
set_option maxRecDepth 100000 in
theorem cr4_irreducible.calls (k : Nat) (A0 : Option Addr) (c0 : Nat) (l0 : List Int) (a1 : Int) (r : Bool) (w : World) (hr0 : Kd.C (Kd.int .i64) w A0 l0.length l0) (hc0 : l0.length ≤ c0) (h : cr4_irreducible.f k l0 a1 = some r) :
  Calls Try.prog 77 #[.slice A0 l0.length c0, .int .i64 a1] w fun e w' => e = .returned (.bool r) ∧ Below w.heap.size w w' := by
 have HR0 := Ai0.mk hr0;have HC0 := Ai0.mk hc0;clear hr0 hc0;have HB := Ai0.mk (Below.refl w.heap.size w);have H : (cr4_irreducible.l0 k l0 a1 1 1) = some r := h;clear h;have H' := Ai0.mk H;clear H;go_enter Try.func77, Try.ntmps77
 go_wp2
 go_loopg [5, 6] k (fun kq v5 v6 w' => ∃ (x5_1 : Int) (x6_1 : Int), v5 = .int .i64 x5_1 ∧ v6 = .int .i64 x6_1 ∧ Ai0 (cr4_irreducible.l0 kq l0 a1 x5_1 x6_1 = some r) ∧ Ai0 (kq ≤ k) ∧ Ai0 (Below w.heap.size w w'))
 case atStart => exact ⟨(1), (1), rf_, rf_, H', ⟨Nat.le_refl _⟩, ⟨bl_⟩⟩
 case round =>
  clear H'
  try clear p2
  obtain ⟨x5_1, x6_1, rfl, rfl, HA, HK1, HB⟩ := hrel
  cases gk with
  | zero => exact absurd HA.out (by simp [cr4_irreducible.l0])
  | succ k1 =>
   have H := HA.out;clear HA;simp only [cr4_irreducible.l0] at H;by_cases c3 : (wrap64 (2 * x6_1)) ≤ (l0.length : Int)
   ·rw [if_pos c3] at H;have c3b0 : decide ((wrap64 (2 * x6_1)) ≤ (l0.length : Int)) = true := decide_eq_true c3;clear c3;have H' := Ai0.mk H;clear H
    go_wp2
    go_loopg [7] k1 (fun kq v7 w' => ∃ (x7_2 : Int), v7 = .int .i64 x7_2 ∧ Ai0 (cr4_irreducible.l1 kq l0 a1 (wrap64 (x5_1 * a1)) x6_1 x7_2 = some r) ∧ Ai0 (kq ≤ k1) ∧ Ai0 (Below w.heap.size w w'))
    case atStart => exact ⟨(0), rf_, H', ⟨Nat.le_refl _⟩, ⟨bl_⟩⟩
    case round =>
     clear H'
     try clear p2
     try clear c3
     try clear c3b0
     try clear p2
     obtain ⟨x7_2, rfl, HA, HK2, HB⟩ := hrel
     cases gk with
     | zero => exact absurd HA.out (by simp [cr4_irreducible.l1])
     | succ k2 =>
      have H := HA.out;clear HA;simp only [cr4_irreducible.l1] at H;by_cases c4 : x7_2 < (wrap64 (x5_1 * a1))
      ·rw [if_pos c4] at H;have c4b0 : decide (x7_2 < (wrap64 (x5_1 * a1))) = true := decide_eq_true c4;clear c4;replace H := Option.bind_eq_some_iff.mp H;obtain ⟨t182, A50, H⟩ := H;replace H : ((cr4_divides.f k2 t182 l0 a1).bind fun t185 => (if t185 = true then (some false) else (cr4_irreducible.l1 k2 l0 a1 (wrap64 (x5_1 * a1)) x6_1 (wrap64 (x7_2 + 1))))) = some r := H;have A5 := Ai0.mk A50;clear A50;replace H := Option.bind_eq_some_iff.mp H;obtain ⟨t185, A60, H⟩ := H;replace H : (if t185 = true then (some false) else (cr4_irreducible.l1 k2 l0 a1 (wrap64 (x5_1 * a1)) x6_1 (wrap64 (x7_2 + 1)))) = some r := H;have A6 := Ai0.mk A60;clear A60;by_cases c7 : t185 = true
       ·subst c7;(have H1 : (some false) = some r := by rw [if_pos rfl] at H; exact H);clear H;have H := H1;clear H1;obtain rfl := Option.some.inj H
        go_wp2_with (first | ((with_reducible refine gate_callee (f := 80) rfl ?_); refine goesL_ (some 26) rfl rfl Try.func80 (by kernel_rfl) rfl #[.int .i64 x7_2, .int .i64 a1, .int .i64 x6_1] rfl (by (try simp only [List.map_toArray, List.map_cons, List.map_nil]); first | done | rfl | (simp only [List.length_drop, List.length_take]; rfl)) ?_; (with_reducible refine (cr4_digits.calls k2 x7_2 a1 x6_1 t182 _ A5.out).mono ?_); rintro e w8 ⟨v183, rfl, ho0, hb⟩; refine ⟨_, rfl, ?_⟩; have n0_ := Ai0.mk (Kd.R_lower ho0 (bz1 bl_)); have n1_ := Ai0.mk (bt1 bl_ hb); clear HB; have HO184 := n0_; have HB := n1_; clear n0_ n1_; (try clear hb); (try clear hb2); (try clear hk); (try clear hi); (try clear ho0); obtain ⟨Ao9, co9, eo9⟩ := Kd.R_slice HO184.out; subst eo9) | ((with_reducible refine gate_callee (f := 82) rfl ?_); refine goesL_ (some 29) rfl rfl Try.func82 (by kernel_rfl) rfl #[.slice Ao9 t182.length co9, .slice A0 l0.length c0, .int .i64 a1] rfl (by (try simp only [List.map_toArray, List.map_cons, List.map_nil]); first | done | rfl | (simp only [List.length_drop, List.length_take]; rfl)) ?_; (with_reducible refine (cr4_divides.calls k2 _ _ t182 _ _ l0 a1 true _ ?side1 ?side2 ?side3 ?side4 A6.out).mono ?_); (case side1 => repeat (first | exact (Kd.R_reads' HO184.out).2.2 | (with_reducible refine Kd.C_alloc ?_ _) | (with_reducible refine Kd.C_drewN ?_ _) | (with_reducible refine Kd.C_drew ?_))); (case side2 => exact (Kd.R_reads' HO184.out).2.1); (case side3 => exact kc_ HR0.out); (case side4 => exact HC0.out); rintro e w10 ⟨rfl, hb⟩; refine ⟨_, rfl, ?_⟩; have n0_ := Ai0.mk (Kd.R_below (kr_ HO184.out) hb); have n1_ := Ai0.mk (bt1 bl_ hb); clear HO184; clear HB; have HO184 := n0_; have HB := n1_; clear n0_ n1_; (try clear hb); (try clear hb2); (try clear hk); (try clear hi)))
        go_ret
        exact ⟨by first | rfl | (simp [eW0, eW1] <;> rfl) | (simp [*, eW0, eW1] <;> rfl), bl_⟩
       ·replace c7 := Bool.eq_false_iff.mpr c7;subst c7;(have H1 : (cr4_irreducible.l1 k2 l0 a1 (wrap64 (x5_1 * a1)) x6_1 (wrap64 (x7_2 + 1))) = some r := by rw [if_neg (show ¬ (false = true) by decide)] at H; exact H);clear H;have H := H1;clear H1;have H' := Ai0.mk H;clear H
        go_wp2_with (first | ((with_reducible refine gate_callee (f := 80) rfl ?_); refine goesL_ (some 26) rfl rfl Try.func80 (by kernel_rfl) rfl #[.int .i64 x7_2, .int .i64 a1, .int .i64 x6_1] rfl (by (try simp only [List.map_toArray, List.map_cons, List.map_nil]); first | done | rfl | (simp only [List.length_drop, List.length_take]; rfl)) ?_; (with_reducible refine (cr4_digits.calls k2 x7_2 a1 x6_1 t182 _ A5.out).mono ?_); rintro e w11 ⟨v183, rfl, ho0, hb⟩; refine ⟨_, rfl, ?_⟩; have n0_ := Ai0.mk (Kd.R_lower ho0 (bz1 bl_)); have n1_ := Ai0.mk (bt1 bl_ hb); clear HB; have HO184 := n0_; have HB := n1_; clear n0_ n1_; (try clear hb); (try clear hb2); (try clear hk); (try clear hi); (try clear ho0); obtain ⟨Ao12, co12, eo12⟩ := Kd.R_slice HO184.out; subst eo12) | ((with_reducible refine gate_callee (f := 82) rfl ?_); refine goesL_ (some 29) rfl rfl Try.func82 (by kernel_rfl) rfl #[.slice Ao12 t182.length co12, .slice A0 l0.length c0, .int .i64 a1] rfl (by (try simp only [List.map_toArray, List.map_cons, List.map_nil]); first | done | rfl | (simp only [List.length_drop, List.length_take]; rfl)) ?_; (with_reducible refine (cr4_divides.calls k2 _ _ t182 _ _ l0 a1 false _ ?side1 ?side2 ?side3 ?side4 A6.out).mono ?_); (case side1 => repeat (first | exact (Kd.R_reads' HO184.out).2.2 | (with_reducible refine Kd.C_alloc ?_ _) | (with_reducible refine Kd.C_drewN ?_ _) | (with_reducible refine Kd.C_drew ?_))); (case side2 => exact (Kd.R_reads' HO184.out).2.1); (case side3 => exact kc_ HR0.out); (case side4 => exact HC0.out); rintro e w13 ⟨rfl, hb⟩; refine ⟨_, rfl, ?_⟩; have n0_ := Ai0.mk (Kd.R_below (kr_ HO184.out) hb); have n1_ := Ai0.mk (bt1 bl_ hb); clear HO184; clear HB; have HO184 := n0_; have HB := n1_; clear n0_ n1_; (try clear hb); (try clear hb2); (try clear hk); (try clear hi)))
        go_roundg k2
        case measure => have := HK1.out; have := HK2.out; omega
        case rel => exact ⟨(wrap64 (x7_2 + 1)), rf_, H', ⟨by have := HK1.out; have := HK2.out; omega⟩, ⟨bl_⟩⟩
      ·rw [if_neg c4] at H;have c4b0 : decide (x7_2 < (wrap64 (x5_1 * a1))) = false := decide_eq_false c4;clear c4;have H' := Ai0.mk H;clear H
       go_wp2
       go_roundg k2
       case measure => have := HK1.out; have := HK2.out; omega
       case rel => exact ⟨((wrap64 (x5_1 * a1))), (wrap64 (x6_1 + 1)), rf_, rf_, H', ⟨by have := HK1.out; have := HK2.out; omega⟩, ⟨bl_⟩⟩
   ·rw [if_neg c3] at H;have c3b0 : decide ((wrap64 (2 * x6_1)) ≤ (l0.length : Int)) = false := decide_eq_false c3;clear c3;obtain rfl := Option.some.inj H
    go_wp2
    go_ret
    exact ⟨by first | rfl | (simp [eW0, eW1] <;> rfl) | (simp [*, eW0, eW1] <;> rfl), bl_⟩
mutual
def cr4_Check.j0 : Nat → Bool → Int → Int → List Int → Option (Int)
 | 0, _, _, _, _ => none
 | k + 1, x12, x187000, x187001, x187002 => if x12 = true then (some 1) else (if x187001 = 1 then (if (x187002.length : Int) = 0 then (some 0) else (some 1)) else (if (x187002.length : Int) = x187001 then (cr4_Check.l0 k 0 x187000 x187001 x187002) else (some 1)))
def cr4_Check.l0 : Nat → Int → Int → Int → List Int → Option (Int)
 | 0, _, _, _, _ => none
 | k + 1, x3, x187000, x187001, x187002 => if x3 < x187001 then (if 0 ≤ x3 then (if x3 < (x187002.length : Int) then (if (rd x187002 x3) < 0 then (some 1) else (if (rd x187002 x3) ≥ x187000 then (some 1) else (cr4_Check.l0 k (wrap64 (x3 + 1)) x187000 x187001 x187002))) else (none)) else (none)) else ((cr4_irreducible.f k x187002 x187000).bind fun t191 => (if t191 = true then (some 0) else (some 1)))
end
def cr4_Check.f (k : Nat) (a0_0 : Int) (a0_1 : Int) (l0_2 : List Int) : Option (Int) := (cr4_Order.f k a0_0 a0_1 l0_2).bind fun t187 => (if t187 = 0 then (cr4_Check.j0 k true a0_0 a0_1 l0_2) else ((cr4_prime.f k a0_0).bind fun t188 => (cr4_Check.j0 k (!t188) a0_0 a0_1 l0_2)))
theorem cr4_Check.mono_l : ∀ k, (∀ y0 y1 y2 y3, LeO (cr4_Check.j0 k y0 y1 y2 y3) (cr4_Check.j0 (k + 1) y0 y1 y2 y3)) ∧ (∀ y0 y1 y2 y3, LeO (cr4_Check.l0 k y0 y1 y2 y3) (cr4_Check.l0 (k + 1) y0 y1 y2 y3))
 | 0 => ⟨fun _ _ _ _ r h => by simp [cr4_Check.j0] at h, fun _ _ _ _ r h => by simp [cr4_Check.l0] at h⟩
 | k + 1 => by
  obtain ⟨ih0, ih1⟩ := cr4_Check.mono_l k;refine ⟨?_, ?_⟩
  ·intro y0 y1 y2 y3;unfold cr4_Check.j0
   repeat' first
   | (with_reducible exact ih0 _ _ _ _)
   | (with_reducible exact ih1 _ _ _ _)
   | (with_reducible exact cr4_Order.mono _ _ _ _)
   | (with_reducible exact cr4_irreducible.mono _ _ _)
   | (with_reducible exact cr4_prime.mono _ _)
   | (with_reducible exact LeO.refl _)
   | (with_reducible exact LeO.none _)
   | (with_reducible refine LeO.ite ?_ ?_)
   | (with_reducible refine LeO.bind ?_ (fun _ => ?_))
   | exact ih0 _ _ _ _
   | exact ih1 _ _ _ _
   | exact cr4_Order.mono _ _ _ _
   | exact cr4_irreducible.mono _ _ _
   | exact cr4_prime.mono _ _
   | exact LeO.none _
   | refine LeO.ite ?_ ?_
   | refine LeO.bind ?_ (fun _ => ?_)
  ·intro y0 y1 y2 y3;unfold cr4_Check.l0
   repeat' first
   | (with_reducible exact ih0 _ _ _ _)
   | (with_reducible exact ih1 _ _ _ _)
   | (with_reducible exact cr4_Order.mono _ _ _ _)
   | (with_reducible exact cr4_irreducible.mono _ _ _)
   | (with_reducible exact cr4_prime.mono _ _)
   | (with_reducible exact LeO.refl _)
   | (with_reducible exact LeO.none _)
   | (with_reducible refine LeO.ite ?_ ?_)
   | (with_reducible refine LeO.bind ?_ (fun _ => ?_))
   | exact ih0 _ _ _ _
   | exact ih1 _ _ _ _
   | exact cr4_Order.mono _ _ _ _
   | exact cr4_irreducible.mono _ _ _
   | exact cr4_prime.mono _ _
   | exact LeO.none _
   | refine LeO.ite ?_ ?_
   | refine LeO.bind ?_ (fun _ => ?_)
theorem cr4_Check.mono : ∀ a0 a1 a2 k, LeO (cr4_Check.f k a0 a1 a2) (cr4_Check.f (k + 1) a0 a1 a2) := by
 intro a0 a1 a2 k;obtain ⟨ih0, ih1⟩ := cr4_Check.mono_l k;unfold cr4_Check.f
 repeat' first
   | (with_reducible exact ih0 _ _ _ _)
   | (with_reducible exact ih1 _ _ _ _)
   | (with_reducible exact cr4_Order.mono _ _ _ _)
   | (with_reducible exact cr4_irreducible.mono _ _ _)
   | (with_reducible exact cr4_prime.mono _ _)
   | (with_reducible exact LeO.refl _)
   | (with_reducible exact LeO.none _)
   | (with_reducible refine LeO.ite ?_ ?_)
   | (with_reducible refine LeO.bind ?_ (fun _ => ?_))
   | exact ih0 _ _ _ _
   | exact ih1 _ _ _ _
   | exact cr4_Order.mono _ _ _ _
   | exact cr4_irreducible.mono _ _ _
   | exact cr4_prime.mono _ _
   | exact LeO.none _
   | refine LeO.ite ?_ ?_
   | refine LeO.bind ?_ (fun _ => ?_)
set_option maxHeartbeats 8000000 in
set_option maxRecDepth 100000 in
theorem cr4_Check.calls (k : Nat) (a0_0 : Int) (a0_1 : Int) (A0_2 : Option Addr) (c0_2 : Nat) (l0_2 : List Int) (r : Int) (w : World) (hr0_2 : Kd.C (Kd.int .i64) w A0_2 l0_2.length l0_2) (hc0_2 : l0_2.length ≤ c0_2) (h : cr4_Check.f k a0_0 a0_1 l0_2 = some r) :
  Calls Try.prog 59 #[.agg #[.int .i64 a0_0, .int .i64 a0_1, .slice A0_2 l0_2.length c0_2]] w fun e w' => e = .returned (.int .i64 r) ∧ Below w.heap.size w w' := by
 have hu44 := Try.underlying44;have HR0_2 := Ai0.mk hr0_2;have HC0_2 := Ai0.mk hc0_2;clear hr0_2 hc0_2;have HB := Ai0.mk (Below.refl w.heap.size w);have H : ((cr4_Order.f k a0_0 a0_1 l0_2).bind fun t187 => (if t187 = 0 then (cr4_Check.j0 k true a0_0 a0_1 l0_2) else ((cr4_prime.f k a0_0).bind fun t188 => (cr4_Check.j0 k (!t188) a0_0 a0_1 l0_2)))) = some r := h;clear h;have HC2 := Ai0.mk H;clear H;go_enter Try.func59, Try.ntmps59
 go_upto_region 1 with (first | ((with_reducible refine gate_dst (N := 1) rfl ?_); refine box_event ?hg (N := 1) ?hd (cs := #[.int .i64 a0_0, .int .i64 a0_1, .slice A0_2 l0_2.length c0_2]) (t := 44) ?hr ?_; (case hd => rfl); (case hg => rfl); (case hr => first | (go_simp; done) | (go_simp; rfl)); intro gb186 hg w3 hbox hb; have n0_ := Ai0.mk (bt1 bl_ hb); have n1_ := Ai0.mk (hbox); have n2_ := Ai0.mk ((by rw [hg]; exact (bz1 bl_) : w.heap.size ≤ gb186)); have n3_ := Ai0.mk ((by rw [hg]; exact (bz1 bl_) : w.heap.size ≤ gb186)); clear HB; have HB := n0_; have BK186 := n1_; have GW186 := n2_; have GE186 := n3_; clear n0_ n1_ n2_ n3_; clear hb hbox hg))
 repeat (go_quiet (first | ((with_reducible refine gate_dst (N := 1) rfl ?_); refine box_event ?hg (N := 1) ?hd (cs := #[.int .i64 a0_0, .int .i64 a0_1, .slice A0_2 l0_2.length c0_2]) (t := 44) ?hr ?_; (case hd => rfl); (case hg => rfl); (case hr => first | (go_simp; done) | (go_simp; rfl)); intro gb186 hg w3 hbox hb; have n0_ := Ai0.mk (bt1 bl_ hb); have n1_ := Ai0.mk (hbox); have n2_ := Ai0.mk ((by rw [hg]; exact (bz1 bl_) : w.heap.size ≤ gb186)); have n3_ := Ai0.mk ((by rw [hg]; exact (bz1 bl_) : w.heap.size ≤ gb186)); clear HB; have HB := n0_; have BK186 := n1_; have GW186 := n2_; have GE186 := n3_; clear n0_ n1_ n2_ n3_; clear hb hbox hg)); go_upto_region 1 with (first | ((with_reducible refine gate_dst (N := 1) rfl ?_); refine box_event ?hg (N := 1) ?hd (cs := #[.int .i64 a0_0, .int .i64 a0_1, .slice A0_2 l0_2.length c0_2]) (t := 44) ?hr ?_; (case hd => rfl); (case hg => rfl); (case hr => first | (go_simp; done) | (go_simp; rfl)); intro gb186 hg w3 hbox hb; have n0_ := Ai0.mk (bt1 bl_ hb); have n1_ := Ai0.mk (hbox); have n2_ := Ai0.mk ((by rw [hg]; exact (bz1 bl_) : w.heap.size ≤ gb186)); have n3_ := Ai0.mk ((by rw [hg]; exact (bz1 bl_) : w.heap.size ≤ gb186)); clear HB; have HB := n0_; have BK186 := n1_; have GW186 := n2_; have GE186 := n3_; clear n0_ n1_ n2_ n3_; clear hb hbox hg)))
 (try simp only [Act.put, l01_, l02_, l03_])
 go_cut [12] (fun v12 wc => ∃ (kq : Nat) (x12_1 : Bool), v12 = .bool x12_1 ∧ Ai0 (cr4_Check.j0 kq x12_1 a0_0 a0_1 l0_2 = some r) ∧ Ai0 (kq ≤ k) ∧ Ai0 (wc.heap[gb186]? = some (.cells #[.int .i64 a0_0, .int .i64 a0_1, (.slice A0_2 l0_2.length c0_2)] 44 (0, 0))) ∧ Ai0 (Below w.heap.size w wc))
 case first =>
  have H := HC2.out;clear HC2;replace H := Option.bind_eq_some_iff.mp H;obtain ⟨t187, A40, H⟩ := H;replace H : (if t187 = 0 then (cr4_Check.j0 k true a0_0 a0_1 l0_2) else ((cr4_prime.f k a0_0).bind fun t188 => (cr4_Check.j0 k (!t188) a0_0 a0_1 l0_2))) = some r := H;have A4 := Ai0.mk A40;clear A40;by_cases c5 : t187 = 0
  ·rw [if_pos c5] at H;have c5b0 : (t187 == 0) = true := beq_iff_eq.mpr c5;have c5b1 : (t187 != 0) = false := bne_eq_false_iff_eq.mpr c5;clear c5;(first | rw [c5b0] | (simp only [i64_w, i32_w]; rw [c5b0]) | skip);have H' := Ai0.mk H;clear H;have hcz6_0 : w3.cell? ⟨gb186, 0, none⟩ = some (.int .i64 a0_0) := (kc1 BK186.out 0).trans rfl;have hcz6_1 : w3.cell? ⟨gb186, 1, none⟩ = some (.int .i64 a0_1) := (kc1 BK186.out 1).trans rfl;have hcz6_2 : w3.cell? ⟨gb186, 2, none⟩ = some (.slice A0_2 l0_2.length c0_2) := (kc1 BK186.out 2).trans rfl;have hfz6_0 := kf1 BK186.out 0;have hfz6_1 := kf1 BK186.out 1;have hfz6_2 := kf1 BK186.out 2
   go_wp2_with (first | (go_at_call 75; (with_reducible refine (cr4_Order.calls k a0_0 a0_1 _ _ l0_2 t187 _ ?side1 ?side2 A4.out).mono ?_); (case side1 => exact kc_ HR0_2.out); (case side2 => exact HC0_2.out); rintro e w7 ⟨rfl, hb⟩; have n0_ := Ai0.mk (kb1 (g := gb186) (o := .cells #[.int .i64 a0_0, .int .i64 a0_1, .slice A0_2 l0_2.length c0_2] 44 (0, 0)) (kk_ BK186.out) hb); have n1_ := Ai0.mk (bt1 bl_ hb); clear BK186; clear HB; have BK186 := n0_; have HB := n1_; clear n0_ n1_; (try clear hb); (try clear hb2); (try clear hk); (try clear hi)))
   repeat (go_quiet (first | (go_at_call 75; (with_reducible refine (cr4_Order.calls k a0_0 a0_1 _ _ l0_2 t187 _ ?side1 ?side2 A4.out).mono ?_); (case side1 => exact kc_ HR0_2.out); (case side2 => exact HC0_2.out); rintro e w7 ⟨rfl, hb⟩; have n0_ := Ai0.mk (kb1 (g := gb186) (o := .cells #[.int .i64 a0_0, .int .i64 a0_1, .slice A0_2 l0_2.length c0_2] 44 (0, 0)) (kk_ BK186.out) hb); have n1_ := Ai0.mk (bt1 bl_ hb); clear BK186; clear HB; have BK186 := n0_; have HB := n1_; clear n0_ n1_; (try clear hb); (try clear hb2); (try clear hk); (try clear hi))); try go_wp2_with (first | (go_at_call 75; (with_reducible refine (cr4_Order.calls k a0_0 a0_1 _ _ l0_2 t187 _ ?side1 ?side2 A4.out).mono ?_); (case side1 => exact kc_ HR0_2.out); (case side2 => exact HC0_2.out); rintro e w7 ⟨rfl, hb⟩; have n0_ := Ai0.mk (kb1 (g := gb186) (o := .cells #[.int .i64 a0_0, .int .i64 a0_1, .slice A0_2 l0_2.length c0_2] 44 (0, 0)) (kk_ BK186.out) hb); have n1_ := Ai0.mk (bt1 bl_ hb); clear BK186; clear HB; have BK186 := n0_; have HB := n1_; clear n0_ n1_; (try clear hb); (try clear hb2); (try clear hk); (try clear hi))))
   go_meet
   case rel => exact ⟨_, (true), rf_, H', ⟨by first | omega | exact Nat.le_refl _⟩, ⟨kk_ BK186.out⟩, ⟨bl_⟩⟩
  ·rw [if_neg c5] at H;have c5b0 : (t187 == 0) = false := beq_eq_false_iff_ne.mpr c5;have c5b1 : (t187 != 0) = true := bne_iff_ne.mpr c5;(first | rw [c5b0] | (simp only [i64_w, i32_w]; rw [c5b0]) | skip);replace H := Option.bind_eq_some_iff.mp H;obtain ⟨t188, A80, H⟩ := H;replace H : (cr4_Check.j0 k (!t188) a0_0 a0_1 l0_2) = some r := H;have A8 := Ai0.mk A80;clear A80;have H' := Ai0.mk H;clear H;have hcz9_0 : w3.cell? ⟨gb186, 0, none⟩ = some (.int .i64 a0_0) := (kc1 BK186.out 0).trans rfl;have hcz9_1 : w3.cell? ⟨gb186, 1, none⟩ = some (.int .i64 a0_1) := (kc1 BK186.out 1).trans rfl;have hcz9_2 : w3.cell? ⟨gb186, 2, none⟩ = some (.slice A0_2 l0_2.length c0_2) := (kc1 BK186.out 2).trans rfl;have hfz9_0 := kf1 BK186.out 0;have hfz9_1 := kf1 BK186.out 1;have hfz9_2 := kf1 BK186.out 2
   go_wp2_with (first | (go_at_call 75; (with_reducible refine (cr4_Order.calls k a0_0 a0_1 _ _ l0_2 t187 _ ?side1 ?side2 A4.out).mono ?_); (case side1 => exact kc_ HR0_2.out); (case side2 => exact HC0_2.out); rintro e w10 ⟨rfl, hb⟩; have n0_ := Ai0.mk (kb1 (g := gb186) (o := .cells #[.int .i64 a0_0, .int .i64 a0_1, .slice A0_2 l0_2.length c0_2] 44 (0, 0)) (kk_ BK186.out) hb); have n1_ := Ai0.mk (bt1 bl_ hb); clear BK186; clear HB; have BK186 := n0_; have HB := n1_; clear n0_ n1_; (try clear hb); (try clear hb2); (try clear hk); (try clear hi); have hcz11_0 : w10.cell? ⟨gb186, 0, none⟩ = some (.int .i64 a0_0) := (kc1 BK186.out 0).trans rfl; have hcz11_1 : w10.cell? ⟨gb186, 1, none⟩ = some (.int .i64 a0_1) := (kc1 BK186.out 1).trans rfl; have hcz11_2 : w10.cell? ⟨gb186, 2, none⟩ = some (.slice A0_2 l0_2.length c0_2) := (kc1 BK186.out 2).trans rfl; have hfz11_0 := kf1 BK186.out 0; have hfz11_1 := kf1 BK186.out 1; have hfz11_2 := kf1 BK186.out 2) | (go_at_call 76; (with_reducible refine (cr4_prime.calls k a0_0 t188 _ A8.out).mono ?_); rintro e w' ⟨rfl, ⟨nd, rfl⟩⟩; (try first | exact ⟨rfl, _, World.drewN_drewN _ _ _⟩ | exact ⟨rfl, _, Eq.trans (World.drewN_drewN _ _ _) (congrArg (World.drewN _) (Nat.add_assoc _ _ _))⟩)))
   repeat (go_quiet (first | (go_at_call 75; (with_reducible refine (cr4_Order.calls k a0_0 a0_1 _ _ l0_2 t187 _ ?side1 ?side2 A4.out).mono ?_); (case side1 => exact kc_ HR0_2.out); (case side2 => exact HC0_2.out); rintro e w10 ⟨rfl, hb⟩; have n0_ := Ai0.mk (kb1 (g := gb186) (o := .cells #[.int .i64 a0_0, .int .i64 a0_1, .slice A0_2 l0_2.length c0_2] 44 (0, 0)) (kk_ BK186.out) hb); have n1_ := Ai0.mk (bt1 bl_ hb); clear BK186; clear HB; have BK186 := n0_; have HB := n1_; clear n0_ n1_; (try clear hb); (try clear hb2); (try clear hk); (try clear hi); have hcz11_0 : w10.cell? ⟨gb186, 0, none⟩ = some (.int .i64 a0_0) := (kc1 BK186.out 0).trans rfl; have hcz11_1 : w10.cell? ⟨gb186, 1, none⟩ = some (.int .i64 a0_1) := (kc1 BK186.out 1).trans rfl; have hcz11_2 : w10.cell? ⟨gb186, 2, none⟩ = some (.slice A0_2 l0_2.length c0_2) := (kc1 BK186.out 2).trans rfl; have hfz11_0 := kf1 BK186.out 0; have hfz11_1 := kf1 BK186.out 1; have hfz11_2 := kf1 BK186.out 2) | (go_at_call 76; (with_reducible refine (cr4_prime.calls k a0_0 t188 _ A8.out).mono ?_); rintro e w' ⟨rfl, ⟨nd, rfl⟩⟩; (try first | exact ⟨rfl, _, World.drewN_drewN _ _ _⟩ | exact ⟨rfl, _, Eq.trans (World.drewN_drewN _ _ _) (congrArg (World.drewN _) (Nat.add_assoc _ _ _))⟩))); try go_wp2_with (first | (go_at_call 75; (with_reducible refine (cr4_Order.calls k a0_0 a0_1 _ _ l0_2 t187 _ ?side1 ?side2 A4.out).mono ?_); (case side1 => exact kc_ HR0_2.out); (case side2 => exact HC0_2.out); rintro e w10 ⟨rfl, hb⟩; have n0_ := Ai0.mk (kb1 (g := gb186) (o := .cells #[.int .i64 a0_0, .int .i64 a0_1, .slice A0_2 l0_2.length c0_2] 44 (0, 0)) (kk_ BK186.out) hb); have n1_ := Ai0.mk (bt1 bl_ hb); clear BK186; clear HB; have BK186 := n0_; have HB := n1_; clear n0_ n1_; (try clear hb); (try clear hb2); (try clear hk); (try clear hi); have hcz11_0 : w10.cell? ⟨gb186, 0, none⟩ = some (.int .i64 a0_0) := (kc1 BK186.out 0).trans rfl; have hcz11_1 : w10.cell? ⟨gb186, 1, none⟩ = some (.int .i64 a0_1) := (kc1 BK186.out 1).trans rfl; have hcz11_2 : w10.cell? ⟨gb186, 2, none⟩ = some (.slice A0_2 l0_2.length c0_2) := (kc1 BK186.out 2).trans rfl; have hfz11_0 := kf1 BK186.out 0; have hfz11_1 := kf1 BK186.out 1; have hfz11_2 := kf1 BK186.out 2) | (go_at_call 76; (with_reducible refine (cr4_prime.calls k a0_0 t188 _ A8.out).mono ?_); rintro e w' ⟨rfl, ⟨nd, rfl⟩⟩; (try first | exact ⟨rfl, _, World.drewN_drewN _ _ _⟩ | exact ⟨rfl, _, Eq.trans (World.drewN_drewN _ _ _) (congrArg (World.drewN _) (Nat.add_assoc _ _ _))⟩))))
   go_meet
   case rel => exact ⟨_, (!t188), rf_, H', ⟨by first | omega | exact Nat.le_refl _⟩, ⟨kk_ BK186.out⟩, ⟨bl_⟩⟩
 case rest =>
  clear HC2
  try clear p2
  try clear c5
  try clear c5b0
  try clear c5b1
  try clear hcz11_0
  try clear hcz11_1
  try clear hcz11_2
  try clear hcz6_0
  try clear hcz6_1
  try clear hcz6_2
  try clear hcz9_0
  try clear hcz9_1
  try clear hcz9_2
  try clear hfz11_0
  try clear hfz11_1
  try clear hfz11_2
  try clear hfz6_0
  try clear hfz6_1
  try clear hfz6_2
  try clear hfz9_0
  try clear hfz9_1
  try clear hfz9_2
  obtain ⟨kq, x12_1, rfl, HA, HJ1, BK186, HB⟩ := hcut
  cases kq with
  | zero => exact absurd HA.out (by simp [cr4_Check.j0])
  | succ kj1 =>
   have H := HA.out;clear HA;simp only [cr4_Check.j0] at H;by_cases c12 : x12_1 = true
   ·subst c12;(have H1 : (some 1) = some r := by rw [if_pos rfl] at H; exact H);clear H;have H := H1;clear H1;obtain rfl := Option.some.inj H
    go_wp2
    repeat (go_quiet (fail); try go_wp2)
    go_ret
    exact ⟨by first | rfl | (simp [eW0, eW1] <;> rfl) | (simp [*, eW0, eW1] <;> rfl), bl_⟩
   ·replace c12 := Bool.eq_false_iff.mpr c12;subst c12;(have H1 : (if a0_1 = 1 then (if (l0_2.length : Int) = 0 then (some 0) else (some 1)) else (if (l0_2.length : Int) = a0_1 then (cr4_Check.l0 kj1 0 a0_0 a0_1 l0_2) else (some 1))) = some r := by rw [if_neg (show ¬ (false = true) by decide)] at H; exact H);clear H;have H := H1;clear H1;by_cases c13 : a0_1 = 1
    ·rw [if_pos c13] at H;have c13b0 : (a0_1 == 1) = true := beq_iff_eq.mpr c13;have c13b1 : (a0_1 != 1) = false := bne_eq_false_iff_eq.mpr c13;clear c13;by_cases c14 : (l0_2.length : Int) = 0
     case' pos =>
      rw [if_pos c14] at H;have c14b0 : ((l0_2.length : Int) == 0) = true := beq_iff_eq.mpr c14;have c14b1 : ((l0_2.length : Int) != 0) = false := bne_eq_false_iff_eq.mpr c14;clear c14;obtain rfl := Option.some.inj H
     case' neg =>
      rw [if_neg c14] at H;have c14b0 : ((l0_2.length : Int) == 0) = false := beq_eq_false_iff_ne.mpr c14;have c14b1 : ((l0_2.length : Int) != 0) = true := bne_iff_ne.mpr c14;(have c14b2 : ¬ (l0_2 = []) := fun h_ => c14 (by rw [h_]; rfl));obtain rfl := Option.some.inj H
     all_goals
      have hcz15_0 : wc.cell? ⟨gb186, 0, none⟩ = some (.int .i64 a0_0) := (kc1 BK186.out 0).trans rfl;have hcz15_1 : wc.cell? ⟨gb186, 1, none⟩ = some (.int .i64 a0_1) := (kc1 BK186.out 1).trans rfl;have hcz15_2 : wc.cell? ⟨gb186, 2, none⟩ = some (.slice A0_2 l0_2.length c0_2) := (kc1 BK186.out 2).trans rfl;have hfz15_0 := kf1 BK186.out 0;have hfz15_1 := kf1 BK186.out 1;have hfz15_2 := kf1 BK186.out 2
      go_wp2
      repeat (go_quiet (fail); try go_wp2)
      go_ret
      exact ⟨by first | rfl | (simp [eW0, eW1] <;> rfl) | (simp [*, eW0, eW1] <;> rfl), bl_⟩
    ·rw [if_neg c13] at H;have c13b0 : (a0_1 == 1) = false := beq_eq_false_iff_ne.mpr c13;have c13b1 : (a0_1 != 1) = true := bne_iff_ne.mpr c13;by_cases c17 : (l0_2.length : Int) = a0_1
     ·rw [if_pos c17] at H;have c17b0 : ((l0_2.length : Int) == a0_1) = true := beq_iff_eq.mpr c17;have c17b1 : ((l0_2.length : Int) != a0_1) = false := bne_eq_false_iff_eq.mpr c17;clear c17;have H' := Ai0.mk H;clear H;have hcz18_0 : wc.cell? ⟨gb186, 0, none⟩ = some (.int .i64 a0_0) := (kc1 BK186.out 0).trans rfl;have hcz18_1 : wc.cell? ⟨gb186, 1, none⟩ = some (.int .i64 a0_1) := (kc1 BK186.out 1).trans rfl;have hcz18_2 : wc.cell? ⟨gb186, 2, none⟩ = some (.slice A0_2 l0_2.length c0_2) := (kc1 BK186.out 2).trans rfl;have hfz18_0 := kf1 BK186.out 0;have hfz18_1 := kf1 BK186.out 1;have hfz18_2 := kf1 BK186.out 2
      go_wp2
      repeat (go_quiet (fail); try go_wp2)
      go_loopg [3] kj1 (fun kq v3 w' => ∃ (x3_2 : Int), v3 = .int .i64 x3_2 ∧ Ai0 (cr4_Check.l0 kq x3_2 a0_0 a0_1 l0_2 = some r) ∧ Ai0 (kq ≤ kj1) ∧ Ai0 (w'.heap[gb186]? = some (.cells #[.int .i64 a0_0, .int .i64 a0_1, (.slice A0_2 l0_2.length c0_2)] 44 (0, 0))) ∧ Ai0 (Below w.heap.size w w'))
      case atStart => exact ⟨(0), rf_, H', ⟨Nat.le_refl _⟩, ⟨kk_ BK186.out⟩, ⟨bl_⟩⟩
      case round =>
       clear H'
       try clear c1
       try clear p2
       try clear c5
       try clear c5b0
       try clear c5b1
       try clear c12
       try clear c13
       try clear c13b0
       try clear c13b1
       try clear c14
       try clear c14b0
       try clear c14b1
       try clear c14b2
       try clear c17
       try clear c17b0
       try clear c17b1
       try clear hcz11_0
       try clear hcz11_1
       try clear hcz11_2
       try clear hcz15_0
       try clear hcz15_1
       try clear hcz15_2
       try clear hcz16_0
       try clear hcz16_1
       try clear hcz16_2
       try clear hcz18_0
       try clear hcz18_1
       try clear hcz18_2
       try clear hcz6_0
       try clear hcz6_1
       try clear hcz6_2
       try clear hcz9_0
       try clear hcz9_1
       try clear hcz9_2
       try clear hfz11_0
       try clear hfz11_1
       try clear hfz11_2
       try clear hfz15_0
       try clear hfz15_1
       try clear hfz15_2
       try clear hfz16_0
       try clear hfz16_1
       try clear hfz16_2
       try clear hfz18_0
       try clear hfz18_1
       try clear hfz18_2
       try clear hfz6_0
       try clear hfz6_1
       try clear hfz6_2
       try clear hfz9_0
       try clear hfz9_1
       try clear hfz9_2
       try clear p2
       obtain ⟨x3_2, rfl, HA, HK2, BK186, HB⟩ := hrel
       cases gk with
       | zero => exact absurd HA.out (by simp [cr4_Check.l0])
       | succ k2 =>
        have H := HA.out;clear HA;simp only [cr4_Check.l0] at H;by_cases c19 : x3_2 < a0_1
        ·rw [if_pos c19] at H;have c19b0 : decide (x3_2 < a0_1) = true := decide_eq_true c19;clear c19;by_cases c20 : 0 ≤ x3_2
         ·rw [if_pos c20] at H;have c20b0 : decide (0 ≤ x3_2) = true := decide_eq_true c20;clear c20;by_cases c21 : x3_2 < (l0_2.length : Int)
          ·rw [if_pos c21] at H;have c21b0 : decide (x3_2 < (l0_2.length : Int)) = true := decide_eq_true c21;clear c21;by_cases c22 : (rd l0_2 x3_2) < 0
           ·rw [if_pos c22] at H;have c22b0 : decide ((rd l0_2 x3_2) < 0) = true := decide_eq_true c22;clear c22;obtain rfl := Option.some.inj H;have hcz23_0 : wr.cell? ⟨gb186, 0, none⟩ = some (.int .i64 a0_0) := (kc1 BK186.out 0).trans rfl;have hcz23_1 : wr.cell? ⟨gb186, 1, none⟩ = some (.int .i64 a0_1) := (kc1 BK186.out 1).trans rfl;have hcz23_2 : wr.cell? ⟨gb186, 2, none⟩ = some (.slice A0_2 l0_2.length c0_2) := (kc1 BK186.out 2).trans rfl;have hfz23_0 := kf1 BK186.out 0;have hfz23_1 := kf1 BK186.out 1;have hfz23_2 := kf1 BK186.out 2;have p189 : 0 ≤ (x3_2 : Int) := od_;have q189 : x3_2 < (l0_2.length : Int) := od_;obtain ⟨ad189, e189, hx189_0⟩ := Kd.at_int HR0_2.out x3_2 p189 q189;cases e189;replace hx189_0 := (HB.out.cell (World.block_lt_of_cell? w _ hx189_0)).trans hx189_0;replace p189 := eq_true p189;replace q189 := eq_true q189
            go_wp2
            repeat (go_quiet (fail); try go_wp2)
            go_ret
            exact ⟨by first | rfl | (simp [eW0, eW1] <;> rfl) | (simp [*, eW0, eW1] <;> rfl), bl_⟩
           ·rw [if_neg c22] at H;have c22b0 : decide ((rd l0_2 x3_2) < 0) = false := decide_eq_false c22;clear c22;by_cases c24 : (rd l0_2 x3_2) ≥ a0_0
            case' pos =>
             rw [if_pos c24] at H;have c24b0 : decide (a0_0 ≤ (rd l0_2 x3_2)) = true := decide_eq_true c24;clear c24;obtain rfl := Option.some.inj H
            case' neg =>
             rw [if_neg c24] at H;have c24b0 : decide (a0_0 ≤ (rd l0_2 x3_2)) = false := decide_eq_false c24;clear c24;have H' := Ai0.mk H;clear H
            all_goals
             have hcz25_0 : wr.cell? ⟨gb186, 0, none⟩ = some (.int .i64 a0_0) := (kc1 BK186.out 0).trans rfl;have hcz25_1 : wr.cell? ⟨gb186, 1, none⟩ = some (.int .i64 a0_1) := (kc1 BK186.out 1).trans rfl;have hcz25_2 : wr.cell? ⟨gb186, 2, none⟩ = some (.slice A0_2 l0_2.length c0_2) := (kc1 BK186.out 2).trans rfl;have hfz25_0 := kf1 BK186.out 0;have hfz25_1 := kf1 BK186.out 1;have hfz25_2 := kf1 BK186.out 2;have p189 : 0 ≤ (x3_2 : Int) := od_;have q189 : x3_2 < (l0_2.length : Int) := od_;obtain ⟨ad189, e189, hx189_0⟩ := Kd.at_int HR0_2.out x3_2 p189 q189;cases e189;replace hx189_0 := (HB.out.cell (World.block_lt_of_cell? w _ hx189_0)).trans hx189_0;replace p189 := eq_true p189;replace q189 := eq_true q189;have p190 : 0 ≤ (x3_2 : Int) := od_;have q190 : x3_2 < (l0_2.length : Int) := od_;obtain ⟨ad190, e190, hx190_0⟩ := Kd.at_int HR0_2.out x3_2 p190 q190;obtain rfl : ad189 = ad190 := (by injection e190);replace hx190_0 := (HB.out.cell (World.block_lt_of_cell? w _ hx190_0)).trans hx190_0;replace p190 := eq_true p190;replace q190 := eq_true q190
             go_wp2
             repeat (go_quiet (fail); try go_wp2)
            ·go_roundg k2
             case measure => have := HJ1.out; have := HK2.out; omega
             case rel => exact ⟨(wrap64 (x3_2 + 1)), rf_, H', ⟨by have := HJ1.out; have := HK2.out; omega⟩, ⟨kk_ BK186.out⟩, ⟨bl_⟩⟩
            ·go_ret
             exact ⟨by first | rfl | (simp [eW0, eW1] <;> rfl) | (simp [*, eW0, eW1] <;> rfl), bl_⟩
          ·rw [if_neg c21] at H;exact absurd H (by simp)
         ·rw [if_neg c20] at H;exact absurd H (by simp)
        ·rw [if_neg c19] at H;have c19b0 : decide (x3_2 < a0_1) = false := decide_eq_false c19;clear c19;replace H := Option.bind_eq_some_iff.mp H;obtain ⟨t191, A270, H⟩ := H;replace H : (if t191 = true then (some 0) else (some 1)) = some r := H;have A27 := Ai0.mk A270;clear A270;by_cases c28 : t191 = true
         ·subst c28;(have H1 : (some 0) = some r := by rw [if_pos rfl] at H; exact H);clear H;have H := H1;clear H1;obtain rfl := Option.some.inj H;have hcz29_0 : wr.cell? ⟨gb186, 0, none⟩ = some (.int .i64 a0_0) := (kc1 BK186.out 0).trans rfl;have hcz29_1 : wr.cell? ⟨gb186, 1, none⟩ = some (.int .i64 a0_1) := (kc1 BK186.out 1).trans rfl;have hcz29_2 : wr.cell? ⟨gb186, 2, none⟩ = some (.slice A0_2 l0_2.length c0_2) := (kc1 BK186.out 2).trans rfl;have hfz29_0 := kf1 BK186.out 0;have hfz29_1 := kf1 BK186.out 1;have hfz29_2 := kf1 BK186.out 2
          go_wp2_with (first | (go_at_call 77; (with_reducible refine (cr4_irreducible.calls k2 _ _ l0_2 a0_0 true _ ?side1 ?side2 A27.out).mono ?_); (case side1 => exact kc_ HR0_2.out); (case side2 => exact HC0_2.out); rintro e w30 ⟨rfl, hb⟩; have n0_ := Ai0.mk (kb1 (g := gb186) (o := .cells #[.int .i64 a0_0, .int .i64 a0_1, .slice A0_2 l0_2.length c0_2] 44 (0, 0)) (kk_ BK186.out) hb); have n1_ := Ai0.mk (bt1 bl_ hb); clear BK186; clear HB; have BK186 := n0_; have HB := n1_; clear n0_ n1_; (try clear hb); (try clear hb2); (try clear hk); (try clear hi)))
          repeat (go_quiet (first | (go_at_call 77; (with_reducible refine (cr4_irreducible.calls k2 _ _ l0_2 a0_0 true _ ?side1 ?side2 A27.out).mono ?_); (case side1 => exact kc_ HR0_2.out); (case side2 => exact HC0_2.out); rintro e w30 ⟨rfl, hb⟩; have n0_ := Ai0.mk (kb1 (g := gb186) (o := .cells #[.int .i64 a0_0, .int .i64 a0_1, .slice A0_2 l0_2.length c0_2] 44 (0, 0)) (kk_ BK186.out) hb); have n1_ := Ai0.mk (bt1 bl_ hb); clear BK186; clear HB; have BK186 := n0_; have HB := n1_; clear n0_ n1_; (try clear hb); (try clear hb2); (try clear hk); (try clear hi))); try go_wp2_with (first | (go_at_call 77; (with_reducible refine (cr4_irreducible.calls k2 _ _ l0_2 a0_0 true _ ?side1 ?side2 A27.out).mono ?_); (case side1 => exact kc_ HR0_2.out); (case side2 => exact HC0_2.out); rintro e w30 ⟨rfl, hb⟩; have n0_ := Ai0.mk (kb1 (g := gb186) (o := .cells #[.int .i64 a0_0, .int .i64 a0_1, .slice A0_2 l0_2.length c0_2] 44 (0, 0)) (kk_ BK186.out) hb); have n1_ := Ai0.mk (bt1 bl_ hb); clear BK186; clear HB; have BK186 := n0_; have HB := n1_; clear n0_ n1_; (try clear hb); (try clear hb2); (try clear hk); (try clear hi))))
          go_ret
          exact ⟨by first | rfl | (simp [eW0, eW1] <;> rfl) | (simp [*, eW0, eW1] <;> rfl), bl_⟩
         ·replace c28 := Bool.eq_false_iff.mpr c28;subst c28;(have H1 : (some 1) = some r := by rw [if_neg (show ¬ (false = true) by decide)] at H; exact H);clear H;have H := H1;clear H1;obtain rfl := Option.some.inj H;have hcz31_0 : wr.cell? ⟨gb186, 0, none⟩ = some (.int .i64 a0_0) := (kc1 BK186.out 0).trans rfl;have hcz31_1 : wr.cell? ⟨gb186, 1, none⟩ = some (.int .i64 a0_1) := (kc1 BK186.out 1).trans rfl;have hcz31_2 : wr.cell? ⟨gb186, 2, none⟩ = some (.slice A0_2 l0_2.length c0_2) := (kc1 BK186.out 2).trans rfl;have hfz31_0 := kf1 BK186.out 0;have hfz31_1 := kf1 BK186.out 1;have hfz31_2 := kf1 BK186.out 2
          go_wp2_with (first | (go_at_call 77; (with_reducible refine (cr4_irreducible.calls k2 _ _ l0_2 a0_0 false _ ?side1 ?side2 A27.out).mono ?_); (case side1 => exact kc_ HR0_2.out); (case side2 => exact HC0_2.out); rintro e w32 ⟨rfl, hb⟩; have n0_ := Ai0.mk (kb1 (g := gb186) (o := .cells #[.int .i64 a0_0, .int .i64 a0_1, .slice A0_2 l0_2.length c0_2] 44 (0, 0)) (kk_ BK186.out) hb); have n1_ := Ai0.mk (bt1 bl_ hb); clear BK186; clear HB; have BK186 := n0_; have HB := n1_; clear n0_ n1_; (try clear hb); (try clear hb2); (try clear hk); (try clear hi)))
          repeat (go_quiet (first | (go_at_call 77; (with_reducible refine (cr4_irreducible.calls k2 _ _ l0_2 a0_0 false _ ?side1 ?side2 A27.out).mono ?_); (case side1 => exact kc_ HR0_2.out); (case side2 => exact HC0_2.out); rintro e w32 ⟨rfl, hb⟩; have n0_ := Ai0.mk (kb1 (g := gb186) (o := .cells #[.int .i64 a0_0, .int .i64 a0_1, .slice A0_2 l0_2.length c0_2] 44 (0, 0)) (kk_ BK186.out) hb); have n1_ := Ai0.mk (bt1 bl_ hb); clear BK186; clear HB; have BK186 := n0_; have HB := n1_; clear n0_ n1_; (try clear hb); (try clear hb2); (try clear hk); (try clear hi))); try go_wp2_with (first | (go_at_call 77; (with_reducible refine (cr4_irreducible.calls k2 _ _ l0_2 a0_0 false _ ?side1 ?side2 A27.out).mono ?_); (case side1 => exact kc_ HR0_2.out); (case side2 => exact HC0_2.out); rintro e w32 ⟨rfl, hb⟩; have n0_ := Ai0.mk (kb1 (g := gb186) (o := .cells #[.int .i64 a0_0, .int .i64 a0_1, .slice A0_2 l0_2.length c0_2] 44 (0, 0)) (kk_ BK186.out) hb); have n1_ := Ai0.mk (bt1 bl_ hb); clear BK186; clear HB; have BK186 := n0_; have HB := n1_; clear n0_ n1_; (try clear hb); (try clear hb2); (try clear hk); (try clear hi))))
          go_ret
          exact ⟨by first | rfl | (simp [eW0, eW1] <;> rfl) | (simp [*, eW0, eW1] <;> rfl), bl_⟩
     ·rw [if_neg c17] at H;have c17b0 : ((l0_2.length : Int) == a0_1) = false := beq_eq_false_iff_ne.mpr c17;have c17b1 : ((l0_2.length : Int) != a0_1) = true := bne_iff_ne.mpr c17;obtain rfl := Option.some.inj H;have hcz33_0 : wc.cell? ⟨gb186, 0, none⟩ = some (.int .i64 a0_0) := (kc1 BK186.out 0).trans rfl;have hcz33_1 : wc.cell? ⟨gb186, 1, none⟩ = some (.int .i64 a0_1) := (kc1 BK186.out 1).trans rfl;have hcz33_2 : wc.cell? ⟨gb186, 2, none⟩ = some (.slice A0_2 l0_2.length c0_2) := (kc1 BK186.out 2).trans rfl;have hfz33_0 := kf1 BK186.out 0;have hfz33_1 := kf1 BK186.out 1;have hfz33_2 := kf1 BK186.out 2
      go_wp2
      repeat (go_quiet (fail); try go_wp2)
      go_ret
      exact ⟨by first | rfl | (simp [eW0, eW1] <;> rfl) | (simp [*, eW0, eW1] <;> rfl), bl_⟩
mutual
def cr9_Check.j0 : Nat → Bool → Int → Int → List Int → Int → List (List Int) → Option (Int)
 | 0, _, _, _, _, _, _ => none
 | k + 1, x26, x193000, x193001, x193002, x194000, x194001 => if x26 = true then (some 3) else (cr9_Check.l0 k 0 x193000 x193001 x193002 x194000 x194001)
def cr9_Check.l0 : Nat → Int → Int → Int → List Int → Int → List (List Int) → Option (Int)
 | 0, _, _, _, _, _, _ => none
 | k + 1, x6, x193000, x193001, x193002, x194000, x194001 => if x6 < (x194001.length : Int) then (if 0 ≤ x6 then (if ((rd_L1 x194001 x6).length : Int) = x194000 then (cr9_Check.l0 k (wrap64 (x6 + 1)) x193000 x193001 x193002 x194000 x194001) else (some 3)) else (none)) else (cr9_Check.l1 k 0 x193000 x193001 x193002 x194000 x194001)
def cr9_Check.l1 : Nat → Int → Int → Int → List Int → Int → List (List Int) → Option (Int)
 | 0, _, _, _, _, _, _ => none
 | k + 1, x7, x193000, x193001, x193002, x194000, x194001 => if x7 < (x194001.length : Int) then (if 0 ≤ x7 then ((cr9_Entries.f k x193000 x193001 x193002 (rd_L1 x194001 x7)).bind fun t197 => (if t197 = 0 then (cr9_Check.l1 k (wrap64 (x7 + 1)) x193000 x193001 x193002 x194000 x194001) else (some t197))) else (none)) else (some 0)
end
def cr9_Check.f (k : Nat) (a0_0 : Int) (a0_1 : Int) (l0_2 : List Int) (a1_0 : Int) (l1_1 : List (List Int)) : Option (Int) := (cr4_Check.f k a0_0 a0_1 l0_2).bind fun t194 => (if t194 = 0 then (if a1_0 < 0 then (cr9_Check.j0 k true a0_0 a0_1 l0_2 a1_0 l1_1) else (if a1_0 > 256 then (cr9_Check.j0 k true a0_0 a0_1 l0_2 a1_0 l1_1) else (cr9_Check.j0 k (decide ((l1_1.length : Int) > 256)) a0_0 a0_1 l0_2 a1_0 l1_1))) else (some t194))
theorem cr9_Check.mono_l : ∀ k, (∀ y0 y1 y2 y3 y4 y5, LeO (cr9_Check.j0 k y0 y1 y2 y3 y4 y5) (cr9_Check.j0 (k + 1) y0 y1 y2 y3 y4 y5)) ∧ (∀ y0 y1 y2 y3 y4 y5, LeO (cr9_Check.l0 k y0 y1 y2 y3 y4 y5) (cr9_Check.l0 (k + 1) y0 y1 y2 y3 y4 y5)) ∧ (∀ y0 y1 y2 y3 y4 y5, LeO (cr9_Check.l1 k y0 y1 y2 y3 y4 y5) (cr9_Check.l1 (k + 1) y0 y1 y2 y3 y4 y5))
 | 0 => ⟨fun _ _ _ _ _ _ r h => by simp [cr9_Check.j0] at h, fun _ _ _ _ _ _ r h => by simp [cr9_Check.l0] at h, fun _ _ _ _ _ _ r h => by simp [cr9_Check.l1] at h⟩
 | k + 1 => by
  obtain ⟨ih0, ih1, ih2⟩ := cr9_Check.mono_l k;refine ⟨?_, ?_, ?_⟩
  ·intro y0 y1 y2 y3 y4 y5;unfold cr9_Check.j0
   repeat' first
   | (with_reducible exact ih0 _ _ _ _ _ _)
   | (with_reducible exact ih1 _ _ _ _ _ _)
   | (with_reducible exact ih2 _ _ _ _ _ _)
   | (with_reducible exact cr4_Check.mono _ _ _ _)
   | (with_reducible exact cr9_Entries.mono _ _ _ _ _)
   | (with_reducible exact LeO.refl _)
   | (with_reducible exact LeO.none _)
   | (with_reducible refine LeO.ite ?_ ?_)
   | (with_reducible refine LeO.bind ?_ (fun _ => ?_))
   | exact ih0 _ _ _ _ _ _
   | exact ih1 _ _ _ _ _ _
   | exact ih2 _ _ _ _ _ _
   | exact cr4_Check.mono _ _ _ _
   | exact cr9_Entries.mono _ _ _ _ _
   | exact LeO.none _
   | refine LeO.ite ?_ ?_
   | refine LeO.bind ?_ (fun _ => ?_)
  ·intro y0 y1 y2 y3 y4 y5;unfold cr9_Check.l0
   repeat' first
   | (with_reducible exact ih0 _ _ _ _ _ _)
   | (with_reducible exact ih1 _ _ _ _ _ _)
   | (with_reducible exact ih2 _ _ _ _ _ _)
   | (with_reducible exact cr4_Check.mono _ _ _ _)
   | (with_reducible exact cr9_Entries.mono _ _ _ _ _)
   | (with_reducible exact LeO.refl _)
   | (with_reducible exact LeO.none _)
   | (with_reducible refine LeO.ite ?_ ?_)
   | (with_reducible refine LeO.bind ?_ (fun _ => ?_))
   | exact ih0 _ _ _ _ _ _
   | exact ih1 _ _ _ _ _ _
   | exact ih2 _ _ _ _ _ _
   | exact cr4_Check.mono _ _ _ _
   | exact cr9_Entries.mono _ _ _ _ _
   | exact LeO.none _
   | refine LeO.ite ?_ ?_
   | refine LeO.bind ?_ (fun _ => ?_)
  ·intro y0 y1 y2 y3 y4 y5;unfold cr9_Check.l1
   repeat' first
   | (with_reducible exact ih0 _ _ _ _ _ _)
   | (with_reducible exact ih1 _ _ _ _ _ _)
   | (with_reducible exact ih2 _ _ _ _ _ _)
   | (with_reducible exact cr4_Check.mono _ _ _ _)
   | (with_reducible exact cr9_Entries.mono _ _ _ _ _)
   | (with_reducible exact LeO.refl _)
   | (with_reducible exact LeO.none _)
   | (with_reducible refine LeO.ite ?_ ?_)
   | (with_reducible refine LeO.bind ?_ (fun _ => ?_))
   | exact ih0 _ _ _ _ _ _
   | exact ih1 _ _ _ _ _ _
   | exact ih2 _ _ _ _ _ _
   | exact cr4_Check.mono _ _ _ _
   | exact cr9_Entries.mono _ _ _ _ _
   | exact LeO.none _
   | refine LeO.ite ?_ ?_
   | refine LeO.bind ?_ (fun _ => ?_)
theorem cr9_Check.mono : ∀ a0 a1 a2 a3 a4 k, LeO (cr9_Check.f k a0 a1 a2 a3 a4) (cr9_Check.f (k + 1) a0 a1 a2 a3 a4) := by
 intro a0 a1 a2 a3 a4 k;obtain ⟨ih0, ih1, ih2⟩ := cr9_Check.mono_l k;unfold cr9_Check.f
 repeat' first
   | (with_reducible exact ih0 _ _ _ _ _ _)
   | (with_reducible exact ih1 _ _ _ _ _ _)
   | (with_reducible exact ih2 _ _ _ _ _ _)
   | (with_reducible exact cr4_Check.mono _ _ _ _)
   | (with_reducible exact cr9_Entries.mono _ _ _ _ _)
   | (with_reducible exact LeO.refl _)
   | (with_reducible exact LeO.none _)
   | (with_reducible refine LeO.ite ?_ ?_)
   | (with_reducible refine LeO.bind ?_ (fun _ => ?_))
   | exact ih0 _ _ _ _ _ _
   | exact ih1 _ _ _ _ _ _
   | exact ih2 _ _ _ _ _ _
   | exact cr4_Check.mono _ _ _ _
   | exact cr9_Entries.mono _ _ _ _ _
   | exact LeO.none _
   | refine LeO.ite ?_ ?_
   | refine LeO.bind ?_ (fun _ => ?_)
def cr9_Check.T9 : Bool × List (List Nat × List Nat) := (true, [([], []), ([0], [0]), ([], []), ([1, 2], [1, 2]), ([3], [3]), ([4], [4]), ([], []), ([6], [6]), ([5, 7], [5, 7])])
def cr9_Check.B9 : List Nat := [0, 1, 0, 7, 15, 31, 0, 64, 255]
theorem cr9_Check.tab9 : rtab .any (opsOf Try.f30 9) = cr9_Check.T9 := by kernel_rfl
theorem cr9_Check.bits9 : waitsOk cr9_Check.T9.2 cr9_Check.B9 = true := by kernel_rfl
def cr9_Check.T14 : Bool × List (List Nat × List Nat) := (true, [([], []), ([], []), ([1], [1]), ([], []), ([2, 3], [2, 3]), ([4], [4]), ([0, 5], [0, 5]), ([6, 6, 0, 1, 2, 3, 4, 5, 6], [6])])
def cr9_Check.B14 : List Nat := [0, 0, 2, 0, 14, 30, 63, 127]
theorem cr9_Check.tab14 : rtab .any (opsOf Try.f30 14) = cr9_Check.T14 := by kernel_rfl
theorem cr9_Check.bits14 : waitsOk cr9_Check.T14.2 cr9_Check.B14 = true := by kernel_rfl
set_option maxHeartbeats 8000000 in
set_option maxRecDepth 100000 in
theorem cr9_Check.calls (k : Nat) (a0_0 : Int) (a0_1 : Int) (A0_2 : Option Addr) (c0_2 : Nat) (l0_2 : List Int) (a1_0 : Int) (A1_1 : Option Addr) (c1_1 : Nat) (l1_1 : List (List Int)) (r : Int) (w : World) (hr0_2 : Kd.C (Kd.int .i64) w A0_2 l0_2.length l0_2) (hc0_2 : l0_2.length ≤ c0_2) (hr1_1 : Kd.C (Kd.slice 3 (Kd.int .i64)) w A1_1 l1_1.length l1_1) (hc1_1 : l1_1.length ≤ c1_1) (h : cr9_Check.f k a0_0 a0_1 l0_2 a1_0 l1_1 = some r) :
  Calls Try.prog 30 #[.agg #[.int .i64 a0_0, .int .i64 a0_1, .slice A0_2 l0_2.length c0_2], .agg #[.int .i64 a1_0, .slice A1_1 l1_1.length c1_1]] w fun e w' => e = .returned (.int .i64 r) ∧ Below w.heap.size w w' := by
 have hu44 := Try.underlying44;have hu24 := Try.underlying24;have HR0_2 := Ai0.mk hr0_2;have HC0_2 := Ai0.mk hc0_2;clear hr0_2 hc0_2;have HR1_1 := Ai0.mk hr1_1;have HC1_1 := Ai0.mk hc1_1;clear hr1_1 hc1_1;have HB := Ai0.mk (Below.refl w.heap.size w);have H : ((cr4_Check.f k a0_0 a0_1 l0_2).bind fun t194 => (if t194 = 0 then (if a1_0 < 0 then (cr9_Check.j0 k true a0_0 a0_1 l0_2 a1_0 l1_1) else (if a1_0 > 256 then (cr9_Check.j0 k true a0_0 a0_1 l0_2 a1_0 l1_1) else (cr9_Check.j0 k (decide ((l1_1.length : Int) > 256)) a0_0 a0_1 l0_2 a1_0 l1_1))) else (some t194))) = some r := h;clear h;replace H := Option.bind_eq_some_iff.mp H;obtain ⟨t194, A30, H⟩ := H;replace H : (if t194 = 0 then (if a1_0 < 0 then (cr9_Check.j0 k true a0_0 a0_1 l0_2 a1_0 l1_1) else (if a1_0 > 256 then (cr9_Check.j0 k true a0_0 a0_1 l0_2 a1_0 l1_1) else (cr9_Check.j0 k (decide ((l1_1.length : Int) > 256)) a0_0 a0_1 l0_2 a1_0 l1_1))) else (some t194)) = some r := H;have A3 := Ai0.mk A30;clear A30;by_cases c4 : t194 = 0
 ·rw [if_pos c4] at H;have c4b0 : (t194 == 0) = true := beq_iff_eq.mpr c4;have c4b1 : (t194 != 0) = false := bne_eq_false_iff_eq.mpr c4;clear c4;have HC5 := Ai0.mk H;clear H;go_enter Try.func30, Try.ntmps30
  go_upto_region 4 with (first | ((with_reducible refine gate_dst (N := 2) rfl ?_); (try (refine gate_guard (by rfl) ?_; dsimp only)); refine box_event ?hg (N := 2) ?hd (cs := #[.int .i64 a0_0, .int .i64 a0_1, .slice A0_2 l0_2.length c0_2]) (t := 44) ?hr ?_; (case hd => rfl); (case hg => rfl); (case hr => first | (go_simp; done) | (go_simp; rfl)); intro gb192 hg w6 hbox hb; have n0_ := Ai0.mk (bt1 bl_ hb); have n1_ := Ai0.mk (hbox); have n2_ := Ai0.mk ((by rw [hg]; exact (bz1 bl_) : w.heap.size ≤ gb192)); have n3_ := Ai0.mk ((by rw [hg]; exact (bz1 bl_) : w.heap.size ≤ gb192)); clear HB; have HB := n0_; have BK192 := n1_; have GW192 := n2_; have GE192 := n3_; clear n0_ n1_ n2_ n3_; clear hb hbox hg) | ((with_reducible refine gate_dst (N := 3) rfl ?_); (try (refine gate_guard (by rfl) ?_; dsimp only)); refine box_event ?hg (N := 3) ?hd (cs := #[.int .i64 a1_0, .slice A1_1 l1_1.length c1_1]) (t := 24) ?hr ?_; (case hd => rfl); (case hg => rfl); (case hr => first | (go_simp; done) | (go_simp; rfl)); intro gb193 hg w7 hbox hb; have n0_ := Ai0.mk (kb1 (g := gb192) (o := .cells #[.int .i64 a0_0, .int .i64 a0_1, .slice A0_2 l0_2.length c0_2] 44 (0, 0)) (kk_ BK192.out) hb); have n1_ := Ai0.mk (bt1 bl_ hb); have n2_ := Ai0.mk (hbox); have n3_ := Ai0.mk ((by rw [hg]; exact (bz1 bl_) : w.heap.size ≤ gb193)); have n4_ := Ai0.mk ((by rw [hg]; exact (bz1 bl_) : w.heap.size ≤ gb193)); have n5_ := Ai0.mk ((by rw [hg]; exact Nat.ne_of_lt (blk_lt (g := gb192) (o := .cells #[.int .i64 a0_0, .int .i64 a0_1, .slice A0_2 l0_2.length c0_2] 44 (0, 0)) (kk_ BK192.out)) : gb192 ≠ gb193)); have n6_ := Ai0.mk ((by rw [hg]; exact Nat.ne_of_gt (blk_lt (g := gb192) (o := .cells #[.int .i64 a0_0, .int .i64 a0_1, .slice A0_2 l0_2.length c0_2] 44 (0, 0)) (kk_ BK192.out)) : gb193 ≠ gb192)); clear BK192; clear HB; have BK192 := n0_; have HB := n1_; have BK193 := n2_; have GW193 := n3_; have GE193 := n4_; have NB192_193 := n5_; have NB193_192 := n6_; clear n0_ n1_ n2_ n3_ n4_ n5_ n6_; clear hb hbox hg; have hnb8 := NB192_193.out; have hnc8 := NB193_192.out; have hcz9_0 : w7.cell? ⟨gb192, 0, none⟩ = some (.int .i64 a0_0) := (kc1 BK192.out 0).trans rfl; have hcz9_1 : w7.cell? ⟨gb192, 1, none⟩ = some (.int .i64 a0_1) := (kc1 BK192.out 1).trans rfl; have hcz9_2 : w7.cell? ⟨gb192, 2, none⟩ = some (.slice A0_2 l0_2.length c0_2) := (kc1 BK192.out 2).trans rfl; have hfz9_0 := kf1 BK192.out 0; have hfz9_1 := kf1 BK192.out 1; have hfz9_2 := kf1 BK192.out 2) | ((with_reducible refine gate_callee (f := 59) rfl ?_); refine goesL_ (some 9) rfl rfl Try.func59 (by kernel_rfl) rfl #[.agg #[.int .i64 a0_0, .int .i64 a0_1, .slice A0_2 l0_2.length c0_2]] rfl (by (try simp only [List.map_toArray, List.map_cons, List.map_nil]); first | done | rfl | (simp only [List.length_drop, List.length_take]; rfl)) ?_; (with_reducible refine (cr4_Check.calls k a0_0 a0_1 _ _ l0_2 t194 _ ?side1 ?side2 A3.out).mono ?_); (case side1 => exact kc_ HR0_2.out); (case side2 => exact HC0_2.out); rintro e w10 ⟨rfl, hb⟩; refine ⟨_, rfl, ?_⟩; have n0_ := Ai0.mk (kb1 (g := gb192) (o := .cells #[.int .i64 a0_0, .int .i64 a0_1, .slice A0_2 l0_2.length c0_2] 44 (0, 0)) (kk_ BK192.out) hb); have n1_ := Ai0.mk (kb1 (g := gb193) (o := .cells #[.int .i64 a1_0, .slice A1_1 l1_1.length c1_1] 24 (0, 0)) (kk_ BK193.out) hb); have n2_ := Ai0.mk (bt1 bl_ hb); clear BK192; clear BK193; clear HB; have BK192 := n0_; have BK193 := n1_; have HB := n2_; clear n0_ n1_ n2_; (try clear hb); (try clear hb2); (try clear hk); (try clear hi)))
  (try simp only [Act.put, l01_, l02_, l03_])
  go_cut [26] (fun v26 wc => ∃ (kq : Nat) (x26_4 : Bool), v26 = .bool x26_4 ∧ Ai0 (cr9_Check.j0 kq x26_4 a0_0 a0_1 l0_2 a1_0 l1_1 = some r) ∧ Ai0 (kq ≤ k) ∧ Ai0 (wc.heap[gb192]? = some (.cells #[.int .i64 a0_0, .int .i64 a0_1, (.slice A0_2 l0_2.length c0_2)] 44 (0, 0))) ∧ Ai0 (wc.heap[gb193]? = some (.cells #[.int .i64 a1_0, (.slice A1_1 l1_1.length c1_1)] 24 (0, 0))) ∧ Ai0 (Below w.heap.size w wc))
  case first =>
   have H := HC5.out;clear HC5;by_cases c11 : a1_0 < 0
   ·rw [if_pos c11] at H;have c11b0 : decide (a1_0 < 0) = true := decide_eq_true c11;clear c11;(first | rw [c11b0] | (simp only [i64_w, i32_w]; rw [c11b0]) | skip);have H' := Ai0.mk H;clear H;have hnb12 := NB193_192.out;have hnc12 := NB192_193.out;have hcz13_0 : w10.cell? ⟨gb193, 0, none⟩ = some (.int .i64 a1_0) := (kc1 BK193.out 0).trans rfl;have hcz13_1 : w10.cell? ⟨gb193, 1, none⟩ = some (.slice A1_1 l1_1.length c1_1) := (kc1 BK193.out 1).trans rfl;have hfz13_0 := kf1 BK193.out 0;have hfz13_1 := kf1 BK193.out 1
    go_wp2
    go_meet
    case rel => exact ⟨_, (true), rf_, H', ⟨by first | omega | exact Nat.le_refl _⟩, ⟨kk_ BK192.out⟩, ⟨kk_ BK193.out⟩, ⟨bl_⟩⟩
   ·rw [if_neg c11] at H;have c11b0 : decide (a1_0 < 0) = false := decide_eq_false c11;clear c11;(first | rw [c11b0] | (simp only [i64_w, i32_w]; rw [c11b0]) | skip);by_cases c14 : a1_0 > 256
    ·rw [if_pos c14] at H;have c14b0 : decide (256 < a1_0) = true := decide_eq_true c14;clear c14;have H' := Ai0.mk H;clear H;have hnb15 := NB193_192.out;have hnc15 := NB192_193.out;have hcz16_0 : w10.cell? ⟨gb193, 0, none⟩ = some (.int .i64 a1_0) := (kc1 BK193.out 0).trans rfl;have hcz16_1 : w10.cell? ⟨gb193, 1, none⟩ = some (.slice A1_1 l1_1.length c1_1) := (kc1 BK193.out 1).trans rfl;have hfz16_0 := kf1 BK193.out 0;have hfz16_1 := kf1 BK193.out 1
     go_wp2
     go_meet
     case rel => exact ⟨_, (true), rf_, H', ⟨by first | omega | exact Nat.le_refl _⟩, ⟨kk_ BK192.out⟩, ⟨kk_ BK193.out⟩, ⟨bl_⟩⟩
    ·rw [if_neg c14] at H;have c14b0 : decide (256 < a1_0) = false := decide_eq_false c14;clear c14;have H' := Ai0.mk H;clear H;have hnb17 := NB193_192.out;have hnc17 := NB192_193.out;have hcz18_0 : w10.cell? ⟨gb193, 0, none⟩ = some (.int .i64 a1_0) := (kc1 BK193.out 0).trans rfl;have hcz18_1 : w10.cell? ⟨gb193, 1, none⟩ = some (.slice A1_1 l1_1.length c1_1) := (kc1 BK193.out 1).trans rfl;have hfz18_0 := kf1 BK193.out 0;have hfz18_1 := kf1 BK193.out 1
     go_wp2
     go_meet
     case rel => exact ⟨_, (decide ((l1_1.length : Int) > 256)), rf_, H', ⟨by first | omega | exact Nat.le_refl _⟩, ⟨kk_ BK192.out⟩, ⟨kk_ BK193.out⟩, ⟨bl_⟩⟩
  case rest =>
   clear HC5
   try clear c1
   try clear p2
   try clear c3
   try clear c4
   try clear c4b0
   try clear c4b1
   try clear c5
   try clear c8
   try clear c11
   try clear c11b0
   try clear c12
   try clear c14
   try clear c14b0
   try clear c15
   try clear c17
   try clear hcz13_0
   try clear hcz13_1
   try clear hcz16_0
   try clear hcz16_1
   try clear hcz18_0
   try clear hcz18_1
   try clear hcz9_0
   try clear hcz9_1
   try clear hcz9_2
   try clear hfz13_0
   try clear hfz13_1
   try clear hfz16_0
   try clear hfz16_1
   try clear hfz18_0
   try clear hfz18_1
   try clear hfz9_0
   try clear hfz9_1
   try clear hfz9_2
   obtain ⟨kq, x26_4, rfl, HA, HJ4, BK192, BK193, HB⟩ := hcut
   cases kq with
   | zero => exact absurd HA.out (by simp [cr9_Check.j0])
   | succ kj4 =>
    have H := HA.out;clear HA;simp only [cr9_Check.j0] at H;by_cases c19 : x26_4 = true
    ·subst c19;(have H1 : (some 3) = some r := by rw [if_pos rfl] at H; exact H);clear H;have H := H1;clear H1;obtain rfl := Option.some.inj H
     go_wp2
     go_ret
     exact ⟨by first | rfl | (simp [eW0, eW1] <;> rfl) | (simp [*, eW0, eW1] <;> rfl), bl_⟩
    ·replace c19 := Bool.eq_false_iff.mpr c19;subst c19;(have H1 : (cr9_Check.l0 kj4 0 a0_0 a0_1 l0_2 a1_0 l1_1) = some r := by rw [if_neg (show ¬ (false = true) by decide)] at H; exact H);clear H;have H := H1;clear H1;have H' := Ai0.mk H;clear H
     go_wp2
     go_loopg [6] kj4 (fun kq v6 w' => ∃ (x6_2 : Int), v6 = .int .i64 x6_2 ∧ Ai0 (cr9_Check.l0 kq x6_2 a0_0 a0_1 l0_2 a1_0 l1_1 = some r) ∧ Ai0 (kq ≤ kj4) ∧ Ai0 (w'.heap[gb192]? = some (.cells #[.int .i64 a0_0, .int .i64 a0_1, (.slice A0_2 l0_2.length c0_2)] 44 (0, 0))) ∧ Ai0 (w'.heap[gb193]? = some (.cells #[.int .i64 a1_0, (.slice A1_1 l1_1.length c1_1)] 24 (0, 0))) ∧ Ai0 (Below w.heap.size w w'))
     case atStart => exact ⟨(0), rf_, H', ⟨Nat.le_refl _⟩, ⟨kk_ BK192.out⟩, ⟨kk_ BK193.out⟩, ⟨bl_⟩⟩
     case round =>
      clear H'
      try clear c1
      try clear p2
      try clear c3
      try clear c4
      try clear c4b0
      try clear c4b1
      try clear c5
      try clear c8
      try clear c11
      try clear c11b0
      try clear c12
      try clear c14
      try clear c14b0
      try clear c15
      try clear c17
      try clear c19
      try clear hcz13_0
      try clear hcz13_1
      try clear hcz16_0
      try clear hcz16_1
      try clear hcz18_0
      try clear hcz18_1
      try clear hcz9_0
      try clear hcz9_1
      try clear hcz9_2
      try clear hfz13_0
      try clear hfz13_1
      try clear hfz16_0
      try clear hfz16_1
      try clear hfz18_0
      try clear hfz18_1
      try clear hfz9_0
      try clear hfz9_1
      try clear hfz9_2
      try clear p2
      obtain ⟨x6_2, rfl, HA, HK2, BK192, BK193, HB⟩ := hrel
      cases gk with
      | zero => exact absurd HA.out (by simp [cr9_Check.l0])
      | succ k2 =>
       have H := HA.out;clear HA;simp only [cr9_Check.l0] at H;by_cases c20 : x6_2 < (l1_1.length : Int)
       ·rw [if_pos c20] at H;have c20b0 : decide (x6_2 < (l1_1.length : Int)) = true := decide_eq_true c20;clear c20;by_cases c21 : 0 ≤ x6_2
        ·rw [if_pos c21] at H;have c21b0 : decide (0 ≤ x6_2) = true := decide_eq_true c21;clear c21;by_cases c22 : ((rd_L1 l1_1 x6_2).length : Int) = a1_0
         case' pos =>
          rw [if_pos c22] at H;have c22b0 : (((rd_L1 l1_1 x6_2).length : Int) == a1_0) = true := beq_iff_eq.mpr c22;have c22b1 : (((rd_L1 l1_1 x6_2).length : Int) != a1_0) = false := bne_eq_false_iff_eq.mpr c22;clear c22;have H' := Ai0.mk H;clear H
         case' neg =>
          rw [if_neg c22] at H;have c22b0 : (((rd_L1 l1_1 x6_2).length : Int) == a1_0) = false := beq_eq_false_iff_ne.mpr c22;have c22b1 : (((rd_L1 l1_1 x6_2).length : Int) != a1_0) = true := bne_iff_ne.mpr c22;obtain rfl := Option.some.inj H
         all_goals
          have hnb23 := NB193_192.out;have hnc23 := NB192_193.out;have hcz24_0 : wr.cell? ⟨gb193, 0, none⟩ = some (.int .i64 a1_0) := (kc1 BK193.out 0).trans rfl;have hcz24_1 : wr.cell? ⟨gb193, 1, none⟩ = some (.slice A1_1 l1_1.length c1_1) := (kc1 BK193.out 1).trans rfl;have hfz24_0 := kf1 BK193.out 0;have hfz24_1 := kf1 BK193.out 1
          try go_wp2
          have n0_ := Ai0.mk (kd1 BK192.out);have n1_ := Ai0.mk (kd1 BK193.out);have n2_ := Ai0.mk (bw1 HB.out);clear BK192;clear BK193;clear HB;have BK192 := n0_;have BK193 := n1_;have HB := n2_;clear n0_ n1_ n2_;have p195 : 0 ≤ (x6_2 : Int) := od_;have q195 : x6_2 < (l1_1.length : Int) := od_;obtain ⟨ad195, A195_0, c195_0, e195, hx195_0, hl195_0, hi195_0⟩ := at_L1 HR1_1.out x6_2 p195 q195;have hw195_0 := hx195_0;cases e195;replace hx195_0 := (HB.out.cell (World.block_lt_of_cell? w _ hx195_0)).trans hx195_0;have HR195_0 := Ai0.mk hi195_0;have HC195_0 := Ai0.mk hl195_0;clear hi195_0 hl195_0;replace p195 := eq_true p195;replace q195 := eq_true q195;refine start_ (n := 9) (S := fun w' => w'.cell? ⟨gb193, 0, none⟩ = some (.int .i64 a1_0) ∧ w'.cell? ⟨gb193, 1, none⟩ = some (.slice (some ad195) l1_1.length c1_1) ∧ w'.cell? (ad195.add (x6_2).toNat) = some (.slice A195_0 (rd_L1 l1_1 x6_2).length c195_0)) (ds := []) #[false, false, false, false, false, false, false, false, false] (by kernel_rfl) rfl rfl ⟨(kc1 BK193.out 0).trans rfl, (kc1 BK193.out 1).trans rfl, ((HB.out.cell (World.block_lt_of_cell? w _ hw195_0)).trans hw195_0)⟩ (fun hHeld => ?_); refine with_tabW cr9_Check.tab9 cr9_Check.bits9 (fun HT_ HW_ => ?_);(generalize wr.drew = w25 at BK192 BK193 HB HR195_0 hx195_0 hHeld ⊢);refine pure_ (i := 0) (N := some 34) (v := ?_) (a' := ?_) #[true, false, false, false, false, false, false, false, false] rfl rfl (any_of HT_.out (by kernel_rfl)) (fun _ _ _ h => h) (Or.inl ⟨by rfl, ?_⟩) ?_ ?_;rotate_left
          ·intro w';go_simp
           with_reducible rfl
          rotate_left
          ·simp only [Act.put, l01_, l02_, l03_, i64_w, i32_w]
           rfl
          refine pure_ (i := 2) (N := some 36) (v := ?_) (a' := ?_) #[true, false, true, false, false, false, false, false, false] rfl rfl (any_of HT_.out (by kernel_rfl)) (fun _ _ _ h => h) (Or.inl ⟨by rfl, ?_⟩) ?_ ?_;rotate_left
          ·intro w';go_simp
           with_reducible rfl
          rotate_left
          ·simp only [Act.put, l01_, l02_, l03_, i64_w, i32_w]
           rfl
          refine pure_ (i := 6) (N := some 40) (v := ?_) (a' := ?_) #[true, false, true, false, false, false, true, false, false] rfl rfl (any_of HT_.out (by kernel_rfl)) (fun _ _ _ h => h) (Or.inl ⟨by rfl, ?_⟩) ?_ ?_;rotate_left
          ·intro w';go_simp
           with_reducible rfl
          rotate_left
          ·simp only [Act.put, l01_, l02_, l03_, i64_w, i32_w]
           rfl
          refine take_ (i := 1) (N := some 35) (v := ?_) (a' := ?_) #[true, true, true, false, false, false, true, false, false] rfl rfl (take_ofW HT_.out HW_.out (by kernel_rfl)) (fun _ _ _ h => h) (Or.inl ⟨by rfl, ?_⟩) hHeld ?_ ?_;rotate_left
          ·rintro w' ⟨s0, s1, s2⟩
           go_simp
           with_reducible rfl
          rotate_left
          ·simp only [Act.put, l01_, l02_, l03_, i64_w, i32_w]
           rfl
          refine pure_ (i := 3) (N := some 37) (v := ?_) (a' := ?_) #[true, true, true, true, false, false, true, false, false] rfl rfl (any_of HT_.out (by kernel_rfl)) (fun _ _ _ h => h) (Or.inl ⟨by rfl, ?_⟩) ?_ ?_;rotate_left
          ·intro w';go_simp
           with_reducible rfl
          rotate_left
          ·simp only [Act.put, l01_, l02_, l03_, i64_w, i32_w]
           rfl
          refine take_ (i := 4) (N := some 38) (v := ?_) (a' := ?_) #[true, true, true, true, true, false, true, false, false] rfl rfl (take_ofW HT_.out HW_.out (by kernel_rfl)) (fun _ _ _ h => h) (Or.inl ⟨by rfl, ?_⟩) hHeld ?_ ?_;rotate_left
          ·rintro w' ⟨s0, s1, s2⟩
           go_simp
           with_reducible rfl
          rotate_left
          ·simp only [Act.put, l01_, l02_, l03_, i64_w, i32_w]
           rfl
          refine pure_ (i := 5) (N := some 39) (v := ?_) (a' := ?_) #[true, true, true, true, true, true, true, false, false] rfl rfl (any_of HT_.out (by kernel_rfl)) (fun _ _ _ h => h) (Or.inl ⟨by rfl, ?_⟩) ?_ ?_;rotate_left
          ·intro w';go_simp
           with_reducible rfl
          rotate_left
          ·simp only [Act.put, l01_, l02_, l03_, i64_w, i32_w]
           rfl
          refine take_ (i := 7) (N := some 41) (v := ?_) (a' := ?_) #[true, true, true, true, true, true, true, true, false] rfl rfl (take_ofW HT_.out HW_.out (by kernel_rfl)) (fun _ _ _ h => h) (Or.inl ⟨by rfl, ?_⟩) hHeld ?_ ?_;rotate_left
          ·rintro w' ⟨s0, s1, s2⟩
           go_simp
           with_reducible rfl
          rotate_left
          ·simp only [Act.put, l01_, l02_, l03_, i64_w, i32_w]
           rfl
          refine pure_ (i := 8) (N := some 42) (v := ?_) (a' := ?_) #[true, true, true, true, true, true, true, true, true] rfl rfl (any_of HT_.out (by kernel_rfl)) (fun _ _ _ h => h) (Or.inl ⟨by rfl, ?_⟩) ?_ ?_;rotate_left
          ·intro w';go_simp
           with_reducible rfl
          rotate_left
          ·simp only [Act.put, l01_, l02_, l03_, i64_w, i32_w]
           rfl
          refine done_ (done_of HT_.out (by kernel_rfl)) ?_
          try go_wp2
         ·go_ret
          exact ⟨by first | rfl | (simp [eW0, eW1] <;> rfl) | (simp [*, eW0, eW1] <;> rfl), bl_⟩
         ·go_roundg k2
          case measure => have := HJ4.out; have := HK2.out; omega
          case rel => exact ⟨(wrap64 (x6_2 + 1)), rf_, H', ⟨by have := HJ4.out; have := HK2.out; omega⟩, ⟨kk_ BK192.out⟩, ⟨kk_ BK193.out⟩, ⟨bl_⟩⟩
        ·rw [if_neg c21] at H;exact absurd H (by simp)
       ·rw [if_neg c20] at H;have c20b0 : decide (x6_2 < (l1_1.length : Int)) = false := decide_eq_false c20;clear c20;have H' := Ai0.mk H;clear H;have hnb29 := NB193_192.out;have hnc29 := NB192_193.out;have hcz30_0 : wr.cell? ⟨gb193, 0, none⟩ = some (.int .i64 a1_0) := (kc1 BK193.out 0).trans rfl;have hcz30_1 : wr.cell? ⟨gb193, 1, none⟩ = some (.slice A1_1 l1_1.length c1_1) := (kc1 BK193.out 1).trans rfl;have hfz30_0 := kf1 BK193.out 0;have hfz30_1 := kf1 BK193.out 1
        go_wp2
        go_loopg [7] k2 (fun kq v7 w' => ∃ (x7_3 : Int), v7 = .int .i64 x7_3 ∧ Ai0 (cr9_Check.l1 kq x7_3 a0_0 a0_1 l0_2 a1_0 l1_1 = some r) ∧ Ai0 (kq ≤ k2) ∧ Ai0 (w'.heap[gb192]? = some (.cells #[.int .i64 a0_0, .int .i64 a0_1, (.slice A0_2 l0_2.length c0_2)] 44 (0, 0))) ∧ Ai0 (w'.heap[gb193]? = some (.cells #[.int .i64 a1_0, (.slice A1_1 l1_1.length c1_1)] 24 (0, 0))) ∧ Ai0 (Below w.heap.size w w'))
        case atStart => exact ⟨(0), rf_, H', ⟨Nat.le_refl _⟩, ⟨kk_ BK192.out⟩, ⟨kk_ BK193.out⟩, ⟨bl_⟩⟩
        case round =>
         clear H'
         try clear c1
         try clear p1
         try clear q1
         try clear hx1
         try clear c2
         try clear p2
         try clear c3
         try clear c4
         try clear c4b0
         try clear c4b1
         try clear c5
         try clear p6
         try clear c8
         try clear c11
         try clear c11b0
         try clear c12
         try clear c14
         try clear c14b0
         try clear c15
         try clear c17
         try clear c19
         try clear p19
         try clear q19
         try clear hx19
         try clear c20
         try clear c20b0
         try clear c21
         try clear c21b0
         try clear c22
         try clear c22b0
         try clear c22b1
         try clear c23
         try clear c26
         try clear c29
         try clear c30
         try clear hcz13_0
         try clear hcz13_1
         try clear hcz16_0
         try clear hcz16_1
         try clear hcz18_0
         try clear hcz18_1
         try clear hcz24_0
         try clear hcz24_1
         try clear hcz27_0
         try clear hcz27_1
         try clear hcz30_0
         try clear hcz30_1
         try clear hcz9_0
         try clear hcz9_1
         try clear hcz9_2
         try clear hfz13_0
         try clear hfz13_1
         try clear hfz16_0
         try clear hfz16_1
         try clear hfz18_0
         try clear hfz18_1
         try clear hfz24_0
         try clear hfz24_1
         try clear hfz27_0
         try clear hfz27_1
         try clear hfz30_0
         try clear hfz30_1
         try clear hfz9_0
         try clear hfz9_1
         try clear hfz9_2
         try clear hx195_0
         try clear p195
         try clear p2
         try clear q195
         obtain ⟨x7_3, rfl, HA, HK3, BK192, BK193, HB⟩ := hrel
         cases gk with
         | zero => exact absurd HA.out (by simp [cr9_Check.l1])
         | succ k3 =>
          have H := HA.out;clear HA;simp only [cr9_Check.l1] at H;by_cases c31 : x7_3 < (l1_1.length : Int)
          ·rw [if_pos c31] at H;have c31b0 : decide (x7_3 < (l1_1.length : Int)) = true := decide_eq_true c31;clear c31;by_cases c32 : 0 ≤ x7_3
           ·rw [if_pos c32] at H;have c32b0 : decide (0 ≤ x7_3) = true := decide_eq_true c32;clear c32;replace H := Option.bind_eq_some_iff.mp H;obtain ⟨t197, A330, H⟩ := H;replace H : (if t197 = 0 then (cr9_Check.l1 k3 (wrap64 (x7_3 + 1)) a0_0 a0_1 l0_2 a1_0 l1_1) else (some t197)) = some r := H;have A33 := Ai0.mk A330;clear A330;by_cases c34 : t197 = 0
            case' pos =>
             rw [if_pos c34] at H;have c34b0 : (t197 == 0) = true := beq_iff_eq.mpr c34;have c34b1 : (t197 != 0) = false := bne_eq_false_iff_eq.mpr c34;clear c34;have H' := Ai0.mk H;clear H
            case' neg =>
             rw [if_neg c34] at H;have c34b0 : (t197 == 0) = false := beq_eq_false_iff_ne.mpr c34;have c34b1 : (t197 != 0) = true := bne_iff_ne.mpr c34;obtain rfl := Option.some.inj H
            all_goals
             have hnb35 := NB193_192.out;have hnc35 := NB192_193.out;have hcz36_0 : wr.cell? ⟨gb193, 0, none⟩ = some (.int .i64 a1_0) := (kc1 BK193.out 0).trans rfl;have hcz36_1 : wr.cell? ⟨gb193, 1, none⟩ = some (.slice A1_1 l1_1.length c1_1) := (kc1 BK193.out 1).trans rfl;have hfz36_0 := kf1 BK193.out 0;have hfz36_1 := kf1 BK193.out 1
             try go_wp2
             have n0_ := Ai0.mk (kd1 BK192.out);have n1_ := Ai0.mk (kd1 BK193.out);have n2_ := Ai0.mk (bw1 HB.out);clear BK192;clear BK193;clear HB;have BK192 := n0_;have BK193 := n1_;have HB := n2_;clear n0_ n1_ n2_;have p196 : 0 ≤ (x7_3 : Int) := od_;have q196 : x7_3 < (l1_1.length : Int) := od_;obtain ⟨ad196, A196_0, c196_0, e196, hx196_0, hl196_0, hi196_0⟩ := at_L1 HR1_1.out x7_3 p196 q196;have hw196_0 := hx196_0;cases e196;replace hx196_0 := (HB.out.cell (World.block_lt_of_cell? w _ hx196_0)).trans hx196_0;have HR196_0 := Ai0.mk hi196_0;have HC196_0 := Ai0.mk hl196_0;clear hi196_0 hl196_0;replace p196 := eq_true p196;replace q196 := eq_true q196;refine start_ (n := 8) (S := fun w' => w'.cell? ⟨gb192, 0, none⟩ = some (.int .i64 a0_0) ∧ w'.cell? ⟨gb192, 1, none⟩ = some (.int .i64 a0_1) ∧ w'.cell? ⟨gb192, 2, none⟩ = some (.slice A0_2 l0_2.length c0_2) ∧ w'.cell? ⟨gb193, 0, none⟩ = some (.int .i64 a1_0) ∧ w'.cell? ⟨gb193, 1, none⟩ = some (.slice (some ad196) l1_1.length c1_1) ∧ w'.cell? (ad196.add (x7_3).toNat) = some (.slice A196_0 (rd_L1 l1_1 x7_3).length c196_0)) (ds := []) #[false, false, false, false, false, false, false, false] (by kernel_rfl) rfl rfl ⟨(kc1 BK192.out 0).trans rfl, (kc1 BK192.out 1).trans rfl, (kc1 BK192.out 2).trans rfl, (kc1 BK193.out 0).trans rfl, (kc1 BK193.out 1).trans rfl, ((HB.out.cell (World.block_lt_of_cell? w _ hw196_0)).trans hw196_0)⟩ (fun hHeld => ?_); refine with_tabW cr9_Check.tab14 cr9_Check.bits14 (fun HT_ HW_ => ?_);(generalize wr.drew = w37 at BK192 BK193 HB HR196_0 hx196_0 hHeld ⊢);refine pure_ (i := 1) (N := some 51) (v := ?_) (a' := ?_) #[false, true, false, false, false, false, false, false] rfl rfl (any_of HT_.out (by kernel_rfl)) (fun _ _ _ h => h) (Or.inl ⟨by rfl, ?_⟩) ?_ ?_;rotate_left
             ·intro w';go_simp
              with_reducible rfl
             rotate_left
             ·simp only [Act.put, l01_, l02_, l03_, i64_w, i32_w]
              rfl
             refine pure_ (i := 3) (N := some 53) (v := ?_) (a' := ?_) #[false, true, false, true, false, false, false, false] rfl rfl (any_of HT_.out (by kernel_rfl)) (fun _ _ _ h => h) (Or.inl ⟨by rfl, ?_⟩) ?_ ?_;rotate_left
             ·intro w';go_simp
              with_reducible rfl
             rotate_left
             ·simp only [Act.put, l01_, l02_, l03_, i64_w, i32_w]
              rfl
             refine take_ (i := 0) (N := some 50) (v := ?_) (a' := ?_) #[true, true, false, true, false, false, false, false] rfl rfl (take_ofW HT_.out HW_.out (by kernel_rfl)) (fun _ _ _ h => h) (Or.inl ⟨by rfl, ?_⟩) hHeld ?_ ?_;rotate_left
             ·rintro w' ⟨s0, s1, s2, s3, s4, s5⟩
              go_simp
              with_reducible rfl
             rotate_left
             ·simp only [Act.put, l01_, l02_, l03_, i64_w, i32_w]
              rfl
             refine take_ (i := 2) (N := some 52) (v := ?_) (a' := ?_) #[true, true, true, true, false, false, false, false] rfl rfl (take_ofW HT_.out HW_.out (by kernel_rfl)) (fun _ _ _ h => h) (Or.inl ⟨by rfl, ?_⟩) hHeld ?_ ?_;rotate_left
             ·rintro w' ⟨s0, s1, s2, s3, s4, s5⟩
              go_simp
              with_reducible rfl
             rotate_left
             ·simp only [Act.put, l01_, l02_, l03_, i64_w, i32_w]
              rfl
             refine pure_ (i := 4) (N := some 54) (v := ?_) (a' := ?_) #[true, true, true, true, true, false, false, false] rfl rfl (any_of HT_.out (by kernel_rfl)) (fun _ _ _ h => h) (Or.inl ⟨by rfl, ?_⟩) ?_ ?_;rotate_left
             ·intro w';go_simp
              with_reducible rfl
             rotate_left
             ·simp only [Act.put, l01_, l02_, l03_, i64_w, i32_w]
              rfl
             refine take_ (i := 5) (N := some 55) (v := ?_) (a' := ?_) #[true, true, true, true, true, true, false, false] rfl rfl (take_ofW HT_.out HW_.out (by kernel_rfl)) (fun _ _ _ h => h) (Or.inl ⟨by rfl, ?_⟩) hHeld ?_ ?_;rotate_left
             ·rintro w' ⟨s0, s1, s2, s3, s4, s5⟩
              go_simp
              with_reducible rfl
             rotate_left
             ·simp only [Act.put, l01_, l02_, l03_, i64_w, i32_w]
              rfl
             refine one_ (i := 6) (N := some 56) #[true, true, true, true, true, true, true, false] rfl rfl (one_of HT_.out (by kernel_rfl)) (by decide) (fun K hK => ?_);refine goes_ Try.func51 (by kernel_rfl) rfl #[.agg #[.int .i64 a0_0, .int .i64 a0_1, .slice A0_2 l0_2.length c0_2], .slice A196_0 (rd_L1 l1_1 x7_3).length c196_0] (by rfl) rfl rfl (by (try simp only [List.map_toArray, List.map_cons, List.map_nil]); first | done | rfl | (simp only [List.length_drop, List.length_take]; rfl)) ?_
             with_reducible refine (cr9_Entries.calls k3 a0_0 a0_1 _ _ l0_2 _ _ (rd_L1 l1_1 x7_3) t197 _ ?side1 ?side2 ?side3 ?side4 A33.out).mono ?_
             (case side1 => exact kc_ HR0_2.out);(case side2 => exact HC0_2.out);(case side3 => exact kc_ HR196_0.out);(case side4 => exact HC196_0.out)
             rintro e w38 ⟨rfl, hb⟩
             refine ⟨_, rfl, ?_⟩;have n0_ := Ai0.mk (kb1 (g := gb192) (o := .cells #[.int .i64 a0_0, .int .i64 a0_1, .slice A0_2 l0_2.length c0_2] 44 (0, 0)) (kk_ BK192.out) hb);have n1_ := Ai0.mk (kb1 (g := gb193) (o := .cells #[.int .i64 a1_0, .slice (some ad196) l1_1.length c1_1] 24 (0, 0)) (kk_ BK193.out) hb);have n2_ := Ai0.mk (bt1 bl_ hb);clear BK192;clear BK193;clear HB;have BK192 := n0_;have BK193 := n1_;have HB := n2_;clear n0_ n1_ n2_;(try clear hb);(try clear hb2);(try clear hk);(try clear hi);refine hK.out _ _ ⟨(kc1 BK192.out 0).trans rfl, (kc1 BK192.out 1).trans rfl, (kc1 BK192.out 2).trans rfl, (kc1 BK193.out 0).trans rfl, (kc1 BK193.out 1).trans rfl, ((HB.out.cell (World.block_lt_of_cell? w _ hw196_0)).trans hw196_0)⟩ (fun hHeld => ?_);clear hK K;refine norm_ (a' := ?_) ?_ ?_;rotate_left
             ·show Act.put _ (some 56) _ = _;simp only [Act.put, l01_, l02_, l03_, i64_w, i32_w]
              rfl
             refine pure_ (i := 7) (N := some 5) (v := ?_) (a' := ?_) #[true, true, true, true, true, true, true, true] rfl rfl (any_of HT_.out (by kernel_rfl)) (fun _ _ _ h => h) (Or.inl ⟨by rfl, ?_⟩) ?_ ?_;rotate_left
             ·intro w';go_simp
              with_reducible rfl
             rotate_left
             ·simp only [Act.put, l01_, l02_, l03_, i64_w, i32_w]
              rfl
             refine done_ (done_of HT_.out (by kernel_rfl)) ?_
             try go_wp2
            ·go_ret
             exact ⟨by first | rfl | (simp [eW0, eW1] <;> rfl) | (simp [*, eW0, eW1] <;> rfl), bl_⟩
            ·go_roundg k3
             case measure => have := HJ4.out; have := HK2.out; have := HK3.out; omega
             case rel => exact ⟨(wrap64 (x7_3 + 1)), rf_, H', ⟨by have := HJ4.out; have := HK2.out; have := HK3.out; omega⟩, ⟨kk_ BK192.out⟩, ⟨kk_ BK193.out⟩, ⟨bl_⟩⟩
           ·rw [if_neg c32] at H;exact absurd H (by simp)
          ·rw [if_neg c31] at H;have c31b0 : decide (x7_3 < (l1_1.length : Int)) = false := decide_eq_false c31;clear c31;obtain rfl := Option.some.inj H;have hnb43 := NB193_192.out;have hnc43 := NB192_193.out;have hcz44_0 : wr.cell? ⟨gb193, 0, none⟩ = some (.int .i64 a1_0) := (kc1 BK193.out 0).trans rfl;have hcz44_1 : wr.cell? ⟨gb193, 1, none⟩ = some (.slice A1_1 l1_1.length c1_1) := (kc1 BK193.out 1).trans rfl;have hfz44_0 := kf1 BK193.out 0;have hfz44_1 := kf1 BK193.out 1
           go_wp2
           go_ret
           exact ⟨by first | rfl | (simp [eW0, eW1] <;> rfl) | (simp [*, eW0, eW1] <;> rfl), bl_⟩
 ·rw [if_neg c4] at H;have c4b0 : (t194 == 0) = false := beq_eq_false_iff_ne.mpr c4;have c4b1 : (t194 != 0) = true := bne_iff_ne.mpr c4;obtain rfl := Option.some.inj H;go_enter Try.func30, Try.ntmps30
  go_wp2_with (first | ((with_reducible refine gate_dst (N := 2) rfl ?_); (try (refine gate_guard (by rfl) ?_; dsimp only)); refine box_event ?hg (N := 2) ?hd (cs := #[.int .i64 a0_0, .int .i64 a0_1, .slice A0_2 l0_2.length c0_2]) (t := 44) ?hr ?_; (case hd => rfl); (case hg => rfl); (case hr => first | (go_simp; done) | (go_simp; rfl)); intro gb192 hg w45 hbox hb; have n0_ := Ai0.mk (bt1 bl_ hb); have n1_ := Ai0.mk (hbox); have n2_ := Ai0.mk ((by rw [hg]; exact (bz1 bl_) : w.heap.size ≤ gb192)); have n3_ := Ai0.mk ((by rw [hg]; exact (bz1 bl_) : w.heap.size ≤ gb192)); clear HB; have HB := n0_; have BK192 := n1_; have GW192 := n2_; have GE192 := n3_; clear n0_ n1_ n2_ n3_; clear hb hbox hg) | ((with_reducible refine gate_dst (N := 3) rfl ?_); (try (refine gate_guard (by rfl) ?_; dsimp only)); refine box_event ?hg (N := 3) ?hd (cs := #[.int .i64 a1_0, .slice A1_1 l1_1.length c1_1]) (t := 24) ?hr ?_; (case hd => rfl); (case hg => rfl); (case hr => first | (go_simp; done) | (go_simp; rfl)); intro gb193 hg w46 hbox hb; have n0_ := Ai0.mk (kb1 (g := gb192) (o := .cells #[.int .i64 a0_0, .int .i64 a0_1, .slice A0_2 l0_2.length c0_2] 44 (0, 0)) (kk_ BK192.out) hb); have n1_ := Ai0.mk (bt1 bl_ hb); have n2_ := Ai0.mk (hbox); have n3_ := Ai0.mk ((by rw [hg]; exact (bz1 bl_) : w.heap.size ≤ gb193)); have n4_ := Ai0.mk ((by rw [hg]; exact (bz1 bl_) : w.heap.size ≤ gb193)); have n5_ := Ai0.mk ((by rw [hg]; exact Nat.ne_of_lt (blk_lt (g := gb192) (o := .cells #[.int .i64 a0_0, .int .i64 a0_1, .slice A0_2 l0_2.length c0_2] 44 (0, 0)) (kk_ BK192.out)) : gb192 ≠ gb193)); have n6_ := Ai0.mk ((by rw [hg]; exact Nat.ne_of_gt (blk_lt (g := gb192) (o := .cells #[.int .i64 a0_0, .int .i64 a0_1, .slice A0_2 l0_2.length c0_2] 44 (0, 0)) (kk_ BK192.out)) : gb193 ≠ gb192)); clear BK192; clear HB; have BK192 := n0_; have HB := n1_; have BK193 := n2_; have GW193 := n3_; have GE193 := n4_; have NB192_193 := n5_; have NB193_192 := n6_; clear n0_ n1_ n2_ n3_ n4_ n5_ n6_; clear hb hbox hg; have hnb47 := NB192_193.out; have hnc47 := NB193_192.out; have hcz48_0 : w46.cell? ⟨gb192, 0, none⟩ = some (.int .i64 a0_0) := (kc1 BK192.out 0).trans rfl; have hcz48_1 : w46.cell? ⟨gb192, 1, none⟩ = some (.int .i64 a0_1) := (kc1 BK192.out 1).trans rfl; have hcz48_2 : w46.cell? ⟨gb192, 2, none⟩ = some (.slice A0_2 l0_2.length c0_2) := (kc1 BK192.out 2).trans rfl; have hfz48_0 := kf1 BK192.out 0; have hfz48_1 := kf1 BK192.out 1; have hfz48_2 := kf1 BK192.out 2) | ((with_reducible refine gate_callee (f := 59) rfl ?_); refine goesL_ (some 9) rfl rfl Try.func59 (by kernel_rfl) rfl #[.agg #[.int .i64 a0_0, .int .i64 a0_1, .slice A0_2 l0_2.length c0_2]] rfl (by (try simp only [List.map_toArray, List.map_cons, List.map_nil]); first | done | rfl | (simp only [List.length_drop, List.length_take]; rfl)) ?_; (with_reducible refine (cr4_Check.calls k a0_0 a0_1 _ _ l0_2 t194 _ ?side1 ?side2 A3.out).mono ?_); (case side1 => exact kc_ HR0_2.out); (case side2 => exact HC0_2.out); rintro e w49 ⟨rfl, hb⟩; refine ⟨_, rfl, ?_⟩; have n0_ := Ai0.mk (kb1 (g := gb192) (o := .cells #[.int .i64 a0_0, .int .i64 a0_1, .slice A0_2 l0_2.length c0_2] 44 (0, 0)) (kk_ BK192.out) hb); have n1_ := Ai0.mk (kb1 (g := gb193) (o := .cells #[.int .i64 a1_0, .slice A1_1 l1_1.length c1_1] 24 (0, 0)) (kk_ BK193.out) hb); have n2_ := Ai0.mk (bt1 bl_ hb); clear BK192; clear BK193; clear HB; have BK192 := n0_; have BK193 := n1_; have HB := n2_; clear n0_ n1_ n2_; (try clear hb); (try clear hb2); (try clear hk); (try clear hi)))
  go_ret
  exact ⟨by first | rfl | (simp [eW0, eW1] <;> rfl) | (simp [*, eW0, eW1] <;> rfl), bl_⟩
end Go.Proofs.Ytmclalniilkjiaa.Q
/- What the printed matrix.Check and the document's Check compute over the field of two elements: the same error. -/
namespace Go.Proofs.Ytmclalniilkjiaa.Ck
open Go.RowKit Go.Proofs.Ytmclalniilkjiaa.Q Go.Proofs.YtmclalniilkjiaaW.PrintWords Go.Proofs.YtmclalniilkjiaaW.PrintLast Go.Proofs.Ytmclalniilkjiaa.Ba

/-- All entries are 0 or 1. -/
def okb (l : List Int) : Bool := l.all (fun x => decide (0 ≤ x ∧ x < 2))
def ent (l : List Int) : Int := if okb l = true then 0 else 2
def len (c : Int) (rows : List (List Int)) : Bool := rows.all (fun l => decide ((l.length : Int) = c))
def bits (rows : List (List Int)) : Bool := rows.all okb
def chk (c : Int) (rows : List (List Int)) : Int := if c < 0 ∨ 256 < c ∨ 256 < rows.length then 3 else if len c rows = true then (if bits rows = true then 0 else 2) else 3
theorem drop_cons {α : Type} (l : List α) (d : α) (i : Nat) (h : i < l.length) : l.drop i = l.getD i d :: l.drop (i + 1) := by
 rw [List.drop_eq_getElem_cons h, List.getD_eq_getElem?_getD, List.getElem?_eq_getElem h]; rfl
theorem order_two : Ev (fun k => cr4_Order.f k 2 1 []) 2 := Ev.of (fun k => cr4_Order.mono _ _ _ k) (k := 8) (by kernel_rfl)
theorem check_two : Ev (fun k => cr4_Check.f k 2 1 []) 0 := Ev.of (fun k => cr4_Check.mono _ _ _ k) (k := 12) (by kernel_rfl)
theorem new_two : Ev (fun k => field_New.f k 2 1 []) ([], [1], [0, 0], 0) := Ev.of (fun k => field_New.mono _ _ _ k) (k := 20) (by kernel_rfl)
theorem ord_two : Ev (fun k => field_order.f k 2 1) 2 := Ev.of (fun k => field_order.mono _ _ k) (k := 8) (by kernel_rfl)
theorem is_two (x : Int) : field_GF_Is.f 2 1 [] 2 [1] [0, 0] x = some (decide (0 ≤ x ∧ x < 2)) := by
 unfold field_GF_Is.f
 by_cases h : x ≥ 0
 ·rw [if_pos h]; congr 1
  by_cases h2 : x < 2
  ·rw [decide_eq_true h2, decide_eq_true ⟨h, h2⟩]
  ·rw [decide_eq_false h2, decide_eq_false (fun hh => h2 hh.2)]
 ·rw [if_neg h, decide_eq_false (fun hh => h hh.1)]
theorem ris_two (x : Int) : Ev (fun k => cr4_Is.f k 2 1 [] x) (decide (0 ≤ x ∧ x < 2)) := by
 unfold cr4_Is.f
 by_cases h : x ≥ 0
 ·refine Ev.congr (fun k => if_pos h) (order_two.bind ?_)
  have e : decide (x < 2) = decide (0 ≤ x ∧ x < 2) := by
   by_cases h2 : x < 2
   ·rw [decide_eq_true h2, decide_eq_true ⟨h, h2⟩]
   ·rw [decide_eq_false h2, decide_eq_false (fun hh => h2 hh.2)]
  rw [← e]
  exact Ev.now _
 ·refine Ev.congr (fun k => if_neg h) ?_
  rw [decide_eq_false (fun hh => h hh.1)]
  exact Ev.now _
theorem entries_l0 (l : List Int) (hl : l.length ≤ 4611686018427387904) : ∀ d i : Nat, i + d = l.length → Ev (fun k => matrix_entries.l0 k l (l.length : Int) (i : Int) 2 1 [] 2 [1] [0, 0]) (ent (l.drop i))
 | 0, i, h => by
  refine Ev.step (f := fun _ => some (ent (l.drop i))) (fun k => ?_) (Ev.now _)
  simp only [matrix_entries.l0]
  rw [if_neg (by omega), List.drop_of_length_le (by omega)]; rfl
 | d + 1, i, h => by
  have ih := entries_l0 l hl d (i + 1) (by omega)
  by_cases hx : 0 ≤ rd l (i : Int) ∧ rd l (i : Int) < 2
  ·have e : ent (l.drop i) = ent (l.drop (i + 1)) := by
    unfold ent okb
    rw [drop_cons l 0 i (by omega), List.all_cons, ← rd_nat, decide_eq_true hx, Bool.true_and]
   rw [e]
   refine Ev.step (fun k => ?_) ih
   simp only [matrix_entries.l0, is_two, Option.bind_some]
   rw [if_pos (by omega), if_pos (by omega), if_pos (by omega), decide_eq_true hx, if_pos rfl, w64_id (by omega) (by omega)]
   rfl
  ·have e : ent (l.drop i) = 2 := by
    unfold ent okb
    rw [drop_cons l 0 i (by omega), List.all_cons, ← rd_nat, decide_eq_false hx, Bool.false_and]; rfl
   rw [e]
   refine Ev.step (f := fun _ => some 2) (fun k => ?_) (Ev.now _)
   simp only [matrix_entries.l0, is_two, Option.bind_some]
   rw [if_pos (by omega), if_pos (by omega), if_pos (by omega), decide_eq_false hx, if_neg Bool.false_ne_true]
theorem rentries_l0 (l : List Int) (hl : l.length ≤ 4611686018427387904) : ∀ d i : Nat, i + d = l.length → Ev (fun k => cr9_Entries.l0 k l (i : Int) 2 1 []) (ent (l.drop i))
 | 0, i, h => by
  refine Ev.step (f := fun _ => some (ent (l.drop i))) (fun k => ?_) (Ev.now _)
  simp only [cr9_Entries.l0]
  rw [if_neg (by omega), List.drop_of_length_le (by omega)]; rfl
 | d + 1, i, h => by
  have ih := rentries_l0 l hl d (i + 1) (by omega)
  refine Ev.step (f := fun k => (cr4_Is.f k 2 1 [] (rd l (i : Int))).bind fun t => if t = true then cr9_Entries.l0 k l (wrap64 ((i : Int) + 1)) 2 1 [] else some 2) (fun k => ?_) ?_
  ·simp only [cr9_Entries.l0]
   rw [if_pos (by omega), if_pos (by omega)]
  refine (ris_two _).bind ?_
  by_cases hx : 0 ≤ rd l (i : Int) ∧ rd l (i : Int) < 2
  ·have e : ent (l.drop i) = ent (l.drop (i + 1)) := by
    unfold ent okb
    rw [drop_cons l 0 i (by omega), List.all_cons, ← rd_nat, decide_eq_true hx, Bool.true_and]
   rw [e, decide_eq_true hx]
   refine Ev.congr (fun k => if_pos rfl) ?_
   rw [w64_id (by omega) (by omega)]
   exact ih
  ·have e : ent (l.drop i) = 2 := by
    unfold ent okb
    rw [drop_cons l 0 i (by omega), List.all_cons, ← rd_nat, decide_eq_false hx, Bool.false_and]; rfl
   rw [e, decide_eq_false hx]
   exact Ev.congr (fun k => if_neg Bool.false_ne_true) (Ev.now _)
theorem entries_ev (l : List Int) (hl : l.length ≤ 4611686018427387904) : Ev (fun k => matrix_entries.f k 2 1 [] 2 [1] [0, 0] l) (ent l) := entries_l0 l hl l.length 0 (by omega)
theorem rentries_ev (l : List Int) (hl : l.length ≤ 4611686018427387904) : Ev (fun k => cr9_Entries.f k 2 1 [] l) (ent l) := rentries_l0 l hl l.length 0 (by omega)
theorem rd_L1_nat (rows : List (List Int)) (i : Nat) : rd_L1 rows (i : Int) = rows.getD i [] := by unfold rd_L1; rw [Int.toNat_natCast]
section
variable (rows : List (List Int)) (hr : rows.length ≤ 256)
include hr
theorem l1_ev (hlen : ∀ j, j < rows.length → (rows.getD j []).length ≤ 4611686018427387904) : ∀ d i : Nat, i + d = rows.length → Ev (fun k => matrix_check.l1 k rows (rows.length : Int) (i : Int) 2 1 [] 2 [1] [0, 0]) (if bits (rows.drop i) = true then 0 else 2)
 | 0, i, h => by
  refine Ev.step (f := fun _ => some _) (fun k => ?_) (Ev.now _)
  simp only [matrix_check.l1]
  rw [if_neg (by omega), List.drop_of_length_le (by omega)]; rfl
 | d + 1, i, h => by
  have ih := l1_ev hlen d (i + 1) (by omega)
  refine Ev.step (f := fun k => (matrix_entries.f k 2 1 [] 2 [1] [0, 0] (rd_L1 rows (i : Int))).bind fun t => if t = 0 then matrix_check.l1 k rows (rows.length : Int) (wrap64 ((i : Int) + 1)) 2 1 [] 2 [1] [0, 0] else some t) (fun k => ?_) ?_
  ·simp only [matrix_check.l1]
   rw [if_pos (by omega), if_pos (by omega), if_pos (by omega)]
  rw [rd_L1_nat]
  refine (entries_ev _ (hlen i (by omega))).bind ?_
  unfold ent
  by_cases hx : okb (rows.getD i []) = true
  ·have e : bits (rows.drop i) = bits (rows.drop (i + 1)) := by
    unfold bits
    rw [drop_cons rows [] i (by omega), List.all_cons, hx, Bool.true_and]
   rw [e, if_pos hx]
   refine Ev.congr (fun k => if_pos rfl) ?_
   rw [w64_id (by omega) (by omega)]
   exact ih
  ·have e : bits (rows.drop i) = false := by
    unfold bits
    rw [drop_cons rows [] i (by omega), List.all_cons, Bool.eq_false_iff.2 hx, Bool.false_and]
   rw [e, if_neg hx]
   exact Ev.congr (fun k => if_neg (by decide)) (Ev.now _)
theorem rl1_ev (c : Int) (hlen : ∀ j, j < rows.length → (rows.getD j []).length ≤ 4611686018427387904) : ∀ d i : Nat, i + d = rows.length → Ev (fun k => cr9_Check.l1 k (i : Int) 2 1 [] c rows) (if bits (rows.drop i) = true then 0 else 2)
 | 0, i, h => by
  refine Ev.step (f := fun _ => some _) (fun k => ?_) (Ev.now _)
  simp only [cr9_Check.l1]
  rw [if_neg (by omega), List.drop_of_length_le (by omega)]; rfl
 | d + 1, i, h => by
  have ih := rl1_ev c hlen d (i + 1) (by omega)
  refine Ev.step (f := fun k => (cr9_Entries.f k 2 1 [] (rd_L1 rows (i : Int))).bind fun t => if t = 0 then cr9_Check.l1 k (wrap64 ((i : Int) + 1)) 2 1 [] c rows else some t) (fun k => ?_) ?_
  ·simp only [cr9_Check.l1]
   rw [if_pos (by omega), if_pos (by omega)]
  rw [rd_L1_nat]
  refine (rentries_ev _ (hlen i (by omega))).bind ?_
  unfold ent
  by_cases hx : okb (rows.getD i []) = true
  ·have e : bits (rows.drop i) = bits (rows.drop (i + 1)) := by
    unfold bits
    rw [drop_cons rows [] i (by omega), List.all_cons, hx, Bool.true_and]
   rw [e, if_pos hx]
   refine Ev.congr (fun k => if_pos rfl) ?_
   rw [w64_id (by omega) (by omega)]
   exact ih
  ·have e : bits (rows.drop i) = false := by
    unfold bits
    rw [drop_cons rows [] i (by omega), List.all_cons, Bool.eq_false_iff.2 hx, Bool.false_and]
   rw [e, if_neg hx]
   exact Ev.congr (fun k => if_neg (by decide)) (Ev.now _)
end
theorem len_at {c : Int} {rows : List (List Int)} (h : len c rows = true) (j : Nat) (hj : j < rows.length) : ((rows.getD j []).length : Int) = c := by
 have := List.all_eq_true.1 h _ (getD_mem rows [] j hj)
 simpa using this
theorem l0_ev (rows : List (List Int)) (hr : rows.length ≤ 256) (c : Int) (hc : c ≤ 256) : ∀ d i : Nat, i + d = rows.length → (∀ j, j < i → ((rows.getD j []).length : Int) = c) →
  Ev (fun k => matrix_check.l0 k rows (rows.length : Int) (i : Int) 2 1 [] 2 [1] [0, 0] c rows) (if len c (rows.drop i) = true then (if bits rows = true then 0 else 2) else 3)
 | 0, i, h, hj => by
  refine Ev.step (f := fun k => matrix_check.l1 k rows (rows.length : Int) ((0 : Nat) : Int) 2 1 [] 2 [1] [0, 0]) (fun k => ?_) ?_
  ·simp only [matrix_check.l0]
   rw [if_neg (by omega)]; rfl
  ·have e : len c (rows.drop i) = true := by rw [List.drop_of_length_le (by omega)]; rfl
   rw [if_pos e]
   exact l1_ev rows hr (fun j hj' => by have := hj j (by omega); omega) rows.length 0 (by omega)
 | d + 1, i, h, hj => by
  by_cases hx : ((rows.getD i []).length : Int) = c
  ·have ih := l0_ev rows hr c hc d (i + 1) (by omega) (fun j hj' => by by_cases e : j = i; (· subst e; exact hx); (· exact hj j (by omega)))
   have e : len c (rows.drop i) = len c (rows.drop (i + 1)) := by
    unfold len
    rw [drop_cons rows [] i (by omega), List.all_cons, decide_eq_true hx, Bool.true_and]
   rw [e]
   refine Ev.step (fun k => ?_) ih
   simp only [matrix_check.l0, rd_L1_nat]
   rw [if_pos (by omega), if_pos (by omega), if_pos (by omega), if_pos hx, w64_id (by omega) (by omega)]
   rfl
  ·have e : len c (rows.drop i) = false := by
    unfold len
    rw [drop_cons rows [] i (by omega), List.all_cons, decide_eq_false hx, Bool.false_and]
   rw [e]
   refine Ev.step (f := fun _ => some 3) (fun k => ?_) (Ev.now _)
   simp only [matrix_check.l0, rd_L1_nat]
   rw [if_pos (by omega), if_pos (by omega), if_pos (by omega), if_neg hx]
theorem rl0_ev (rows : List (List Int)) (hr : rows.length ≤ 256) (c : Int) (hc : c ≤ 256) : ∀ d i : Nat, i + d = rows.length → (∀ j, j < i → ((rows.getD j []).length : Int) = c) →
  Ev (fun k => cr9_Check.l0 k (i : Int) 2 1 [] c rows) (if len c (rows.drop i) = true then (if bits rows = true then 0 else 2) else 3)
 | 0, i, h, hj => by
  refine Ev.step (f := fun k => cr9_Check.l1 k ((0 : Nat) : Int) 2 1 [] c rows) (fun k => ?_) ?_
  ·simp only [cr9_Check.l0]
   rw [if_neg (by omega)]; rfl
  ·have e : len c (rows.drop i) = true := by rw [List.drop_of_length_le (by omega)]; rfl
   rw [if_pos e]
   exact rl1_ev rows hr c (fun j hj' => by have := hj j (by omega); omega) rows.length 0 (by omega)
 | d + 1, i, h, hj => by
  by_cases hx : ((rows.getD i []).length : Int) = c
  ·have ih := rl0_ev rows hr c hc d (i + 1) (by omega) (fun j hj' => by by_cases e : j = i; (· subst e; exact hx); (· exact hj j (by omega)))
   have e : len c (rows.drop i) = len c (rows.drop (i + 1)) := by
    unfold len
    rw [drop_cons rows [] i (by omega), List.all_cons, decide_eq_true hx, Bool.true_and]
   rw [e]
   refine Ev.step (fun k => ?_) ih
   simp only [cr9_Check.l0, rd_L1_nat]
   rw [if_pos (by omega), if_pos (by omega), if_pos hx, w64_id (by omega) (by omega)]
   rfl
  ·have e : len c (rows.drop i) = false := by
    unfold len
    rw [drop_cons rows [] i (by omega), List.all_cons, decide_eq_false hx, Bool.false_and]
   rw [e]
   refine Ev.step (f := fun _ => some 3) (fun k => ?_) (Ev.now _)
   simp only [cr9_Check.l0, rd_L1_nat]
   rw [if_pos (by omega), if_pos (by omega), if_neg hx]
theorem check_ev (c : Int) (rows : List (List Int)) : Ev (fun k => matrix_check.f k 2 1 [] 2 [1] [0, 0] c rows) (chk c rows) := by
 have hj : Ev (fun k => matrix_check.j0 k true 2 1 [] 2 [1] [0, 0] c rows) 3 := Ev.step (f := fun _ => some 3) (fun k => by simp only [matrix_check.j0]; rw [if_pos trivial]) (Ev.now _)
 unfold matrix_check.f chk
 by_cases h1 : c < 0
 ·rw [if_pos (Or.inl h1)]; exact Ev.congr (fun k => if_pos h1) hj
 refine Ev.congr (fun k => if_neg h1) ?_
 by_cases h2 : c > 256
 ·rw [if_pos (Or.inr (Or.inl h2))]; exact Ev.congr (fun k => if_pos h2) hj
 refine Ev.congr (fun k => if_neg h2) ?_
 by_cases h3 : (rows.length : Int) > 256
 ·rw [if_pos (Or.inr (Or.inr (by omega))), decide_eq_true h3]; exact hj
 rw [if_neg (by omega), decide_eq_false h3]
 refine Ev.step (f := fun k => matrix_check.l0 k rows (rows.length : Int) ((0 : Nat) : Int) 2 1 [] 2 [1] [0, 0] c rows) (fun k => by simp only [matrix_check.j0]; rw [if_neg Bool.false_ne_true]; rfl) ?_
 exact l0_ev rows (by omega) c (by omega) rows.length 0 (by omega) (fun j hj => by omega)
theorem rCheck_ev (c : Int) (rows : List (List Int)) : Ev (fun k => cr9_Check.f k 2 1 [] c rows) (chk c rows) := by
 have hj : Ev (fun k => cr9_Check.j0 k true 2 1 [] c rows) 3 := Ev.step (f := fun _ => some 3) (fun k => by simp only [cr9_Check.j0]; rw [if_pos trivial]) (Ev.now _)
 unfold cr9_Check.f chk
 refine check_two.bind (Ev.congr (fun k => if_pos rfl) ?_)
 by_cases h1 : c < 0
 ·rw [if_pos (Or.inl h1)]; exact Ev.congr (fun k => if_pos h1) hj
 refine Ev.congr (fun k => if_neg h1) ?_
 by_cases h2 : c > 256
 ·rw [if_pos (Or.inr (Or.inl h2))]; exact Ev.congr (fun k => if_pos h2) hj
 refine Ev.congr (fun k => if_neg h2) ?_
 by_cases h3 : (rows.length : Int) > 256
 ·rw [if_pos (Or.inr (Or.inr (by omega))), decide_eq_true h3]; exact hj
 rw [if_neg (by omega), decide_eq_false h3]
 refine Ev.step (f := fun k => cr9_Check.l0 k ((0 : Nat) : Int) 2 1 [] c rows) (fun k => by simp only [cr9_Check.j0]; rw [if_neg Bool.false_ne_true]; rfl) ?_
 exact rl0_ev rows (by omega) c (by omega) rows.length 0 (by omega) (fun j hj => by omega)
theorem Check_ev (c : Int) (rows : List (List Int)) : Ev (fun k => matrix_Check.f k 2 1 [] c rows) (chk c rows) := by
 unfold matrix_Check.f matrix_open.f
 refine Ev.bind (a := (0, chk c rows)) ?_ (Ev.now _)
 refine new_two.bind (ord_two.bind (Ev.congr (fun k => if_pos rfl) ?_))
 refine Ev.step (f := fun k => (matrix_check.f k 2 1 [] 2 [1] [0, 0] c rows).bind fun t => if t = 0 then matrix_open.l0 k 2 1 [] 2 [1] [0, 0] [⟨c, rows⟩] (([⟨c, rows⟩] : List S24).length : Int) (wrap64 (0 + 1)) else some (0, t)) (fun k => ?_) ?_
 ·simp only [matrix_open.l0]
  rw [if_pos (by simp), if_pos (by simp), if_pos (by simp)]
  rfl
 refine (check_ev c rows).bind ?_
 by_cases h : chk c rows = 0
 ·rw [h]
  refine Ev.congr (fun k => if_pos rfl) (Ev.step (f := fun _ => some (0, 0)) (fun k => ?_) (Ev.now _))
  simp only [matrix_open.l0]
  rw [if_neg (by rw [w64_id (by omega) (by omega)]; simp)]
 ·exact Ev.congr (fun k => if_neg h) (Ev.now _)
theorem chk_ok {c : Int} {rows : List (List Int)} (h : chk c rows = 0) : 0 ≤ c ∧ c ≤ 256 ∧ rows.length ≤ 256 ∧ (∀ j, j < rows.length → ((rows.getD j []).length : Int) = c) ∧ (∀ j, j < rows.length → okb (rows.getD j []) = true) := by
 unfold chk at h
 split at h
 ·omega
 ·next h1 =>
  split at h
  ·next h2 =>
   split at h
   ·next h3 => exact ⟨by omega, by omega, by omega, fun j hj => len_at h2 j hj, fun j hj => List.all_eq_true.1 h3 _ (getD_mem rows [] j hj)⟩
   ·omega
  ·omega
theorem okb_at {l : List Int} (h : okb l = true) (i : Nat) : rd l (i : Int) = 0 ∨ rd l (i : Int) = 1 := by
 by_cases hi : i < l.length
 ·have := List.all_eq_true.1 h _ (getD_mem l 0 i hi)
  rw [rd_nat]
  simp only [decide_eq_true_eq] at this
  omega
 ·left; rw [rd_nat, List.getD_eq_getElem?_getD, List.getElem?_eq_none (by omega)]; rfl
end Go.Proofs.Ytmclalniilkjiaa.Ck
namespace Go.Proofs.Ytmclalniilkjiaa.Q
open Go.RowKit Go.Proofs.YtmclalniilkjiaaW.PrintWords Go.Proofs.YtmclalniilkjiaaW.PrintLast Go.Proofs.YtmclalniilkjiaaW.PrintMore
open List renaming setIfInBounds_toArray → l01_, set_cons_zero → l02_, set_cons_succ → l03_
attribute [local go_sem] max2_int min2_int max_two min_two max_three min_three max_four min_four
set_option linter.unusedVariables false
set_option linter.unusedSimpArgs false
def message_binary.f  : Option (Int × Int × List Int) := some (2, 1, ([] : List Int))
set_option maxHeartbeats 8000000 in
set_option maxRecDepth 100000 in
theorem message_binary.calls  (r1 : Int) (r2 : Int) (r3 : List Int) (w : World) (h : message_binary.f  = some (r1, r2, r3)) :
  Calls Try.prog 68 #[] w fun e w' => ∃ v2_ : Value, e = .returned (.agg #[.int .i64 r1, .int .i64 r2, v2_]) ∧ Kd.R (Kd.int .i64) 3 w' w.heap.size (fun _ => True) v2_ r3 ∧ Below w.heap.size w w' := by
 have hu44 := Try.underlying44;have HB := Ai0.mk (Below.refl w.heap.size w);have H : (some (2, 1, ([] : List Int))) = some (r1, r2, r3) := h;clear h;simp only [Option.some.injEq, Prod.mk.injEq] at H;obtain ⟨rfl, rfl, rfl⟩ := H;go_enter Try.func68, Try.ntmps68
 go_wp2_with (first | ((with_reducible refine gate_dst (N := 0) rfl ?_); refine box_event ?hg (N := 0) ?hd (cs := #[.int .i64 0, .int .i64 0, .slice none 0 0]) (t := 44) ?hr ?_; (case hd => rfl); (case hg => rfl); (case hr => first | (go_simp; done) | (go_simp; rfl)); intro gb124 hg w1 hbox hb; have n0_ := Ai0.mk (bt1 bl_ hb); have n1_ := Ai0.mk (hbox); have n2_ := Ai0.mk ((by rw [hg]; exact (bz1 bl_) : w.heap.size ≤ gb124)); have n3_ := Ai0.mk ((by rw [hg]; exact (bz1 bl_) : w.heap.size ≤ gb124)); clear HB; have HB := n0_; have BK124 := n1_; have GW124 := n2_; have GE124 := n3_; clear n0_ n1_ n2_ n3_; clear hb hbox hg; have hcz2_0 : w1.cell? ⟨gb124, 0, none⟩ = some (.int .i64 0) := (kc1 BK124.out 0).trans rfl; have hcz2_1 : w1.cell? ⟨gb124, 1, none⟩ = some (.int .i64 0) := (kc1 BK124.out 1).trans rfl; have hcz2_2 : w1.cell? ⟨gb124, 2, none⟩ = some (.slice none 0 0) := (kc1 BK124.out 2).trans rfl; have hfz2_0 := kf1 BK124.out 0; have hfz2_1 := kf1 BK124.out 1; have hfz2_2 := kf1 BK124.out 2))
 refine bodyPost_ret (results_cell_row rfl _ _ gb124 44 #[.int .i64 2, .int .i64 1, .slice none 0 0] (0, 0) _ rfl (by (with_reducible repeat (first | refine kn1 ?_ _ | refine kd1 ?_ | refine ka1 ?_ _)); refine blk_put (cs := #[.int .i64 2, .int .i64 1, .slice none 0 0]) ?_ 2 _ rfl; (with_reducible repeat (first | refine kn1 ?_ _ | refine kd1 ?_ | refine ka1 ?_ _)); refine blk_put (cs := #[.int .i64 2, .int .i64 0, .slice none 0 0]) ?_ 1 _ rfl; (with_reducible repeat (first | refine kn1 ?_ _ | refine kd1 ?_ | refine ka1 ?_ _)); refine blk_put (cs := #[.int .i64 0, .int .i64 0, .slice none 0 0]) ?_ 0 _ rfl; (with_reducible repeat (first | refine kn1 ?_ _ | refine kd1 ?_ | refine ka1 ?_ _)); exact BK124.out) Try.underlying44 rfl (by kernel_rfl)) rfl ?_;exact ⟨_, by first | rfl | (simp [eW0, eW1] <;> rfl) | (simp [*, eW0, eW1] <;> rfl), by first | exact Kd.R_nil _ _ _ _ _ | exact Kd.N_nil _ _ _ _ _ | exact Kd.V_nil _ _ _ _ _ | exact Kd.Q_nil _ _ _ _ _ | exact Kd.S_nil _ _ _ _ _, bl_⟩
def IsS73 (w0 W : World) (g : Nat) (f0 : List (List Int)) (f1 : List (List (S77))) : Prop := ∃ A0 c0, ∃ A1 c1, W.heap[g]? = some (.cells #[.slice A0 f0.length c0, .slice A1 f1.length c1] 73 (0, 0)) ∧ w0.heap.size ≤ g ∧ Kd.C (Kd.slice 3 (Kd.int .i64)) w0 A0 f0.length f0 ∧ Kd.C (Kd.slice 77 k77) w0 A1 f1.length f1
theorem IsS73.grown {w0 W : World} {g : Nat} {f0 : List (List Int)} {f1 : List (List (S77))} {W1 : World} {row : Option Nat} (h : IsS73 w0 W g f0 f1) (hw : W.grownBy W1 row) (hne : some g ≠ row) : IsS73 w0 W1 g f0 f1 := by
 obtain ⟨A0, c0, A1, c1, hb, hg, hr0, hr1⟩ := h;exact ⟨A0, c0, A1, c1, blk_grown hb hw hne, hg, hr0, hr1⟩
theorem IsS73.own_neN {w0 W : World} {g : Nat} {f0 : List (List Int)} {f1 : List (List (S77))} {α : Type} {d : Kd α} {e : Nat} {base : Nat} {ok : Nat → Prop} {v : Value} {xs : List α} (h : IsS73 w0 W g f0 f1) (ho : Kd.N d e W base ok v xs) (ht : e ≠ 73) : some g ≠ v.ownBlock := by
 obtain ⟨A0, c0, A1, c1, hb, hg, hr0, hr1⟩ := h;exact Kd.N_ne ho hb ht
theorem IsS73.fresh {w0 W : World} {g : Nat} {f0 : List (List Int)} {f1 : List (List (S77))} (h : IsS73 w0 W g f0 f1) : ∀ k, W.heap.size ≤ k → k ≠ g := by
 obtain ⟨A0, c0, A1, c1, hb, hg, hr0, hr1⟩ := h;exact Kd.freshB hb
theorem IsS73.kept {w0 W : World} {g : Nat} {f0 : List (List Int)} {f1 : List (List (S77))} {W1 : World} {S : Nat → Prop} (h : IsS73 w0 W g f0 f1) (hk : Kept W W1 S) (hne : ¬ S g) : IsS73 w0 W1 g f0 f1 := by
 obtain ⟨A0, c0, A1, c1, hb, hg, hr0, hr1⟩ := h;exact ⟨A0, c0, A1, c1, blk_kept hb hk hne, hg, hr0, hr1⟩
theorem IsS73.below {w0 W : World} {g : Nat} {f0 : List (List Int)} {f1 : List (List (S77))} {W1 : World} (h : IsS73 w0 W g f0 f1) (hw : Below W.heap.size W W1) : IsS73 w0 W1 g f0 f1 := h.grown (grown_of_below hw none) (by simp)
theorem IsS73.alloc {w0 W : World} {g : Nat} {f0 : List (List Int)} {f1 : List (List (S77))} (h : IsS73 w0 W g f0 f1) (o : Obj) : IsS73 w0 (W.alloc o) g f0 f1 := h.below (ba1 (Below.refl _ _) o)
theorem IsS73.drewN {w0 W : World} {g : Nat} {f0 : List (List Int)} {f1 : List (List (S77))} (h : IsS73 w0 W g f0 f1) (m : Nat) : IsS73 w0 (W.drewN m) g f0 f1 := h
theorem IsS73.drew {w0 W : World} {g : Nat} {f0 : List (List Int)} {f1 : List (List (S77))} (h : IsS73 w0 W g f0 f1) : IsS73 w0 W.drew g f0 f1 := h
theorem IsS73.at_ {w0 W : World} {g : Nat} {f0 : List (List Int)} {f1 : List (List (S77))} {w' : World} {m : Nat} (hq : W.drewN m = w') (h : IsS73 w0 W g f0 f1) : IsS73 w0 w' g f0 f1 := by subst hq; exact IsS73.drewN h m
theorem IsS73.apart {w0 W : World} {g : Nat} {f0 : List (List Int)} {f1 : List (List (S77))} {α : Type} {d : Kd α} {e : Nat} {base : Nat} {ok : Nat → Prop} {v : Value} {xs : List α} (h : IsS73 w0 W g f0 f1) (ho : d.R e W base ok v xs) (ht : ∀ q, q ∈ e :: d.E → q ≠ 73) : d.R e W base (fun k => ok k ∧ k ≠ g) v xs := by
 obtain ⟨A0, c0, A1, c1, hb, hg, hr0, hr1⟩ := h;exact Kd.R_types ho hb ht
theorem IsS73.own_ne {w0 W : World} {g : Nat} {f0 : List (List Int)} {f1 : List (List (S77))} {α : Type} {d : Kd α} {e : Nat} {base : Nat} {ok : Nat → Prop} {v : Value} {xs : List α} (h : IsS73 w0 W g f0 f1) (ho : d.R e W base ok v xs) (ht : e ≠ 73) : some g ≠ v.ownBlock := by
 obtain ⟨A0, c0, A1, c1, hb, hg, hr0, hr1⟩ := h;exact Kd.R_ne ho hb ht
theorem IsS73.apartQ {w0 W : World} {g : Nat} {f0 : List (List Int)} {f1 : List (List (S77))} {α : Type} {d : Kd α} {e : Nat} {base : Nat} {ok : Nat → Prop} {v : Value} {xs : List α} (h : IsS73 w0 W g f0 f1) (ho : d.Q e W base ok v xs) (ht : ∀ q, q ∈ e :: d.E → q ≠ 73) : d.Q e W base (fun k => ok k ∧ k ≠ g) v xs := by
 obtain ⟨A0, c0, A1, c1, hb, hg, hr0, hr1⟩ := h;exact Kd.Q_types ho hb ht
theorem IsS73.own_neQ {w0 W : World} {g : Nat} {f0 : List (List Int)} {f1 : List (List (S77))} {α : Type} {d : Kd α} {e : Nat} {base : Nat} {ok : Nat → Prop} {v : Value} {xs : List α} (h : IsS73 w0 W g f0 f1) (ho : d.Q e W base ok v xs) (ht : e ≠ 73) : some g ≠ v.ownBlock := by
 obtain ⟨A0, c0, A1, c1, hb, hg, hr0, hr1⟩ := h;exact Kd.Q_ne ho hb ht
theorem IsS73.apartS {w0 W : World} {g : Nat} {f0 : List (List Int)} {f1 : List (List (S77))} {α : Type} {d : Kd α} {e : Nat} {base : Nat} {ok : Nat → Prop} {v : Value} {xs : List α} (h : IsS73 w0 W g f0 f1) (ho : d.S e W base ok v xs) (ht : ∀ q, q ∈ e :: d.E → q ≠ 73) : d.S e W base (fun k => ok k ∧ k ≠ g) v xs := by
 obtain ⟨A0, c0, A1, c1, hb, hg, hr0, hr1⟩ := h;exact Kd.S_types ho hb ht
theorem IsS73.own_neS {w0 W : World} {g : Nat} {f0 : List (List Int)} {f1 : List (List (S77))} {α : Type} {d : Kd α} {e : Nat} {base : Nat} {ok : Nat → Prop} {v : Value} {xs : List α} (h : IsS73 w0 W g f0 f1) (ho : d.S e W base ok v xs) (ht : e ≠ 73) : some g ≠ v.ownBlock := by
 obtain ⟨A0, c0, A1, c1, hb, hg, hr0, hr1⟩ := h;exact Kd.S_ne ho hb ht
theorem IsS73.lt {w0 W : World} {g : Nat} {f0 : List (List Int)} {f1 : List (List (S77))} (h : IsS73 w0 W g f0 f1) : g < W.heap.size := by
 obtain ⟨A0, c0, A1, c1, hb, hg, hr0, hr1⟩ := h;exact blk_lt hb
theorem IsS73.ge {w0 W : World} {g : Nat} {f0 : List (List Int)} {f1 : List (List (S77))} (h : IsS73 w0 W g f0 f1) : w0.heap.size ≤ g := by
 obtain ⟨A0, c0, A1, c1, hb, hg, hr0, hr1⟩ := h;exact hg
theorem IsS73.ne_blk {w0 W : World} {g : Nat} {f0 : List (List Int)} {f1 : List (List (S77))} {a : Nat} {cs : Array Value} {t : TypeId} {fr : Nat × Nat} (h : IsS73 w0 W g f0 f1) (hb2 : W.heap[a]? = some (.cells cs t fr)) (ht : t ≠ 73) : g ≠ a := by
 obtain ⟨A0, c0, A1, c1, hb, hg, hr0, hr1⟩ := h
 rintro rfl
 rw [hb] at hb2
 injection hb2 with hb2
 injection hb2 with _ ht2
 exact ht ht2.symm
theorem IsS73.far {w0 W : World} {g : Nat} {f0 : List (List Int)} {f1 : List (List (S77))} {p : Addr} (h : IsS73 w0 W g f0 f1) (hne : g ≠ p.block) (u : Value) : IsS73 w0 (W.setCell p u) g f0 f1 := by
 obtain ⟨A0, c0, A1, c1, hb, hg, hr0, hr1⟩ := h;exact ⟨A0, c0, A1, c1, blk_far hb hne u, hg, hr0, hr1⟩
theorem cellS73_0 {W : World} {g : Nat} {A0 : Option Addr} {c0 : Nat} {A1 : Option Addr} {c1 : Nat} {f0 : List (List Int)} {f1 : List (List (S77))} (h : W.heap[g]? = some (.cells #[.slice A0 f0.length c0, .slice A1 f1.length c1] 73 (0, 0))) : W.cell? ⟨g, 0, none⟩ = some (.slice A0 f0.length c0) := (kc1 h 0).trans rfl
theorem cellS73_1 {W : World} {g : Nat} {A0 : Option Addr} {c0 : Nat} {A1 : Option Addr} {c1 : Nat} {f0 : List (List Int)} {f1 : List (List (S77))} (h : W.heap[g]? = some (.cells #[.slice A0 f0.length c0, .slice A1 f1.length c1] 73 (0, 0))) : W.cell? ⟨g, 1, none⟩ = some (.slice A1 f1.length c1) := (kc1 h 1).trans rfl
theorem IsS73.new (w0 W : World) (A0 : Option Addr) (c0 : Nat) (A1 : Option Addr) (c1 : Nat) (f0 : List (List Int)) (f1 : List (List (S77))) (hB : Below w0.heap.size w0 W) (hr0 : Kd.C (Kd.slice 3 (Kd.int .i64)) w0 A0 f0.length f0) (hr1 : Kd.C (Kd.slice 77 k77) w0 A1 f1.length f1) : IsS73 w0 (W.alloc (.cells #[.slice A0 f0.length c0, .slice A1 f1.length c1] 73)) W.heap.size f0 f1 := ⟨A0, c0, A1, c1, by simpa using heap_alloc_new W _, hB.size, hr0, hr1⟩
mutual
def message_build.l0 : Nat → List (List Int) → Int → Int → List (List Int) → List (List (S77)) → Option ((List (List Int)) × (List (List (S77))) × Int)
 | 0, _, _, _, _, _ => none
 | k + 1, x23, x24, x25, x169000, x169001 => if x25 < x24 then (if 0 ≤ x25 then (if x25 < (x23.length : Int) then (message_build.l1 k x25 ([] : List Int) x23 x24 x25 (rd_L1 x23 x25) ((rd_L1 x23 x25).length : Int) 0 x169000 x169001) else (none)) else (none)) else (some (x169000, x169001, 0))
def message_build.l1 : Nat → Int → List Int → List (List Int) → Int → Int → List Int → Int → Int → List (List Int) → List (List (S77)) → Option ((List (List Int)) × (List (List (S77))) × Int)
 | 0, _, _, _, _, _, _, _, _, _, _ => none
 | k + 1, x6, x8, x23, x24, x25, x30, x31, x32, x169000, x169001 => if x32 < x31 then (if 0 ≤ x32 then (if x32 < (x30.length : Int) then (if (rd x30 x32) = 1 then (if x32 < (x169001.length : Int) then (if (rd_L9 x169001 x32).length < 8796093022208 then (if x8.length < 17592186044416 then (message_build.l1 k x6 (x8 ++ [x32]) x23 x24 x25 x30 x31 (wrap64 (x32 + 1)) x169000 (x169001.set (x32 : Int).toNat ((rd_L9 x169001 x32) ++ [(⟨x6, (x8.length : Int)⟩ : S77)]))) else (none)) else (none)) else (none)) else (message_build.l1 k x6 x8 x23 x24 x25 x30 x31 (wrap64 (x32 + 1)) x169000 x169001)) else (none)) else (none)) else (if x169000.length < 5864062014805 then (message_build.l0 k x23 x24 (wrap64 (x25 + 1)) (x169000 ++ [x8]) x169001) else (none))
end
def message_build.f (k : Nat) (a0_0 : Int) (l0_1 : List (List Int)) : Option ((List (List Int)) × (List (List (S77))) × Int) := (message_binary.f).bind fun bt159 => ((matrix_Check.f k bt159.1 bt159.2.1 bt159.2.2 a0_0 l0_1).bind fun t164 => (if t164 = 0 then (if 0 ≤ a0_0 then (if (a0_0 : Int).toNat ≤ 11728124029610 then (message_build.l0 k l0_1 (l0_1.length : Int) 0 ([] : List (List Int)) (List.replicate (a0_0 : Int).toNat [])) else (none)) else (none)) else (some (([] : List (List Int)), ([] : List (List (S77))), t164))))
theorem message_build.mono_l : ∀ k, (∀ y0 y1 y2 y3 y4, LeO (message_build.l0 k y0 y1 y2 y3 y4) (message_build.l0 (k + 1) y0 y1 y2 y3 y4)) ∧ (∀ y0 y1 y2 y3 y4 y5 y6 y7 y8 y9, LeO (message_build.l1 k y0 y1 y2 y3 y4 y5 y6 y7 y8 y9) (message_build.l1 (k + 1) y0 y1 y2 y3 y4 y5 y6 y7 y8 y9))
 | 0 => ⟨fun _ _ _ _ _ r h => by simp [message_build.l0] at h, fun _ _ _ _ _ _ _ _ _ _ r h => by simp [message_build.l1] at h⟩
 | k + 1 => by
  obtain ⟨ih0, ih1⟩ := message_build.mono_l k;refine ⟨?_, ?_⟩
  ·intro y0 y1 y2 y3 y4;unfold message_build.l0
   repeat' first
   | (with_reducible exact ih0 _ _ _ _ _)
   | (with_reducible exact ih1 _ _ _ _ _ _ _ _ _ _)
   | (with_reducible exact matrix_Check.mono _ _ _ _ _ _)
   | (with_reducible exact LeO.refl _)
   | (with_reducible exact LeO.none _)
   | (with_reducible refine LeO.ite ?_ ?_)
   | (with_reducible refine LeO.bind ?_ (fun _ => ?_))
   | exact ih0 _ _ _ _ _
   | exact ih1 _ _ _ _ _ _ _ _ _ _
   | exact matrix_Check.mono _ _ _ _ _ _
   | exact LeO.none _
   | refine LeO.ite ?_ ?_
   | refine LeO.bind ?_ (fun _ => ?_)
  ·intro y0 y1 y2 y3 y4 y5 y6 y7 y8 y9;unfold message_build.l1
   repeat' first
   | (with_reducible exact ih0 _ _ _ _ _)
   | (with_reducible exact ih1 _ _ _ _ _ _ _ _ _ _)
   | (with_reducible exact matrix_Check.mono _ _ _ _ _ _)
   | (with_reducible exact LeO.refl _)
   | (with_reducible exact LeO.none _)
   | (with_reducible refine LeO.ite ?_ ?_)
   | (with_reducible refine LeO.bind ?_ (fun _ => ?_))
   | exact ih0 _ _ _ _ _
   | exact ih1 _ _ _ _ _ _ _ _ _ _
   | exact matrix_Check.mono _ _ _ _ _ _
   | exact LeO.none _
   | refine LeO.ite ?_ ?_
   | refine LeO.bind ?_ (fun _ => ?_)
theorem message_build.mono : ∀ a0 a1 k, LeO (message_build.f k a0 a1) (message_build.f (k + 1) a0 a1) := by
 intro a0 a1 k;obtain ⟨ih0, ih1⟩ := message_build.mono_l k;unfold message_build.f
 repeat' first
   | (with_reducible exact ih0 _ _ _ _ _)
   | (with_reducible exact ih1 _ _ _ _ _ _ _ _ _ _)
   | (with_reducible exact matrix_Check.mono _ _ _ _ _ _)
   | (with_reducible exact LeO.refl _)
   | (with_reducible exact LeO.none _)
   | (with_reducible refine LeO.ite ?_ ?_)
   | (with_reducible refine LeO.bind ?_ (fun _ => ?_))
   | exact ih0 _ _ _ _ _
   | exact ih1 _ _ _ _ _ _ _ _ _ _
   | exact matrix_Check.mono _ _ _ _ _ _
   | exact LeO.none _
   | refine LeO.ite ?_ ?_
   | refine LeO.bind ?_ (fun _ => ?_)
def Built (w' : World) (base : Nat) (gg : Option Addr) (r3 : Int) (r1 : List (List Int)) (r2 : List (List S77)) : Prop := (r3 ≠ 0 ∧ gg = none) ∨ (r3 = 0 ∧ ∃ (g : Nat) (v0_ v1_ : Value), gg = some ⟨g, 0, none⟩ ∧ base ≤ g ∧ w'.heap[g]? = some (.cells #[v0_, v1_] 73 (0, 0)) ∧ Kd.S (Kd.slice 3 (Kd.int .i64)) 25 w' base (fun _ => True) v0_ r1 ∧ Kd.S (Kd.slice 77 k77) 75 w' base (fun _ => True) v1_ r2)
theorem Built.ok {w' : World} {base : Nat} {gg : Option Addr} {r3 : Int} {r1 : List (List Int)} {r2 : List (List S77)} (h : Built w' base gg r3 r1 r2) (h0 : r3 = 0) : ∃ (g : Nat) (v0_ v1_ : Value), gg = some ⟨g, 0, none⟩ ∧ base ≤ g ∧ w'.heap[g]? = some (.cells #[v0_, v1_] 73 (0, 0)) ∧ Kd.S (Kd.slice 3 (Kd.int .i64)) 25 w' base (fun _ => True) v0_ r1 ∧ Kd.S (Kd.slice 77 k77) 75 w' base (fun _ => True) v1_ r2 := h.elim (fun h_ => absurd h0 h_.1) (fun h_ => h_.2)
theorem Built.no {w' : World} {base : Nat} {gg : Option Addr} {r3 : Int} {r1 : List (List Int)} {r2 : List (List S77)} (h : Built w' base gg r3 r1 r2) (h0 : r3 ≠ 0) : gg = none := h.elim (fun h_ => h_.2) (fun h_ => absurd h_.1 h0)
def message_build.T13 : Bool × List (List Nat × List Nat) := (true, [([], []), ([0], [0]), ([1], [1]), ([2], [2]), ([], []), ([], []), ([5], [5]), ([6], [6]), ([7], [7]), ([], []), ([8, 9], [8, 9]), ([10], [10]), ([], []), ([], []), ([13], [13]), ([12, 14], [12, 14]), ([15], [15]), ([11, 16], [11, 16]), ([3, 4, 0, 1, 2, 3, 4, 5, 6, 7, 8, 9, 10, 11, 12, 13, 14, 15, 16, 17], [3, 4]), ([18, 17, 17, 0, 1, 2, 3, 4, 5, 6, 7, 8, 9, 10, 11, 12, 13, 14, 15, 16, 17], [17, 18])])
def message_build.B13 : List Nat := [0, 1, 3, 7, 0, 0, 32, 96, 224, 0, 992, 2016, 0, 0, 8192, 28672, 61440, 131040, 262143, 524287]
theorem message_build.tab13 : rtab .any (opsOf Try.f44 13) = message_build.T13 := by kernel_rfl
theorem message_build.bits13 : waitsOk message_build.T13.2 message_build.B13 = true := by kernel_rfl
set_option maxHeartbeats 8000000 in
set_option maxRecDepth 100000 in
theorem message_build.calls (k : Nat) (a0_0 : Int) (A0_1 : Option Addr) (c0_1 : Nat) (l0_1 : List (List Int)) (r1 : List (List Int)) (r2 : List (List (S77))) (r3 : Int) (w : World) (hr0_1 : Kd.C (Kd.slice 3 (Kd.int .i64)) w A0_1 l0_1.length l0_1) (hc0_1 : l0_1.length ≤ c0_1) (h : message_build.f k a0_0 l0_1 = some (r1, r2, r3)) :
  Calls Try.prog 44 #[.agg #[.int .i64 a0_0, .slice A0_1 l0_1.length c0_1]] w fun e w' => ∃ gg : Option Addr, e = .returned (.tuple #[.pointer gg, .int .i64 r3]) ∧ Below w.heap.size w w' ∧ Built w' w.heap.size gg r3 r1 r2 := by
 have hu24 := Try.underlying24;have hu73 := Try.underlying73;have hu77 := Try.underlying77;have HR0_1 := Ai0.mk hr0_1;have HC0_1 := Ai0.mk hc0_1;clear hr0_1 hc0_1;have HB := Ai0.mk (Below.refl w.heap.size w);have H : ((message_binary.f).bind fun bt159 => ((matrix_Check.f k bt159.1 bt159.2.1 bt159.2.2 a0_0 l0_1).bind fun t164 => (if t164 = 0 then (if 0 ≤ a0_0 then (if (a0_0 : Int).toNat ≤ 11728124029610 then (message_build.l0 k l0_1 (l0_1.length : Int) 0 ([] : List (List Int)) (List.replicate (a0_0 : Int).toNat [])) else (none)) else (none)) else (some (([] : List (List Int)), ([] : List (List (S77))), t164))))) = some (r1, r2, r3) := h;clear h;replace H := Option.bind_eq_some_iff.mp H;obtain ⟨⟨t159, t160, t161⟩, A20, H⟩ := H;replace H : ((matrix_Check.f k t159 t160 t161 a0_0 l0_1).bind fun t164 => (if t164 = 0 then (if 0 ≤ a0_0 then (if (a0_0 : Int).toNat ≤ 11728124029610 then (message_build.l0 k l0_1 (l0_1.length : Int) 0 ([] : List (List Int)) (List.replicate (a0_0 : Int).toNat [])) else (none)) else (none)) else (some (([] : List (List Int)), ([] : List (List (S77))), t164)))) = some (r1, r2, r3) := H;have A2 := Ai0.mk A20;clear A20;replace H := Option.bind_eq_some_iff.mp H;obtain ⟨t164, A30, H⟩ := H;replace H : (if t164 = 0 then (if 0 ≤ a0_0 then (if (a0_0 : Int).toNat ≤ 11728124029610 then (message_build.l0 k l0_1 (l0_1.length : Int) 0 ([] : List (List Int)) (List.replicate (a0_0 : Int).toNat [])) else (none)) else (none)) else (some (([] : List (List Int)), ([] : List (List (S77))), t164))) = some (r1, r2, r3) := H;have A3 := Ai0.mk A30;clear A30;by_cases c4 : t164 = 0
 ·rw [if_pos c4] at H;have c4b0 : (t164 == 0) = true := beq_iff_eq.mpr c4;have c4b1 : (t164 != 0) = false := bne_eq_false_iff_eq.mpr c4;clear c4;by_cases c5 : 0 ≤ a0_0
  ·rw [if_pos c5] at H;have c5b0 := eq_true c5;have c5b1 : decide (0 ≤ a0_0) = true := decide_eq_true c5;clear c5;by_cases c6 : (a0_0 : Int).toNat ≤ 11728124029610
   ·rw [if_pos c6] at H;have c6b0 := eq_true c6;have c6b1 : decide ((a0_0 : Int).toNat ≤ 11728124029610) = true := decide_eq_true c6;clear c6;(obtain ⟨y165, hy165⟩ : ∃ y_ : List (List (S77)), y_ = (List.replicate (a0_0 : Int).toNat []) := ⟨_, rfl⟩);(replace H : (message_build.l0 k l0_1 (l0_1.length : Int) 0 ([] : List (List Int)) y165) = some (r1, r2, r3) := by first | (rw [hy165]; with_reducible exact H) | (have H2_ := (Option.bind_some _ _).symm.trans H; rw [hy165]; with_reducible exact H2_) | (have H2_ := (Option.bind_some _ _).symm.trans H; with_reducible exact H2_) | with_reducible exact H | (rw [hy165]; exact H) | exact H);have Ny165 := Ai0.mk hy165;clear hy165;have H' := Ai0.mk H;clear H;go_enter Try.func44, Try.ntmps44
    try go_wp2_with (first | ((with_reducible refine gate_dst (N := 1) rfl ?_); refine box_event ?hg (N := 1) ?hd (cs := #[.int .i64 a0_0, .slice A0_1 l0_1.length c0_1]) (t := 24) ?hr ?_; (case hd => rfl); (case hg => rfl); (case hr => first | (go_simp; done) | (go_simp; rfl)); intro gb158 hg w7 hbox hb; have n0_ := Ai0.mk (bt1 bl_ hb); have n1_ := Ai0.mk (hbox); have n2_ := Ai0.mk ((by rw [hg]; exact (bz1 bl_) : w.heap.size ≤ gb158)); have n3_ := Ai0.mk ((by rw [hg]; exact (bz1 bl_) : w.heap.size ≤ gb158)); clear HB; have HB := n0_; have BK158 := n1_; have GW158 := n2_; have GE158 := n3_; clear n0_ n1_ n2_ n3_; clear hb hbox hg))
    have n0_ := Ai0.mk (kd1 BK158.out);have n1_ := Ai0.mk (bw1 HB.out);clear BK158;clear HB;have BK158 := n0_;have HB := n1_;clear n0_ n1_;refine start_ (n := 4) (S := fun w' => w'.cell? ⟨gb158, 0, none⟩ = some (.int .i64 a0_0) ∧ w'.cell? ⟨gb158, 1, none⟩ = some (.slice A0_1 l0_1.length c0_1)) (ds := []) #[false, false, false, false] (by kernel_rfl) rfl rfl ⟨(kc1 BK158.out 0).trans rfl, (kc1 BK158.out 1).trans rfl⟩ (fun hHeld => ?_);(generalize w7.drew = w8 at BK158 HB hHeld ⊢);refine take_ (i := 1) (N := some 12) (v := ?_) (a' := ?_) #[false, true, false, false] rfl rfl (by kernel_rfl) (fun _ _ _ h => h) (Or.inl ⟨by rfl, ?_⟩) hHeld ?_ ?_;rotate_left
    ·rintro w' ⟨s0, s1⟩
     go_simp
     with_reducible rfl
    rotate_left
    ·simp only [Act.put, l01_, l02_, l03_, i64_w, i32_w]
     rfl
    refine one_ (i := 0) (N := some 11) #[true, true, false, false] rfl rfl (by kernel_rfl) (by decide) (fun K hK => ?_);refine goes_ Try.func68 (by kernel_rfl) rfl #[] (by rfl) rfl rfl (by (try simp only [List.map_toArray, List.map_cons, List.map_nil]); first | done | rfl | (simp only [List.length_drop, List.length_take]; rfl)) ?_
    with_reducible refine (message_binary.calls  t159 t160 t161 _ A2.out).mono ?_
    rintro e w9 ⟨v162, rfl, ho0, hb⟩
    refine ⟨_, rfl, ?_⟩;have n0_ := Ai0.mk (Kd.R_lower ho0 (bz1 bl_));have n1_ := Ai0.mk (kb1 (g := gb158) (o := .cells #[.int .i64 a0_0, .slice A0_1 l0_1.length c0_1] 24 (0, 0)) (kk_ BK158.out) hb);have n2_ := Ai0.mk (bt1 bl_ hb);clear BK158;clear HB;have HO163 := n0_;have BK158 := n1_;have HB := n2_;clear n0_ n1_ n2_;(try clear hb);(try clear hb2);(try clear hk);(try clear hi);(try clear ho0);obtain ⟨Ao10, co10, eo10⟩ := Kd.R_slice HO163.out;(first | subst eo10 | (injection eo10 with f1_ f2_ f3_; have f4_ := f1_.symm; have f5_ := f3_.symm; clear f1_ f2_ f3_; subst f4_; subst f5_));refine hK.out _ _ ⟨(kc1 BK158.out 0).trans rfl, (kc1 BK158.out 1).trans rfl⟩ (fun hHeld => ?_);clear hK K;refine norm_ (a' := ?_) ?_ ?_;rotate_left
    ·show Act.put _ (some 11) _ = _;simp only [Act.put, l01_, l02_, l03_, i64_w, i32_w]
     rfl
    refine one_ (i := 2) (N := some 13) #[true, true, true, false] rfl rfl (by kernel_rfl) (by decide) (fun K hK => ?_);refine goes_ Try.func67 (by kernel_rfl) rfl #[.agg #[.int .i64 t159, .int .i64 t160, .slice Ao10 t161.length co10], .agg #[.int .i64 a0_0, .slice A0_1 l0_1.length c0_1]] (by rfl) rfl rfl (by (try simp only [List.map_toArray, List.map_cons, List.map_nil]); first | done | rfl | (simp only [List.length_drop, List.length_take]; rfl)) ?_
    with_reducible refine (matrix_Check.calls k t159 t160 _ _ t161 a0_0 _ _ l0_1 t164 _ ?side1 ?side2 ?side3 ?side4 A3.out).mono ?_
    (case side1 => repeat (first | exact (Kd.R_reads' HO163.out).2.2 | (with_reducible refine Kd.C_alloc ?_ _) | (with_reducible refine Kd.C_drewN ?_ _) | (with_reducible refine Kd.C_drew ?_)));(case side2 => exact (Kd.R_reads' HO163.out).2.1);(case side3 => exact kc_ HR0_1.out);(case side4 => exact HC0_1.out)
    rintro e w11 ⟨rfl, hb⟩
    refine ⟨_, rfl, ?_⟩;have n0_ := Ai0.mk (Kd.R_below (kr_ HO163.out) hb);have n1_ := Ai0.mk (kb1 (g := gb158) (o := .cells #[.int .i64 a0_0, .slice A0_1 l0_1.length c0_1] 24 (0, 0)) (kk_ BK158.out) hb);have n2_ := Ai0.mk (bt1 bl_ hb);clear HO163;clear BK158;clear HB;have HO163 := n0_;have BK158 := n1_;have HB := n2_;clear n0_ n1_ n2_;(try clear hb);(try clear hb2);(try clear hk);(try clear hi);refine hK.out _ _ ⟨(kc1 BK158.out 0).trans rfl, (kc1 BK158.out 1).trans rfl⟩ (fun hHeld => ?_);clear hK K;refine norm_ (a' := ?_) ?_ ?_;rotate_left
    ·show Act.put _ (some 13) _ = _;simp only [Act.put, l01_, l02_, l03_, i64_w, i32_w]
     rfl
    refine pure_ (i := 3) (N := some 4) (v := ?_) (a' := ?_) #[true, true, true, true] rfl rfl (by kernel_rfl) (fun _ _ _ h => h) (Or.inl ⟨by rfl, ?_⟩) ?_ ?_;rotate_left
    ·intro w';go_simp
     with_reducible rfl
    rotate_left
    ·simp only [Act.put, l01_, l02_, l03_, i64_w, i32_w]
     rfl
    refine done_ (by kernel_rfl) ?_;have hcz12_0 : w11.cell? ⟨gb158, 0, none⟩ = some (.int .i64 a0_0) := (kc1 BK158.out 0).trans rfl;have hcz12_1 : w11.cell? ⟨gb158, 1, none⟩ = some (.slice A0_1 l0_1.length c0_1) := (kc1 BK158.out 1).trans rfl;have hfz12_0 := kf1 BK158.out 0;have hfz12_1 := kf1 BK158.out 1
    try go_wp2_with (first | ((with_reducible refine gate_dst (N := 19) rfl ?_); refine Kd.S_make (Kd.slice 77 k77) _ 75 rfl (N := 19) rfl 71 _ _ rfl a0_0 rfl rfl Try.underlying71 (.slice none 0 0) 24 info75 rfl (by decide) (by omega) [] (ok := fun _ => True) (okp := fun _ => True) ⟨_, rfl, Kd.R_nil _ _ _ _ _⟩ (fun _ hk => hk) trivial od_ (Nat.le_trans (Nat.mul_le_mul_right _ (od_ : a0_0.toNat ≤ 11728124029610)) (by omega)) (Below.refl _ _) (Nat.le_refl _) ?_; intro v166 w13 ho14 hb hg_ hnew_; clear hg_ hnew_; (first | rw [← Ny165.out] at ho14 | (simp only [Int.reduceToNat] at ho14; rw [← Ny165.out] at ho14)); have n0_ := Ai0.mk (Kd.R_below (kr_ HO163.out) hb); have n1_ := Ai0.mk (Kd.S_lower ho14 (bz1 bl_)); have n2_ := Ai0.mk (kb1 (g := gb158) (o := .cells #[.int .i64 a0_0, .slice A0_1 l0_1.length c0_1] 24 (0, 0)) (kk_ BK158.out) hb); have n3_ := Ai0.mk (bt1 bl_ hb); clear HO163; clear BK158; clear HB; have HO163 := n0_; have HO167 := n1_; have BK158 := n2_; have HB := n3_; clear n0_ n1_ n2_ n3_; clear hb ho14; obtain ⟨Ao15, co15, eo15⟩ := Kd.S_slice HO167.out; subst eo15) | ((with_reducible refine gate_dst (N := 21) rfl ?_); refine box_event ?hg (N := 21) ?hd (cs := #[.slice none 0 0, .slice Ao15 y165.length co15]) (t := 73) ?hr ?_; (case hd => rfl); (case hg => rfl); (case hr => first | (go_simp; done) | (go_simp; rfl)); intro gb168 hg w16 hbox hb; have n0_ := Ai0.mk (Kd.R_below (kr_ HO163.out) hb); have n1_ := Ai0.mk (Kd.S_below (ks_ HO167.out) hb); have n2_ := Ai0.mk (kb1 (g := gb158) (o := .cells #[.int .i64 a0_0, .slice A0_1 l0_1.length c0_1] 24 (0, 0)) (kk_ BK158.out) hb); have n3_ := Ai0.mk (bt1 bl_ hb); have n4_ := Ai0.mk (hbox); have n5_ := Ai0.mk ((by rw [hg]; exact (bz1 bl_) : w.heap.size ≤ gb168)); have n6_ := Ai0.mk ((by rw [hg]; exact (bz1 bl_) : w.heap.size ≤ gb168)); have n7_ := Ai0.mk ((by rw [hg]; exact Nat.ne_of_lt (blk_lt (g := gb158) (o := .cells #[.int .i64 a0_0, .slice A0_1 l0_1.length c0_1] 24 (0, 0)) (kk_ BK158.out)) : gb158 ≠ gb168)); have n8_ := Ai0.mk ((by rw [hg]; exact Nat.ne_of_gt (blk_lt (g := gb158) (o := .cells #[.int .i64 a0_0, .slice A0_1 l0_1.length c0_1] 24 (0, 0)) (kk_ BK158.out)) : gb168 ≠ gb158)); clear HO163; clear HO167; clear BK158; clear HB; have HO163 := n0_; have HO167 := n1_; have BK158 := n2_; have HB := n3_; have BK168 := n4_; have GW168 := n5_; have GE168 := n6_; have NB158_168 := n7_; have NB168_158 := n8_; clear n0_ n1_ n2_ n3_ n4_ n5_ n6_ n7_ n8_; clear hb hbox hg; have hnb17 := NB158_168.out; have hnc17 := NB168_158.out; have hcz18_0 : w16.cell? ⟨gb158, 0, none⟩ = some (.int .i64 a0_0) := (kc1 BK158.out 0).trans rfl; have hcz18_1 : w16.cell? ⟨gb158, 1, none⟩ = some (.slice A0_1 l0_1.length c0_1) := (kc1 BK158.out 1).trans rfl; have hfz18_0 := kf1 BK158.out 0; have hfz18_1 := kf1 BK158.out 1))
    go_loopg [25] k (fun kq v25 w' => ∃ (x25_1 : Int) (x169000_1 : List (List Int)) (x169001_1 : List (List (S77))) (u169000 : Value) (u169001 : Value), v25 = .int .i64 x25_1 ∧ Ai0 (message_build.l0 kq l0_1 (l0_1.length : Int) x25_1 x169000_1 x169001_1 = some (r1, r2, r3)) ∧ Ai0 (kq ≤ k) ∧ Ai0 (Kd.S (Kd.slice 3 (Kd.int .i64)) 25 w' w.heap.size (fun _ => True) u169000 x169000_1) ∧ Ai0 (Kd.S (Kd.slice 77 k77) 75 w' w.heap.size (fun _ => True) u169001 x169001_1) ∧ Ai0 (w'.heap[gb158]? = some (.cells #[.int .i64 a0_0, (.slice A0_1 l0_1.length c0_1)] 24 (0, 0))) ∧ Ai0 (w'.heap[gb168]? = some (.cells #[u169000, u169001] 73 (0, 0))) ∧ Ai0 (Below w.heap.size w w'))
    case atStart => exact ⟨(0), (([] : List (List Int))), (y165), (.slice none 0 0), (.slice Ao15 y165.length co15), rf_, H', ⟨Nat.le_refl _⟩, ⟨by first | exact Kd.S_nil _ _ _ _ _ | exact Kd.N_nil _ _ _ _ _ | exact Kd.V_nil _ _ _ _ _ | exact Kd.Q_nil _ _ _ _ _ | exact Kd.R_nil _ _ _ _ _⟩, ⟨ks_ HO167.out⟩, ⟨kk_ BK158.out⟩, ⟨kk_ BK168.out⟩, ⟨bl_⟩⟩
    case round =>
     clear H'
     try clear c1
     try clear p2
     try clear c4
     try clear c4b0
     try clear c4b1
     try clear c5
     try clear c5b0
     try clear c5b1
     try clear c6
     try clear c6b0
     try clear c6b1
     try clear c17
     try clear hcz12_0
     try clear hcz12_1
     try clear hcz18_0
     try clear hcz18_1
     try clear hfz12_0
     try clear hfz12_1
     try clear hfz18_0
     try clear hfz18_1
     obtain ⟨x25_1, x169000_1, x169001_1, u169000, u169001, rfl, HA, HK1, HO_169000, HO_169001, BK158, BK168, HB⟩ := hrel
     cases gk with
     | zero => exact absurd HA.out (by simp [message_build.l0])
     | succ k1 =>
      have H := HA.out;clear HA;simp only [message_build.l0] at H;by_cases c19 : x25_1 < (l0_1.length : Int)
      ·rw [if_pos c19] at H;have c19b0 : decide (x25_1 < (l0_1.length : Int)) = true := decide_eq_true c19;clear c19;by_cases c20 : 0 ≤ x25_1
       ·rw [if_pos c20] at H;have c20b0 : decide (0 ≤ x25_1) = true := decide_eq_true c20;clear c20;by_cases c21 : x25_1 < (l0_1.length : Int)
        ·rw [if_pos c21] at H;have c21b0 : decide (x25_1 < (l0_1.length : Int)) = true := decide_eq_true c21;clear c21;have H' := Ai0.mk H;clear H;have p169 : 0 ≤ (x25_1 : Int) := od_;have q169 : x25_1 < (l0_1.length : Int) := od_;obtain ⟨ad169, A169_0, c169_0, e169, hx169_0, hl169_0, hi169_0⟩ := at_L1 HR0_1.out x25_1 p169 q169;cases e169;replace hx169_0 := (HB.out.cell (World.block_lt_of_cell? w _ hx169_0)).trans hx169_0;have HR169_0 := Ai0.mk hi169_0;have HC169_0 := Ai0.mk hl169_0;clear hi169_0 hl169_0;replace p169 := eq_true p169;replace q169 := eq_true q169
         go_wp2
         go_loopg [8, 32] k1 (fun kq v8 v32 w' => ∃ (x8_2 : List Int) (x32_2 : Int) (x169001_2 : List (List (S77))) (u169001 : Value), v32 = .int .i64 x32_2 ∧ Ai0 (message_build.l1 kq x25_1 x8_2 l0_1 (l0_1.length : Int) x25_1 (rd_L1 l0_1 x25_1) ((rd_L1 l0_1 x25_1).length : Int) x32_2 x169000_1 x169001_2 = some (r1, r2, r3)) ∧ Ai0 (kq ≤ k1) ∧ Ai0 (Kd.R (Kd.int .i64) 3 w' w.heap.size (fun _ => True) v8 x8_2) ∧ Ai0 (Kd.S (Kd.slice 3 (Kd.int .i64)) 25 w' w.heap.size (fun k_ => some k_ ≠ (v8 : Value).ownBlock) u169000 x169000_1) ∧ Ai0 (Kd.S (Kd.slice 77 k77) 75 w' w.heap.size (fun _ => True) u169001 x169001_2) ∧ Ai0 (w'.heap[gb158]? = some (.cells #[.int .i64 a0_0, (.slice (some ad169) l0_1.length c0_1)] 24 (0, 0))) ∧ Ai0 (w'.heap[gb168]? = some (.cells #[u169000, u169001] 73 (0, 0))) ∧ Ai0 (Below w.heap.size w w'))
         case atStart => exact ⟨(([] : List Int)), (0), (x169001_1), (u169001), rf_, H', ⟨Nat.le_refl _⟩, ⟨by first | exact Kd.R_nil _ _ _ _ _ | exact Kd.N_nil _ _ _ _ _ | exact Kd.V_nil _ _ _ _ _ | exact Kd.Q_nil _ _ _ _ _ | exact Kd.S_nil _ _ _ _ _⟩, ⟨by (with_reducible repeat (first | apply Kd.S_alloc | apply Kd.S_drewN | apply Kd.S_drew)); exact Kd.S_mono HO_169000.out (fun _ hk => (by simp [Value.ownBlock]))⟩, ⟨ks_ HO_169001.out⟩, ⟨kk_ BK158.out⟩, ⟨kk_ BK168.out⟩, ⟨bl_⟩⟩
         case round =>
          clear H'
          try clear c1
          try clear p1
          try clear q1
          try clear hx1
          try clear c2
          try clear p2
          try clear c4
          try clear c4b0
          try clear c4b1
          try clear c5
          try clear c5b0
          try clear c5b1
          try clear c6
          try clear c6b0
          try clear c6b1
          try clear c16
          try clear p16
          try clear q16
          try clear hx16
          try clear c17
          try clear c19
          try clear c19b0
          try clear c20
          try clear c20b0
          try clear c21
          try clear c21b0
          try clear hcz12_0
          try clear hcz12_1
          try clear hcz18_0
          try clear hcz18_1
          try clear hfz12_0
          try clear hfz12_1
          try clear hfz18_0
          try clear hfz18_1
          try clear hx169_0
          try clear p169
          try clear p2
          try clear q169
          obtain ⟨x8_2, x32_2, x169001_2, u169001, rfl, HA, HK2, HO_8, HO_169000, HO_169001, BK158, BK168, HB⟩ := hrel
          cases gk with
          | zero => exact absurd HA.out (by simp [message_build.l1])
          | succ k2 =>
           have H := HA.out;clear HA;simp only [message_build.l1] at H;by_cases c22 : x32_2 < ((rd_L1 l0_1 x25_1).length : Int)
           ·rw [if_pos c22] at H;have c22b0 : decide (x32_2 < ((rd_L1 l0_1 x25_1).length : Int)) = true := decide_eq_true c22;clear c22;by_cases c23 : 0 ≤ x32_2
            ·rw [if_pos c23] at H;have c23b0 : decide (0 ≤ x32_2) = true := decide_eq_true c23;clear c23;by_cases c24 : x32_2 < ((rd_L1 l0_1 x25_1).length : Int)
             ·rw [if_pos c24] at H;have c24b0 : decide (x32_2 < ((rd_L1 l0_1 x25_1).length : Int)) = true := decide_eq_true c24;clear c24;by_cases c25 : (rd (rd_L1 l0_1 x25_1) x32_2) = 1
              ·rw [if_pos c25] at H;have c25b0 : ((rd (rd_L1 l0_1 x25_1) x32_2) == 1) = true := beq_iff_eq.mpr c25;have c25b1 : ((rd (rd_L1 l0_1 x25_1) x32_2) != 1) = false := bne_eq_false_iff_eq.mpr c25;clear c25;by_cases c26 : x32_2 < (x169001_2.length : Int)
               ·rw [if_pos c26] at H;have c26b0 : decide (x32_2 < (x169001_2.length : Int)) = true := decide_eq_true c26;clear c26;by_cases c27 : (rd_L9 x169001_2 x32_2).length < 8796093022208
                ·rw [if_pos c27] at H;have LMc27 := Ai0.mk c27;clear c27;(obtain ⟨y172, hy172⟩ : ∃ y_ : List (S77), y_ = ((rd_L9 x169001_2 x32_2) ++ [(⟨x25_1, (x8_2.length : Int)⟩ : S77)]) := ⟨_, rfl⟩);(replace H : (if x8_2.length < 17592186044416 then (message_build.l1 k2 x25_1 (x8_2 ++ [x32_2]) l0_1 (l0_1.length : Int) x25_1 (rd_L1 l0_1 x25_1) ((rd_L1 l0_1 x25_1).length : Int) (wrap64 (x32_2 + 1)) x169000_1 (x169001_2.set (x32_2 : Int).toNat y172)) else (none)) = some (r1, r2, r3) := by first | (rw [hy172]; with_reducible exact H) | (have H2_ := (Option.bind_some _ _).symm.trans H; rw [hy172]; with_reducible exact H2_) | (have H2_ := (Option.bind_some _ _).symm.trans H; with_reducible exact H2_) | with_reducible exact H | (rw [hy172]; exact H) | exact H);have Ny172 := Ai0.mk hy172;clear hy172;(obtain ⟨y175, hy175⟩ : ∃ y_ : List (List (S77)), y_ = (x169001_2.set (x32_2 : Int).toNat y172) := ⟨_, rfl⟩);(replace H : (if x8_2.length < 17592186044416 then (message_build.l1 k2 x25_1 (x8_2 ++ [x32_2]) l0_1 (l0_1.length : Int) x25_1 (rd_L1 l0_1 x25_1) ((rd_L1 l0_1 x25_1).length : Int) (wrap64 (x32_2 + 1)) x169000_1 y175) else (none)) = some (r1, r2, r3) := by first | (rw [hy175]; with_reducible exact H) | (have H2_ := (Option.bind_some _ _).symm.trans H; rw [hy175]; with_reducible exact H2_) | (have H2_ := (Option.bind_some _ _).symm.trans H; with_reducible exact H2_) | with_reducible exact H | (rw [hy175]; exact H) | exact H);have Ny175 := Ai0.mk hy175;clear hy175;by_cases c29 : x8_2.length < 17592186044416
                 ·rw [if_pos c29] at H;have LMc29 := Ai0.mk c29;clear c29;(obtain ⟨y176, hy176⟩ : ∃ y_ : List Int, y_ = (x8_2 ++ [x32_2]) := ⟨_, rfl⟩);(replace H : (message_build.l1 k2 x25_1 y176 l0_1 (l0_1.length : Int) x25_1 (rd_L1 l0_1 x25_1) ((rd_L1 l0_1 x25_1).length : Int) (wrap64 (x32_2 + 1)) x169000_1 y175) = some (r1, r2, r3) := by first | (rw [hy176]; with_reducible exact H) | (have H2_ := (Option.bind_some _ _).symm.trans H; rw [hy176]; with_reducible exact H2_) | (have H2_ := (Option.bind_some _ _).symm.trans H; with_reducible exact H2_) | with_reducible exact H | (rw [hy176]; exact H) | exact H);have Ny176 := Ai0.mk hy176;clear hy176;have H' := Ai0.mk H;clear H;have p170 : 0 ≤ (x32_2 : Int) := od_;have q170 : x32_2 < ((rd_L1 l0_1 x25_1).length : Int) := od_;obtain ⟨ad170, e170, hx170_0⟩ := Kd.at_int HR169_0.out x32_2 p170 q170;cases e170;replace hx170_0 := (HB.out.cell (World.block_lt_of_cell? w _ hx170_0)).trans hx170_0;replace p170 := eq_true p170;replace q170 := eq_true q170
                  try go_wp2
                  have n0_ := Ai0.mk (Kd.Rd1 HO_8.out);have n1_ := Ai0.mk (Kd.S_drew HO_169000.out);have n2_ := Ai0.mk (Kd.S_drew HO_169001.out);have n3_ := Ai0.mk (kd1 BK158.out);have n4_ := Ai0.mk (kd1 BK168.out);have n5_ := Ai0.mk (bw1 HB.out);clear HO_8;clear HO_169000;clear HO_169001;clear BK158;clear BK168;clear HB;have HO_8 := n0_;have HO_169000 := n1_;have HO_169001 := n2_;have BK158 := n3_;have BK168 := n4_;have HB := n5_;clear n0_ n1_ n2_ n3_ n4_ n5_;obtain ⟨Ao31, co31, eo31⟩ := Kd.S_slice HO_169001.out;(first | subst eo31 | (injection eo31 with f1_ f2_ f3_; have f4_ := f1_.symm; have f5_ := f3_.symm; clear f1_ f2_ f3_; subst f4_; subst f5_));have p171 : 0 ≤ (x32_2 : Int) := od_;have q171 : x32_2 < (x169001_2.length : Int) := od_;obtain ⟨ad171, A171_0, c171_0, e171, hx171_0, hl171_0, hi171_0⟩ := at_L9 (Kd.S_reads' HO_169001.out).2.2 x32_2 p171 q171;cases e171;obtain ⟨ce171, hce171, hMe171, hcc171⟩ := Kd.S_get HO_169001.out [] x32_2 p171 (by first | exact q171 | exact od_ | (have e_ := (Kd.S_reads' HO_169001.out).1; omega));obtain ⟨ve171_0, rfl, ge171_0⟩ := hMe171;have hv171_0 := hcc171 0 _ rfl;rw [Nat.add_zero, show ((Kd.slice 77 k77)).sz = 1 from rfl, Nat.mul_one] at hv171_0;replace hv171_0 := Option.some.inj (hv171_0.symm.trans hx171_0);rw [hv171_0] at ge171_0;have HL171_0 := Ai0.mk (show Kd.R k77 77 _ _ _ _ (rd_L9 x169001_2 x32_2) from ge171_0);clear hv171_0 ge171_0;have HX171_0 := Ai0.mk hx171_0;clear hcc171 hce171;have HR171_0 := Ai0.mk hi171_0;have HC171_0 := Ai0.mk hl171_0;clear hi171_0 hl171_0;replace p171 := eq_true p171;replace q171 := eq_true q171;obtain ⟨Ao32, co32, eo32⟩ := Kd.R_slice HO_8.out;(first | subst eo32 | (injection eo32 with f1_ f2_ f3_; have f4_ := f1_.symm; have f5_ := f3_.symm; clear f1_ f2_ f3_; subst f4_; subst f5_));obtain ⟨go33, co33, eo33, gb33, gl33, cl33, HG33⟩ := Kd.S_form HO_169001.out (by have h_ : (x32_2 : Int) < ((x169001_2.length : Int) : Int) := od_; have h2_ : 0 ≤ (x32_2 : Int) := od_; omega);(first | cases eo33 | (injection eo33 with ea_ en_ ec_; (first | subst ea_ | (injection ea_ with ea_; subst ea_)); subst ec_; clear en_));have GB33 := Ai0.mk gb33;have GG33 := Ai0.mk HG33;clear gb33 gl33 HG33;(first | simp only [add_plain] at hx171_0 | skip);obtain ⟨oki33, ce33, hcl33, hM33, hcc33, _, _, hH33⟩ := Kd.S_elem HO_169001.out [] (x32_2 : Int) od_ (by have h_ : (x32_2 : Int) < ((x169001_2.length : Int) : Int) := od_; first | exact h_ | (have e_ := (Kd.S_reads' HO_169001.out).1; omega) | simpa using h_);obtain ⟨ve33_0, rfl, ge33_0⟩ := hM33;have hv33 := hcc33 0 _ rfl;have hX33 := HX171_0.out;(try simp only [add_plain] at hX33);(try simp only [Nat.add_zero] at hv33);(try rw [show ((Kd.slice 77 k77)).sz = 1 from rfl, Nat.mul_one] at hv33);replace hv33 := Option.some.inj (hv33.symm.trans hX33);subst hv33;clear hX33 hcc33 hcl33;have UU33 := Ai0.mk (show Kd.R k77 77 _ w.heap.size oki33 (.slice A171_0 (rd_L9 x169001_2 x32_2).length c171_0) (rd_L9 x169001_2 x32_2) from ge33_0);have HH33 := Ai0.mk hH33;have HN33 := Ai0.mk (Kd.S_reads' HO_169001.out).1;clear hH33 ge33_0;refine start_ (n := 20) (S := fun w' => w'.cell? ⟨gb168, 0, none⟩ = some (u169000) ∧ w'.cell? ⟨gb168, 1, none⟩ = some (.slice (some ⟨go33, 0, none⟩) x169001_2.length co31) ∧ w'.cell? ⟨go33, (x32_2).toNat, none⟩ = some (.slice A171_0 (rd_L9 x169001_2 x32_2).length c171_0)) (ds := [19]) #[false, false, false, false, false, false, false, false, false, false, false, false, false, false, false, false, false, false, false, false] (by kernel_rfl) rfl rfl ⟨(kc1 BK168.out 0).trans rfl, (kc1 BK168.out 1).trans rfl, hx171_0⟩ (fun hHeld => ?_); refine with_tabW message_build.tab13 message_build.bits13 (fun HT_ HW_ => ?_);(generalize wr.drew = w30 at HO_8 HO_169000 HO_169001 BK158 BK168 HB GG33 HH33 HL171_0 HR171_0 HX171_0 UU33 hx171_0 hHeld ⊢);refine pure_ (i := 0) (N := some 39) (v := ?_) (a' := ?_) #[true, false, false, false, false, false, false, false, false, false, false, false, false, false, false, false, false, false, false, false] rfl rfl (any_of HT_.out (by kernel_rfl)) (fun _ _ _ h => h) (Or.inl ⟨by rfl, ?_⟩) ?_ ?_;rotate_left
                  ·intro w';go_simp
                   with_reducible rfl
                  rotate_left
                  ·simp only [Act.put, l01_, l02_, l03_, i64_w, i32_w]
                   rfl
                  refine pure_ (i := 1) (N := some 40) (v := ?_) (a' := ?_) #[true, true, false, false, false, false, false, false, false, false, false, false, false, false, false, false, false, false, false, false] rfl rfl (any_of HT_.out (by kernel_rfl)) (fun _ _ _ h => h) (Or.inl ⟨by rfl, ?_⟩) ?_ ?_;rotate_left
                  ·intro w';go_simp
                   with_reducible rfl
                  rotate_left
                  ·simp only [Act.put, l01_, l02_, l03_, i64_w, i32_w]
                   rfl
                  refine pure_ (i := 2) (N := some 41) (v := ?_) (a' := ?_) #[true, true, true, false, false, false, false, false, false, false, false, false, false, false, false, false, false, false, false, false] rfl rfl (any_of HT_.out (by kernel_rfl)) (fun _ _ _ h => h) (Or.inl ⟨by rfl, ?_⟩) ?_ ?_;rotate_left
                  ·intro w';go_simp
                   with_reducible rfl
                  rotate_left
                  ·simp only [Act.put, l01_, l02_, l03_, i64_w, i32_w]
                   rfl
                  refine pure_ (i := 4) (N := some 43) (v := ?_) (a' := ?_) #[true, true, true, false, true, false, false, false, false, false, false, false, false, false, false, false, false, false, false, false] rfl rfl (any_of HT_.out (by kernel_rfl)) (fun _ _ _ h => h) (Or.inl ⟨by rfl, ?_⟩) ?_ ?_;rotate_left
                  ·intro w';go_simp
                   with_reducible rfl
                  rotate_left
                  ·simp only [Act.put, l01_, l02_, l03_, i64_w, i32_w]
                   rfl
                  refine pure_ (i := 5) (N := some 44) (v := ?_) (a' := ?_) #[true, true, true, false, true, true, false, false, false, false, false, false, false, false, false, false, false, false, false, false] rfl rfl (any_of HT_.out (by kernel_rfl)) (fun _ _ _ h => h) (Or.inl ⟨by rfl, ?_⟩) ?_ ?_;rotate_left
                  ·intro w';go_simp
                   with_reducible rfl
                  rotate_left
                  ·simp only [Act.put, l01_, l02_, l03_, i64_w, i32_w]
                   rfl
                  refine pure_ (i := 6) (N := some 45) (v := ?_) (a' := ?_) #[true, true, true, false, true, true, true, false, false, false, false, false, false, false, false, false, false, false, false, false] rfl rfl (any_of HT_.out (by kernel_rfl)) (fun _ _ _ h => h) (Or.inl ⟨by rfl, ?_⟩) ?_ ?_;rotate_left
                  ·intro w';go_simp
                   with_reducible rfl
                  rotate_left
                  ·simp only [Act.put, l01_, l02_, l03_, i64_w, i32_w]
                   rfl
                  refine pure_ (i := 7) (N := some 46) (v := ?_) (a' := ?_) #[true, true, true, false, true, true, true, true, false, false, false, false, false, false, false, false, false, false, false, false] rfl rfl (any_of HT_.out (by kernel_rfl)) (fun _ _ _ h => h) (Or.inl ⟨by rfl, ?_⟩) ?_ ?_;rotate_left
                  ·intro w';go_simp
                   with_reducible rfl
                  rotate_left
                  ·simp only [Act.put, l01_, l02_, l03_, i64_w, i32_w]
                   rfl
                  refine pure_ (i := 9) (N := some 48) (v := ?_) (a' := ?_) #[true, true, true, false, true, true, true, true, false, true, false, false, false, false, false, false, false, false, false, false] rfl rfl (any_of HT_.out (by kernel_rfl)) (fun _ _ _ h => h) (Or.inl ⟨by rfl, ?_⟩) ?_ ?_;rotate_left
                  ·intro w';go_simp
                   with_reducible rfl
                  rotate_left
                  ·simp only [Act.put, l01_, l02_, l03_, i64_w, i32_w]
                   rfl
                  refine pure_ (i := 12) (N := some 51) (v := ?_) (a' := ?_) #[true, true, true, false, true, true, true, true, false, true, false, false, true, false, false, false, false, false, false, false] rfl rfl (any_of HT_.out (by kernel_rfl)) (fun _ _ _ h => h) (Or.inl ⟨by rfl, ?_⟩) ?_ ?_;rotate_left
                  ·intro w';go_simp
                   with_reducible rfl
                  rotate_left
                  ·simp only [Act.put, l01_, l02_, l03_, i64_w, i32_w]
                   rfl
                  refine pure_ (i := 13) (N := some 52) (v := ?_) (a' := ?_) #[true, true, true, false, true, true, true, true, false, true, false, false, true, true, false, false, false, false, false, false] rfl rfl (any_of HT_.out (by kernel_rfl)) (fun _ _ _ h => h) (Or.inl ⟨by rfl, ?_⟩) ?_ ?_;rotate_left
                  ·intro w';go_simp
                   with_reducible rfl
                  rotate_left
                  ·simp only [Act.put, l01_, l02_, l03_, i64_w, i32_w]
                   rfl
                  refine pure_ (i := 14) (N := some 53) (v := ?_) (a' := ?_) #[true, true, true, false, true, true, true, true, false, true, false, false, true, true, true, false, false, false, false, false] rfl rfl (any_of HT_.out (by kernel_rfl)) (fun _ _ _ h => h) (Or.inl ⟨by rfl, ?_⟩) ?_ ?_;rotate_left
                  ·intro w';go_simp
                   with_reducible rfl
                  rotate_left
                  ·simp only [Act.put, l01_, l02_, l03_, i64_w, i32_w]
                   rfl
                  refine pure_ (i := 15) (N := some 54) (v := ?_) (a' := ?_) #[true, true, true, false, true, true, true, true, false, true, false, false, true, true, true, true, false, false, false, false] rfl rfl (any_of HT_.out (by kernel_rfl)) (fun _ _ _ h => h) (Or.inl ⟨by rfl, ?_⟩) ?_ ?_;rotate_left
                  ·intro w';go_simp
                   with_reducible rfl
                  rotate_left
                  ·simp only [Act.put, l01_, l02_, l03_, i64_w, i32_w]
                   rfl
                  refine take_ (i := 3) (N := some 42) (v := ?_) (a' := ?_) #[true, true, true, true, true, true, true, true, false, true, false, false, true, true, true, true, false, false, false, false] rfl rfl (take_ofW HT_.out HW_.out (by kernel_rfl)) (fun _ _ _ h => h) (Or.inl ⟨by rfl, ?_⟩) hHeld ?_ ?_;rotate_left
                  ·rintro w' ⟨s0, s1, s2⟩
                   go_simp
                   with_reducible rfl
                  rotate_left
                  ·simp only [Act.put, l01_, l02_, l03_, i64_w, i32_w]
                   rfl
                  refine take_ (i := 8) (N := some 47) (v := ?_) (a' := ?_) #[true, true, true, true, true, true, true, true, true, true, false, false, true, true, true, true, false, false, false, false] rfl rfl (take_ofW HT_.out HW_.out (by kernel_rfl)) (fun _ _ _ h => h) (Or.inl ⟨by rfl, ?_⟩) hHeld ?_ ?_;rotate_left
                  ·rintro w' ⟨s0, s1, s2⟩
                   go_simp
                   with_reducible rfl
                  rotate_left
                  ·simp only [Act.put, l01_, l02_, l03_, i64_w, i32_w]
                   rfl
                  refine pure_ (i := 10) (N := some 49) (v := ?_) (a' := ?_) #[true, true, true, true, true, true, true, true, true, true, true, false, true, true, true, true, false, false, false, false] rfl rfl (any_of HT_.out (by kernel_rfl)) (fun _ _ _ h => h) (Or.inl ⟨by rfl, ?_⟩) ?_ ?_;rotate_left
                  ·intro w';go_simp
                   with_reducible rfl
                  rotate_left
                  ·simp only [Act.put, l01_, l02_, l03_, i64_w, i32_w]
                   rfl
                  refine take_ (i := 11) (N := some 50) (v := ?_) (a' := ?_) #[true, true, true, true, true, true, true, true, true, true, true, true, true, true, true, true, false, false, false, false] rfl rfl (take_ofW HT_.out HW_.out (by kernel_rfl)) (fun _ _ _ h => h) (Or.inl ⟨by rfl, ?_⟩) hHeld ?_ ?_;rotate_left
                  ·rintro w' ⟨s0, s1, s2⟩
                   go_simp
                   with_reducible rfl
                  rotate_left
                  ·simp only [Act.put, l01_, l02_, l03_, i64_w, i32_w]
                   rfl
                  refine one_ (i := 16) (N := some 55) #[true, true, true, true, true, true, true, true, true, true, true, true, true, true, true, true, true, false, false, false] rfl rfl (one_of HT_.out (by kernel_rfl)) (by decide) (fun K hK => ?_);refine value_ (w1 := ?_) (v := ?_) (by rfl) rfl ?_ ?_;rotate_left 2
                  ·go_simp
                   constructor
                   ·rfl
                   ·rfl
                  refine hK.out _ _ ⟨(kc1 (ka1 BK168.out _) 0).trans rfl, (kc1 (ka1 BK168.out _) 1).trans rfl, (World.cell?_alloc_lt _ _ _ (World.block_lt_of_cell? _ _ (hHeld.2.2))).trans (hHeld.2.2)⟩ (fun hHeld => ?_);clear hK K;refine norm_ (a' := ?_) ?_ ?_;rotate_left
                  ·show Act.put _ (some 55) _ = _;simp only [Act.put, l01_, l02_, l03_, i64_w, i32_w]
                   rfl
                  refine one_ (i := 17) (N := some 56) #[true, true, true, true, true, true, true, true, true, true, true, true, true, true, true, true, true, true, false, false] rfl rfl (one_of HT_.out (by kernel_rfl)) (by decide) (fun K hK => ?_);refine Kd.R_append_step k77 (w0 := w) w.heap.size (by rfl) (.tmp 50) (.tmp 55) 75 77 (.agg #[(.int .i64 0), (.int .i64 0)]) 16 rfl Try.underlying75 info77 rfl (by decide) (by omega) (.slice A171_0 (rd_L9 x169001_2 x32_2).length c171_0) (rd_L9 x169001_2 x32_2) (⟨x25_1, (x8_2.length : Int)⟩ : S77) [.int .i64 x25_1, .int .i64 (x8_2.length : Int)] (fun k_ => oki33 k_ ∨ ((fun _ => True)) k_ ∧ w30.heap.size ≤ k_) (fun _ => False) rfl rfl ?aP (fun _ hk => hk.elim) ?aF ?aO ?aB ?aS ?aL ?_;(case aP => exact k77_mkM _ _ _ (⟨x25_1, (x8_2.length : Int)⟩ : S77));(case aB => exact bl_);(case aF => exact (fun k_ hk => .inr ⟨trivial, hk⟩));(case aO => exact (by (with_reducible repeat (first | apply Kd.Ra1 | apply Kd.Rn1 | apply Kd.Rd1)); exact Kd.R_mono UU33.out (fun _ hk => .inl hk)));(case aS => exact (bz1 bl_));(case aL => have := LMc27.out; omega);intro v173 w34 ho hb hg hat;(first | have HS2_ := cell_grown hg (hHeld.2.2) (by first | (rw [add_block]; exact (fun e_ => ((HL171_0.out.1 _ e_.symm).2) rfl)) | (show some (Addr.add _ _).block ≠ _; rw [add_block]; exact (fun e_ => ((HL171_0.out.1 _ e_.symm).2) rfl)) | exact (fun e_ => ((HL171_0.out.1 _ e_.symm).2) rfl)) | have HS2_ := cell_grown hg (cell_unalloc (hHeld.2.2) (by first | (rw [add_block]; exact Kd.S_lt HO_169001.out _ rfl) | (show (Addr.add _ _).block < _; rw [add_block]; exact Kd.S_lt HO_169001.out _ rfl) | exact Kd.S_lt HO_169001.out _ rfl)) (by first | (rw [add_block]; exact (fun e_ => ((HL171_0.out.1 _ e_.symm).2) rfl)) | (show some (Addr.add _ _).block ≠ _; rw [add_block]; exact (fun e_ => ((HL171_0.out.1 _ e_.symm).2) rfl)) | exact (fun e_ => ((HL171_0.out.1 _ e_.symm).2) rfl)));rw [← Ny172.out] at ho;have n0_ := Ai0.mk (Kd.R_over' (v := (.slice A171_0 (rd_L9 x169001_2 x32_2).length c171_0)) (kr_ HO_8.out) (Kd.R_typed HL171_0.out) (by decide) hg);have n1_ := Ai0.mk (Kd.S_over' (v := (.slice A171_0 (rd_L9 x169001_2 x32_2).length c171_0)) (ks_ HO_169000.out) (Kd.R_typed HL171_0.out) (by decide) hg);have n2_ := Ai0.mk (blk_grown (g := gb158) (o := .cells #[.int .i64 a0_0, .slice (some ad169) l0_1.length c0_1] 24 (0, 0)) (kk_ BK158.out) hg (Kd.R_ne HL171_0.out BK158.out (by decide)));have n3_ := Ai0.mk (blk_grown (g := gb168) (o := .cells #[u169000, .slice (some ⟨go33, 0, none⟩) x169001_2.length co31] 73 (0, 0)) (kk_ BK168.out) hg (Kd.R_ne HL171_0.out BK168.out (by decide)));have n4_ := Ai0.mk (hb);have n5_ := Ai0.mk (Kd.H_grown (Kd.H_widen (by repeat (first | exact HH33.out | refine Kd.H_alloc ?_ _ | refine Kd.H_drewN ?_ _ | refine Kd.H_drew ?_))) hg (fun k_ e_ => .inl (UU33.out.1 k_ e_)));have n6_ := Ai0.mk (ho);clear HO_8;clear HO_169000;clear BK158;clear BK168;clear HB;clear HH33;clear HO_169001;clear UU33;clear HL171_0;have HO_8 := n0_;have HO_169000 := n1_;have BK158 := n2_;have BK168 := n3_;have HB := n4_;have HH33 := n5_;have HO174 := n6_;clear n0_ n1_ n2_ n3_ n4_ n5_ n6_;clear ho hb hg hat;have p28 : 0 ≤ (x32_2 : Int) := od_;have q28 : (x32_2 : Int) < ((x169001_2.length : Int) : Int) := od_;replace p28 := eq_true p28;replace q28 := eq_true q28;obtain ⟨Ao37, co37, eo37⟩ := Kd.R_slice HO174.out;(first | subst eo37 | (injection eo37 with f1_ f2_ f3_; have f4_ := f1_.symm; have f5_ := f3_.symm; clear f1_ f2_ f3_; subst f4_; subst f5_));obtain ⟨_, _, hraw35, _, _, hcc35, _⟩ := Kd.H_raw HH33.out od_ (by have h_ : (x32_2 : Int) < ((x169001_2.length : Int) : Int) := od_; first | exact h_ | (have e_ := (HN33.out); omega) | simpa using h_);obtain ⟨_, hfr35⟩ := Kd.H_at HH33.out od_ (by have h_ : (x32_2 : Int) < ((x169001_2.length : Int) : Int) := od_; first | exact h_ | (have e_ := (HN33.out); omega) | simpa using h_);have hx35_0 := hcc35 0 _ rfl;have hf35_0 := hfr35 0;(try simp only [Nat.add_zero] at hx35_0 hf35_0);(try rw [show ((Kd.slice 77 k77)).sz = 1 from rfl, Nat.mul_one] at hx35_0);(try rw [show ((Kd.slice 77 k77)).sz = 1 from rfl, Nat.mul_one] at hf35_0);have HP35 := Kd.S_seg0 HH33.out od_ (by have h_ : (x32_2 : Int) < ((x169001_2.length : Int) : Int) := od_; first | exact h_ | (have e_ := (HN33.out); omega) | simpa using h_) (seg := [.slice Ao37 y172.length co37]) (j := 0) (show 1 ≤ 1 from by decide) (x' := y172) (Kd.M_row HO174.out) (fun _ hk => hk);(try simp only [show ((Kd.slice 77 k77)).sz = 1 from rfl, Nat.mul_one, Nat.add_zero] at HP35);clear hcc35 hfr35;have HNB158_go33 := Ai0.mk (show gb158 ≠ go33 from by have h_ := Kd.R_ne hraw35 BK158.out (by decide); intro e_; exact h_ (by rw [e_]; rfl));have HNB168_go33 := Ai0.mk (show gb168 ≠ go33 from by have h_ := Kd.R_ne hraw35 BK168.out (by decide); intro e_; exact h_ (by rw [e_]; rfl));have HS35 := HP35.1;rw [← Ny175.out] at HS35;have HQ35 := Ai0.mk HS35;obtain ⟨_, hgg35⟩ := Kd.R_typed hraw35 go33 rfl;have GG35_ := Ai0.mk hgg35;clear HP35 HS35 hgg35;refine hK.out _ _ ⟨(kc1 BK168.out 0).trans rfl, (kc1 BK168.out 1).trans rfl, HS2_⟩ (fun hHeld => ?_);clear hK K;refine norm_ (a' := ?_) ?_ ?_;rotate_left
                  ·show Act.put _ (some 56) _ = _;simp only [Act.put, l01_, l02_, l03_, i64_w, i32_w]
                   rfl
                  refine pure_ (i := 18) (N := some 57) (v := ?_) (a' := ?_) #[true, true, true, true, true, true, true, true, true, true, true, true, true, true, true, true, true, true, true, false] rfl rfl (any_of HT_.out (by kernel_rfl)) (fun _ _ _ h => h) (Or.inl ⟨by rfl, ?_⟩) ?_ ?_;rotate_left
                  ·intro w';go_simp
                   with_reducible rfl
                  rotate_left
                  ·simp only [Act.put, l01_, l02_, l03_, i64_w, i32_w]
                   rfl
                  refine last_ (i := 19) (N := none) #[true, true, true, true, true, true, true, true, true, true, true, true, true, true, true, true, true, true, true, true] rfl rfl (one_of HT_.out (by kernel_rfl)) (by decide) (fun K hK => ?_);refine skip_ (w1 := ?_) (by rfl) rfl ?_ ?_;rotate_left
                  ·go_simp
                   rfl
                  refine hK.out _ _ ?_;clear hK K;refine done_ (done_of HT_.out (by kernel_rfl)) ?_
                  try go_wp2_with (first | ((with_reducible refine gate_builtin (b := .append) (xs := #[.tmp 58, .tmp 60]) rfl ?_); at_builtin; refine Kd.R_append (Kd.int .i64) (w0 := w) w.heap.size rfl (.tmp 58) (.tmp 60) 25 3 (.int .i64 0) 8 rfl Try.underlying25 info3 rfl (by decide) (by omega) (.slice Ao32 x8_2.length co32) x8_2 x32_2 [.int .i64 x32_2] (fun _ => True) (fun _ => False) rfl (by first | (go_simp; done) | (go_simp; rfl)) ?aP (fun _ hk => hk.elim) ?aF ?aO ?aB ?aS ?aL ?_; (case aP => exact rfl); (case aB => exact bl_); (case aF => exact (fun _ _ => trivial)); (case aO => exact (by (with_reducible repeat (first | apply Kd.Ra1 | apply Kd.Rn1 | apply Kd.Rd1)); exact Kd.R_mono (Kd.R_far (p := ⟨go33, (x32_2 : Int).toNat, none⟩) (Kd.R_types HO_8.out GG35_.out (by decide)) (fun _ hk => hk.2) (.slice Ao37 y172.length co37)) (fun _ hk => trivial))); (case aS => exact (bz1 bl_)); (case aL => have := LMc29.out; omega); intro v177 w38 ho hb hg hat; rw [← Ny176.out] at ho; have n0_ := Ai0.mk (Kd.S_after (ok := (fun _ => True)) (by (with_reducible repeat (first | apply Kd.S_alloc | apply Kd.S_drewN | apply Kd.S_drew)); exact Kd.S_mono (Kd.S_far (p := ⟨go33, (x32_2 : Int).toNat, none⟩) (Kd.S_types HO_169000.out GG35_.out (by decide)) (fun _ hk => hk.2) (.slice Ao37 y172.length co37)) (fun _ hk => ⟨trivial, hk.1⟩)) hg hat); have n1_ := Ai0.mk (blk_grown (g := gb158) (o := .cells #[.int .i64 a0_0, .slice (some ad169) l0_1.length c0_1] 24 (0, 0)) (by (with_reducible repeat (first | refine kn1 ?_ _ | refine kd1 ?_ | refine ka1 ?_ _)); refine blk_far ?_ HNB158_go33.out _; (with_reducible repeat (first | refine kn1 ?_ _ | refine kd1 ?_ | refine ka1 ?_ _)); exact BK158.out) hg (Kd.R_ne HO_8.out BK158.out (by decide))); have n2_ := Ai0.mk (blk_grown (g := gb168) (o := .cells #[u169000, .slice (some ⟨go33, 0, none⟩) x169001_2.length co31] 73 (0, 0)) (by (with_reducible repeat (first | refine kn1 ?_ _ | refine kd1 ?_ | refine ka1 ?_ _)); refine blk_far ?_ HNB168_go33.out _; (with_reducible repeat (first | refine kn1 ?_ _ | refine kd1 ?_ | refine ka1 ?_ _)); exact BK168.out) hg (Kd.R_ne HO_8.out BK168.out (by decide))); have n3_ := Ai0.mk (Kd.S_over' (ks_ HQ35.out) (Kd.R_typed (by (with_reducible repeat (first | apply Kd.Ra1 | apply Kd.Rn1 | apply Kd.Rd1)); exact (Kd.R_mono (Kd.R_far (p := ⟨go33, (x32_2 : Int).toNat, none⟩) (Kd.R_types HO_8.out GG35_.out (by decide)) (fun _ hk => hk.2) (.slice Ao37 y172.length co37)) (fun _ h_ => h_.1)))) (by decide) hg); have n4_ := Ai0.mk (hb); have n5_ := Ai0.mk (ho); clear HO_169000; clear BK158; clear BK168; clear HO_169001; clear HB; clear HO_8; have HO_169000 := n0_; have BK158 := n1_; have BK168 := n2_; have HO_169001 := n3_; have HB := n4_; have HO178 := n5_; clear n0_ n1_ n2_ n3_ n4_ n5_; clear ho hb hg hat))
                  go_roundg k2
                  case measure => have := HK1.out; have := HK2.out; omega
                  case rel => exact ⟨(y176), (wrap64 (x32_2 + 1)), (y175), (.slice (some ⟨go33, 0, none⟩) x169001_2.length co31), rf_, H', ⟨by have := HK1.out; have := HK2.out; omega⟩, ⟨kr_ HO178.out⟩, ⟨by (with_reducible repeat (first | apply Kd.S_alloc | apply Kd.S_drewN | apply Kd.S_drew)); exact Kd.S_mono HO_169000.out (fun _ hk => hk.2)⟩, ⟨ks_ HO_169001.out⟩, ⟨kk_ BK158.out⟩, ⟨kk_ BK168.out⟩, ⟨bl_⟩⟩
                 ·rw [if_neg c29] at H;exact absurd H (by simp)
                ·rw [if_neg c27] at H;exact absurd H (by simp)
               ·rw [if_neg c26] at H;exact absurd H (by simp)
              ·rw [if_neg c25] at H;have c25b0 : ((rd (rd_L1 l0_1 x25_1) x32_2) == 1) = false := beq_eq_false_iff_ne.mpr c25;have c25b1 : ((rd (rd_L1 l0_1 x25_1) x32_2) != 1) = true := bne_iff_ne.mpr c25;have H' := Ai0.mk H;clear H;have p170 : 0 ≤ (x32_2 : Int) := od_;have q170 : x32_2 < ((rd_L1 l0_1 x25_1).length : Int) := od_;obtain ⟨ad170, e170, hx170_0⟩ := Kd.at_int HR169_0.out x32_2 p170 q170;cases e170;replace hx170_0 := (HB.out.cell (World.block_lt_of_cell? w _ hx170_0)).trans hx170_0;replace p170 := eq_true p170;replace q170 := eq_true q170
               go_wp2
               go_roundg k2
               case measure => have := HK1.out; have := HK2.out; omega
               case rel => exact ⟨(x8_2), (wrap64 (x32_2 + 1)), (x169001_2), (u169001), rf_, H', ⟨by have := HK1.out; have := HK2.out; omega⟩, ⟨kr_ HO_8.out⟩, ⟨ks_ HO_169000.out⟩, ⟨ks_ HO_169001.out⟩, ⟨kk_ BK158.out⟩, ⟨kk_ BK168.out⟩, ⟨bl_⟩⟩
             ·rw [if_neg c24] at H;exact absurd H (by simp)
            ·rw [if_neg c23] at H;exact absurd H (by simp)
           ·rw [if_neg c22] at H;have c22b0 : decide (x32_2 < ((rd_L1 l0_1 x25_1).length : Int)) = false := decide_eq_false c22;clear c22;by_cases c39 : x169000_1.length < 5864062014805
            ·rw [if_pos c39] at H;have LMc39 := Ai0.mk c39;clear c39;(obtain ⟨y179, hy179⟩ : ∃ y_ : List (List Int), y_ = (x169000_1 ++ [x8_2]) := ⟨_, rfl⟩);(replace H : (message_build.l0 k2 l0_1 (l0_1.length : Int) (wrap64 (x25_1 + 1)) y179 x169001_2) = some (r1, r2, r3) := by first | (rw [hy179]; with_reducible exact H) | (have H2_ := (Option.bind_some _ _).symm.trans H; rw [hy179]; with_reducible exact H2_) | (have H2_ := (Option.bind_some _ _).symm.trans H; with_reducible exact H2_) | with_reducible exact H | (rw [hy179]; exact H) | exact H);have Ny179 := Ai0.mk hy179;clear hy179;have H' := Ai0.mk H;clear H;have hnb40 := NB168_158.out;have hnc40 := NB158_168.out;have hcz41_0 : wr.cell? ⟨gb168, 0, none⟩ = some (u169000) := (kc1 BK168.out 0).trans rfl;have hcz41_1 : wr.cell? ⟨gb168, 1, none⟩ = some (u169001) := (kc1 BK168.out 1).trans rfl;have hfz41_0 := kf1 BK168.out 0;have hfz41_1 := kf1 BK168.out 1;obtain ⟨Ao43, co43, eo43⟩ := Kd.R_slice HO_8.out;subst eo43
             go_wp2_with (first | ((with_reducible refine gate_builtin (b := .append) (xs := #[.tmp 67, .tmp 69]) rfl ?_); at_builtin; refine Kd.S_append (Kd.slice 3 (Kd.int .i64)) (w0 := w) w.heap.size rfl (.tmp 67) (.tmp 69) 22 25 (.slice none 0 0) 24 rfl Try.underlying22 info25 rfl (by decide) (by omega) u169000 x169000_1 x8_2 [.slice Ao43 x8_2.length co43] (fun _ => True) (fun k_ => some k_ = (.slice Ao43 x8_2.length co43 : Value).ownBlock) rfl rfl ?aP (fun k_ hk_ => ((Kd.R_mono (ok' := fun k_ => ((fun _ => True)) k_ ∧ some k_ ≠ (u169000 : Value).ownBlock) (Kd.R_apart' (HO_8.out) (Kd.S_typed HO_169000.out) (by decide)) (fun k_ hk => ⟨trivial, hk.2⟩))).1 k_ hk_.symm) ?aF ?aO ?aB ?aS ?aL ?_; (case aP => exact Kd.M_row (Kd.R_mono (Kd.R_tight rfl (Kd.R_mono (ok' := fun k_ => ((fun _ => True)) k_ ∧ some k_ ≠ (u169000 : Value).ownBlock) (Kd.R_apart' (HO_8.out) (Kd.S_typed HO_169000.out) (by decide)) (fun k_ hk => ⟨trivial, hk.2⟩))) (fun _ h_ => h_))); (case aB => exact bl_); (case aF => exact (fun _ _ => trivial)); (case aO => exact (by (with_reducible repeat (first | apply Kd.S_alloc | apply Kd.S_drewN | apply Kd.S_drew)); exact Kd.S_mono HO_169000.out (fun k_ hk => ⟨trivial, fun e_ => hk e_⟩))); (case aS => exact (bz1 bl_)); (case aL => have := LMc39.out; omega); intro v180 w42 ho hb hg hat; rw [← Ny179.out] at ho; have n0_ := Ai0.mk (Kd.S_over' (ks_ HO_169001.out) (Kd.S_typed (ks_ HO_169000.out)) (by decide) hg); have n1_ := Ai0.mk (blk_grown (g := gb158) (o := .cells #[.int .i64 a0_0, .slice (some ad169) l0_1.length c0_1] 24 (0, 0)) (kk_ BK158.out) hg (Kd.S_ne HO_169000.out BK158.out (by decide))); have n2_ := Ai0.mk (blk_grown (g := gb168) (o := .cells #[u169000, u169001] 73 (0, 0)) (kk_ BK168.out) hg (Kd.S_ne HO_169000.out BK168.out (by decide))); have n3_ := Ai0.mk (hb); have n4_ := Ai0.mk (ho); clear HO_169001; clear BK158; clear BK168; clear HB; clear HO_169000; clear HO_8; have HO_169001 := n0_; have BK158 := n1_; have BK168 := n2_; have HB := n3_; have HO181 := n4_; clear n0_ n1_ n2_ n3_ n4_; clear ho hb hg hat; obtain ⟨Ao44, co44, eo44⟩ := Kd.S_slice HO181.out; subst eo44; have hcz45_0 : w42.cell? ⟨gb168, 0, none⟩ = some (u169000) := (kc1 BK168.out 0).trans rfl; have hcz45_1 : w42.cell? ⟨gb168, 1, none⟩ = some (u169001) := (kc1 BK168.out 1).trans rfl; have hfz45_0 := kf1 BK168.out 0; have hfz45_1 := kf1 BK168.out 1))
             go_roundg k2
             case measure => have := HK1.out; have := HK2.out; omega
             case rel => exact ⟨(wrap64 (x25_1 + 1)), (y179), (x169001_2), (.slice Ao44 y179.length co44), (u169001), rf_, H', ⟨by have := HK1.out; have := HK2.out; omega⟩, ⟨by (with_reducible repeat (first | apply Kd.S_alloc | apply Kd.S_drewN | apply Kd.S_drew)); exact Kd.S_mono (Kd.S_far (p := ⟨gb168, 0, none⟩) (Kd.S_types HO181.out BK168.out (by decide)) (fun _ hk => hk.2) (.slice Ao44 y179.length co44)) (fun _ hk => trivial)⟩, ⟨by (with_reducible repeat (first | apply Kd.S_alloc | apply Kd.S_drewN | apply Kd.S_drew)); exact Kd.S_mono (Kd.S_far (p := ⟨gb168, 0, none⟩) (Kd.S_types HO_169001.out BK168.out (by decide)) (fun _ hk => hk.2) (.slice Ao44 y179.length co44)) (fun _ hk => trivial)⟩, ⟨by (with_reducible repeat (first | refine kn1 ?_ _ | refine kd1 ?_ | refine ka1 ?_ _)); refine blk_far ?_ NB158_168.out _; (with_reducible repeat (first | refine kn1 ?_ _ | refine kd1 ?_ | refine ka1 ?_ _)); exact BK158.out⟩, ⟨by (with_reducible repeat (first | refine kn1 ?_ _ | refine kd1 ?_ | refine ka1 ?_ _)); refine blk_put (cs := #[u169000, u169001]) ?_ 0 _ rfl; (with_reducible repeat (first | refine kn1 ?_ _ | refine kd1 ?_ | refine ka1 ?_ _)); exact BK168.out⟩, ⟨bl_⟩⟩
            ·rw [if_neg c39] at H;exact absurd H (by simp)
        ·rw [if_neg c21] at H;exact absurd H (by simp)
       ·rw [if_neg c20] at H;exact absurd H (by simp)
      ·rw [if_neg c19] at H;have c19b0 : decide (x25_1 < (l0_1.length : Int)) = false := decide_eq_false c19;clear c19;simp only [Option.some.injEq, Prod.mk.injEq] at H;obtain ⟨rfl, rfl, rfl⟩ := H;have hnb46 := NB168_158.out;have hnc46 := NB158_168.out;have hcz47_0 : wr.cell? ⟨gb168, 0, none⟩ = some (u169000) := (kc1 BK168.out 0).trans rfl;have hcz47_1 : wr.cell? ⟨gb168, 1, none⟩ = some (u169001) := (kc1 BK168.out 1).trans rfl;have hfz47_0 := kf1 BK168.out 0;have hfz47_1 := kf1 BK168.out 1
       go_wp2
       go_ret2
       exact ⟨some ⟨gb168, 0, none⟩, by first | rfl | (simp [eW0, eW1] <;> rfl) | (simp [*, eW0, eW1] <;> rfl), bl_, .inr ⟨rfl, gb168, _, _, rfl, GE168.out, by (with_reducible repeat (first | refine kn1 ?_ _ | refine kd1 ?_ | refine ka1 ?_ _)); exact BK168.out, by (with_reducible repeat (first | apply Kd.S_alloc | apply Kd.S_drewN | apply Kd.S_drew)); exact HO_169000.out, ks_ HO_169001.out⟩⟩
   ·rw [if_neg c6] at H;exact absurd H (by simp)
  ·rw [if_neg c5] at H;exact absurd H (by simp)
 ·rw [if_neg c4] at H;have c4b0 : (t164 == 0) = false := beq_eq_false_iff_ne.mpr c4;have c4b1 : (t164 != 0) = true := bne_iff_ne.mpr c4;simp only [Option.some.injEq, Prod.mk.injEq] at H;obtain ⟨rfl, rfl, rfl⟩ := H;go_enter Try.func44, Try.ntmps44
  try go_wp2_with (first | ((with_reducible refine gate_dst (N := 1) rfl ?_); refine box_event ?hg (N := 1) ?hd (cs := #[.int .i64 a0_0, .slice A0_1 l0_1.length c0_1]) (t := 24) ?hr ?_; (case hd => rfl); (case hg => rfl); (case hr => first | (go_simp; done) | (go_simp; rfl)); intro gb158 hg w48 hbox hb; have n0_ := Ai0.mk (bt1 bl_ hb); have n1_ := Ai0.mk (hbox); have n2_ := Ai0.mk ((by rw [hg]; exact (bz1 bl_) : w.heap.size ≤ gb158)); have n3_ := Ai0.mk ((by rw [hg]; exact (bz1 bl_) : w.heap.size ≤ gb158)); clear HB; have HB := n0_; have BK158 := n1_; have GW158 := n2_; have GE158 := n3_; clear n0_ n1_ n2_ n3_; clear hb hbox hg))
  have n0_ := Ai0.mk (kd1 BK158.out);have n1_ := Ai0.mk (bw1 HB.out);clear BK158;clear HB;have BK158 := n0_;have HB := n1_;clear n0_ n1_;refine start_ (n := 4) (S := fun w' => w'.cell? ⟨gb158, 0, none⟩ = some (.int .i64 a0_0) ∧ w'.cell? ⟨gb158, 1, none⟩ = some (.slice A0_1 l0_1.length c0_1)) (ds := []) #[false, false, false, false] (by kernel_rfl) rfl rfl ⟨(kc1 BK158.out 0).trans rfl, (kc1 BK158.out 1).trans rfl⟩ (fun hHeld => ?_);generalize w48.drew = w49 at BK158 HB hHeld ⊢
  refine take_ (i := 1) (N := some 12) (v := ?_) (a' := ?_) #[false, true, false, false] rfl rfl (by kernel_rfl) (fun _ _ _ h => h) (Or.inl ⟨by rfl, ?_⟩) hHeld ?_ ?_;rotate_left
  ·rintro w' ⟨s0, s1⟩
   go_simp
   with_reducible rfl
  rotate_left
  ·simp only [Act.put, l01_, l02_, l03_, i64_w, i32_w]
   rfl
  refine one_ (i := 0) (N := some 11) #[true, true, false, false] rfl rfl (by kernel_rfl) (by decide) (fun K hK => ?_);refine goes_ Try.func68 (by kernel_rfl) rfl #[] (by rfl) rfl rfl (by (try simp only [List.map_toArray, List.map_cons, List.map_nil]); first | done | rfl | (simp only [List.length_drop, List.length_take]; rfl)) ?_
  with_reducible refine (message_binary.calls  t159 t160 t161 _ A2.out).mono ?_
  rintro e w50 ⟨v162, rfl, ho0, hb⟩
  refine ⟨_, rfl, ?_⟩;have n0_ := Ai0.mk (Kd.R_lower ho0 (bz1 bl_));have n1_ := Ai0.mk (kb1 (g := gb158) (o := .cells #[.int .i64 a0_0, .slice A0_1 l0_1.length c0_1] 24 (0, 0)) (kk_ BK158.out) hb);have n2_ := Ai0.mk (bt1 bl_ hb);clear BK158;clear HB;have HO163 := n0_;have BK158 := n1_;have HB := n2_;clear n0_ n1_ n2_;(try clear hb);(try clear hb2);(try clear hk);(try clear hi);(try clear ho0);obtain ⟨Ao51, co51, eo51⟩ := Kd.R_slice HO163.out;(first | subst eo51 | (injection eo51 with f1_ f2_ f3_; have f4_ := f1_.symm; have f5_ := f3_.symm; clear f1_ f2_ f3_; subst f4_; subst f5_));refine hK.out _ _ ⟨(kc1 BK158.out 0).trans rfl, (kc1 BK158.out 1).trans rfl⟩ (fun hHeld => ?_);clear hK K;refine norm_ (a' := ?_) ?_ ?_;rotate_left
  ·show Act.put _ (some 11) _ = _;simp only [Act.put, l01_, l02_, l03_, i64_w, i32_w]
   rfl
  refine one_ (i := 2) (N := some 13) #[true, true, true, false] rfl rfl (by kernel_rfl) (by decide) (fun K hK => ?_);refine goes_ Try.func67 (by kernel_rfl) rfl #[.agg #[.int .i64 t159, .int .i64 t160, .slice Ao51 t161.length co51], .agg #[.int .i64 a0_0, .slice A0_1 l0_1.length c0_1]] (by rfl) rfl rfl (by (try simp only [List.map_toArray, List.map_cons, List.map_nil]); first | done | rfl | (simp only [List.length_drop, List.length_take]; rfl)) ?_
  with_reducible refine (matrix_Check.calls k t159 t160 _ _ t161 a0_0 _ _ l0_1 t164 _ ?side1 ?side2 ?side3 ?side4 A3.out).mono ?_
  (case side1 => repeat (first | exact (Kd.R_reads' HO163.out).2.2 | (with_reducible refine Kd.C_alloc ?_ _) | (with_reducible refine Kd.C_drewN ?_ _) | (with_reducible refine Kd.C_drew ?_)));(case side2 => exact (Kd.R_reads' HO163.out).2.1);(case side3 => exact kc_ HR0_1.out);(case side4 => exact HC0_1.out)
  rintro e w52 ⟨rfl, hb⟩
  refine ⟨_, rfl, ?_⟩;have n0_ := Ai0.mk (Kd.R_below (kr_ HO163.out) hb);have n1_ := Ai0.mk (kb1 (g := gb158) (o := .cells #[.int .i64 a0_0, .slice A0_1 l0_1.length c0_1] 24 (0, 0)) (kk_ BK158.out) hb);have n2_ := Ai0.mk (bt1 bl_ hb);clear HO163;clear BK158;clear HB;have HO163 := n0_;have BK158 := n1_;have HB := n2_;clear n0_ n1_ n2_;(try clear hb);(try clear hb2);(try clear hk);(try clear hi);refine hK.out _ _ ⟨(kc1 BK158.out 0).trans rfl, (kc1 BK158.out 1).trans rfl⟩ (fun hHeld => ?_);clear hK K;refine norm_ (a' := ?_) ?_ ?_;rotate_left
  ·show Act.put _ (some 13) _ = _;simp only [Act.put, l01_, l02_, l03_, i64_w, i32_w]
   rfl
  refine pure_ (i := 3) (N := some 4) (v := ?_) (a' := ?_) #[true, true, true, true] rfl rfl (by kernel_rfl) (fun _ _ _ h => h) (Or.inl ⟨by rfl, ?_⟩) ?_ ?_;rotate_left
  ·intro w';go_simp
   with_reducible rfl
  rotate_left
  ·simp only [Act.put, l01_, l02_, l03_, i64_w, i32_w]
   rfl
  refine done_ (by kernel_rfl) ?_
  try go_wp2
  go_ret2
  exact ⟨none, by first | rfl | (simp [eW0, eW1] <;> rfl) | (simp [*, eW0, eW1] <;> rfl), bl_, .inl ⟨by intro h_; simp [h_] at *, rfl⟩⟩
end Go.Proofs.Ytmclalniilkjiaa.Q
/- What the printed build computes: the checks' positions and the positions' edges. Condition: Check finds no fault. -/
namespace Go.Proofs.Ytmclalniilkjiaa.Gr
open Go.RowKit Go.Proofs.Ytmclalniilkjiaa.Q Go.Proofs.YtmclalniilkjiaaW.PrintWords Go.Proofs.YtmclalniilkjiaaW.PrintLast Go.Proofs.Ytmclalniilkjiaa.Ba Go.Proofs.Ytmclalniilkjiaa.Ck

/-- Row j has 1 at position i. -/
def bit (rows : List (List Int)) (j i : Nat) : Bool := decide (rd (rows.getD j []) (i : Int) = 1)
/-- The positions below n at which row j has 1. -/
def one (rows : List (List Int)) (j n : Nat) : List Int := PG (fun i => (i : Int)) (bit rows j) n
/-- The edges of position p in the rows below n. -/
def edg (rows : List (List Int)) (p n : Nat) : List S77 := PG (fun j => (⟨(j : Int), ((one rows j p).length : Int)⟩ : S77)) (fun j => bit rows j p) n
def checks (rows : List (List Int)) (C n : Nat) : List (List Int) := LL n (fun j => one rows j C)
def at_ (rows : List (List Int)) (C n : Nat) : List (List S77) := LL C (fun p => edg rows p n)
theorem one_le (rows : List (List Int)) (j n : Nat) : (one rows j n).length ≤ n := PG_le _ _ n
theorem edg_le (rows : List (List Int)) (p n : Nat) : (edg rows p n).length ≤ n := PG_le _ _ n
section
variable (rows : List (List Int)) (C : Nat) (hC : C ≤ 256) (hr : rows.length ≤ 256) (hlen : ∀ j, j < rows.length → (rows.getD j []).length = C)
include hC hr hlen
theorem l1_ev {r : List (List Int) × List (List S77) × Int} (j : Nat) (hj : j < rows.length) (chs : List (List Int)) (hch : chs.length ≤ 256)
  (ih : Ev (fun k => message_build.l0 k rows (rows.length : Int) ((j + 1 : Nat) : Int) (chs ++ [one rows j C]) (LL C (fun p => edg rows p (j + 1)))) r) : ∀ d i : Nat, i + d = C →
  Ev (fun k => message_build.l1 k (j : Int) (one rows j i) rows (rows.length : Int) (j : Int) (rows.getD j []) (C : Int) (i : Int) chs (LL C (fun p => if p < i then edg rows p (j + 1) else edg rows p j))) r
 | 0, i, h => by
  obtain rfl : i = C := by omega
  refine Ev.step (fun k => ?_) ih
  simp only [message_build.l1]
  rw [if_neg (by omega), if_pos (by omega), w64_id (by omega) (by omega)]
  congr 1
  exact LL_congr _ _ _ (fun p hp => by rw [if_pos hp])
 | d + 1, i, h => by
  have e := hlen j hj
  have ih2 := l1_ev j hj chs hch ih d (i + 1) (by omega)
  by_cases hb : rd (rows.getD j []) (i : Int) = 1
  ·have hb2 : bit rows j i = true := decide_eq_true hb
   refine Ev.step (fun k => ?_) ih2
   have h9 : ∀ x, rd_L9 (LL C x) (i : Int) = x i := fun x => by unfold rd_L9; rw [Int.toNat_natCast, LL_at _ _ _ _ (by omega)]
   have h9' : rd_L9 (LL C (fun p => if p < i then edg rows p (j + 1) else edg rows p j)) (i : Int) = edg rows i j := by rw [h9]; exact if_neg (by omega)
   have hle := edg_le rows i j
   have hlo := one_le rows j i
   simp only [message_build.l1]
   rw [if_pos (by omega), if_pos (by omega), if_pos (by omega), if_pos hb, if_pos (by rw [LL_length]; omega), h9', if_pos (by omega), if_pos (by omega), w64_id (by omega) (by omega)]
   have e1 : one rows j (i + 1) = one rows j i ++ [(i : Int)] := by show (if bit rows j i = true then _ else _) = _; rw [if_pos hb2]; rfl
   have e2 : edg rows i (j + 1) = edg rows i j ++ [⟨(j : Int), ((one rows j i).length : Int)⟩] := by show (if bit rows j i = true then _ else _) = _; rw [if_pos hb2]; rfl
   rw [e1, Int.toNat_natCast, LL_set]
   congr 1
   refine LL_congr _ _ _ (fun p hp => ?_)
   by_cases ep : p = i
   ·subst ep; rw [if_pos rfl, if_pos (by omega), e2]
   ·rw [if_neg ep]
    by_cases e3 : p < i
    ·rw [if_pos e3, if_pos (by omega)]
    ·rw [if_neg e3, if_neg (by omega)]
  ·have hb2 : ¬ bit rows j i = true := by unfold bit; rw [decide_eq_false hb]; decide
   refine Ev.step (fun k => ?_) ih2
   simp only [message_build.l1]
   rw [if_pos (by omega), if_pos (by omega), if_pos (by omega), if_neg hb, w64_id (by omega) (by omega)]
   have e1 : one rows j (i + 1) = one rows j i := by show (if bit rows j i = true then _ else _) = _; rw [if_neg hb2]; rfl
   have e2 : edg rows i (j + 1) = edg rows i j := by show (if bit rows j i = true then _ else _) = _; rw [if_neg hb2]; rfl
   rw [e1]
   congr 1
   refine LL_congr _ _ _ (fun p hp => ?_)
   by_cases ep : p = i
   ·subst ep; rw [if_neg (by omega), if_pos (by omega), e2]
   ·by_cases e3 : p < i
    ·rw [if_pos e3, if_pos (by omega)]
    ·rw [if_neg e3, if_neg (by omega)]
theorem l0_ev : ∀ d j : Nat, j + d = rows.length →
  Ev (fun k => message_build.l0 k rows (rows.length : Int) (j : Int) (checks rows C j) (at_ rows C j)) (checks rows C rows.length, at_ rows C rows.length, 0)
 | 0, j, h => by
  obtain rfl : j = rows.length := by omega
  refine Ev.step (f := fun _ => some _) (fun k => ?_) (Ev.now _)
  simp only [message_build.l0]
  rw [if_neg (by omega)]
 | d + 1, j, h => by
  have ih := l0_ev d (j + 1) (by omega)
  have hcl : (checks rows C j).length = j := LL_length _ _
  have h1 := l1_ev rows C hC hr hlen (r := (checks rows C rows.length, at_ rows C rows.length, 0)) j (by omega) (checks rows C j) (by omega) (by have e : checks rows C j ++ [one rows j C] = checks rows C (j + 1) := (LL_succ j _).symm; rw [e]; exact ih) C 0 (by omega)
  refine Ev.step (fun k => ?_) h1
  simp only [message_build.l0, rd_L1_nat]
  rw [if_pos (by omega), if_pos (by omega), if_pos (by omega), hlen j (by omega)]
  first | rfl | (congr 1; exact LL_congr _ _ _ (fun p hp => by rw [if_neg (by omega)]))
end
theorem build_ok {c : Int} {rows : List (List Int)} (h : chk c rows = 0) : Ev (fun k => message_build.f k c rows) (checks rows c.toNat rows.length, at_ rows c.toNat rows.length, 0) := by
 obtain ⟨h0, h1, h2, h3, h4⟩ := chk_ok h
 unfold message_build.f
 refine Ev.bind (a := ((2 : Int), (1 : Int), ([] : List Int))) (Ev.now _) ?_
 refine (Check_ev c rows).bind ?_
 rw [h]
 refine Ev.congr (fun k => if_pos rfl) (Ev.congr (fun k => if_pos h0) (Ev.congr (fun k => if_pos (by omega)) ?_))
 have hh := l0_ev rows c.toNat (by omega) h2 (fun j hj => by have := h3 j hj; omega) rows.length 0 (by omega)
 have e : List.replicate c.toNat ([] : List S77) = at_ rows c.toNat 0 := by rw [LL_rep]; rfl
 rw [e]
 exact hh
end Go.Proofs.Ytmclalniilkjiaa.Gr
namespace Go.Proofs.Ytmclalniilkjiaa.Q
open Go.RowKit Go.Proofs.YtmclalniilkjiaaW.PrintWords Go.Proofs.YtmclalniilkjiaaW.PrintLast Go.Proofs.YtmclalniilkjiaaW.PrintMore
open List renaming setIfInBounds_toArray → l01_, set_cons_zero → l02_, set_cons_succ → l03_
attribute [local go_sem] max2_int min2_int max_two min_two max_three min_three max_four min_four
set_option linter.unusedVariables false
set_option linter.unusedSimpArgs false
def crM_Odd.l0 : Nat → List Int → List Int → Int → Int → Option (Bool)
 | 0, _, _, _, _ => none
 | k + 1, x0, x1, x5, x6 => if x6 < (x0.length : Int) then (if 0 ≤ x6 then (if x6 < (x1.length : Int) then (crM_Odd.l0 k x0 x1 (wrap64 (x5 + (wrap64 ((rd x0 x6) * (rd x1 x6))))) (wrap64 (x6 + 1))) else (none)) else (none)) else (some ((Int.tmod x5 2) == 1))
def crM_Odd.f (k : Nat) (l0 : List Int) (l1 : List Int) : Option (Bool) := crM_Odd.l0 k l0 l1 0 0
theorem crM_Odd.mono_l : ∀ k, (∀ y0 y1 y2 y3, LeO (crM_Odd.l0 k y0 y1 y2 y3) (crM_Odd.l0 (k + 1) y0 y1 y2 y3))
 | 0 => fun _ _ _ _ r h => by simp [crM_Odd.l0] at h
 | k + 1 => by
  have ih0 := crM_Odd.mono_l k
  ·intro y0 y1 y2 y3;unfold crM_Odd.l0
   repeat' first
   | (with_reducible exact ih0 _ _ _ _)
   | (with_reducible exact LeO.refl _)
   | (with_reducible exact LeO.none _)
   | (with_reducible refine LeO.ite ?_ ?_)
   | (with_reducible refine LeO.bind ?_ (fun _ => ?_))
   | exact ih0 _ _ _ _
   | exact LeO.none _
   | refine LeO.ite ?_ ?_
   | refine LeO.bind ?_ (fun _ => ?_)
theorem crM_Odd.mono : ∀ a0 a1 k, LeO (crM_Odd.f k a0 a1) (crM_Odd.f (k + 1) a0 a1) := by
 intro a0 a1 k;have ih0 := crM_Odd.mono_l k;unfold crM_Odd.f
 repeat' first
   | (with_reducible exact ih0 _ _ _ _)
   | (with_reducible exact LeO.refl _)
   | (with_reducible exact LeO.none _)
   | (with_reducible refine LeO.ite ?_ ?_)
   | (with_reducible refine LeO.bind ?_ (fun _ => ?_))
   | exact ih0 _ _ _ _
   | exact LeO.none _
   | refine LeO.ite ?_ ?_
   | refine LeO.bind ?_ (fun _ => ?_)
set_option maxHeartbeats 8000000 in
set_option maxRecDepth 100000 in
theorem crM_Odd.calls (k : Nat) (A0 : Option Addr) (c0 : Nat) (l0 : List Int) (A1 : Option Addr) (c1 : Nat) (l1 : List Int) (r : Bool) (w : World) (hr0 : Kd.C (Kd.int .i64) w A0 l0.length l0) (hc0 : l0.length ≤ c0) (hr1 : Kd.C (Kd.int .i64) w A1 l1.length l1) (hc1 : l1.length ≤ c1) (h : crM_Odd.f k l0 l1 = some r) :
  Calls Try.prog 50 #[.slice A0 l0.length c0, .slice A1 l1.length c1] w fun e w' => e = .returned (.bool r) ∧ Drawn0 w w' := by
 have HR0 := Ai0.mk hr0;have HC0 := Ai0.mk hc0;clear hr0 hc0;have HR1 := Ai0.mk hr1;have HC1 := Ai0.mk hc1;clear hr1 hc1;have H : (crM_Odd.l0 k l0 l1 0 0) = some r := h;clear h;have H' := Ai0.mk H;clear H;go_enter Try.func50, Try.ntmps50
 go_wp2
 repeat (go_quiet (fail); try go_wp2)
 go_loopg [5, 6] k (fun kq v5 v6 w' => ∃ (x5_1 : Int) (x6_1 : Int), v5 = .int .i64 x5_1 ∧ v6 = .int .i64 x6_1 ∧ Ai0 (crM_Odd.l0 kq l0 l1 x5_1 x6_1 = some r) ∧ Ai0 (kq ≤ k) ∧ Drawn0 w w')
 case atStart => exact ⟨(0), (0), rf_, rf_, H', ⟨Nat.le_refl _⟩, by repeat (first | exact Drawn0.refl _ | apply Drawn0.step)⟩
 case round =>
  clear H'
  try clear c1
  try clear p2
  obtain ⟨x5_1, x6_1, rfl, rfl, HA, HK1, ⟨m1, rfl⟩⟩ := hrel
  cases gk with
  | zero => exact absurd HA.out (by simp [crM_Odd.l0])
  | succ k1 =>
   have H := HA.out;clear HA;simp only [crM_Odd.l0] at H;by_cases c3 : x6_1 < (l0.length : Int)
   ·rw [if_pos c3] at H;have c3b0 : decide (x6_1 < (l0.length : Int)) = true := decide_eq_true c3;clear c3;by_cases c4 : 0 ≤ x6_1
    ·rw [if_pos c4] at H;have c4b0 : decide (0 ≤ x6_1) = true := decide_eq_true c4;clear c4;by_cases c5 : x6_1 < (l1.length : Int)
     ·rw [if_pos c5] at H;have c5b0 : decide (x6_1 < (l1.length : Int)) = true := decide_eq_true c5;clear c5;have H' := Ai0.mk H;clear H;have p218 : 0 ≤ (x6_1 : Int) := od_;have q218 : x6_1 < (l0.length : Int) := od_;obtain ⟨ad218, e218, hx218_0⟩ := Kd.at_int HR0.out x6_1 p218 q218;cases e218;replace p218 := eq_true p218;replace q218 := eq_true q218;have p219 : 0 ≤ (x6_1 : Int) := od_;have q219 : x6_1 < (l1.length : Int) := od_;obtain ⟨ad219, e219, hx219_0⟩ := Kd.at_int HR1.out x6_1 p219 q219;cases e219;replace p219 := eq_true p219;replace q219 := eq_true q219
      go_wp2
      repeat (go_quiet (fail); try go_wp2)
      go_roundg k1
      case measure => have := HK1.out; omega
      case rel => exact ⟨(wrap64 (x5_1 + (wrap64 ((rd l0 x6_1) * (rd l1 x6_1))))), (wrap64 (x6_1 + 1)), rf_, rf_, H', ⟨by have := HK1.out; omega⟩, by repeat (first | exact Drawn0.refl _ | apply Drawn0.step)⟩
     ·rw [if_neg c5] at H;exact absurd H (by simp)
    ·rw [if_neg c4] at H;exact absurd H (by simp)
   ·rw [if_neg c3] at H;have c3b0 : decide (x6_1 < (l0.length : Int)) = false := decide_eq_false c3;clear c3;obtain rfl := Option.some.inj H
    go_wp2
    repeat (go_quiet (fail); try go_wp2)
    go_ret
    exact ⟨by first | rfl | (simp; done) | (simp [*]; done), by repeat (first | exact Drawn0.refl _ | apply Drawn0.step)⟩
def crM_Unsatisfied.l0 : Nat → List Int → List Int → Int → Int → List (List Int) → Option (List Int)
 | 0, _, _, _, _, _ => none
 | k + 1, x1, x5, x6, x221000, x221001 => if x6 < (x221001.length : Int) then (if 0 ≤ x6 then ((crM_Odd.f k (rd_L1 x221001 x6) x1).bind fun t222 => (if t222 = true then (if x5.length < 17592186044416 then (crM_Unsatisfied.l0 k x1 (x5 ++ [x6]) (wrap64 (x6 + 1)) x221000 x221001) else (none)) else (crM_Unsatisfied.l0 k x1 x5 (wrap64 (x6 + 1)) x221000 x221001))) else (none)) else (some x5)
def crM_Unsatisfied.f (k : Nat) (a0_0 : Int) (l0_1 : List (List Int)) (l1 : List Int) : Option (List Int) := crM_Unsatisfied.l0 k l1 ([] : List Int) 0 a0_0 l0_1
theorem crM_Unsatisfied.mono_l : ∀ k, (∀ y0 y1 y2 y3 y4, LeO (crM_Unsatisfied.l0 k y0 y1 y2 y3 y4) (crM_Unsatisfied.l0 (k + 1) y0 y1 y2 y3 y4))
 | 0 => fun _ _ _ _ _ r h => by simp [crM_Unsatisfied.l0] at h
 | k + 1 => by
  have ih0 := crM_Unsatisfied.mono_l k
  ·intro y0 y1 y2 y3 y4;unfold crM_Unsatisfied.l0
   repeat' first
   | (with_reducible exact ih0 _ _ _ _ _)
   | (with_reducible exact crM_Odd.mono _ _ _)
   | (with_reducible exact LeO.refl _)
   | (with_reducible exact LeO.none _)
   | (with_reducible refine LeO.ite ?_ ?_)
   | (with_reducible refine LeO.bind ?_ (fun _ => ?_))
   | exact ih0 _ _ _ _ _
   | exact crM_Odd.mono _ _ _
   | exact LeO.none _
   | refine LeO.ite ?_ ?_
   | refine LeO.bind ?_ (fun _ => ?_)
theorem crM_Unsatisfied.mono : ∀ a0 a1 a2 k, LeO (crM_Unsatisfied.f k a0 a1 a2) (crM_Unsatisfied.f (k + 1) a0 a1 a2) := by
 intro a0 a1 a2 k;have ih0 := crM_Unsatisfied.mono_l k;unfold crM_Unsatisfied.f
 repeat' first
   | (with_reducible exact ih0 _ _ _ _ _)
   | (with_reducible exact crM_Odd.mono _ _ _)
   | (with_reducible exact LeO.refl _)
   | (with_reducible exact LeO.none _)
   | (with_reducible refine LeO.ite ?_ ?_)
   | (with_reducible refine LeO.bind ?_ (fun _ => ?_))
   | exact ih0 _ _ _ _ _
   | exact crM_Odd.mono _ _ _
   | exact LeO.none _
   | refine LeO.ite ?_ ?_
   | refine LeO.bind ?_ (fun _ => ?_)
set_option maxHeartbeats 8000000 in
set_option maxRecDepth 100000 in
theorem crM_Unsatisfied.calls (k : Nat) (a0_0 : Int) (A0_1 : Option Addr) (c0_1 : Nat) (l0_1 : List (List Int)) (A1 : Option Addr) (c1 : Nat) (l1 : List Int) (r : List Int) (w : World) (hr0_1 : Kd.C (Kd.slice 3 (Kd.int .i64)) w A0_1 l0_1.length l0_1) (hc0_1 : l0_1.length ≤ c0_1) (hr1 : Kd.C (Kd.int .i64) w A1 l1.length l1) (hc1 : l1.length ≤ c1) (h : crM_Unsatisfied.f k a0_0 l0_1 l1 = some r) :
  Calls Try.prog 22 #[.agg #[.int .i64 a0_0, .slice A0_1 l0_1.length c0_1], .slice A1 l1.length c1] w fun e w' => ∃ v0_ : Value, e = .returned (v0_) ∧ Kd.R (Kd.int .i64) 3 w' w.heap.size (fun _ => True) v0_ r ∧ Below w.heap.size w w' := by
 have hu24 := Try.underlying24;have HR0_1 := Ai0.mk hr0_1;have HC0_1 := Ai0.mk hc0_1;clear hr0_1 hc0_1;have HR1 := Ai0.mk hr1;have HC1 := Ai0.mk hc1;clear hr1 hc1;have HB := Ai0.mk (Below.refl w.heap.size w);have H : (crM_Unsatisfied.l0 k l1 ([] : List Int) 0 a0_0 l0_1) = some r := h;clear h;have H' := Ai0.mk H;clear H;go_enter Try.func22, Try.ntmps22
 go_wp2_with (first | ((with_reducible refine gate_dst (N := 2) rfl ?_); refine box_event ?hg (N := 2) ?hd (cs := #[.int .i64 a0_0, .slice A0_1 l0_1.length c0_1]) (t := 24) ?hr ?_; (case hd => rfl); (case hg => rfl); (case hr => first | (go_simp; done) | (go_simp; rfl)); intro gb220 hg w3 hbox hb; have n0_ := Ai0.mk (bt1 bl_ hb); have n1_ := Ai0.mk (hbox); have n2_ := Ai0.mk ((by rw [hg]; exact (bz1 bl_) : w.heap.size ≤ gb220)); have n3_ := Ai0.mk ((by rw [hg]; exact (bz1 bl_) : w.heap.size ≤ gb220)); clear HB; have HB := n0_; have BK220 := n1_; have GW220 := n2_; have GE220 := n3_; clear n0_ n1_ n2_ n3_; clear hb hbox hg))
 go_loopg [5, 6] k (fun kq v5 v6 w' => ∃ (x5_1 : List Int) (x6_1 : Int), v6 = .int .i64 x6_1 ∧ Ai0 (crM_Unsatisfied.l0 kq l1 x5_1 x6_1 a0_0 l0_1 = some r) ∧ Ai0 (kq ≤ k) ∧ Ai0 (Kd.R (Kd.int .i64) 3 w' w.heap.size (fun _ => True) v5 x5_1) ∧ Ai0 (w'.heap[gb220]? = some (.cells #[.int .i64 a0_0, (.slice A0_1 l0_1.length c0_1)] 24 (0, 0))) ∧ Ai0 (Below w.heap.size w w'))
 case atStart => exact ⟨(([] : List Int)), (0), rf_, H', ⟨Nat.le_refl _⟩, ⟨by first | exact Kd.R_nil _ _ _ _ _ | exact Kd.N_nil _ _ _ _ _ | exact Kd.V_nil _ _ _ _ _ | exact Kd.Q_nil _ _ _ _ _ | exact Kd.S_nil _ _ _ _ _⟩, ⟨kk_ BK220.out⟩, ⟨bl_⟩⟩
 case round =>
  clear H'
  try clear c1
  try clear c2
  try clear p2
  obtain ⟨x5_1, x6_1, rfl, HA, HK1, HO_5, BK220, HB⟩ := hrel
  cases gk with
  | zero => exact absurd HA.out (by simp [crM_Unsatisfied.l0])
  | succ k1 =>
   have H := HA.out;clear HA;simp only [crM_Unsatisfied.l0] at H;by_cases c4 : x6_1 < (l0_1.length : Int)
   ·rw [if_pos c4] at H;have c4b0 : decide (x6_1 < (l0_1.length : Int)) = true := decide_eq_true c4;clear c4;by_cases c5 : 0 ≤ x6_1
    ·rw [if_pos c5] at H;have c5b0 : decide (0 ≤ x6_1) = true := decide_eq_true c5;clear c5;replace H := Option.bind_eq_some_iff.mp H;obtain ⟨t222, A60, H⟩ := H;replace H : (if t222 = true then (if x5_1.length < 17592186044416 then (crM_Unsatisfied.l0 k1 l1 (x5_1 ++ [x6_1]) (wrap64 (x6_1 + 1)) a0_0 l0_1) else (none)) else (crM_Unsatisfied.l0 k1 l1 x5_1 (wrap64 (x6_1 + 1)) a0_0 l0_1)) = some r := H;have A6 := Ai0.mk A60;clear A60;by_cases c7 : t222 = true
     ·subst c7;(have H1 : (if x5_1.length < 17592186044416 then (crM_Unsatisfied.l0 k1 l1 (x5_1 ++ [x6_1]) (wrap64 (x6_1 + 1)) a0_0 l0_1) else (none)) = some r := by rw [if_pos rfl] at H; exact H);clear H;have H := H1;clear H1;by_cases c8 : x5_1.length < 17592186044416
      ·rw [if_pos c8] at H;have LMc8 := Ai0.mk c8;clear c8;(obtain ⟨y223, hy223⟩ : ∃ y_ : List Int, y_ = (x5_1 ++ [x6_1]) := ⟨_, rfl⟩);(replace H : (crM_Unsatisfied.l0 k1 l1 y223 (wrap64 (x6_1 + 1)) a0_0 l0_1) = some r := by first | (rw [hy223]; with_reducible exact H) | (have H2_ := (Option.bind_some _ _).symm.trans H; rw [hy223]; with_reducible exact H2_) | (have H2_ := (Option.bind_some _ _).symm.trans H; with_reducible exact H2_) | with_reducible exact H | (rw [hy223]; exact H) | exact H);have Ny223 := Ai0.mk hy223;clear hy223;have H' := Ai0.mk H;clear H;have hcz9_0 : wr.cell? ⟨gb220, 0, none⟩ = some (.int .i64 a0_0) := (kc1 BK220.out 0).trans rfl;have hcz9_1 : wr.cell? ⟨gb220, 1, none⟩ = some (.slice A0_1 l0_1.length c0_1) := (kc1 BK220.out 1).trans rfl;have hfz9_0 := kf1 BK220.out 0;have hfz9_1 := kf1 BK220.out 1;have p221 : 0 ≤ (x6_1 : Int) := od_;have q221 : x6_1 < (l0_1.length : Int) := od_;obtain ⟨ad221, A221_0, c221_0, e221, hx221_0, hl221_0, hi221_0⟩ := at_L1 HR0_1.out x6_1 p221 q221;cases e221;replace hx221_0 := (HB.out.cell (World.block_lt_of_cell? w _ hx221_0)).trans hx221_0;have HR221_0 := Ai0.mk hi221_0;have HC221_0 := Ai0.mk hl221_0;clear hi221_0 hl221_0;replace p221 := eq_true p221;replace q221 := eq_true q221
       go_wp2_with (first | ((with_reducible refine gate_callee (f := 50) rfl ?_); refine goesL_ (some 20) rfl rfl Try.func50 (by kernel_rfl) rfl #[.slice A221_0 (rd_L1 l0_1 x6_1).length c221_0, .slice A1 l1.length c1] rfl (by (try simp only [List.map_toArray, List.map_cons, List.map_nil]); first | done | rfl | (simp only [List.length_drop, List.length_take]; rfl)) ?_; (with_reducible refine (crM_Odd.calls k1 _ _ (rd_L1 l0_1 x6_1) _ _ l1 true _ ?side1 ?side2 ?side3 ?side4 A6.out).mono ?_); (case side1 => exact kc_ HR221_0.out); (case side2 => exact HC221_0.out); (case side3 => exact kc_ HR1.out); (case side4 => exact HC1.out); rintro e w' ⟨rfl, ⟨nd, rfl⟩⟩; refine ⟨_, rfl, ?_⟩) | ((with_reducible refine gate_builtin (b := .append) (xs := #[.tmp 21, .tmp 23]) rfl ?_); at_builtin; refine Kd.R_append (Kd.int .i64) (w0 := w) w.heap.size rfl (.tmp 21) (.tmp 23) 25 3 (.int .i64 0) 8 rfl Try.underlying25 info3 rfl (by decide) (by omega) u5 x5_1 x6_1 [.int .i64 x6_1] (fun _ => True) (fun _ => False) rfl rfl ?aP (fun _ hk => hk.elim) ?aF ?aO ?aB ?aS ?aL ?_; (case aP => exact rfl); (case aB => exact bl_); (case aF => exact (fun _ _ => trivial)); (case aO => exact (kr_ HO_5.out)); (case aS => exact (bz1 bl_)); (case aL => have := LMc8.out; omega); intro v224 w10 ho hb hg hat; rw [← Ny223.out] at ho; have n0_ := Ai0.mk (blk_grown (g := gb220) (o := .cells #[.int .i64 a0_0, .slice (some ad221) l0_1.length c0_1] 24 (0, 0)) (kk_ BK220.out) hg (Kd.R_ne HO_5.out BK220.out (by decide))); have n1_ := Ai0.mk (hb); have n2_ := Ai0.mk (ho); clear BK220; clear HB; clear HO_5; have BK220 := n0_; have HB := n1_; have HO225 := n2_; clear n0_ n1_ n2_; clear ho hb hg hat))
       go_roundg k1
       case measure => have := HK1.out; omega
       case rel => exact ⟨(y223), (wrap64 (x6_1 + 1)), rf_, H', ⟨by have := HK1.out; omega⟩, ⟨kr_ HO225.out⟩, ⟨kk_ BK220.out⟩, ⟨bl_⟩⟩
      ·rw [if_neg c8] at H;exact absurd H (by simp)
     ·replace c7 := Bool.eq_false_iff.mpr c7;subst c7;(have H1 : (crM_Unsatisfied.l0 k1 l1 x5_1 (wrap64 (x6_1 + 1)) a0_0 l0_1) = some r := by rw [if_neg (show ¬ (false = true) by decide)] at H; exact H);clear H;have H := H1;clear H1;have H' := Ai0.mk H;clear H;have hcz11_0 : wr.cell? ⟨gb220, 0, none⟩ = some (.int .i64 a0_0) := (kc1 BK220.out 0).trans rfl;have hcz11_1 : wr.cell? ⟨gb220, 1, none⟩ = some (.slice A0_1 l0_1.length c0_1) := (kc1 BK220.out 1).trans rfl;have hfz11_0 := kf1 BK220.out 0;have hfz11_1 := kf1 BK220.out 1;have p221 : 0 ≤ (x6_1 : Int) := od_;have q221 : x6_1 < (l0_1.length : Int) := od_;obtain ⟨ad221, A221_0, c221_0, e221, hx221_0, hl221_0, hi221_0⟩ := at_L1 HR0_1.out x6_1 p221 q221;cases e221;replace hx221_0 := (HB.out.cell (World.block_lt_of_cell? w _ hx221_0)).trans hx221_0;have HR221_0 := Ai0.mk hi221_0;have HC221_0 := Ai0.mk hl221_0;clear hi221_0 hl221_0;replace p221 := eq_true p221;replace q221 := eq_true q221
      go_wp2_with (first | ((with_reducible refine gate_callee (f := 50) rfl ?_); refine goesL_ (some 20) rfl rfl Try.func50 (by kernel_rfl) rfl #[.slice A221_0 (rd_L1 l0_1 x6_1).length c221_0, .slice A1 l1.length c1] rfl (by (try simp only [List.map_toArray, List.map_cons, List.map_nil]); first | done | rfl | (simp only [List.length_drop, List.length_take]; rfl)) ?_; (with_reducible refine (crM_Odd.calls k1 _ _ (rd_L1 l0_1 x6_1) _ _ l1 false _ ?side1 ?side2 ?side3 ?side4 A6.out).mono ?_); (case side1 => exact kc_ HR221_0.out); (case side2 => exact HC221_0.out); (case side3 => exact kc_ HR1.out); (case side4 => exact HC1.out); rintro e w' ⟨rfl, ⟨nd, rfl⟩⟩; refine ⟨_, rfl, ?_⟩))
      go_roundg k1
      case measure => have := HK1.out; omega
      case rel => exact ⟨(x5_1), (wrap64 (x6_1 + 1)), rf_, H', ⟨by have := HK1.out; omega⟩, ⟨kr_ HO_5.out⟩, ⟨kk_ BK220.out⟩, ⟨bl_⟩⟩
    ·rw [if_neg c5] at H;exact absurd H (by simp)
   ·rw [if_neg c4] at H;have c4b0 : decide (x6_1 < (l0_1.length : Int)) = false := decide_eq_false c4;clear c4;obtain rfl := Option.some.inj H;have hcz12_0 : wr.cell? ⟨gb220, 0, none⟩ = some (.int .i64 a0_0) := (kc1 BK220.out 0).trans rfl;have hcz12_1 : wr.cell? ⟨gb220, 1, none⟩ = some (.slice A0_1 l0_1.length c0_1) := (kc1 BK220.out 1).trans rfl;have hfz12_0 := kf1 BK220.out 0;have hfz12_1 := kf1 BK220.out 1
    go_wp2
    go_ret
    exact ⟨_, by first | rfl | (simp [eW0, eW1] <;> rfl) | (simp [*, eW0, eW1] <;> rfl), by (with_reducible repeat (first | apply Kd.Ra1 | apply Kd.Rn1 | apply Kd.Rd1)); exact HO_5.out, bl_⟩
end Go.Proofs.Ytmclalniilkjiaa.Q
