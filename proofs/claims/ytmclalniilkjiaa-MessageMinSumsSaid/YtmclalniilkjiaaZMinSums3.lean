-- Joined by pack.py, a program of this work: Qx39 Qx40 Qx27 Qx23 Un Fl Qx19 Qx89 Qx90 Ms Rv Qx17 Qx18 Qx20 Qx21 Rp
import Derived.Test.YtmclalniilkjiaaZMinSums0
import Derived.Test.YtmclalniilkjiaaZMinSums2
namespace Go.Proofs.Ytmclalniilkjiaa.Q
open Go.RowKit Go.Proofs.YtmclalniilkjiaaW.PrintWords Go.Proofs.YtmclalniilkjiaaW.PrintLast Go.Proofs.YtmclalniilkjiaaW.PrintMore
open List renaming setIfInBounds_toArray → l01_, set_cons_zero → l02_, set_cons_succ → l03_
attribute [local go_sem] max2_int min2_int max_two min_two max_three min_three max_four min_four
set_option linter.unusedVariables false
set_option linter.unusedSimpArgs false
def crM_Odd.l0 : Nat → List Int → List Int → Int → Int → Option (Bool)
 | 0, _, _, _, _ => none
 | k + 1, x0, x1, x5, x6 => if x6 < (x0.length : Int) then (if 0 ≤ x6 then (if x6 < (x1.length : Int) then (crM_Odd.l0 k x0 x1 (wrap64 (x5 + (wrap64 ((rd x0 x6) * (rd x1 x6))))) (wrap64 (x6 + 1))) else (none)) else (none)) else (some ((Int.tmod x5 2) == 1))
def crM_Odd.f (k : Nat) (l0 : List Int) (l1 : List Int) : Option (Bool) := crM_Odd.l0 k l0 l1 0 0
theorem crM_Odd.mono_l : ∀ k, (∀ y0 y1 y2 y3, LeO (crM_Odd.l0 k y0 y1 y2 y3) (crM_Odd.l0 (k + 1) y0 y1 y2 y3))
 | 0 => fun _ _ _ _ r h => by simp [crM_Odd.l0] at h
 | k + 1 => by
  have ih0 := crM_Odd.mono_l k
  ·intro y0 y1 y2 y3;unfold crM_Odd.l0
   repeat' first
   | (with_reducible exact ih0 _ _ _ _)
   | (with_reducible exact LeO.refl _)
   | (with_reducible exact LeO.none _)
   | (with_reducible refine LeO.ite ?_ ?_)
   | (with_reducible refine LeO.bind ?_ (fun _ => ?_))
   | exact ih0 _ _ _ _
   | exact LeO.none _
   | refine LeO.ite ?_ ?_
   | refine LeO.bind ?_ (fun _ => ?_)
theorem crM_Odd.mono : ∀ a0 a1 k, LeO (crM_Odd.f k a0 a1) (crM_Odd.f (k + 1) a0 a1) := by
 intro a0 a1 k;have ih0 := crM_Odd.mono_l k;unfold crM_Odd.f
 repeat' first
   | (with_reducible exact ih0 _ _ _ _)
   | (with_reducible exact LeO.refl _)
   | (with_reducible exact LeO.none _)
   | (with_reducible refine LeO.ite ?_ ?_)
   | (with_reducible refine LeO.bind ?_ (fun _ => ?_))
   | exact ih0 _ _ _ _
   | exact LeO.none _
   | refine LeO.ite ?_ ?_
   | refine LeO.bind ?_ (fun _ => ?_)
set_option maxHeartbeats 8000000 in
set_option maxRecDepth 100000 in
theorem crM_Odd.calls (k : Nat) (A0 : Option Addr) (c0 : Nat) (l0 : List Int) (A1 : Option Addr) (c1 : Nat) (l1 : List Int) (r : Bool) (w : World) (hr0 : Kd.C (Kd.int .i64) w A0 l0.length l0) (hc0 : l0.length ≤ c0) (hr1 : Kd.C (Kd.int .i64) w A1 l1.length l1) (hc1 : l1.length ≤ c1) (h : crM_Odd.f k l0 l1 = some r) :
  Calls Try.prog 50 #[.slice A0 l0.length c0, .slice A1 l1.length c1] w fun e w' => e = .returned (.bool r) ∧ Drawn0 w w' := by
 have HR0 := Ai0.mk hr0;have HC0 := Ai0.mk hc0;clear hr0 hc0;have HR1 := Ai0.mk hr1;have HC1 := Ai0.mk hc1;clear hr1 hc1;have H : (crM_Odd.l0 k l0 l1 0 0) = some r := h;clear h;have H' := Ai0.mk H;clear H;go_enter Try.func50, Try.ntmps50
 go_wp2
 repeat (go_quiet (fail); try go_wp2)
 go_loopg [5, 6] k (fun kq v5 v6 w' => ∃ (x5_1 : Int) (x6_1 : Int), v5 = .int .i64 x5_1 ∧ v6 = .int .i64 x6_1 ∧ Ai0 (crM_Odd.l0 kq l0 l1 x5_1 x6_1 = some r) ∧ Ai0 (kq ≤ k) ∧ Drawn0 w w')
 case atStart => exact ⟨(0), (0), rf_, rf_, H', ⟨Nat.le_refl _⟩, by repeat (first | exact Drawn0.refl _ | apply Drawn0.step)⟩
 case round =>
  clear H'
  try clear c1
  try clear p2
  obtain ⟨x5_1, x6_1, rfl, rfl, HA, HK1, ⟨m1, rfl⟩⟩ := hrel
  cases gk with
  | zero => exact absurd HA.out (by simp [crM_Odd.l0])
  | succ k1 =>
   have H := HA.out;clear HA;simp only [crM_Odd.l0] at H;by_cases c3 : x6_1 < (l0.length : Int)
   ·rw [if_pos c3] at H;have c3b0 : decide (x6_1 < (l0.length : Int)) = true := decide_eq_true c3;clear c3;by_cases c4 : 0 ≤ x6_1
    ·rw [if_pos c4] at H;have c4b0 : decide (0 ≤ x6_1) = true := decide_eq_true c4;clear c4;by_cases c5 : x6_1 < (l1.length : Int)
     ·rw [if_pos c5] at H;have c5b0 : decide (x6_1 < (l1.length : Int)) = true := decide_eq_true c5;clear c5;have H' := Ai0.mk H;clear H;have p218 : 0 ≤ (x6_1 : Int) := od_;have q218 : x6_1 < (l0.length : Int) := od_;obtain ⟨ad218, e218, hx218_0⟩ := Kd.at_int HR0.out x6_1 p218 q218;cases e218;replace p218 := eq_true p218;replace q218 := eq_true q218;have p219 : 0 ≤ (x6_1 : Int) := od_;have q219 : x6_1 < (l1.length : Int) := od_;obtain ⟨ad219, e219, hx219_0⟩ := Kd.at_int HR1.out x6_1 p219 q219;cases e219;replace p219 := eq_true p219;replace q219 := eq_true q219
      go_wp2
      repeat (go_quiet (fail); try go_wp2)
      go_roundg k1
      case measure => have := HK1.out; omega
      case rel => exact ⟨(wrap64 (x5_1 + (wrap64 ((rd l0 x6_1) * (rd l1 x6_1))))), (wrap64 (x6_1 + 1)), rf_, rf_, H', ⟨by have := HK1.out; omega⟩, by repeat (first | exact Drawn0.refl _ | apply Drawn0.step)⟩
     ·rw [if_neg c5] at H;exact absurd H (by simp)
    ·rw [if_neg c4] at H;exact absurd H (by simp)
   ·rw [if_neg c3] at H;have c3b0 : decide (x6_1 < (l0.length : Int)) = false := decide_eq_false c3;clear c3;obtain rfl := Option.some.inj H
    go_wp2
    repeat (go_quiet (fail); try go_wp2)
    go_ret
    exact ⟨by first | rfl | (simp; done) | (simp [*]; done), by repeat (first | exact Drawn0.refl _ | apply Drawn0.step)⟩
def crM_Unsatisfied.l0 : Nat → List Int → List Int → Int → Int → List (List Int) → Option (List Int)
 | 0, _, _, _, _, _ => none
 | k + 1, x1, x5, x6, x221000, x221001 => if x6 < (x221001.length : Int) then (if 0 ≤ x6 then ((crM_Odd.f k (rd_L1 x221001 x6) x1).bind fun t222 => (if t222 = true then (if x5.length < 17592186044416 then (crM_Unsatisfied.l0 k x1 (x5 ++ [x6]) (wrap64 (x6 + 1)) x221000 x221001) else (none)) else (crM_Unsatisfied.l0 k x1 x5 (wrap64 (x6 + 1)) x221000 x221001))) else (none)) else (some x5)
def crM_Unsatisfied.f (k : Nat) (a0_0 : Int) (l0_1 : List (List Int)) (l1 : List Int) : Option (List Int) := crM_Unsatisfied.l0 k l1 ([] : List Int) 0 a0_0 l0_1
theorem crM_Unsatisfied.mono_l : ∀ k, (∀ y0 y1 y2 y3 y4, LeO (crM_Unsatisfied.l0 k y0 y1 y2 y3 y4) (crM_Unsatisfied.l0 (k + 1) y0 y1 y2 y3 y4))
 | 0 => fun _ _ _ _ _ r h => by simp [crM_Unsatisfied.l0] at h
 | k + 1 => by
  have ih0 := crM_Unsatisfied.mono_l k
  ·intro y0 y1 y2 y3 y4;unfold crM_Unsatisfied.l0
   repeat' first
   | (with_reducible exact ih0 _ _ _ _ _)
   | (with_reducible exact crM_Odd.mono _ _ _)
   | (with_reducible exact LeO.refl _)
   | (with_reducible exact LeO.none _)
   | (with_reducible refine LeO.ite ?_ ?_)
   | (with_reducible refine LeO.bind ?_ (fun _ => ?_))
   | exact ih0 _ _ _ _ _
   | exact crM_Odd.mono _ _ _
   | exact LeO.none _
   | refine LeO.ite ?_ ?_
   | refine LeO.bind ?_ (fun _ => ?_)
theorem crM_Unsatisfied.mono : ∀ a0 a1 a2 k, LeO (crM_Unsatisfied.f k a0 a1 a2) (crM_Unsatisfied.f (k + 1) a0 a1 a2) := by
 intro a0 a1 a2 k;have ih0 := crM_Unsatisfied.mono_l k;unfold crM_Unsatisfied.f
 repeat' first
   | (with_reducible exact ih0 _ _ _ _ _)
   | (with_reducible exact crM_Odd.mono _ _ _)
   | (with_reducible exact LeO.refl _)
   | (with_reducible exact LeO.none _)
   | (with_reducible refine LeO.ite ?_ ?_)
   | (with_reducible refine LeO.bind ?_ (fun _ => ?_))
   | exact ih0 _ _ _ _ _
   | exact crM_Odd.mono _ _ _
   | exact LeO.none _
   | refine LeO.ite ?_ ?_
   | refine LeO.bind ?_ (fun _ => ?_)
set_option maxHeartbeats 8000000 in
set_option maxRecDepth 100000 in
theorem crM_Unsatisfied.calls (k : Nat) (a0_0 : Int) (A0_1 : Option Addr) (c0_1 : Nat) (l0_1 : List (List Int)) (A1 : Option Addr) (c1 : Nat) (l1 : List Int) (r : List Int) (w : World) (hr0_1 : Kd.C (Kd.slice 3 (Kd.int .i64)) w A0_1 l0_1.length l0_1) (hc0_1 : l0_1.length ≤ c0_1) (hr1 : Kd.C (Kd.int .i64) w A1 l1.length l1) (hc1 : l1.length ≤ c1) (h : crM_Unsatisfied.f k a0_0 l0_1 l1 = some r) :
  Calls Try.prog 22 #[.agg #[.int .i64 a0_0, .slice A0_1 l0_1.length c0_1], .slice A1 l1.length c1] w fun e w' => ∃ v0_ : Value, e = .returned (v0_) ∧ Kd.R (Kd.int .i64) 3 w' w.heap.size (fun _ => True) v0_ r ∧ Below w.heap.size w w' := by
 have hu24 := Try.underlying24;have HR0_1 := Ai0.mk hr0_1;have HC0_1 := Ai0.mk hc0_1;clear hr0_1 hc0_1;have HR1 := Ai0.mk hr1;have HC1 := Ai0.mk hc1;clear hr1 hc1;have HB := Ai0.mk (Below.refl w.heap.size w);have H : (crM_Unsatisfied.l0 k l1 ([] : List Int) 0 a0_0 l0_1) = some r := h;clear h;have H' := Ai0.mk H;clear H;go_enter Try.func22, Try.ntmps22
 go_wp2_with (first | ((with_reducible refine gate_dst (N := 2) rfl ?_); refine box_event ?hg (N := 2) ?hd (cs := #[.int .i64 a0_0, .slice A0_1 l0_1.length c0_1]) (t := 24) ?hr ?_; (case hd => rfl); (case hg => rfl); (case hr => first | (go_simp; done) | (go_simp; rfl)); intro gb220 hg w3 hbox hb; have n0_ := Ai0.mk (bt1 bl_ hb); have n1_ := Ai0.mk (hbox); have n2_ := Ai0.mk ((by rw [hg]; exact (bz1 bl_) : w.heap.size ≤ gb220)); have n3_ := Ai0.mk ((by rw [hg]; exact (bz1 bl_) : w.heap.size ≤ gb220)); clear HB; have HB := n0_; have BK220 := n1_; have GW220 := n2_; have GE220 := n3_; clear n0_ n1_ n2_ n3_; clear hb hbox hg))
 go_loopg [5, 6] k (fun kq v5 v6 w' => ∃ (x5_1 : List Int) (x6_1 : Int), v6 = .int .i64 x6_1 ∧ Ai0 (crM_Unsatisfied.l0 kq l1 x5_1 x6_1 a0_0 l0_1 = some r) ∧ Ai0 (kq ≤ k) ∧ Ai0 (Kd.R (Kd.int .i64) 3 w' w.heap.size (fun _ => True) v5 x5_1) ∧ Ai0 (w'.heap[gb220]? = some (.cells #[.int .i64 a0_0, (.slice A0_1 l0_1.length c0_1)] 24 (0, 0))) ∧ Ai0 (Below w.heap.size w w'))
 case atStart => exact ⟨(([] : List Int)), (0), rf_, H', ⟨Nat.le_refl _⟩, ⟨by first | exact Kd.R_nil _ _ _ _ _ | exact Kd.N_nil _ _ _ _ _ | exact Kd.V_nil _ _ _ _ _ | exact Kd.Q_nil _ _ _ _ _ | exact Kd.S_nil _ _ _ _ _⟩, ⟨kk_ BK220.out⟩, ⟨bl_⟩⟩
 case round =>
  clear H'
  try clear c1
  try clear c2
  try clear p2
  obtain ⟨x5_1, x6_1, rfl, HA, HK1, HO_5, BK220, HB⟩ := hrel
  cases gk with
  | zero => exact absurd HA.out (by simp [crM_Unsatisfied.l0])
  | succ k1 =>
   have H := HA.out;clear HA;simp only [crM_Unsatisfied.l0] at H;by_cases c4 : x6_1 < (l0_1.length : Int)
   ·rw [if_pos c4] at H;have c4b0 : decide (x6_1 < (l0_1.length : Int)) = true := decide_eq_true c4;clear c4;by_cases c5 : 0 ≤ x6_1
    ·rw [if_pos c5] at H;have c5b0 : decide (0 ≤ x6_1) = true := decide_eq_true c5;clear c5;replace H := Option.bind_eq_some_iff.mp H;obtain ⟨t222, A60, H⟩ := H;replace H : (if t222 = true then (if x5_1.length < 17592186044416 then (crM_Unsatisfied.l0 k1 l1 (x5_1 ++ [x6_1]) (wrap64 (x6_1 + 1)) a0_0 l0_1) else (none)) else (crM_Unsatisfied.l0 k1 l1 x5_1 (wrap64 (x6_1 + 1)) a0_0 l0_1)) = some r := H;have A6 := Ai0.mk A60;clear A60;by_cases c7 : t222 = true
     ·subst c7;(have H1 : (if x5_1.length < 17592186044416 then (crM_Unsatisfied.l0 k1 l1 (x5_1 ++ [x6_1]) (wrap64 (x6_1 + 1)) a0_0 l0_1) else (none)) = some r := by rw [if_pos rfl] at H; exact H);clear H;have H := H1;clear H1;by_cases c8 : x5_1.length < 17592186044416
      ·rw [if_pos c8] at H;have LMc8 := Ai0.mk c8;clear c8;(obtain ⟨y223, hy223⟩ : ∃ y_ : List Int, y_ = (x5_1 ++ [x6_1]) := ⟨_, rfl⟩);(replace H : (crM_Unsatisfied.l0 k1 l1 y223 (wrap64 (x6_1 + 1)) a0_0 l0_1) = some r := by first | (rw [hy223]; with_reducible exact H) | (have H2_ := (Option.bind_some _ _).symm.trans H; rw [hy223]; with_reducible exact H2_) | (have H2_ := (Option.bind_some _ _).symm.trans H; with_reducible exact H2_) | with_reducible exact H | (rw [hy223]; exact H) | exact H);have Ny223 := Ai0.mk hy223;clear hy223;have H' := Ai0.mk H;clear H;have hcz9_0 : wr.cell? ⟨gb220, 0, none⟩ = some (.int .i64 a0_0) := (kc1 BK220.out 0).trans rfl;have hcz9_1 : wr.cell? ⟨gb220, 1, none⟩ = some (.slice A0_1 l0_1.length c0_1) := (kc1 BK220.out 1).trans rfl;have hfz9_0 := kf1 BK220.out 0;have hfz9_1 := kf1 BK220.out 1;have p221 : 0 ≤ (x6_1 : Int) := od_;have q221 : x6_1 < (l0_1.length : Int) := od_;obtain ⟨ad221, A221_0, c221_0, e221, hx221_0, hl221_0, hi221_0⟩ := at_L1 HR0_1.out x6_1 p221 q221;cases e221;replace hx221_0 := (HB.out.cell (World.block_lt_of_cell? w _ hx221_0)).trans hx221_0;have HR221_0 := Ai0.mk hi221_0;have HC221_0 := Ai0.mk hl221_0;clear hi221_0 hl221_0;replace p221 := eq_true p221;replace q221 := eq_true q221
       go_wp2_with (first | ((with_reducible refine gate_callee (f := 50) rfl ?_); refine goesL_ (some 20) rfl rfl Try.func50 (by kernel_rfl) rfl #[.slice A221_0 (rd_L1 l0_1 x6_1).length c221_0, .slice A1 l1.length c1] rfl (by (try simp only [List.map_toArray, List.map_cons, List.map_nil]); first | done | rfl | (simp only [List.length_drop, List.length_take]; rfl)) ?_; (with_reducible refine (crM_Odd.calls k1 _ _ (rd_L1 l0_1 x6_1) _ _ l1 true _ ?side1 ?side2 ?side3 ?side4 A6.out).mono ?_); (case side1 => exact kc_ HR221_0.out); (case side2 => exact HC221_0.out); (case side3 => exact kc_ HR1.out); (case side4 => exact HC1.out); rintro e w' ⟨rfl, ⟨nd, rfl⟩⟩; refine ⟨_, rfl, ?_⟩) | ((with_reducible refine gate_builtin (b := .append) (xs := #[.tmp 21, .tmp 23]) rfl ?_); at_builtin; refine Kd.R_append (Kd.int .i64) (w0 := w) w.heap.size rfl (.tmp 21) (.tmp 23) 25 3 (.int .i64 0) 8 rfl Try.underlying25 info3 rfl (by decide) (by omega) u5 x5_1 x6_1 [.int .i64 x6_1] (fun _ => True) (fun _ => False) rfl rfl ?aP (fun _ hk => hk.elim) ?aF ?aO ?aB ?aS ?aL ?_; (case aP => exact rfl); (case aB => exact bl_); (case aF => exact (fun _ _ => trivial)); (case aO => exact (kr_ HO_5.out)); (case aS => exact (bz1 bl_)); (case aL => have := LMc8.out; omega); intro v224 w10 ho hb hg hat; rw [← Ny223.out] at ho; have n0_ := Ai0.mk (blk_grown (g := gb220) (o := .cells #[.int .i64 a0_0, .slice (some ad221) l0_1.length c0_1] 24 (0, 0)) (kk_ BK220.out) hg (Kd.R_ne HO_5.out BK220.out (by decide))); have n1_ := Ai0.mk (hb); have n2_ := Ai0.mk (ho); clear BK220; clear HB; clear HO_5; have BK220 := n0_; have HB := n1_; have HO225 := n2_; clear n0_ n1_ n2_; clear ho hb hg hat))
       go_roundg k1
       case measure => have := HK1.out; omega
       case rel => exact ⟨(y223), (wrap64 (x6_1 + 1)), rf_, H', ⟨by have := HK1.out; omega⟩, ⟨kr_ HO225.out⟩, ⟨kk_ BK220.out⟩, ⟨bl_⟩⟩
      ·rw [if_neg c8] at H;exact absurd H (by simp)
     ·replace c7 := Bool.eq_false_iff.mpr c7;subst c7;(have H1 : (crM_Unsatisfied.l0 k1 l1 x5_1 (wrap64 (x6_1 + 1)) a0_0 l0_1) = some r := by rw [if_neg (show ¬ (false = true) by decide)] at H; exact H);clear H;have H := H1;clear H1;have H' := Ai0.mk H;clear H;have hcz11_0 : wr.cell? ⟨gb220, 0, none⟩ = some (.int .i64 a0_0) := (kc1 BK220.out 0).trans rfl;have hcz11_1 : wr.cell? ⟨gb220, 1, none⟩ = some (.slice A0_1 l0_1.length c0_1) := (kc1 BK220.out 1).trans rfl;have hfz11_0 := kf1 BK220.out 0;have hfz11_1 := kf1 BK220.out 1;have p221 : 0 ≤ (x6_1 : Int) := od_;have q221 : x6_1 < (l0_1.length : Int) := od_;obtain ⟨ad221, A221_0, c221_0, e221, hx221_0, hl221_0, hi221_0⟩ := at_L1 HR0_1.out x6_1 p221 q221;cases e221;replace hx221_0 := (HB.out.cell (World.block_lt_of_cell? w _ hx221_0)).trans hx221_0;have HR221_0 := Ai0.mk hi221_0;have HC221_0 := Ai0.mk hl221_0;clear hi221_0 hl221_0;replace p221 := eq_true p221;replace q221 := eq_true q221
      go_wp2_with (first | ((with_reducible refine gate_callee (f := 50) rfl ?_); refine goesL_ (some 20) rfl rfl Try.func50 (by kernel_rfl) rfl #[.slice A221_0 (rd_L1 l0_1 x6_1).length c221_0, .slice A1 l1.length c1] rfl (by (try simp only [List.map_toArray, List.map_cons, List.map_nil]); first | done | rfl | (simp only [List.length_drop, List.length_take]; rfl)) ?_; (with_reducible refine (crM_Odd.calls k1 _ _ (rd_L1 l0_1 x6_1) _ _ l1 false _ ?side1 ?side2 ?side3 ?side4 A6.out).mono ?_); (case side1 => exact kc_ HR221_0.out); (case side2 => exact HC221_0.out); (case side3 => exact kc_ HR1.out); (case side4 => exact HC1.out); rintro e w' ⟨rfl, ⟨nd, rfl⟩⟩; refine ⟨_, rfl, ?_⟩))
      go_roundg k1
      case measure => have := HK1.out; omega
      case rel => exact ⟨(x5_1), (wrap64 (x6_1 + 1)), rf_, H', ⟨by have := HK1.out; omega⟩, ⟨kr_ HO_5.out⟩, ⟨kk_ BK220.out⟩, ⟨bl_⟩⟩
    ·rw [if_neg c5] at H;exact absurd H (by simp)
   ·rw [if_neg c4] at H;have c4b0 : decide (x6_1 < (l0_1.length : Int)) = false := decide_eq_false c4;clear c4;obtain rfl := Option.some.inj H;have hcz12_0 : wr.cell? ⟨gb220, 0, none⟩ = some (.int .i64 a0_0) := (kc1 BK220.out 0).trans rfl;have hcz12_1 : wr.cell? ⟨gb220, 1, none⟩ = some (.slice A0_1 l0_1.length c0_1) := (kc1 BK220.out 1).trans rfl;have hfz12_0 := kf1 BK220.out 0;have hfz12_1 := kf1 BK220.out 1
    go_wp2
    go_ret
    exact ⟨_, by first | rfl | (simp [eW0, eW1] <;> rfl) | (simp [*, eW0, eW1] <;> rfl), by (with_reducible repeat (first | apply Kd.Ra1 | apply Kd.Rn1 | apply Kd.Rd1)); exact HO_5.out, bl_⟩
def crM_Two.f  : Option (Int × Int × List Int) := some (2, 1, ([] : List Int))
set_option maxHeartbeats 8000000 in
set_option maxRecDepth 100000 in
theorem crM_Two.calls  (r1 : Int) (r2 : Int) (r3 : List Int) (w : World) (h : crM_Two.f  = some (r1, r2, r3)) :
  Calls Try.prog 26 #[] w fun e w' => ∃ v2_ : Value, e = .returned (.agg #[.int .i64 r1, .int .i64 r2, v2_]) ∧ Kd.R (Kd.int .i64) 3 w' w.heap.size (fun _ => True) v2_ r3 ∧ Below w.heap.size w w' := by
 have hu44 := Try.underlying44;have HB := Ai0.mk (Below.refl w.heap.size w);have H : (some (2, 1, ([] : List Int))) = some (r1, r2, r3) := h;clear h;simp only [Option.some.injEq, Prod.mk.injEq] at H;obtain ⟨rfl, rfl, rfl⟩ := H;go_enter Try.func26, Try.ntmps26
 go_wp2_with (first | ((with_reducible refine gate_dst (N := 0) rfl ?_); refine box_event ?hg (N := 0) ?hd (cs := #[.int .i64 0, .int .i64 0, .slice none 0 0]) (t := 44) ?hr ?_; (case hd => rfl); (case hg => rfl); (case hr => first | (go_simp; done) | (go_simp; rfl)); intro gb156 hg w1 hbox hb; have n0_ := Ai0.mk (bt1 bl_ hb); have n1_ := Ai0.mk (hbox); have n2_ := Ai0.mk ((by rw [hg]; exact (bz1 bl_) : w.heap.size ≤ gb156)); have n3_ := Ai0.mk ((by rw [hg]; exact (bz1 bl_) : w.heap.size ≤ gb156)); clear HB; have HB := n0_; have BK156 := n1_; have GW156 := n2_; have GE156 := n3_; clear n0_ n1_ n2_ n3_; clear hb hbox hg; have hcz2_0 : w1.cell? ⟨gb156, 0, none⟩ = some (.int .i64 0) := (kc1 BK156.out 0).trans rfl; have hcz2_1 : w1.cell? ⟨gb156, 1, none⟩ = some (.int .i64 0) := (kc1 BK156.out 1).trans rfl; have hcz2_2 : w1.cell? ⟨gb156, 2, none⟩ = some (.slice none 0 0) := (kc1 BK156.out 2).trans rfl; have hfz2_0 := kf1 BK156.out 0; have hfz2_1 := kf1 BK156.out 1; have hfz2_2 := kf1 BK156.out 2))
 refine bodyPost_ret (results_cell_row rfl _ _ gb156 44 #[.int .i64 2, .int .i64 1, .slice none 0 0] (0, 0) _ rfl (by (with_reducible repeat (first | refine kn1 ?_ _ | refine kd1 ?_ | refine ka1 ?_ _)); refine blk_put (cs := #[.int .i64 2, .int .i64 1, .slice none 0 0]) ?_ 2 _ rfl; (with_reducible repeat (first | refine kn1 ?_ _ | refine kd1 ?_ | refine ka1 ?_ _)); refine blk_put (cs := #[.int .i64 2, .int .i64 0, .slice none 0 0]) ?_ 1 _ rfl; (with_reducible repeat (first | refine kn1 ?_ _ | refine kd1 ?_ | refine ka1 ?_ _)); refine blk_put (cs := #[.int .i64 0, .int .i64 0, .slice none 0 0]) ?_ 0 _ rfl; (with_reducible repeat (first | refine kn1 ?_ _ | refine kd1 ?_ | refine ka1 ?_ _)); exact BK156.out) Try.underlying44 rfl (by kernel_rfl)) rfl ?_;exact ⟨_, by first | rfl | (simp [eW0, eW1] <;> rfl) | (simp [*, eW0, eW1] <;> rfl), by first | exact Kd.R_nil _ _ _ _ _ | exact Kd.N_nil _ _ _ _ _ | exact Kd.V_nil _ _ _ _ _ | exact Kd.Q_nil _ _ _ _ _ | exact Kd.S_nil _ _ _ _ _, bl_⟩
def cr9_SameInts.l0 : Nat → List Int → List Int → Int → Option (Bool)
 | 0, _, _, _ => none
 | k + 1, x0, x1, x5 => if x5 < (x0.length : Int) then (if 0 ≤ x5 then (if x5 < (x1.length : Int) then (if (rd x0 x5) = (rd x1 x5) then (cr9_SameInts.l0 k x0 x1 (wrap64 (x5 + 1))) else (some false)) else (none)) else (none)) else (some true)
def cr9_SameInts.f (k : Nat) (l0 : List Int) (l1 : List Int) : Option (Bool) := if (l0.length : Int) = (l1.length : Int) then (cr9_SameInts.l0 k l0 l1 0) else (some false)
theorem cr9_SameInts.mono_l : ∀ k, (∀ y0 y1 y2, LeO (cr9_SameInts.l0 k y0 y1 y2) (cr9_SameInts.l0 (k + 1) y0 y1 y2))
 | 0 => fun _ _ _ r h => by simp [cr9_SameInts.l0] at h
 | k + 1 => by
  have ih0 := cr9_SameInts.mono_l k
  ·intro y0 y1 y2;unfold cr9_SameInts.l0
   repeat' first
   | (with_reducible exact ih0 _ _ _)
   | (with_reducible exact LeO.refl _)
   | (with_reducible exact LeO.none _)
   | (with_reducible refine LeO.ite ?_ ?_)
   | (with_reducible refine LeO.bind ?_ (fun _ => ?_))
   | exact ih0 _ _ _
   | exact LeO.none _
   | refine LeO.ite ?_ ?_
   | refine LeO.bind ?_ (fun _ => ?_)
theorem cr9_SameInts.mono : ∀ a0 a1 k, LeO (cr9_SameInts.f k a0 a1) (cr9_SameInts.f (k + 1) a0 a1) := by
 intro a0 a1 k;have ih0 := cr9_SameInts.mono_l k;unfold cr9_SameInts.f
 repeat' first
   | (with_reducible exact ih0 _ _ _)
   | (with_reducible exact LeO.refl _)
   | (with_reducible exact LeO.none _)
   | (with_reducible refine LeO.ite ?_ ?_)
   | (with_reducible refine LeO.bind ?_ (fun _ => ?_))
   | exact ih0 _ _ _
   | exact LeO.none _
   | refine LeO.ite ?_ ?_
   | refine LeO.bind ?_ (fun _ => ?_)
set_option maxHeartbeats 8000000 in
set_option maxRecDepth 100000 in
theorem cr9_SameInts.calls (k : Nat) (A0 : Option Addr) (c0 : Nat) (l0 : List Int) (A1 : Option Addr) (c1 : Nat) (l1 : List Int) (r : Bool) (w : World) (hr0 : Kd.C (Kd.int .i64) w A0 l0.length l0) (hc0 : l0.length ≤ c0) (hr1 : Kd.C (Kd.int .i64) w A1 l1.length l1) (hc1 : l1.length ≤ c1) (h : cr9_SameInts.f k l0 l1 = some r) :
  Calls Try.prog 27 #[.slice A0 l0.length c0, .slice A1 l1.length c1] w fun e w' => e = .returned (.bool r) ∧ Drawn0 w w' := by
 have HR0 := Ai0.mk hr0;have HC0 := Ai0.mk hc0;clear hr0 hc0;have HR1 := Ai0.mk hr1;have HC1 := Ai0.mk hc1;clear hr1 hc1;have H : (if (l0.length : Int) = (l1.length : Int) then (cr9_SameInts.l0 k l0 l1 0) else (some false)) = some r := h;clear h;by_cases c3 : (l0.length : Int) = (l1.length : Int)
 ·rw [if_pos c3] at H;have c3b0 : ((l0.length : Int) == (l1.length : Int)) = true := beq_iff_eq.mpr c3;have c3b1 : ((l0.length : Int) != (l1.length : Int)) = false := bne_eq_false_iff_eq.mpr c3;have c3b2 : (l0.length == l1.length) = true := by first | simpa using c3 | (simp at c3 ⊢; omega)
  clear c3;have H' := Ai0.mk H;clear H;go_enter Try.func27, Try.ntmps27
  go_wp2
  repeat (go_quiet (fail); try go_wp2)
  go_loopg [5] k (fun kq v5 w' => ∃ (x5_1 : Int), v5 = .int .i64 x5_1 ∧ Ai0 (cr9_SameInts.l0 kq l0 l1 x5_1 = some r) ∧ Ai0 (kq ≤ k) ∧ Drawn0 w w')
  case atStart => exact ⟨(0), rf_, H', ⟨Nat.le_refl _⟩, by repeat (first | exact Drawn0.refl _ | apply Drawn0.step)⟩
  case round =>
   clear H'
   try clear c1
   try clear c2
   try clear p2
   try clear c3
   try clear c3b0
   try clear c3b1
   try clear c3b2
   obtain ⟨x5_1, rfl, HA, HK1, ⟨m1, rfl⟩⟩ := hrel
   cases gk with
   | zero => exact absurd HA.out (by simp [cr9_SameInts.l0])
   | succ k1 =>
    have H := HA.out;clear HA;simp only [cr9_SameInts.l0] at H;by_cases c4 : x5_1 < (l0.length : Int)
    ·rw [if_pos c4] at H;have c4b0 : decide (x5_1 < (l0.length : Int)) = true := decide_eq_true c4;clear c4;by_cases c5 : 0 ≤ x5_1
     ·rw [if_pos c5] at H;have c5b0 : decide (0 ≤ x5_1) = true := decide_eq_true c5;clear c5;by_cases c6 : x5_1 < (l1.length : Int)
      ·rw [if_pos c6] at H;have c6b0 : decide (x5_1 < (l1.length : Int)) = true := decide_eq_true c6;clear c6;by_cases c7 : (rd l0 x5_1) = (rd l1 x5_1)
       ·rw [if_pos c7] at H;have c7b0 : ((rd l0 x5_1) == (rd l1 x5_1)) = true := beq_iff_eq.mpr c7;have c7b1 : ((rd l0 x5_1) != (rd l1 x5_1)) = false := bne_eq_false_iff_eq.mpr c7;clear c7;have H' := Ai0.mk H;clear H;have p127 : 0 ≤ (x5_1 : Int) := od_;have q127 : x5_1 < (l0.length : Int) := od_;obtain ⟨ad127, e127, hx127_0⟩ := Kd.at_int HR0.out x5_1 p127 q127;cases e127;replace p127 := eq_true p127;replace q127 := eq_true q127;have p128 : 0 ≤ (x5_1 : Int) := od_;have q128 : x5_1 < (l1.length : Int) := od_;obtain ⟨ad128, e128, hx128_0⟩ := Kd.at_int HR1.out x5_1 p128 q128;cases e128;replace p128 := eq_true p128;replace q128 := eq_true q128
        go_wp2
        repeat (go_quiet (fail); try go_wp2)
        go_roundg k1
        case measure => have := HK1.out; omega
        case rel => exact ⟨(wrap64 (x5_1 + 1)), rf_, H', ⟨by have := HK1.out; omega⟩, by repeat (first | exact Drawn0.refl _ | apply Drawn0.step)⟩
       ·rw [if_neg c7] at H;have c7b0 : ((rd l0 x5_1) == (rd l1 x5_1)) = false := beq_eq_false_iff_ne.mpr c7;have c7b1 : ((rd l0 x5_1) != (rd l1 x5_1)) = true := bne_iff_ne.mpr c7;obtain rfl := Option.some.inj H;have p127 : 0 ≤ (x5_1 : Int) := od_;have q127 : x5_1 < (l0.length : Int) := od_;obtain ⟨ad127, e127, hx127_0⟩ := Kd.at_int HR0.out x5_1 p127 q127;cases e127;replace p127 := eq_true p127;replace q127 := eq_true q127;have p128 : 0 ≤ (x5_1 : Int) := od_;have q128 : x5_1 < (l1.length : Int) := od_;obtain ⟨ad128, e128, hx128_0⟩ := Kd.at_int HR1.out x5_1 p128 q128;cases e128;replace p128 := eq_true p128;replace q128 := eq_true q128
        go_wp2
        repeat (go_quiet (fail); try go_wp2)
        go_ret
        exact ⟨by first | rfl | (simp; done) | (simp [*]; done), by repeat (first | exact Drawn0.refl _ | apply Drawn0.step)⟩
      ·rw [if_neg c6] at H;exact absurd H (by simp)
     ·rw [if_neg c5] at H;exact absurd H (by simp)
    ·rw [if_neg c4] at H;have c4b0 : decide (x5_1 < (l0.length : Int)) = false := decide_eq_false c4;clear c4;obtain rfl := Option.some.inj H
     go_wp2
     repeat (go_quiet (fail); try go_wp2)
     go_ret
     exact ⟨by first | rfl | (simp; done) | (simp [*]; done), by repeat (first | exact Drawn0.refl _ | apply Drawn0.step)⟩
 ·rw [if_neg c3] at H;have c3b0 : ((l0.length : Int) == (l1.length : Int)) = false := beq_eq_false_iff_ne.mpr c3;have c3b1 : ((l0.length : Int) != (l1.length : Int)) = true := bne_iff_ne.mpr c3;have c3b2 : (l0.length == l1.length) = false := by first | simpa using c3 | (simp at c3 ⊢; omega)
  obtain rfl := Option.some.inj H;go_enter Try.func27, Try.ntmps27
  go_wp2
  repeat (go_quiet (fail); try go_wp2)
  go_ret
  exact ⟨by first | rfl | (simp; done) | (simp [*]; done), by repeat (first | exact Drawn0.refl _ | apply Drawn0.step)⟩
end Go.Proofs.Ytmclalniilkjiaa.Q
/- What the printed odd, Unsatisfied and the document's Odd, Unsatisfied, Word compute. Condition: Check finds no fault, the word has one bit for each column. -/
namespace Go.Proofs.Ytmclalniilkjiaa.Un
open Go.RowKit Go.Proofs.Ytmclalniilkjiaa.Q Go.Proofs.YtmclalniilkjiaaW.PrintWords Go.Proofs.YtmclalniilkjiaaW.PrintLast Go.Proofs.Ytmclalniilkjiaa.Ba Go.Proofs.Ytmclalniilkjiaa.Ck Go.Proofs.Ytmclalniilkjiaa.Gr

theorem same_self (a : List Int) (ha : a.length ≤ 4611686018427387904) : Ev (fun k => cr9_SameInts.f k a a) true := by
 have loop : ∀ d i : Nat, i + d = a.length → Ev (fun k => cr9_SameInts.l0 k a a (i : Int)) true := by
  intro d
  induction d with
  | zero => exact fun i h => Ev.step (f := fun _ => some true) (fun k => by simp only [cr9_SameInts.l0]; rw [if_neg (by omega)]) (Ev.now _)
  | succ d ih =>
   intro i h
   refine Ev.step (fun k => ?_) (ih (i + 1) (by omega))
   simp only [cr9_SameInts.l0]
   rw [if_pos (by omega), if_pos (by omega), if_pos (by omega), if_pos True.intro, w64_id (by omega) (by omega)]
   rfl
 exact Ev.congr (fun k => by unfold cr9_SameInts.f; rw [if_pos rfl]; rfl) (loop a.length 0 (by omega))

/-- The number of positions of check j at which the word has 1. -/
def par (rows : List (List Int)) (w : List Int) (C j : Nat) : Int := sumTo (fun i => if bit rows j i = true then rd w (i : Int) else 0) C
def od (rows : List (List Int)) (w : List Int) (C j : Nat) : Bool := Int.tmod (par rows w C j) 2 == 1
def uns (rows : List (List Int)) (w : List Int) (C n : Nat) : List Int := PG (fun j => (j : Int)) (od rows w C) n
theorem odd_l0 {w : List Int} (hw : okb w = true) (l : List Int) (hl : l.length ≤ 256) (hin : ∀ t, t < l.length → 0 ≤ rd l (t : Int) ∧ rd l (t : Int) < (w.length : Int)) : ∀ d i : Nat, i + d = l.length →
  Ev (fun k => message_odd.l0 k w (sumTo (fun t => rd w (rd l (t : Int))) i) l (l.length : Int) (i : Int)) (Int.tmod (sumTo (fun t => rd w (rd l (t : Int))) l.length) 2 == 1)
 | 0, i, h => by
  obtain rfl : i = l.length := by omega
  refine Ev.step (f := fun _ => some _) (fun k => ?_) (Ev.now _)
  simp only [message_odd.l0]
  rw [if_neg (by omega)]
 | d + 1, i, h => by
  have ih := odd_l0 hw l hl hin d (i + 1) (by omega)
  have h1 := hin i (by omega)
  have hb : ∀ t, 0 ≤ rd w (rd l (t : Int)) ∧ rd w (rd l (t : Int)) ≤ 1 := by
   intro t
   by_cases ht : 0 ≤ rd l (t : Int)
   ·obtain ⟨m, hm⟩ := Int.eq_ofNat_of_zero_le ht
    rw [hm]
    rcases okb_at hw m with h | h
    ·show 0 ≤ rd w ((m : Nat) : Int) ∧ _; rw [h]; omega
    ·show 0 ≤ rd w ((m : Nat) : Int) ∧ _; rw [h]; omega
   ·have e : rd w (rd l (t : Int)) = rd w ((0 : Nat) : Int) := by
     show w.getD (rd l (t : Int)).toNat 0 = w.getD ((0 : Nat) : Int).toNat 0
     rw [Int.toNat_of_nonpos (by omega : rd l (t : Int) ≤ 0)]; rfl
    rw [e]
    rcases okb_at hw 0 with h | h
    ·rw [h]; omega
    ·rw [h]; omega
  have h2 := sumTo_01 (fun t => rd w (rd l (t : Int))) i (fun t _ => hb t)
  have h3 := hb i
  refine Ev.step (fun k => ?_) ih
  simp only [message_odd.l0]
  rw [if_pos (by omega), if_pos (by omega), if_pos (by omega), if_pos h1.1, if_pos h1.2, w64_id (n := (i : Int) + 1) (by omega) (by omega), w64_id (by omega) (by omega)]
  rfl
theorem one_in (rows : List (List Int)) (j C : Nat) (t : Nat) (h : t < (one rows j C).length) : 0 ≤ rd (one rows j C) (t : Int) ∧ rd (one rows j C) (t : Int) < (C : Int) := by
 obtain ⟨i, h1, _, h3⟩ := PG_mem _ _ _ _ (getD_mem (one rows j C) 0 t h)
 rw [rd_nat, h3]
 omega
theorem odd_ev (rows : List (List Int)) {w : List Int} (hw : okb w = true) (C j : Nat) (hC : C ≤ 256) (hlen : w.length = C) : Ev (fun k => message_odd.f k (one rows j C) w) (od rows w C j) := by
 have h := odd_l0 hw (one rows j C) (Nat.le_trans (one_le rows j C) hC) (fun t ht => by have := one_in rows j C t ht; omega) (one rows j C).length 0 (by omega)
 have e : sumTo (fun t => rd w (rd (one rows j C) (t : Int))) (one rows j C).length = par rows w C j := by
  have := sum_PG (fun x => rd w x) 0 (fun i => (i : Int)) (bit rows j) C
  rw [show par rows w C j = sumTo (fun i => if bit rows j i = true then rd w (i : Int) else 0) C from rfl, ← this]
  exact sumTo_congr _ _ _ (fun t _ => by rw [rd_nat]; rfl)
 rw [e] at h
 exact h
theorem rodd_l0 {w row : List Int} (hw : okb w = true) (hrow : okb row = true) (hn : row.length ≤ 256) (hlen : w.length = row.length) : ∀ d i : Nat, i + d = row.length →
  Ev (fun k => crM_Odd.l0 k row w (sumTo (fun t => rd row (t : Int) * rd w (t : Int)) i) (i : Int)) (Int.tmod (sumTo (fun t => rd row (t : Int) * rd w (t : Int)) row.length) 2 == 1)
 | 0, i, h => by
  obtain rfl : i = row.length := by omega
  refine Ev.step (f := fun _ => some _) (fun k => ?_) (Ev.now _)
  simp only [crM_Odd.l0]
  rw [if_neg (by omega)]
 | d + 1, i, h => by
  have ih := rodd_l0 hw hrow hn hlen d (i + 1) (by omega)
  have hb : ∀ t : Nat, 0 ≤ rd row (t : Int) * rd w (t : Int) ∧ rd row (t : Int) * rd w (t : Int) ≤ 1 := by
   intro t
   rcases okb_at hrow t with h | h <;> rcases okb_at hw t with h' | h' <;> rw [h, h'] <;> omega
  have h2 := sumTo_01 (fun t => rd row (t : Int) * rd w (t : Int)) i (fun t _ => hb t)
  have h3 := hb i
  refine Ev.step (fun k => ?_) ih
  simp only [crM_Odd.l0]
  rw [if_pos (by omega), if_pos (by omega), if_pos (by omega), w64_id (n := (i : Int) + 1) (by omega) (by omega), w64_id (n := rd row (i : Int) * rd w (i : Int)) (by omega) (by omega), w64_id (by omega) (by omega)]
  rfl
theorem rodd_ev (rows : List (List Int)) {w : List Int} (hw : okb w = true) (C j : Nat) (hC : C ≤ 256) (hlen : w.length = C) (hrow : okb (rows.getD j []) = true) (hrl : (rows.getD j []).length = C) :
  Ev (fun k => crM_Odd.f k (rows.getD j []) w) (od rows w C j) := by
 have h := rodd_l0 hw hrow (by omega) (by omega) (rows.getD j []).length 0 (by omega)
 have e : sumTo (fun t => rd (rows.getD j []) (t : Int) * rd w (t : Int)) (rows.getD j []).length = par rows w C j := by
  rw [hrl]
  refine sumTo_congr _ _ _ (fun t _ => ?_)
  rcases okb_at hrow t with h | h
  ·rw [h, if_neg (by unfold bit; rw [h]; decide)]; omega
  ·rw [h, if_pos (by unfold bit; rw [h]; rfl)]; omega
 rw [e] at h
 exact h
theorem uns_le (rows : List (List Int)) (w : List Int) (C n : Nat) : (uns rows w C n).length ≤ n := PG_le _ _ n
theorem checks_at (rows : List (List Int)) (C n j : Nat) (h : j < n) : rd_L1 (checks rows C n) (j : Int) = one rows j C := by rw [rd_L1_nat]; exact LL_at _ _ _ _ h
section
variable (rows : List (List Int)) {w : List Int} (hw : okb w = true) (C : Nat) (hC : C ≤ 256) (hlen : w.length = C) (hr : rows.length ≤ 256)
include hw hC hlen hr
theorem unsat_l0 : ∀ d j : Nat, j + d = rows.length → Ev (fun k => mg_unsatisfied.l0 k w (uns rows w C j) (checks rows C rows.length) (rows.length : Int) (j : Int)) (uns rows w C rows.length)
 | 0, j, h => by
  obtain rfl : j = rows.length := by omega
  refine Ev.step (f := fun _ => some _) (fun k => ?_) (Ev.now _)
  simp only [mg_unsatisfied.l0]
  rw [if_neg (by omega)]
 | d + 1, j, h => by
  have ih := unsat_l0 d (j + 1) (by omega)
  have hcl : (checks rows C rows.length).length = rows.length := LL_length _ _
  have hu := uns_le rows w C j
  refine Ev.step (f := fun k => (message_odd.f k (one rows j C) w).bind fun t => if t = true then (if (uns rows w C j).length < 17592186044416 then mg_unsatisfied.l0 k w (uns rows w C j ++ [(j : Int)]) (checks rows C rows.length) (rows.length : Int) (wrap64 ((j : Int) + 1)) else none) else mg_unsatisfied.l0 k w (uns rows w C j) (checks rows C rows.length) (rows.length : Int) (wrap64 ((j : Int) + 1))) (fun k => ?_) ?_
  ·simp only [mg_unsatisfied.l0]
   rw [if_pos (by omega), if_pos (by omega), if_pos (by omega), checks_at _ _ _ _ (by omega)]
  refine (odd_ev rows hw C j hC hlen).bind ?_
  rw [w64_id (by omega) (by omega)]
  by_cases ho : od rows w C j = true
  ·refine Ev.congr (fun k => if_pos ho) (Ev.congr (fun k => if_pos (by omega)) ?_)
   have e : uns rows w C (j + 1) = uns rows w C j ++ [(j : Int)] := by show (if od rows w C j = true then _ else _) = _; rw [if_pos ho]; rfl
   rw [← e]; exact ih
  ·refine Ev.congr (fun k => if_neg ho) ?_
   have e : uns rows w C (j + 1) = uns rows w C j := by show (if od rows w C j = true then _ else _) = _; rw [if_neg ho]; rfl
   rw [← e]; exact ih
theorem unsat_ev (ats : List (List S77)) : Ev (fun k => mg_unsatisfied.f k (checks rows C rows.length) ats w) (uns rows w C rows.length) := by
 have h := unsat_l0 rows hw C hC hlen hr rows.length 0 (by omega)
 have hcl : (checks rows C rows.length).length = rows.length := LL_length _ _
 refine Ev.congr (fun k => ?_) h
 unfold mg_unsatisfied.f
 rw [hcl]; rfl
theorem runsat_l0 (c : Int) (hrow : ∀ j, j < rows.length → okb (rows.getD j []) = true) (hrl : ∀ j, j < rows.length → (rows.getD j []).length = C) : ∀ d j : Nat, j + d = rows.length →
  Ev (fun k => crM_Unsatisfied.l0 k w (uns rows w C j) (j : Int) c rows) (uns rows w C rows.length)
 | 0, j, h => by
  obtain rfl : j = rows.length := by omega
  refine Ev.step (f := fun _ => some _) (fun k => ?_) (Ev.now _)
  simp only [crM_Unsatisfied.l0]
  rw [if_neg (by omega)]
 | d + 1, j, h => by
  have ih := runsat_l0 c hrow hrl d (j + 1) (by omega)
  have hu := uns_le rows w C j
  refine Ev.step (f := fun k => (crM_Odd.f k (rows.getD j []) w).bind fun t => if t = true then (if (uns rows w C j).length < 17592186044416 then crM_Unsatisfied.l0 k w (uns rows w C j ++ [(j : Int)]) (wrap64 ((j : Int) + 1)) c rows else none) else crM_Unsatisfied.l0 k w (uns rows w C j) (wrap64 ((j : Int) + 1)) c rows) (fun k => ?_) ?_
  ·simp only [crM_Unsatisfied.l0, rd_L1_nat]
   rw [if_pos (by omega), if_pos (by omega)]
  refine (rodd_ev rows hw C j hC hlen (hrow j (by omega)) (hrl j (by omega))).bind ?_
  rw [w64_id (by omega) (by omega)]
  by_cases ho : od rows w C j = true
  ·refine Ev.congr (fun k => if_pos ho) (Ev.congr (fun k => if_pos (by omega)) ?_)
   have e : uns rows w C (j + 1) = uns rows w C j ++ [(j : Int)] := by show (if od rows w C j = true then _ else _) = _; rw [if_pos ho]; rfl
   rw [← e]; exact ih
  ·refine Ev.congr (fun k => if_neg ho) ?_
   have e : uns rows w C (j + 1) = uns rows w C j := by show (if od rows w C j = true then _ else _) = _; rw [if_neg ho]; rfl
   rw [← e]; exact ih
theorem runsat_ev (c : Int) (hrow : ∀ j, j < rows.length → okb (rows.getD j []) = true) (hrl : ∀ j, j < rows.length → (rows.getD j []).length = C) : Ev (fun k => crM_Unsatisfied.f k c rows w) (uns rows w C rows.length) :=
 runsat_l0 rows hw C hC hlen hr c hrow hrl rows.length 0 (by omega)
end
/-- What a matrix and a word without fault look like. -/
structure Ok (c : Int) (rows : List (List Int)) (w : List Int) (C : Nat) : Prop where
 k : chk c rows = 0
 c : c = (C : Int)
 hC : C ≤ 256
 hr : rows.length ≤ 256
 hrl : ∀ j, j < rows.length → (rows.getD j []).length = C
 hrow : ∀ j, j < rows.length → okb (rows.getD j []) = true
 hlen : w.length = C
 hw : okb w = true
theorem rUnsat_ok {c : Int} {rows : List (List Int)} {w : List Int} {C : Nat} (h : Ok c rows w C) : Ev (fun k => crM_Unsatisfied.f k c rows w) (uns rows w C rows.length) :=
 runsat_ev rows h.hw C h.hC h.hlen h.hr c h.hrow h.hrl
end Go.Proofs.Ytmclalniilkjiaa.Un
/- What the printed Flip and the document's Next, Flip compute: the same changes. Condition: the matrix and the word have no fault. -/
namespace Go.Proofs.Ytmclalniilkjiaa.Fl
open Go.RowKit Go.Proofs.Ytmclalniilkjiaa.Q Go.Proofs.YtmclalniilkjiaaW.PrintWords Go.Proofs.YtmclalniilkjiaaW.PrintLast Go.Proofs.Ytmclalniilkjiaa.Ba Go.Proofs.Ytmclalniilkjiaa.Ck Go.Proofs.Ytmclalniilkjiaa.Gr Go.Proofs.Ytmclalniilkjiaa.Un

theorem PG_succ {α : Type} {e : Nat → α} {p : Nat → Bool} {m : Nat} (h : p m = true) : PG e p (m + 1) = PG e p m ++ [e m] := if_pos h
theorem PG_skip {α : Type} {e : Nat → α} {p : Nat → Bool} {m : Nat} (h : ¬ p m = true) : PG e p (m + 1) = PG e p m := if_neg h
theorem PG_lt {α : Type} (e : Nat → α) (p : Nat → Bool) (m : Nat) (h : p m = true) : ∀ n, m < n → (PG e p m).length < (PG e p n).length
 | 0, hn => by omega
 | n + 1, hn => by
  by_cases e1 : m = n
  ·subst e1; rw [PG_succ h, List.length_append, List.length_singleton]; omega
  ·have := PG_lt e p m h n (by omega)
   by_cases h2 : p n = true
   ·rw [PG_succ h2, List.length_append, List.length_singleton]; omega
   ·rw [PG_skip h2]; exact this
theorem PG_at {α : Type} (d : α) (e : Nat → α) (p : Nat → Bool) (m : Nat) (h : p m = true) : ∀ n, m < n → (PG e p n).getD (PG e p m).length d = e m
 | 0, hn => by omega
 | n + 1, hn => by
  by_cases e1 : m = n
  ·subst e1
   rw [PG_succ h, List.getD_eq_getElem?_getD, List.getElem?_append_right (Nat.le_refl _)]; simp
  ·have ih := PG_at d e p m h n (by omega)
   have hl := PG_lt e p m h n (by omega)
   by_cases h2 : p n = true
   ·rw [PG_succ h2, List.getD_eq_getElem?_getD, List.getElem?_append_left hl, ← List.getD_eq_getElem?_getD]; exact ih
   ·rw [PG_skip h2]; exact ih
section
variable (rows : List (List Int)) (w : List Int) (C : Nat) (hC : C ≤ 256) (hr : rows.length ≤ 256)
include hC hr
end
section
variable {c : Int} {rows : List (List Int)} {C : Nat}
end
end Go.Proofs.Ytmclalniilkjiaa.Fl
namespace Go.Proofs.Ytmclalniilkjiaa.Q
open Go.RowKit Go.Proofs.YtmclalniilkjiaaW.PrintWords Go.Proofs.YtmclalniilkjiaaW.PrintLast Go.Proofs.YtmclalniilkjiaaW.PrintMore
open List renaming setIfInBounds_toArray → l01_, set_cons_zero → l02_, set_cons_succ → l03_
attribute [local go_sem] max2_int min2_int max_two min_two max_three min_three max_four min_four
set_option linter.unusedVariables false
set_option linter.unusedSimpArgs false
def mg_sum.l0 : Nat → List (List Int) → Int → Int → List (S77) → Int → Int → Option (Int)
 | 0, _, _, _, _, _, _ => none
 | k + 1, x2, x4, x11, x25, x26, x27 => if x27 < x26 then (if 0 ≤ x27 then (if x27 < (x25.length : Int) then (if ((rd_T77 x25 x27).f0) = x4 then (mg_sum.l0 k x2 x4 x11 x25 x26 (wrap64 (x27 + 1))) else (if 0 ≤ ((rd_T77 x25 x27).f0) then (if ((rd_T77 x25 x27).f0) < (x2.length : Int) then (if 0 ≤ ((rd_T77 x25 x27).f1) then (if ((rd_T77 x25 x27).f1) < ((rd_L1 x2 ((rd_T77 x25 x27).f0)).length : Int) then (if (rd (rd_L1 x2 ((rd_T77 x25 x27).f0)) ((rd_T77 x25 x27).f1)) = 1099511627776 then (some 1099511627776) else (mg_sum.l0 k x2 x4 (wrap64 (x11 + (rd (rd_L1 x2 ((rd_T77 x25 x27).f0)) ((rd_T77 x25 x27).f1)))) x25 x26 (wrap64 (x27 + 1)))) else (none)) else (none)) else (none)) else (none))) else (none)) else (none)) else (some (mx (mn x11 1099511627775) (-1099511627775)))
def mg_sum.f (k : Nat) (l0_0 : List (List Int)) (l0_1 : List (List (S77))) (l1 : List Int) (l2 : List (List Int)) (a3 : Int) (a4 : Int) : Option (Int) := if 0 ≤ a3 then (if a3 < (l1.length : Int) then (if a3 < (l0_1.length : Int) then (mg_sum.l0 k l2 a4 (rd l1 a3) (rd_L9 l0_1 a3) ((rd_L9 l0_1 a3).length : Int) 0) else (none)) else (none)) else (none)
theorem mg_sum.mono_l : ∀ k, (∀ y0 y1 y2 y3 y4 y5, LeO (mg_sum.l0 k y0 y1 y2 y3 y4 y5) (mg_sum.l0 (k + 1) y0 y1 y2 y3 y4 y5))
 | 0 => fun _ _ _ _ _ _ r h => by simp [mg_sum.l0] at h
 | k + 1 => by
  have ih0 := mg_sum.mono_l k
  ·intro y0 y1 y2 y3 y4 y5;unfold mg_sum.l0
   repeat' first
   | (with_reducible exact ih0 _ _ _ _ _ _)
   | (with_reducible exact LeO.refl _)
   | (with_reducible exact LeO.none _)
   | (with_reducible refine LeO.ite ?_ ?_)
   | (with_reducible refine LeO.bind ?_ (fun _ => ?_))
   | exact ih0 _ _ _ _ _ _
   | exact LeO.none _
   | refine LeO.ite ?_ ?_
   | refine LeO.bind ?_ (fun _ => ?_)
theorem mg_sum.mono : ∀ a0 a1 a2 a3 a4 a5 k, LeO (mg_sum.f k a0 a1 a2 a3 a4 a5) (mg_sum.f (k + 1) a0 a1 a2 a3 a4 a5) := by
 intro a0 a1 a2 a3 a4 a5 k;have ih0 := mg_sum.mono_l k;unfold mg_sum.f
 repeat' first
   | (with_reducible exact ih0 _ _ _ _ _ _)
   | (with_reducible exact LeO.refl _)
   | (with_reducible exact LeO.none _)
   | (with_reducible refine LeO.ite ?_ ?_)
   | (with_reducible refine LeO.bind ?_ (fun _ => ?_))
   | exact ih0 _ _ _ _ _ _
   | exact LeO.none _
   | refine LeO.ite ?_ ?_
   | refine LeO.bind ?_ (fun _ => ?_)
set_option maxHeartbeats 8000000 in
set_option maxRecDepth 100000 in
theorem mg_sum.calls (k : Nat) (A0_0 : Option Addr) (c0_0 : Nat) (l0_0 : List (List Int)) (A0_1 : Option Addr) (c0_1 : Nat) (l0_1 : List (List (S77))) (A1 : Option Addr) (c1 : Nat) (l1 : List Int) (A2 : Option Addr) (c2 : Nat) (l2 : List (List Int)) (a3 : Int) (a4 : Int) (r : Int) (gG : Nat) (w : World) (hr0_0 : Kd.C (Kd.slice 3 (Kd.int .i64)) w A0_0 l0_0.length l0_0) (hc0_0 : l0_0.length ≤ c0_0) (hr0_1 : Kd.C (Kd.slice 77 k77) w A0_1 l0_1.length l0_1) (hc0_1 : l0_1.length ≤ c0_1) (hr1 : Kd.C (Kd.int .i64) w A1 l1.length l1) (hc1 : l1.length ≤ c1) (hr2 : Kd.C (Kd.slice 3 (Kd.int .i64)) w A2 l2.length l2) (hc2 : l2.length ≤ c2) (hG : w.heap[gG]? = some (.cells #[.slice A0_0 l0_0.length c0_0, .slice A0_1 l0_1.length c0_1] 73 (0, 0))) (h : mg_sum.f k l0_0 l0_1 l1 l2 a3 a4 = some r) :
  Calls Try.prog 69 #[.pointer (some ⟨gG, 0, none⟩), .slice A1 l1.length c1, .slice A2 l2.length c2, .int .i64 a3, .int .i64 a4] w fun e w' => e = .returned (.int .i64 r) ∧ Below w.heap.size w w' := by
 have hu73 := Try.underlying73;have hu77 := Try.underlying77;have HR0_0 := Ai0.mk hr0_0;have HC0_0 := Ai0.mk hc0_0;clear hr0_0 hc0_0;have HR0_1 := Ai0.mk hr0_1;have HC0_1 := Ai0.mk hc0_1;clear hr0_1 hc0_1;have HR1 := Ai0.mk hr1;have HC1 := Ai0.mk hc1;clear hr1 hc1;have HR2 := Ai0.mk hr2;have HC2 := Ai0.mk hc2;clear hr2 hc2;have HB := Ai0.mk (Below.refl w.heap.size w);have H : (if 0 ≤ a3 then (if a3 < (l1.length : Int) then (if a3 < (l0_1.length : Int) then (mg_sum.l0 k l2 a4 (rd l1 a3) (rd_L9 l0_1 a3) ((rd_L9 l0_1 a3).length : Int) 0) else (none)) else (none)) else (none)) = some r := h;clear h;by_cases c6 : 0 ≤ a3
 ·rw [if_pos c6] at H;have c6b0 : decide (0 ≤ a3) = true := decide_eq_true c6;clear c6;by_cases c7 : a3 < (l1.length : Int)
  ·rw [if_pos c7] at H;have c7b0 : decide (a3 < (l1.length : Int)) = true := decide_eq_true c7;clear c7;by_cases c8 : a3 < (l0_1.length : Int)
   ·rw [if_pos c8] at H;have c8b0 : decide (a3 < (l0_1.length : Int)) = true := decide_eq_true c8;clear c8;have H' := Ai0.mk H;clear H;have BK395 := Ai0.mk hG;have p396 : 0 ≤ (a3 : Int) := od_;have q396 : a3 < (l1.length : Int) := od_;obtain ⟨ad396, e396, hx396_0⟩ := Kd.at_int HR1.out a3 p396 q396;cases e396;replace hx396_0 := (HB.out.cell (World.block_lt_of_cell? w _ hx396_0)).trans hx396_0;replace p396 := eq_true p396;replace q396 := eq_true q396;have hcz10_0 : w.cell? ⟨gG, 0, none⟩ = some (.slice A0_0 l0_0.length c0_0) := (kc1 BK395.out 0).trans rfl;have hcz10_1 : w.cell? ⟨gG, 1, none⟩ = some (.slice A0_1 l0_1.length c0_1) := (kc1 BK395.out 1).trans rfl;have hfz10_0 := kf1 BK395.out 0;have hfz10_1 := kf1 BK395.out 1;have p397 : 0 ≤ (a3 : Int) := od_;have q397 : a3 < (l0_1.length : Int) := od_;obtain ⟨ad397, A397_0, c397_0, e397, hx397_0, hl397_0, hi397_0⟩ := at_L9 HR0_1.out a3 p397 q397;cases e397;replace hx397_0 := (HB.out.cell (World.block_lt_of_cell? w _ hx397_0)).trans hx397_0;have HR397_0 := Ai0.mk hi397_0;have HC397_0 := Ai0.mk hl397_0;clear hi397_0 hl397_0;replace p397 := eq_true p397;replace q397 := eq_true q397;go_enter Try.func69, Try.ntmps69
    go_wp2
    go_loopg [11, 27] k (fun kq v11 v27 w' => ∃ (x11_1 : Int) (x27_1 : Int), v11 = .int .i64 x11_1 ∧ v27 = .int .i64 x27_1 ∧ Ai0 (mg_sum.l0 kq l2 a4 x11_1 (rd_L9 l0_1 a3) ((rd_L9 l0_1 a3).length : Int) x27_1 = some r) ∧ Ai0 (kq ≤ k) ∧ Ai0 (w'.heap[gG]? = some (.cells #[(.slice A0_0 l0_0.length c0_0), (.slice (some ad397) l0_1.length c0_1)] 73 (0, 0))) ∧ Ai0 (Below w.heap.size w w'))
    case atStart => exact ⟨(rd l1 a3), (0), rf_, rf_, H', ⟨Nat.le_refl _⟩, ⟨kk_ BK395.out⟩, ⟨bl_⟩⟩
    case round =>
     clear H'
     try clear c1
     try clear c2
     try clear p2
     try clear c3
     try clear p3
     try clear q3
     try clear hx3
     try clear c6
     try clear c6b0
     try clear c7
     try clear c7b0
     try clear c8
     try clear c8b0
     try clear hcz10_0
     try clear hcz10_1
     try clear hfz10_0
     try clear hfz10_1
     try clear hx396_0
     try clear hx397_0
     try clear p396
     try clear p397
     try clear q396
     try clear q397
     obtain ⟨x11_1, x27_1, rfl, rfl, HA, HK1, BK395, HB⟩ := hrel
     cases gk with
     | zero => exact absurd HA.out (by simp [mg_sum.l0])
     | succ k1 =>
      have H := HA.out;clear HA;simp only [mg_sum.l0] at H;by_cases c11 : x27_1 < ((rd_L9 l0_1 a3).length : Int)
      ·rw [if_pos c11] at H;have c11b0 : decide (x27_1 < ((rd_L9 l0_1 a3).length : Int)) = true := decide_eq_true c11;clear c11;by_cases c12 : 0 ≤ x27_1
       ·rw [if_pos c12] at H;have c12b0 : decide (0 ≤ x27_1) = true := decide_eq_true c12;clear c12;by_cases c13 : x27_1 < ((rd_L9 l0_1 a3).length : Int)
        ·rw [if_pos c13] at H;have c13b0 : decide (x27_1 < ((rd_L9 l0_1 a3).length : Int)) = true := decide_eq_true c13;clear c13;by_cases c14 : ((rd_T77 (rd_L9 l0_1 a3) x27_1).f0) = a4
         ·rw [if_pos c14] at H;have c14b0 : (((rd_T77 (rd_L9 l0_1 a3) x27_1).f0) == a4) = true := beq_iff_eq.mpr c14;have c14b1 : (((rd_T77 (rd_L9 l0_1 a3) x27_1).f0) != a4) = false := bne_eq_false_iff_eq.mpr c14;clear c14;have H' := Ai0.mk H;clear H;have p398 : 0 ≤ (x27_1 : Int) := od_;have q398 : x27_1 < ((rd_L9 l0_1 a3).length : Int) := od_;obtain ⟨ad398, e398, hx398_0, hx398_1⟩ := at_T77 HR397_0.out x27_1 p398 q398;cases e398;replace hx398_0 := (HB.out.cell (World.block_lt_of_cell? w _ hx398_0)).trans hx398_0;replace hx398_1 := (HB.out.cell (World.block_lt_of_cell? w _ hx398_1)).trans hx398_1;replace p398 := eq_true p398;replace q398 := eq_true q398
          go_wp2_with (first | ((with_reducible refine gate_dst (N := 13) rfl ?_); refine box_event ?hg (N := 13) ?hd (cs := #[.int .i64 0, .int .i64 0]) (t := 77) ?hr ?_; (case hd => rfl); (case hg => rfl); (case hr => first | (go_simp; done) | (go_simp; rfl)); intro gb399 hg w15 hbox hb; have n0_ := Ai0.mk (kb1 (g := gG) (o := .cells #[.slice A0_0 l0_0.length c0_0, .slice (some ad397) l0_1.length c0_1] 73 (0, 0)) (kk_ BK395.out) hb); have n1_ := Ai0.mk (bt1 bl_ hb); have n2_ := Ai0.mk (hbox); have n3_ := Ai0.mk ((by rw [hg]; exact (bz1 bl_) : w.heap.size ≤ gb399)); have n4_ := Ai0.mk ((by rw [hg]; exact (bz1 bl_) : w.heap.size ≤ gb399)); have n5_ := Ai0.mk ((by rw [hg]; exact Nat.ne_of_lt (blk_lt (g := gG) (o := .cells #[.slice A0_0 l0_0.length c0_0, .slice (some ad397) l0_1.length c0_1] 73 (0, 0)) (kk_ BK395.out)) : gG ≠ gb399)); have n6_ := Ai0.mk ((by rw [hg]; exact Nat.ne_of_gt (blk_lt (g := gG) (o := .cells #[.slice A0_0 l0_0.length c0_0, .slice (some ad397) l0_1.length c0_1] 73 (0, 0)) (kk_ BK395.out)) : gb399 ≠ gG)); clear BK395; clear HB; have BK395 := n0_; have HB := n1_; have BK399 := n2_; have GW399 := n3_; have GE399 := n4_; have NB395_399 := n5_; have NB399_395 := n6_; clear n0_ n1_ n2_ n3_ n4_ n5_ n6_; clear hb hbox hg; have hnb16 := NB399_395.out; have hnc16 := NB395_399.out; have hcz17_0 : w15.cell? ⟨gb399, 0, none⟩ = some (.int .i64 0) := (kc1 BK399.out 0).trans rfl; have hcz17_1 : w15.cell? ⟨gb399, 1, none⟩ = some (.int .i64 0) := (kc1 BK399.out 1).trans rfl; have hfz17_0 := kf1 BK399.out 0; have hfz17_1 := kf1 BK399.out 1))
          repeat (go_quiet (first | ((with_reducible refine gate_dst (N := 13) rfl ?_); refine box_event ?hg (N := 13) ?hd (cs := #[.int .i64 0, .int .i64 0]) (t := 77) ?hr ?_; (case hd => rfl); (case hg => rfl); (case hr => first | (go_simp; done) | (go_simp; rfl)); intro gb399 hg w15 hbox hb; have n0_ := Ai0.mk (kb1 (g := gG) (o := .cells #[.slice A0_0 l0_0.length c0_0, .slice (some ad397) l0_1.length c0_1] 73 (0, 0)) (kk_ BK395.out) hb); have n1_ := Ai0.mk (bt1 bl_ hb); have n2_ := Ai0.mk (hbox); have n3_ := Ai0.mk ((by rw [hg]; exact (bz1 bl_) : w.heap.size ≤ gb399)); have n4_ := Ai0.mk ((by rw [hg]; exact (bz1 bl_) : w.heap.size ≤ gb399)); have n5_ := Ai0.mk ((by rw [hg]; exact Nat.ne_of_lt (blk_lt (g := gG) (o := .cells #[.slice A0_0 l0_0.length c0_0, .slice (some ad397) l0_1.length c0_1] 73 (0, 0)) (kk_ BK395.out)) : gG ≠ gb399)); have n6_ := Ai0.mk ((by rw [hg]; exact Nat.ne_of_gt (blk_lt (g := gG) (o := .cells #[.slice A0_0 l0_0.length c0_0, .slice (some ad397) l0_1.length c0_1] 73 (0, 0)) (kk_ BK395.out)) : gb399 ≠ gG)); clear BK395; clear HB; have BK395 := n0_; have HB := n1_; have BK399 := n2_; have GW399 := n3_; have GE399 := n4_; have NB395_399 := n5_; have NB399_395 := n6_; clear n0_ n1_ n2_ n3_ n4_ n5_ n6_; clear hb hbox hg; have hnb16 := NB399_395.out; have hnc16 := NB395_399.out; have hcz17_0 : w15.cell? ⟨gb399, 0, none⟩ = some (.int .i64 0) := (kc1 BK399.out 0).trans rfl; have hcz17_1 : w15.cell? ⟨gb399, 1, none⟩ = some (.int .i64 0) := (kc1 BK399.out 1).trans rfl; have hfz17_0 := kf1 BK399.out 0; have hfz17_1 := kf1 BK399.out 1)); try go_wp2_with (first | ((with_reducible refine gate_dst (N := 13) rfl ?_); refine box_event ?hg (N := 13) ?hd (cs := #[.int .i64 0, .int .i64 0]) (t := 77) ?hr ?_; (case hd => rfl); (case hg => rfl); (case hr => first | (go_simp; done) | (go_simp; rfl)); intro gb399 hg w15 hbox hb; have n0_ := Ai0.mk (kb1 (g := gG) (o := .cells #[.slice A0_0 l0_0.length c0_0, .slice (some ad397) l0_1.length c0_1] 73 (0, 0)) (kk_ BK395.out) hb); have n1_ := Ai0.mk (bt1 bl_ hb); have n2_ := Ai0.mk (hbox); have n3_ := Ai0.mk ((by rw [hg]; exact (bz1 bl_) : w.heap.size ≤ gb399)); have n4_ := Ai0.mk ((by rw [hg]; exact (bz1 bl_) : w.heap.size ≤ gb399)); have n5_ := Ai0.mk ((by rw [hg]; exact Nat.ne_of_lt (blk_lt (g := gG) (o := .cells #[.slice A0_0 l0_0.length c0_0, .slice (some ad397) l0_1.length c0_1] 73 (0, 0)) (kk_ BK395.out)) : gG ≠ gb399)); have n6_ := Ai0.mk ((by rw [hg]; exact Nat.ne_of_gt (blk_lt (g := gG) (o := .cells #[.slice A0_0 l0_0.length c0_0, .slice (some ad397) l0_1.length c0_1] 73 (0, 0)) (kk_ BK395.out)) : gb399 ≠ gG)); clear BK395; clear HB; have BK395 := n0_; have HB := n1_; have BK399 := n2_; have GW399 := n3_; have GE399 := n4_; have NB395_399 := n5_; have NB399_395 := n6_; clear n0_ n1_ n2_ n3_ n4_ n5_ n6_; clear hb hbox hg; have hnb16 := NB399_395.out; have hnc16 := NB395_399.out; have hcz17_0 : w15.cell? ⟨gb399, 0, none⟩ = some (.int .i64 0) := (kc1 BK399.out 0).trans rfl; have hcz17_1 : w15.cell? ⟨gb399, 1, none⟩ = some (.int .i64 0) := (kc1 BK399.out 1).trans rfl; have hfz17_0 := kf1 BK399.out 0; have hfz17_1 := kf1 BK399.out 1)))
          go_roundg k1
          case measure => have := HK1.out; omega
          case rel => exact ⟨(x11_1), (wrap64 (x27_1 + 1)), rf_, rf_, H', ⟨by have := HK1.out; omega⟩, ⟨by (with_reducible repeat (first | refine kn1 ?_ _ | refine kd1 ?_ | refine ka1 ?_ _)); refine blk_far ?_ NB395_399.out _; (with_reducible repeat (first | refine kn1 ?_ _ | refine kd1 ?_ | refine ka1 ?_ _)); refine blk_far ?_ NB395_399.out _; (with_reducible repeat (first | refine kn1 ?_ _ | refine kd1 ?_ | refine ka1 ?_ _)); exact BK395.out⟩, ⟨bl_⟩⟩
         ·rw [if_neg c14] at H;have c14b0 : (((rd_T77 (rd_L9 l0_1 a3) x27_1).f0) == a4) = false := beq_eq_false_iff_ne.mpr c14;have c14b1 : (((rd_T77 (rd_L9 l0_1 a3) x27_1).f0) != a4) = true := bne_iff_ne.mpr c14;by_cases c18 : 0 ≤ ((rd_T77 (rd_L9 l0_1 a3) x27_1).f0)
          ·rw [if_pos c18] at H;have c18b0 : decide (0 ≤ ((rd_T77 (rd_L9 l0_1 a3) x27_1).f0)) = true := decide_eq_true c18;clear c18;by_cases c19 : ((rd_T77 (rd_L9 l0_1 a3) x27_1).f0) < (l2.length : Int)
           ·rw [if_pos c19] at H;have c19b0 : decide (((rd_T77 (rd_L9 l0_1 a3) x27_1).f0) < (l2.length : Int)) = true := decide_eq_true c19;clear c19;by_cases c20 : 0 ≤ ((rd_T77 (rd_L9 l0_1 a3) x27_1).f1)
            ·rw [if_pos c20] at H;have c20b0 : decide (0 ≤ ((rd_T77 (rd_L9 l0_1 a3) x27_1).f1)) = true := decide_eq_true c20;clear c20;by_cases c21 : ((rd_T77 (rd_L9 l0_1 a3) x27_1).f1) < ((rd_L1 l2 ((rd_T77 (rd_L9 l0_1 a3) x27_1).f0)).length : Int)
             ·rw [if_pos c21] at H;have c21b0 : decide (((rd_T77 (rd_L9 l0_1 a3) x27_1).f1) < ((rd_L1 l2 ((rd_T77 (rd_L9 l0_1 a3) x27_1).f0)).length : Int)) = true := decide_eq_true c21;clear c21;by_cases c22 : (rd (rd_L1 l2 ((rd_T77 (rd_L9 l0_1 a3) x27_1).f0)) ((rd_T77 (rd_L9 l0_1 a3) x27_1).f1)) = 1099511627776
              case' pos =>
               rw [if_pos c22] at H;have c22b0 : ((rd (rd_L1 l2 ((rd_T77 (rd_L9 l0_1 a3) x27_1).f0)) ((rd_T77 (rd_L9 l0_1 a3) x27_1).f1)) == 1099511627776) = true := beq_iff_eq.mpr c22;have c22b1 : ((rd (rd_L1 l2 ((rd_T77 (rd_L9 l0_1 a3) x27_1).f0)) ((rd_T77 (rd_L9 l0_1 a3) x27_1).f1)) != 1099511627776) = false := bne_eq_false_iff_eq.mpr c22;clear c22;obtain rfl := Option.some.inj H
              case' neg =>
               rw [if_neg c22] at H;have c22b0 : ((rd (rd_L1 l2 ((rd_T77 (rd_L9 l0_1 a3) x27_1).f0)) ((rd_T77 (rd_L9 l0_1 a3) x27_1).f1)) == 1099511627776) = false := beq_eq_false_iff_ne.mpr c22;have c22b1 : ((rd (rd_L1 l2 ((rd_T77 (rd_L9 l0_1 a3) x27_1).f0)) ((rd_T77 (rd_L9 l0_1 a3) x27_1).f1)) != 1099511627776) = true := bne_iff_ne.mpr c22;have H' := Ai0.mk H;clear H
              all_goals
               have p398 : 0 ≤ (x27_1 : Int) := od_;have q398 : x27_1 < ((rd_L9 l0_1 a3).length : Int) := od_;obtain ⟨ad398, e398, hx398_0, hx398_1⟩ := at_T77 HR397_0.out x27_1 p398 q398;cases e398;replace hx398_0 := (HB.out.cell (World.block_lt_of_cell? w _ hx398_0)).trans hx398_0;replace hx398_1 := (HB.out.cell (World.block_lt_of_cell? w _ hx398_1)).trans hx398_1;replace p398 := eq_true p398;replace q398 := eq_true q398
               go_wp2_with (first | ((with_reducible refine gate_dst (N := 13) rfl ?_); refine box_event ?hg (N := 13) ?hd (cs := #[.int .i64 0, .int .i64 0]) (t := 77) ?hr ?_; (case hd => rfl); (case hg => rfl); (case hr => first | (go_simp; done) | (go_simp; rfl)); intro gb399 hg w23 hbox hb; have n0_ := Ai0.mk (kb1 (g := gG) (o := .cells #[.slice A0_0 l0_0.length c0_0, .slice (some ad397) l0_1.length c0_1] 73 (0, 0)) (kk_ BK395.out) hb); have n1_ := Ai0.mk (bt1 bl_ hb); have n2_ := Ai0.mk (hbox); have n3_ := Ai0.mk ((by rw [hg]; exact (bz1 bl_) : w.heap.size ≤ gb399)); have n4_ := Ai0.mk ((by rw [hg]; exact (bz1 bl_) : w.heap.size ≤ gb399)); have n5_ := Ai0.mk ((by rw [hg]; exact Nat.ne_of_lt (blk_lt (g := gG) (o := .cells #[.slice A0_0 l0_0.length c0_0, .slice (some ad397) l0_1.length c0_1] 73 (0, 0)) (kk_ BK395.out)) : gG ≠ gb399)); have n6_ := Ai0.mk ((by rw [hg]; exact Nat.ne_of_gt (blk_lt (g := gG) (o := .cells #[.slice A0_0 l0_0.length c0_0, .slice (some ad397) l0_1.length c0_1] 73 (0, 0)) (kk_ BK395.out)) : gb399 ≠ gG)); clear BK395; clear HB; have BK395 := n0_; have HB := n1_; have BK399 := n2_; have GW399 := n3_; have GE399 := n4_; have NB395_399 := n5_; have NB399_395 := n6_; clear n0_ n1_ n2_ n3_ n4_ n5_ n6_; clear hb hbox hg; have hnb24 := NB399_395.out; have hnc24 := NB395_399.out; have hcz25_0 : w23.cell? ⟨gb399, 0, none⟩ = some (.int .i64 0) := (kc1 BK399.out 0).trans rfl; have hcz25_1 : w23.cell? ⟨gb399, 1, none⟩ = some (.int .i64 0) := (kc1 BK399.out 1).trans rfl; have hfz25_0 := kf1 BK399.out 0; have hfz25_1 := kf1 BK399.out 1; have p400 : 0 ≤ (((rd_T77 (rd_L9 l0_1 a3) x27_1).f0) : Int) := od_; have q400 : ((rd_T77 (rd_L9 l0_1 a3) x27_1).f0) < (l2.length : Int) := od_; obtain ⟨ad400, A400_0, c400_0, e400, hx400_0, hl400_0, hi400_0⟩ := at_L1 HR2.out ((rd_T77 (rd_L9 l0_1 a3) x27_1).f0) p400 q400; cases e400; have hn400_0 : ad400.block ≠ gb399 := Nat.ne_of_lt (Nat.lt_of_lt_of_le (by have := World.block_lt_of_cell? _ _ hx400_0; first | rwa [add_block] at this | exact this) GW399.out); have hn400_1 : ad400.block ≠ gb399 := Nat.ne_of_lt (Nat.lt_of_lt_of_le (by have := World.block_lt_of_cell? _ _ hx400_0; first | rwa [add_block] at this | exact this) GW399.out); replace hx400_0 := (HB.out.cell (World.block_lt_of_cell? w _ hx400_0)).trans hx400_0; have HR400_0 := Ai0.mk hi400_0; have HC400_0 := Ai0.mk hl400_0; clear hi400_0 hl400_0; replace hx400_0 := (cell_far (p := ⟨gb399, 0, none⟩) (by first | (rw [add_block]; exact hn400_0) | (show (Addr.add _ _).block ≠ _; rw [add_block]; exact hn400_0) | exact hn400_0) (.int .i64 ((rd_T77 (rd_L9 l0_1 a3) x27_1).f0))).trans hx400_0; replace hx400_0 := (cell_far (p := ⟨gb399, 1, none⟩) (by first | (rw [add_block]; exact hn400_1) | (show (Addr.add _ _).block ≠ _; rw [add_block]; exact hn400_1) | exact hn400_1) (.int .i64 ((rd_T77 (rd_L9 l0_1 a3) x27_1).f1))).trans hx400_0; (try have hy400_0 := fun (n_ : Nat) => (show ((((w23.drewN n_).setCell ⟨gb399, 0, none⟩ (.int .i64 ((rd_T77 (rd_L9 l0_1 a3) x27_1).f0))).setCell ⟨gb399, 1, none⟩ (.int .i64 ((rd_T77 (rd_L9 l0_1 a3) x27_1).f1)))).cell? _ = some _ from hx400_0)); clear hn400_0; clear hn400_1; replace p400 := eq_true p400; replace q400 := eq_true q400; have p401 : 0 ≤ (((rd_T77 (rd_L9 l0_1 a3) x27_1).f1) : Int) := od_; have q401 : ((rd_T77 (rd_L9 l0_1 a3) x27_1).f1) < ((rd_L1 l2 ((rd_T77 (rd_L9 l0_1 a3) x27_1).f0)).length : Int) := od_; obtain ⟨ad401, e401, hx401_0⟩ := Kd.at_int HR400_0.out ((rd_T77 (rd_L9 l0_1 a3) x27_1).f1) p401 q401; cases e401; have hn401_0 : ad401.block ≠ gb399 := Nat.ne_of_lt (Nat.lt_of_lt_of_le (by have := World.block_lt_of_cell? _ _ hx401_0; first | rwa [add_block] at this | exact this) GW399.out); have hn401_1 : ad401.block ≠ gb399 := Nat.ne_of_lt (Nat.lt_of_lt_of_le (by have := World.block_lt_of_cell? _ _ hx401_0; first | rwa [add_block] at this | exact this) GW399.out); replace hx401_0 := (HB.out.cell (World.block_lt_of_cell? w _ hx401_0)).trans hx401_0; replace hx401_0 := (cell_far (p := ⟨gb399, 0, none⟩) (by first | (rw [add_block]; exact hn401_0) | (show (Addr.add _ _).block ≠ _; rw [add_block]; exact hn401_0) | exact hn401_0) (.int .i64 ((rd_T77 (rd_L9 l0_1 a3) x27_1).f0))).trans hx401_0; replace hx401_0 := (cell_far (p := ⟨gb399, 1, none⟩) (by first | (rw [add_block]; exact hn401_1) | (show (Addr.add _ _).block ≠ _; rw [add_block]; exact hn401_1) | exact hn401_1) (.int .i64 ((rd_T77 (rd_L9 l0_1 a3) x27_1).f1))).trans hx401_0; (try have hy401_0 := fun (n_ : Nat) => (show ((((w23.drewN n_).setCell ⟨gb399, 0, none⟩ (.int .i64 ((rd_T77 (rd_L9 l0_1 a3) x27_1).f0))).setCell ⟨gb399, 1, none⟩ (.int .i64 ((rd_T77 (rd_L9 l0_1 a3) x27_1).f1)))).cell? _ = some _ from hx401_0)); clear hn401_0; clear hn401_1; replace p401 := eq_true p401; replace q401 := eq_true q401))
               repeat (go_quiet (first | ((with_reducible refine gate_dst (N := 13) rfl ?_); refine box_event ?hg (N := 13) ?hd (cs := #[.int .i64 0, .int .i64 0]) (t := 77) ?hr ?_; (case hd => rfl); (case hg => rfl); (case hr => first | (go_simp; done) | (go_simp; rfl)); intro gb399 hg w23 hbox hb; have n0_ := Ai0.mk (kb1 (g := gG) (o := .cells #[.slice A0_0 l0_0.length c0_0, .slice (some ad397) l0_1.length c0_1] 73 (0, 0)) (kk_ BK395.out) hb); have n1_ := Ai0.mk (bt1 bl_ hb); have n2_ := Ai0.mk (hbox); have n3_ := Ai0.mk ((by rw [hg]; exact (bz1 bl_) : w.heap.size ≤ gb399)); have n4_ := Ai0.mk ((by rw [hg]; exact (bz1 bl_) : w.heap.size ≤ gb399)); have n5_ := Ai0.mk ((by rw [hg]; exact Nat.ne_of_lt (blk_lt (g := gG) (o := .cells #[.slice A0_0 l0_0.length c0_0, .slice (some ad397) l0_1.length c0_1] 73 (0, 0)) (kk_ BK395.out)) : gG ≠ gb399)); have n6_ := Ai0.mk ((by rw [hg]; exact Nat.ne_of_gt (blk_lt (g := gG) (o := .cells #[.slice A0_0 l0_0.length c0_0, .slice (some ad397) l0_1.length c0_1] 73 (0, 0)) (kk_ BK395.out)) : gb399 ≠ gG)); clear BK395; clear HB; have BK395 := n0_; have HB := n1_; have BK399 := n2_; have GW399 := n3_; have GE399 := n4_; have NB395_399 := n5_; have NB399_395 := n6_; clear n0_ n1_ n2_ n3_ n4_ n5_ n6_; clear hb hbox hg; have hnb24 := NB399_395.out; have hnc24 := NB395_399.out; have hcz25_0 : w23.cell? ⟨gb399, 0, none⟩ = some (.int .i64 0) := (kc1 BK399.out 0).trans rfl; have hcz25_1 : w23.cell? ⟨gb399, 1, none⟩ = some (.int .i64 0) := (kc1 BK399.out 1).trans rfl; have hfz25_0 := kf1 BK399.out 0; have hfz25_1 := kf1 BK399.out 1; have p400 : 0 ≤ (((rd_T77 (rd_L9 l0_1 a3) x27_1).f0) : Int) := od_; have q400 : ((rd_T77 (rd_L9 l0_1 a3) x27_1).f0) < (l2.length : Int) := od_; obtain ⟨ad400, A400_0, c400_0, e400, hx400_0, hl400_0, hi400_0⟩ := at_L1 HR2.out ((rd_T77 (rd_L9 l0_1 a3) x27_1).f0) p400 q400; cases e400; have hn400_0 : ad400.block ≠ gb399 := Nat.ne_of_lt (Nat.lt_of_lt_of_le (by have := World.block_lt_of_cell? _ _ hx400_0; first | rwa [add_block] at this | exact this) GW399.out); have hn400_1 : ad400.block ≠ gb399 := Nat.ne_of_lt (Nat.lt_of_lt_of_le (by have := World.block_lt_of_cell? _ _ hx400_0; first | rwa [add_block] at this | exact this) GW399.out); replace hx400_0 := (HB.out.cell (World.block_lt_of_cell? w _ hx400_0)).trans hx400_0; have HR400_0 := Ai0.mk hi400_0; have HC400_0 := Ai0.mk hl400_0; clear hi400_0 hl400_0; replace hx400_0 := (cell_far (p := ⟨gb399, 0, none⟩) (by first | (rw [add_block]; exact hn400_0) | (show (Addr.add _ _).block ≠ _; rw [add_block]; exact hn400_0) | exact hn400_0) (.int .i64 ((rd_T77 (rd_L9 l0_1 a3) x27_1).f0))).trans hx400_0; replace hx400_0 := (cell_far (p := ⟨gb399, 1, none⟩) (by first | (rw [add_block]; exact hn400_1) | (show (Addr.add _ _).block ≠ _; rw [add_block]; exact hn400_1) | exact hn400_1) (.int .i64 ((rd_T77 (rd_L9 l0_1 a3) x27_1).f1))).trans hx400_0; (try have hy400_0 := fun (n_ : Nat) => (show ((((w23.drewN n_).setCell ⟨gb399, 0, none⟩ (.int .i64 ((rd_T77 (rd_L9 l0_1 a3) x27_1).f0))).setCell ⟨gb399, 1, none⟩ (.int .i64 ((rd_T77 (rd_L9 l0_1 a3) x27_1).f1)))).cell? _ = some _ from hx400_0)); clear hn400_0; clear hn400_1; replace p400 := eq_true p400; replace q400 := eq_true q400; have p401 : 0 ≤ (((rd_T77 (rd_L9 l0_1 a3) x27_1).f1) : Int) := od_; have q401 : ((rd_T77 (rd_L9 l0_1 a3) x27_1).f1) < ((rd_L1 l2 ((rd_T77 (rd_L9 l0_1 a3) x27_1).f0)).length : Int) := od_; obtain ⟨ad401, e401, hx401_0⟩ := Kd.at_int HR400_0.out ((rd_T77 (rd_L9 l0_1 a3) x27_1).f1) p401 q401; cases e401; have hn401_0 : ad401.block ≠ gb399 := Nat.ne_of_lt (Nat.lt_of_lt_of_le (by have := World.block_lt_of_cell? _ _ hx401_0; first | rwa [add_block] at this | exact this) GW399.out); have hn401_1 : ad401.block ≠ gb399 := Nat.ne_of_lt (Nat.lt_of_lt_of_le (by have := World.block_lt_of_cell? _ _ hx401_0; first | rwa [add_block] at this | exact this) GW399.out); replace hx401_0 := (HB.out.cell (World.block_lt_of_cell? w _ hx401_0)).trans hx401_0; replace hx401_0 := (cell_far (p := ⟨gb399, 0, none⟩) (by first | (rw [add_block]; exact hn401_0) | (show (Addr.add _ _).block ≠ _; rw [add_block]; exact hn401_0) | exact hn401_0) (.int .i64 ((rd_T77 (rd_L9 l0_1 a3) x27_1).f0))).trans hx401_0; replace hx401_0 := (cell_far (p := ⟨gb399, 1, none⟩) (by first | (rw [add_block]; exact hn401_1) | (show (Addr.add _ _).block ≠ _; rw [add_block]; exact hn401_1) | exact hn401_1) (.int .i64 ((rd_T77 (rd_L9 l0_1 a3) x27_1).f1))).trans hx401_0; (try have hy401_0 := fun (n_ : Nat) => (show ((((w23.drewN n_).setCell ⟨gb399, 0, none⟩ (.int .i64 ((rd_T77 (rd_L9 l0_1 a3) x27_1).f0))).setCell ⟨gb399, 1, none⟩ (.int .i64 ((rd_T77 (rd_L9 l0_1 a3) x27_1).f1)))).cell? _ = some _ from hx401_0)); clear hn401_0; clear hn401_1; replace p401 := eq_true p401; replace q401 := eq_true q401)); try go_wp2_with (first | ((with_reducible refine gate_dst (N := 13) rfl ?_); refine box_event ?hg (N := 13) ?hd (cs := #[.int .i64 0, .int .i64 0]) (t := 77) ?hr ?_; (case hd => rfl); (case hg => rfl); (case hr => first | (go_simp; done) | (go_simp; rfl)); intro gb399 hg w23 hbox hb; have n0_ := Ai0.mk (kb1 (g := gG) (o := .cells #[.slice A0_0 l0_0.length c0_0, .slice (some ad397) l0_1.length c0_1] 73 (0, 0)) (kk_ BK395.out) hb); have n1_ := Ai0.mk (bt1 bl_ hb); have n2_ := Ai0.mk (hbox); have n3_ := Ai0.mk ((by rw [hg]; exact (bz1 bl_) : w.heap.size ≤ gb399)); have n4_ := Ai0.mk ((by rw [hg]; exact (bz1 bl_) : w.heap.size ≤ gb399)); have n5_ := Ai0.mk ((by rw [hg]; exact Nat.ne_of_lt (blk_lt (g := gG) (o := .cells #[.slice A0_0 l0_0.length c0_0, .slice (some ad397) l0_1.length c0_1] 73 (0, 0)) (kk_ BK395.out)) : gG ≠ gb399)); have n6_ := Ai0.mk ((by rw [hg]; exact Nat.ne_of_gt (blk_lt (g := gG) (o := .cells #[.slice A0_0 l0_0.length c0_0, .slice (some ad397) l0_1.length c0_1] 73 (0, 0)) (kk_ BK395.out)) : gb399 ≠ gG)); clear BK395; clear HB; have BK395 := n0_; have HB := n1_; have BK399 := n2_; have GW399 := n3_; have GE399 := n4_; have NB395_399 := n5_; have NB399_395 := n6_; clear n0_ n1_ n2_ n3_ n4_ n5_ n6_; clear hb hbox hg; have hnb24 := NB399_395.out; have hnc24 := NB395_399.out; have hcz25_0 : w23.cell? ⟨gb399, 0, none⟩ = some (.int .i64 0) := (kc1 BK399.out 0).trans rfl; have hcz25_1 : w23.cell? ⟨gb399, 1, none⟩ = some (.int .i64 0) := (kc1 BK399.out 1).trans rfl; have hfz25_0 := kf1 BK399.out 0; have hfz25_1 := kf1 BK399.out 1; have p400 : 0 ≤ (((rd_T77 (rd_L9 l0_1 a3) x27_1).f0) : Int) := od_; have q400 : ((rd_T77 (rd_L9 l0_1 a3) x27_1).f0) < (l2.length : Int) := od_; obtain ⟨ad400, A400_0, c400_0, e400, hx400_0, hl400_0, hi400_0⟩ := at_L1 HR2.out ((rd_T77 (rd_L9 l0_1 a3) x27_1).f0) p400 q400; cases e400; have hn400_0 : ad400.block ≠ gb399 := Nat.ne_of_lt (Nat.lt_of_lt_of_le (by have := World.block_lt_of_cell? _ _ hx400_0; first | rwa [add_block] at this | exact this) GW399.out); have hn400_1 : ad400.block ≠ gb399 := Nat.ne_of_lt (Nat.lt_of_lt_of_le (by have := World.block_lt_of_cell? _ _ hx400_0; first | rwa [add_block] at this | exact this) GW399.out); replace hx400_0 := (HB.out.cell (World.block_lt_of_cell? w _ hx400_0)).trans hx400_0; have HR400_0 := Ai0.mk hi400_0; have HC400_0 := Ai0.mk hl400_0; clear hi400_0 hl400_0; replace hx400_0 := (cell_far (p := ⟨gb399, 0, none⟩) (by first | (rw [add_block]; exact hn400_0) | (show (Addr.add _ _).block ≠ _; rw [add_block]; exact hn400_0) | exact hn400_0) (.int .i64 ((rd_T77 (rd_L9 l0_1 a3) x27_1).f0))).trans hx400_0; replace hx400_0 := (cell_far (p := ⟨gb399, 1, none⟩) (by first | (rw [add_block]; exact hn400_1) | (show (Addr.add _ _).block ≠ _; rw [add_block]; exact hn400_1) | exact hn400_1) (.int .i64 ((rd_T77 (rd_L9 l0_1 a3) x27_1).f1))).trans hx400_0; (try have hy400_0 := fun (n_ : Nat) => (show ((((w23.drewN n_).setCell ⟨gb399, 0, none⟩ (.int .i64 ((rd_T77 (rd_L9 l0_1 a3) x27_1).f0))).setCell ⟨gb399, 1, none⟩ (.int .i64 ((rd_T77 (rd_L9 l0_1 a3) x27_1).f1)))).cell? _ = some _ from hx400_0)); clear hn400_0; clear hn400_1; replace p400 := eq_true p400; replace q400 := eq_true q400; have p401 : 0 ≤ (((rd_T77 (rd_L9 l0_1 a3) x27_1).f1) : Int) := od_; have q401 : ((rd_T77 (rd_L9 l0_1 a3) x27_1).f1) < ((rd_L1 l2 ((rd_T77 (rd_L9 l0_1 a3) x27_1).f0)).length : Int) := od_; obtain ⟨ad401, e401, hx401_0⟩ := Kd.at_int HR400_0.out ((rd_T77 (rd_L9 l0_1 a3) x27_1).f1) p401 q401; cases e401; have hn401_0 : ad401.block ≠ gb399 := Nat.ne_of_lt (Nat.lt_of_lt_of_le (by have := World.block_lt_of_cell? _ _ hx401_0; first | rwa [add_block] at this | exact this) GW399.out); have hn401_1 : ad401.block ≠ gb399 := Nat.ne_of_lt (Nat.lt_of_lt_of_le (by have := World.block_lt_of_cell? _ _ hx401_0; first | rwa [add_block] at this | exact this) GW399.out); replace hx401_0 := (HB.out.cell (World.block_lt_of_cell? w _ hx401_0)).trans hx401_0; replace hx401_0 := (cell_far (p := ⟨gb399, 0, none⟩) (by first | (rw [add_block]; exact hn401_0) | (show (Addr.add _ _).block ≠ _; rw [add_block]; exact hn401_0) | exact hn401_0) (.int .i64 ((rd_T77 (rd_L9 l0_1 a3) x27_1).f0))).trans hx401_0; replace hx401_0 := (cell_far (p := ⟨gb399, 1, none⟩) (by first | (rw [add_block]; exact hn401_1) | (show (Addr.add _ _).block ≠ _; rw [add_block]; exact hn401_1) | exact hn401_1) (.int .i64 ((rd_T77 (rd_L9 l0_1 a3) x27_1).f1))).trans hx401_0; (try have hy401_0 := fun (n_ : Nat) => (show ((((w23.drewN n_).setCell ⟨gb399, 0, none⟩ (.int .i64 ((rd_T77 (rd_L9 l0_1 a3) x27_1).f0))).setCell ⟨gb399, 1, none⟩ (.int .i64 ((rd_T77 (rd_L9 l0_1 a3) x27_1).f1)))).cell? _ = some _ from hx401_0)); clear hn401_0; clear hn401_1; replace p401 := eq_true p401; replace q401 := eq_true q401)))
              ·go_roundg k1
               case measure => have := HK1.out; omega
               case rel => exact ⟨(wrap64 (x11_1 + (rd (rd_L1 l2 ((rd_T77 (rd_L9 l0_1 a3) x27_1).f0)) ((rd_T77 (rd_L9 l0_1 a3) x27_1).f1)))), (wrap64 (x27_1 + 1)), rf_, rf_, H', ⟨by have := HK1.out; omega⟩, ⟨by (with_reducible repeat (first | refine kn1 ?_ _ | refine kd1 ?_ | refine ka1 ?_ _)); refine blk_far ?_ NB395_399.out _; (with_reducible repeat (first | refine kn1 ?_ _ | refine kd1 ?_ | refine ka1 ?_ _)); refine blk_far ?_ NB395_399.out _; (with_reducible repeat (first | refine kn1 ?_ _ | refine kd1 ?_ | refine ka1 ?_ _)); exact BK395.out⟩, ⟨bl_⟩⟩
              ·go_ret
               exact ⟨by first | rfl | (simp [eW0, eW1] <;> rfl) | (simp [*, eW0, eW1] <;> rfl), bl_⟩
             ·rw [if_neg c21] at H;exact absurd H (by simp)
            ·rw [if_neg c20] at H;exact absurd H (by simp)
           ·rw [if_neg c19] at H;exact absurd H (by simp)
          ·rw [if_neg c18] at H;exact absurd H (by simp)
        ·rw [if_neg c13] at H;exact absurd H (by simp)
       ·rw [if_neg c12] at H;exact absurd H (by simp)
      ·rw [if_neg c11] at H;have c11b0 : decide (x27_1 < ((rd_L9 l0_1 a3).length : Int)) = false := decide_eq_false c11;clear c11;(obtain ⟨ji29, hji29⟩ : ∃ j_ : Int, (mn x11_1 1099511627775) = j_ := ⟨_, rfl⟩);(replace H : (some (mx (ji29) (-1099511627775))) = some r := by first | (rw [hji29] at H; exact H) | (simp only [hji29] at H ⊢; exact H));have hji29_ : (if 1099511627775 < x11_1 then 1099511627775 else x11_1) = ji29 := hji29;(obtain ⟨ji30, hji30⟩ : ∃ j_ : Int, (mx (ji29) (-1099511627775)) = j_ := ⟨_, rfl⟩);(replace H : (some ji30) = some r := by first | (rw [hji30] at H; exact H) | (simp only [hji30] at H ⊢; exact H));have hji30_ : (if (ji29) < (-1099511627775) then (-1099511627775) else (ji29)) = ji30 := hji30;obtain rfl := Option.some.inj H
       go_wp2
       repeat (go_quiet (fail); try go_wp2)
       go_ret
       exact ⟨by first | rfl | (simp [eW0, eW1] <;> rfl) | (simp only [← hji29, ← hji30]; first | rfl | (simp [eW0, eW1] <;> rfl)) | (simp [*, eW0, eW1] <;> rfl), bl_⟩
   ·rw [if_neg c8] at H;exact absurd H (by simp)
  ·rw [if_neg c7] at H;exact absurd H (by simp)
 ·rw [if_neg c6] at H;exact absurd H (by simp)
def crM_sum.l0 : Nat → List Int → Int → Int → Option (Int)
 | 0, _, _, _ => none
 | k + 1, x0, x3, x4 => if x4 < (x0.length : Int) then (if 0 ≤ x4 then (if (rd x0 x4) = 1099511627776 then (some 1099511627776) else (crM_sum.l0 k x0 (wrap64 (x3 + (rd x0 x4))) (wrap64 (x4 + 1)))) else (none)) else (some (mx (mn x3 1099511627775) (-1099511627775)))
def crM_sum.f (k : Nat) (l0 : List Int) : Option (Int) := crM_sum.l0 k l0 0 0
theorem crM_sum.mono_l : ∀ k, (∀ y0 y1 y2, LeO (crM_sum.l0 k y0 y1 y2) (crM_sum.l0 (k + 1) y0 y1 y2))
 | 0 => fun _ _ _ r h => by simp [crM_sum.l0] at h
 | k + 1 => by
  have ih0 := crM_sum.mono_l k
  ·intro y0 y1 y2;unfold crM_sum.l0
   repeat' first
   | (with_reducible exact ih0 _ _ _)
   | (with_reducible exact LeO.refl _)
   | (with_reducible exact LeO.none _)
   | (with_reducible refine LeO.ite ?_ ?_)
   | (with_reducible refine LeO.bind ?_ (fun _ => ?_))
   | exact ih0 _ _ _
   | exact LeO.none _
   | refine LeO.ite ?_ ?_
   | refine LeO.bind ?_ (fun _ => ?_)
theorem crM_sum.mono : ∀ a0 k, LeO (crM_sum.f k a0) (crM_sum.f (k + 1) a0) := by
 intro a0 k;have ih0 := crM_sum.mono_l k;unfold crM_sum.f
 repeat' first
   | (with_reducible exact ih0 _ _ _)
   | (with_reducible exact LeO.refl _)
   | (with_reducible exact LeO.none _)
   | (with_reducible refine LeO.ite ?_ ?_)
   | (with_reducible refine LeO.bind ?_ (fun _ => ?_))
   | exact ih0 _ _ _
   | exact LeO.none _
   | refine LeO.ite ?_ ?_
   | refine LeO.bind ?_ (fun _ => ?_)
set_option maxHeartbeats 8000000 in
set_option maxRecDepth 100000 in
theorem crM_sum.calls (k : Nat) (A0 : Option Addr) (c0 : Nat) (l0 : List Int) (r : Int) (w : World) (hr0 : Kd.C (Kd.int .i64) w A0 l0.length l0) (hc0 : l0.length ≤ c0) (h : crM_sum.f k l0 = some r) :
  Calls Try.prog 65 #[.slice A0 l0.length c0] w fun e w' => e = .returned (.int .i64 r) ∧ Below w.heap.size w w' := by
 have HR0 := Ai0.mk hr0;have HC0 := Ai0.mk hc0;clear hr0 hc0;have HB := Ai0.mk (Below.refl w.heap.size w);have H : (crM_sum.l0 k l0 0 0) = some r := h;clear h;have H' := Ai0.mk H;clear H;go_enter Try.func65, Try.ntmps65
 go_wp2
 go_loopg [3, 4] k (fun kq v3 v4 w' => ∃ (x3_1 : Int) (x4_1 : Int), v3 = .int .i64 x3_1 ∧ v4 = .int .i64 x4_1 ∧ Ai0 (crM_sum.l0 kq l0 x3_1 x4_1 = some r) ∧ Ai0 (kq ≤ k) ∧ Ai0 (Below w.heap.size w w'))
 case atStart => exact ⟨(0), (0), rf_, rf_, H', ⟨Nat.le_refl _⟩, ⟨bl_⟩⟩
 case round =>
  clear H';obtain ⟨x3_1, x4_1, rfl, rfl, HA, HK1, HB⟩ := hrel
  cases gk with
  | zero => exact absurd HA.out (by simp [crM_sum.l0])
  | succ k1 =>
   have H := HA.out;clear HA;simp only [crM_sum.l0] at H;by_cases c2 : x4_1 < (l0.length : Int)
   ·rw [if_pos c2] at H;have c2b0 : decide (x4_1 < (l0.length : Int)) = true := decide_eq_true c2;clear c2;by_cases c3 : 0 ≤ x4_1
    ·rw [if_pos c3] at H;have c3b0 : decide (0 ≤ x4_1) = true := decide_eq_true c3;clear c3;by_cases c4 : (rd l0 x4_1) = 1099511627776
     ·rw [if_pos c4] at H;have c4b0 : ((rd l0 x4_1) == 1099511627776) = true := beq_iff_eq.mpr c4;have c4b1 : ((rd l0 x4_1) != 1099511627776) = false := bne_eq_false_iff_eq.mpr c4;clear c4;obtain rfl := Option.some.inj H;have p597 : 0 ≤ (x4_1 : Int) := od_;have q597 : x4_1 < (l0.length : Int) := od_;obtain ⟨ad597, e597, hx597_0⟩ := Kd.at_int HR0.out x4_1 p597 q597;cases e597;replace hx597_0 := (HB.out.cell (World.block_lt_of_cell? w _ hx597_0)).trans hx597_0;replace p597 := eq_true p597;replace q597 := eq_true q597
      go_wp2
      go_ret
      exact ⟨by first | rfl | (simp [eW0, eW1] <;> rfl) | (simp [*, eW0, eW1] <;> rfl), bl_⟩
     ·rw [if_neg c4] at H;have c4b0 : ((rd l0 x4_1) == 1099511627776) = false := beq_eq_false_iff_ne.mpr c4;have c4b1 : ((rd l0 x4_1) != 1099511627776) = true := bne_iff_ne.mpr c4;have H' := Ai0.mk H;clear H;have p597 : 0 ≤ (x4_1 : Int) := od_;have q597 : x4_1 < (l0.length : Int) := od_;obtain ⟨ad597, e597, hx597_0⟩ := Kd.at_int HR0.out x4_1 p597 q597;cases e597;replace hx597_0 := (HB.out.cell (World.block_lt_of_cell? w _ hx597_0)).trans hx597_0;replace p597 := eq_true p597;replace q597 := eq_true q597;have p598 : 0 ≤ (x4_1 : Int) := od_;have q598 : x4_1 < (l0.length : Int) := od_;obtain ⟨ad598, e598, hx598_0⟩ := Kd.at_int HR0.out x4_1 p598 q598;obtain rfl : ad597 = ad598 := (by injection e598);replace hx598_0 := (HB.out.cell (World.block_lt_of_cell? w _ hx598_0)).trans hx598_0;replace p598 := eq_true p598;replace q598 := eq_true q598
      go_wp2
      go_roundg k1
      case measure => have := HK1.out; omega
      case rel => exact ⟨(wrap64 (x3_1 + (rd l0 x4_1))), (wrap64 (x4_1 + 1)), rf_, rf_, H', ⟨by have := HK1.out; omega⟩, ⟨bl_⟩⟩
    ·rw [if_neg c3] at H;exact absurd H (by simp)
   ·rw [if_neg c2] at H;have c2b0 : decide (x4_1 < (l0.length : Int)) = false := decide_eq_false c2;clear c2;(obtain ⟨ji5, hji5⟩ : ∃ j_ : Int, (mn x3_1 1099511627775) = j_ := ⟨_, rfl⟩);(replace H : (some (mx (ji5) (-1099511627775))) = some r := by first | (rw [hji5] at H; exact H) | (simp only [hji5] at H ⊢; exact H));have hji5_ : (if 1099511627775 < x3_1 then 1099511627775 else x3_1) = ji5 := hji5;(obtain ⟨ji6, hji6⟩ : ∃ j_ : Int, (mx (ji5) (-1099511627775)) = j_ := ⟨_, rfl⟩);(replace H : (some ji6) = some r := by first | (rw [hji6] at H; exact H) | (simp only [hji6] at H ⊢; exact H));have hji6_ : (if (ji5) < (-1099511627775) then (-1099511627775) else (ji5)) = ji6 := hji6;obtain rfl := Option.some.inj H
    go_wp2
    go_ret
    exact ⟨by first | rfl | (simp [eW0, eW1] <;> rfl) | (simp only [← hji5, ← hji6]; first | rfl | (simp [eW0, eW1] <;> rfl)) | (simp [*, eW0, eW1] <;> rfl), bl_⟩
def crM_into.l0 : Nat → List (List Int) → Int → Int → List Int → Int → Int → List (List Int) → Option (List Int)
 | 0, _, _, _, _, _, _, _ => none
 | k + 1, x2, x3, x4, x11, x12, x600000, x600001 => if x12 < (x600001.length : Int) then (if x12 = x4 then (crM_into.l0 k x2 x3 x4 x11 (wrap64 (x12 + 1)) x600000 x600001) else (if 0 ≤ x12 then (if 0 ≤ x3 then (if x3 < ((rd_L1 x600001 x12).length : Int) then (if (rd (rd_L1 x600001 x12) x3) = 1 then (if x12 < (x2.length : Int) then (if x3 < ((rd_L1 x2 x12).length : Int) then (if x11.length < 17592186044416 then (crM_into.l0 k x2 x3 x4 (x11 ++ [rd (rd_L1 x2 x12) x3]) (wrap64 (x12 + 1)) x600000 x600001) else (none)) else (none)) else (none)) else (crM_into.l0 k x2 x3 x4 x11 (wrap64 (x12 + 1)) x600000 x600001)) else (none)) else (none)) else (none))) else (some x11)
def crM_into.f (k : Nat) (a0_0 : Int) (l0_1 : List (List Int)) (l1 : List Int) (l2 : List (List Int)) (a3 : Int) (a4 : Int) : Option (List Int) := if 0 ≤ a3 then (if a3 < (l1.length : Int) then (crM_into.l0 k l2 a3 a4 (([rd l1 a3] : List Int)) 0 a0_0 l0_1) else (none)) else (none)
theorem crM_into.mono_l : ∀ k, (∀ y0 y1 y2 y3 y4 y5 y6, LeO (crM_into.l0 k y0 y1 y2 y3 y4 y5 y6) (crM_into.l0 (k + 1) y0 y1 y2 y3 y4 y5 y6))
 | 0 => fun _ _ _ _ _ _ _ r h => by simp [crM_into.l0] at h
 | k + 1 => by
  have ih0 := crM_into.mono_l k
  ·intro y0 y1 y2 y3 y4 y5 y6;unfold crM_into.l0
   repeat' first
   | (with_reducible exact ih0 _ _ _ _ _ _ _)
   | (with_reducible exact LeO.refl _)
   | (with_reducible exact LeO.none _)
   | (with_reducible refine LeO.ite ?_ ?_)
   | (with_reducible refine LeO.bind ?_ (fun _ => ?_))
   | exact ih0 _ _ _ _ _ _ _
   | exact LeO.none _
   | refine LeO.ite ?_ ?_
   | refine LeO.bind ?_ (fun _ => ?_)
theorem crM_into.mono : ∀ a0 a1 a2 a3 a4 a5 k, LeO (crM_into.f k a0 a1 a2 a3 a4 a5) (crM_into.f (k + 1) a0 a1 a2 a3 a4 a5) := by
 intro a0 a1 a2 a3 a4 a5 k;have ih0 := crM_into.mono_l k;unfold crM_into.f
 repeat' first
   | (with_reducible exact ih0 _ _ _ _ _ _ _)
   | (with_reducible exact LeO.refl _)
   | (with_reducible exact LeO.none _)
   | (with_reducible refine LeO.ite ?_ ?_)
   | (with_reducible refine LeO.bind ?_ (fun _ => ?_))
   | exact ih0 _ _ _ _ _ _ _
   | exact LeO.none _
   | refine LeO.ite ?_ ?_
   | refine LeO.bind ?_ (fun _ => ?_)
set_option maxHeartbeats 8000000 in
set_option maxRecDepth 100000 in
theorem crM_into.calls (k : Nat) (a0_0 : Int) (A0_1 : Option Addr) (c0_1 : Nat) (l0_1 : List (List Int)) (A1 : Option Addr) (c1 : Nat) (l1 : List Int) (A2 : Option Addr) (c2 : Nat) (l2 : List (List Int)) (a3 : Int) (a4 : Int) (r : List Int) (w : World) (hr0_1 : Kd.C (Kd.slice 3 (Kd.int .i64)) w A0_1 l0_1.length l0_1) (hc0_1 : l0_1.length ≤ c0_1) (hr1 : Kd.C (Kd.int .i64) w A1 l1.length l1) (hc1 : l1.length ≤ c1) (hr2 : Kd.C (Kd.slice 3 (Kd.int .i64)) w A2 l2.length l2) (hc2 : l2.length ≤ c2) (h : crM_into.f k a0_0 l0_1 l1 l2 a3 a4 = some r) :
  Calls Try.prog 66 #[.agg #[.int .i64 a0_0, .slice A0_1 l0_1.length c0_1], .slice A1 l1.length c1, .slice A2 l2.length c2, .int .i64 a3, .int .i64 a4] w fun e w' => ∃ v0_ : Value, e = .returned (v0_) ∧ Kd.R (Kd.int .i64) 3 w' w.heap.size (fun _ => True) v0_ r ∧ Below w.heap.size w w' := by
 have hu24 := Try.underlying24;have HR0_1 := Ai0.mk hr0_1;have HC0_1 := Ai0.mk hc0_1;clear hr0_1 hc0_1;have HR1 := Ai0.mk hr1;have HC1 := Ai0.mk hc1;clear hr1 hc1;have HR2 := Ai0.mk hr2;have HC2 := Ai0.mk hc2;clear hr2 hc2;have HB := Ai0.mk (Below.refl w.heap.size w);have H : (if 0 ≤ a3 then (if a3 < (l1.length : Int) then (crM_into.l0 k l2 a3 a4 (([rd l1 a3] : List Int)) 0 a0_0 l0_1) else (none)) else (none)) = some r := h;clear h;by_cases c6 : 0 ≤ a3
 ·rw [if_pos c6] at H;have c6b0 : decide (0 ≤ a3) = true := decide_eq_true c6;clear c6;by_cases c7 : a3 < (l1.length : Int)
  ·rw [if_pos c7] at H;have c7b0 : decide (a3 < (l1.length : Int)) = true := decide_eq_true c7;clear c7;obtain ⟨y601, hy601⟩ : ∃ y_ : List Int, y_ = (([rd l1 a3] : List Int)) := ⟨_, rfl⟩
   replace H : (crM_into.l0 k l2 a3 a4 y601 0 a0_0 l0_1) = some r := by first | (rw [hy601]; with_reducible exact H) | (have H2_ := (Option.bind_some _ _).symm.trans H; rw [hy601]; with_reducible exact H2_) | (have H2_ := (Option.bind_some _ _).symm.trans H; with_reducible exact H2_) | with_reducible exact H | (rw [hy601]; exact H) | exact H
   have Ny601 := Ai0.mk hy601;clear hy601;have H' := Ai0.mk H;clear H;go_enter Try.func66, Try.ntmps66
   go_wp2_with (first | ((with_reducible refine gate_dst (N := 5) rfl ?_); refine box_event ?hg (N := 5) ?hd (cs := #[.int .i64 a0_0, .slice A0_1 l0_1.length c0_1]) (t := 24) ?hr ?_; (case hd => rfl); (case hg => rfl); (case hr => first | (go_simp; done) | (go_simp; rfl)); intro gb599 hg w8 hbox hb; have n0_ := Ai0.mk (bt1 bl_ hb); have n1_ := Ai0.mk (hbox); have n2_ := Ai0.mk ((by rw [hg]; exact (bz1 bl_) : w.heap.size ≤ gb599)); have n3_ := Ai0.mk ((by rw [hg]; exact (bz1 bl_) : w.heap.size ≤ gb599)); clear HB; have HB := n0_; have BK599 := n1_; have GW599 := n2_; have GE599 := n3_; clear n0_ n1_ n2_ n3_; clear hb hbox hg; have p600 : 0 ≤ (a3 : Int) := od_; have q600 : a3 < (l1.length : Int) := od_; obtain ⟨ad600, e600, hx600_0⟩ := Kd.at_int HR1.out a3 p600 q600; cases e600; replace hx600_0 := (HB.out.cell (World.block_lt_of_cell? w _ hx600_0)).trans hx600_0; replace p600 := eq_true p600; replace q600 := eq_true q600) | ((with_reducible refine gate_dst (N := 17) rfl ?_); refine Kd.R_lit (Kd.int .i64) _ 3 ?hg (N := 17) ?hd (xs := ([rd l1 a3] : List Int)) (inner := [.int .i64 (rd l1 a3)]) (ok := fun _ => True) (okp := fun _ => True) ?hr ?hp (fun _ hk => hk) trivial (Below.refl _ _) (Nat.le_refl _) (by simp) ?_; (case hd => rfl); (case hg => rfl); (case hr => first | (go_simp; done) | (go_simp; rfl)); (case hp => exact (Reps.one (show Kd.M (Kd.int .i64) _ _ _ (rd l1 a3) [.int .i64 (rd l1 a3)] from rfl) (Reps.none _ _))); intro v602 w9 ho10 hb hg_ hnew_; clear hg_ hnew_; (first | rw [← Ny601.out] at ho10 | (simp only [Int.reduceToNat] at ho10; rw [← Ny601.out] at ho10)); have n0_ := Ai0.mk (Kd.R_lower ho10 (bz1 bl_)); have n1_ := Ai0.mk (kb1 (g := gb599) (o := .cells #[.int .i64 a0_0, .slice A0_1 l0_1.length c0_1] 24 (0, 0)) (kk_ BK599.out) hb); have n2_ := Ai0.mk (bt1 bl_ hb); clear BK599; clear HB; have HO603 := n0_; have BK599 := n1_; have HB := n2_; clear n0_ n1_ n2_; clear hb ho10))
   go_loopg [11, 12] k (fun kq v11 v12 w' => ∃ (x11_1 : List Int) (x12_1 : Int), v12 = .int .i64 x12_1 ∧ Ai0 (crM_into.l0 kq l2 a3 a4 x11_1 x12_1 a0_0 l0_1 = some r) ∧ Ai0 (kq ≤ k) ∧ Ai0 (Kd.R (Kd.int .i64) 3 w' w.heap.size (fun _ => True) v11 x11_1) ∧ Ai0 (w'.heap[gb599]? = some (.cells #[.int .i64 a0_0, (.slice A0_1 l0_1.length c0_1)] 24 (0, 0))) ∧ Ai0 (Below w.heap.size w w'))
   case atStart => exact ⟨(y601), (0), rf_, H', ⟨Nat.le_refl _⟩, ⟨kr_ HO603.out⟩, ⟨kk_ BK599.out⟩, ⟨bl_⟩⟩
   case round =>
    clear H'
    try clear c1
    try clear c2
    try clear p2
    try clear c6
    try clear c6b0
    try clear p6
    try clear q6
    try clear hx6
    try clear c7
    try clear c7b0
    try clear hx600_0
    try clear p600
    try clear q600
    obtain ⟨x11_1, x12_1, rfl, HA, HK1, HO_11, BK599, HB⟩ := hrel
    cases gk with
    | zero => exact absurd HA.out (by simp [crM_into.l0])
    | succ k1 =>
     have H := HA.out;clear HA;simp only [crM_into.l0] at H;by_cases c11 : x12_1 < (l0_1.length : Int)
     ·rw [if_pos c11] at H;have c11b0 : decide (x12_1 < (l0_1.length : Int)) = true := decide_eq_true c11;clear c11;by_cases c12 : x12_1 = a4
      ·rw [if_pos c12] at H;have c12b0 : (x12_1 == a4) = true := beq_iff_eq.mpr c12;have c12b1 : (x12_1 != a4) = false := bne_eq_false_iff_eq.mpr c12;clear c12;have H' := Ai0.mk H;clear H;have hcz13_0 : wr.cell? ⟨gb599, 0, none⟩ = some (.int .i64 a0_0) := (kc1 BK599.out 0).trans rfl;have hcz13_1 : wr.cell? ⟨gb599, 1, none⟩ = some (.slice A0_1 l0_1.length c0_1) := (kc1 BK599.out 1).trans rfl;have hfz13_0 := kf1 BK599.out 0;have hfz13_1 := kf1 BK599.out 1
       go_wp2
       go_roundg k1
       case measure => have := HK1.out; omega
       case rel => exact ⟨(x11_1), (wrap64 (x12_1 + 1)), rf_, H', ⟨by have := HK1.out; omega⟩, ⟨kr_ HO_11.out⟩, ⟨kk_ BK599.out⟩, ⟨bl_⟩⟩
      ·rw [if_neg c12] at H;have c12b0 : (x12_1 == a4) = false := beq_eq_false_iff_ne.mpr c12;have c12b1 : (x12_1 != a4) = true := bne_iff_ne.mpr c12;by_cases c14 : 0 ≤ x12_1
       ·rw [if_pos c14] at H;have c14b0 : decide (0 ≤ x12_1) = true := decide_eq_true c14;clear c14;by_cases c15 : 0 ≤ a3
        ·rw [if_pos c15] at H;have c15b0 : decide (0 ≤ a3) = true := decide_eq_true c15;clear c15;by_cases c16 : a3 < ((rd_L1 l0_1 x12_1).length : Int)
         ·rw [if_pos c16] at H;have c16b0 : decide (a3 < ((rd_L1 l0_1 x12_1).length : Int)) = true := decide_eq_true c16;clear c16;by_cases c17 : (rd (rd_L1 l0_1 x12_1) a3) = 1
          ·rw [if_pos c17] at H;have c17b0 : ((rd (rd_L1 l0_1 x12_1) a3) == 1) = true := beq_iff_eq.mpr c17;have c17b1 : ((rd (rd_L1 l0_1 x12_1) a3) != 1) = false := bne_eq_false_iff_eq.mpr c17;clear c17;by_cases c18 : x12_1 < (l2.length : Int)
           ·rw [if_pos c18] at H;have c18b0 : decide (x12_1 < (l2.length : Int)) = true := decide_eq_true c18;clear c18;by_cases c19 : a3 < ((rd_L1 l2 x12_1).length : Int)
            ·rw [if_pos c19] at H;have c19b0 : decide (a3 < ((rd_L1 l2 x12_1).length : Int)) = true := decide_eq_true c19;clear c19;by_cases c20 : x11_1.length < 17592186044416
             ·rw [if_pos c20] at H;have LMc20 := Ai0.mk c20;clear c20;(obtain ⟨y608, hy608⟩ : ∃ y_ : List Int, y_ = (x11_1 ++ [rd (rd_L1 l2 x12_1) a3]) := ⟨_, rfl⟩);(replace H : (crM_into.l0 k1 l2 a3 a4 y608 (wrap64 (x12_1 + 1)) a0_0 l0_1) = some r := by first | (rw [hy608]; with_reducible exact H) | (have H2_ := (Option.bind_some _ _).symm.trans H; rw [hy608]; with_reducible exact H2_) | (have H2_ := (Option.bind_some _ _).symm.trans H; with_reducible exact H2_) | with_reducible exact H | (rw [hy608]; exact H) | exact H);have Ny608 := Ai0.mk hy608;clear hy608;have H' := Ai0.mk H;clear H;have hcz21_0 : wr.cell? ⟨gb599, 0, none⟩ = some (.int .i64 a0_0) := (kc1 BK599.out 0).trans rfl;have hcz21_1 : wr.cell? ⟨gb599, 1, none⟩ = some (.slice A0_1 l0_1.length c0_1) := (kc1 BK599.out 1).trans rfl;have hfz21_0 := kf1 BK599.out 0;have hfz21_1 := kf1 BK599.out 1;have p604 : 0 ≤ (x12_1 : Int) := od_;have q604 : x12_1 < (l0_1.length : Int) := od_;obtain ⟨ad604, A604_0, c604_0, e604, hx604_0, hl604_0, hi604_0⟩ := at_L1 HR0_1.out x12_1 p604 q604;cases e604;replace hx604_0 := (HB.out.cell (World.block_lt_of_cell? w _ hx604_0)).trans hx604_0;have HR604_0 := Ai0.mk hi604_0;have HC604_0 := Ai0.mk hl604_0;clear hi604_0 hl604_0;replace p604 := eq_true p604;replace q604 := eq_true q604;have p605 : 0 ≤ (a3 : Int) := od_;have q605 : a3 < ((rd_L1 l0_1 x12_1).length : Int) := od_;obtain ⟨ad605, e605, hx605_0⟩ := Kd.at_int HR604_0.out a3 p605 q605;cases e605;replace hx605_0 := (HB.out.cell (World.block_lt_of_cell? w _ hx605_0)).trans hx605_0;replace p605 := eq_true p605;replace q605 := eq_true q605;have p606 : 0 ≤ (x12_1 : Int) := od_;have q606 : x12_1 < (l2.length : Int) := od_;obtain ⟨ad606, A606_0, c606_0, e606, hx606_0, hl606_0, hi606_0⟩ := at_L1 HR2.out x12_1 p606 q606;cases e606;replace hx606_0 := (HB.out.cell (World.block_lt_of_cell? w _ hx606_0)).trans hx606_0;have HR606_0 := Ai0.mk hi606_0;have HC606_0 := Ai0.mk hl606_0;clear hi606_0 hl606_0;replace p606 := eq_true p606;replace q606 := eq_true q606;have p607 : 0 ≤ (a3 : Int) := od_;have q607 : a3 < ((rd_L1 l2 x12_1).length : Int) := od_;obtain ⟨ad607, e607, hx607_0⟩ := Kd.at_int HR606_0.out a3 p607 q607;cases e607;replace hx607_0 := (HB.out.cell (World.block_lt_of_cell? w _ hx607_0)).trans hx607_0;replace p607 := eq_true p607;replace q607 := eq_true q607
              go_wp2_with (first | ((with_reducible refine gate_builtin (b := .append) (xs := #[.tmp 39, .tmp 47]) rfl ?_); at_builtin; refine Kd.R_append (Kd.int .i64) (w0 := w) w.heap.size rfl (.tmp 39) (.tmp 47) 25 3 (.int .i64 0) 8 rfl Try.underlying25 info3 rfl (by decide) (by omega) u11 x11_1 (rd (rd_L1 l2 x12_1) a3) [.int .i64 (rd (rd_L1 l2 x12_1) a3)] (fun _ => True) (fun _ => False) rfl rfl ?aP (fun _ hk => hk.elim) ?aF ?aO ?aB ?aS ?aL ?_; (case aP => exact rfl); (case aB => exact bl_); (case aF => exact (fun _ _ => trivial)); (case aO => exact (kr_ HO_11.out)); (case aS => exact (bz1 bl_)); (case aL => have := LMc20.out; omega); intro v609 w22 ho hb hg hat; rw [← Ny608.out] at ho; have n0_ := Ai0.mk (blk_grown (g := gb599) (o := .cells #[.int .i64 a0_0, .slice (some ad604) l0_1.length c0_1] 24 (0, 0)) (kk_ BK599.out) hg (Kd.R_ne HO_11.out BK599.out (by decide))); have n1_ := Ai0.mk (hb); have n2_ := Ai0.mk (ho); clear BK599; clear HB; clear HO_11; have BK599 := n0_; have HB := n1_; have HO610 := n2_; clear n0_ n1_ n2_; clear ho hb hg hat))
              go_roundg k1
              case measure => have := HK1.out; omega
              case rel => exact ⟨(y608), (wrap64 (x12_1 + 1)), rf_, H', ⟨by have := HK1.out; omega⟩, ⟨kr_ HO610.out⟩, ⟨kk_ BK599.out⟩, ⟨bl_⟩⟩
             ·rw [if_neg c20] at H;exact absurd H (by simp)
            ·rw [if_neg c19] at H;exact absurd H (by simp)
           ·rw [if_neg c18] at H;exact absurd H (by simp)
          ·rw [if_neg c17] at H;have c17b0 : ((rd (rd_L1 l0_1 x12_1) a3) == 1) = false := beq_eq_false_iff_ne.mpr c17;have c17b1 : ((rd (rd_L1 l0_1 x12_1) a3) != 1) = true := bne_iff_ne.mpr c17;have H' := Ai0.mk H;clear H;have hcz23_0 : wr.cell? ⟨gb599, 0, none⟩ = some (.int .i64 a0_0) := (kc1 BK599.out 0).trans rfl;have hcz23_1 : wr.cell? ⟨gb599, 1, none⟩ = some (.slice A0_1 l0_1.length c0_1) := (kc1 BK599.out 1).trans rfl;have hfz23_0 := kf1 BK599.out 0;have hfz23_1 := kf1 BK599.out 1;have p604 : 0 ≤ (x12_1 : Int) := od_;have q604 : x12_1 < (l0_1.length : Int) := od_;obtain ⟨ad604, A604_0, c604_0, e604, hx604_0, hl604_0, hi604_0⟩ := at_L1 HR0_1.out x12_1 p604 q604;cases e604;replace hx604_0 := (HB.out.cell (World.block_lt_of_cell? w _ hx604_0)).trans hx604_0;have HR604_0 := Ai0.mk hi604_0;have HC604_0 := Ai0.mk hl604_0;clear hi604_0 hl604_0;replace p604 := eq_true p604;replace q604 := eq_true q604;have p605 : 0 ≤ (a3 : Int) := od_;have q605 : a3 < ((rd_L1 l0_1 x12_1).length : Int) := od_;obtain ⟨ad605, e605, hx605_0⟩ := Kd.at_int HR604_0.out a3 p605 q605;cases e605;replace hx605_0 := (HB.out.cell (World.block_lt_of_cell? w _ hx605_0)).trans hx605_0;replace p605 := eq_true p605;replace q605 := eq_true q605
           go_wp2
           go_roundg k1
           case measure => have := HK1.out; omega
           case rel => exact ⟨(x11_1), (wrap64 (x12_1 + 1)), rf_, H', ⟨by have := HK1.out; omega⟩, ⟨kr_ HO_11.out⟩, ⟨kk_ BK599.out⟩, ⟨bl_⟩⟩
         ·rw [if_neg c16] at H;exact absurd H (by simp)
        ·rw [if_neg c15] at H;exact absurd H (by simp)
       ·rw [if_neg c14] at H;exact absurd H (by simp)
     ·rw [if_neg c11] at H;have c11b0 : decide (x12_1 < (l0_1.length : Int)) = false := decide_eq_false c11;clear c11;obtain rfl := Option.some.inj H;have hcz24_0 : wr.cell? ⟨gb599, 0, none⟩ = some (.int .i64 a0_0) := (kc1 BK599.out 0).trans rfl;have hcz24_1 : wr.cell? ⟨gb599, 1, none⟩ = some (.slice A0_1 l0_1.length c0_1) := (kc1 BK599.out 1).trans rfl;have hfz24_0 := kf1 BK599.out 0;have hfz24_1 := kf1 BK599.out 1
      go_wp2
      go_ret
      exact ⟨_, by first | rfl | (simp [eW0, eW1] <;> rfl) | (simp [*, eW0, eW1] <;> rfl), by (with_reducible repeat (first | apply Kd.Ra1 | apply Kd.Rn1 | apply Kd.Rd1)); exact HO_11.out, bl_⟩
  ·rw [if_neg c7] at H;exact absurd H (by simp)
 ·rw [if_neg c6] at H;exact absurd H (by simp)
end Go.Proofs.Ytmclalniilkjiaa.Q
/- What the printed sum of the graph and the document's into and sum compute: the same sums of messages. Condition: inputs and messages are bounded. -/
namespace Go.Proofs.Ytmclalniilkjiaa.Ms
open Go.RowKit Go.Proofs.Ytmclalniilkjiaa.Q Go.Proofs.YtmclalniilkjiaaW.PrintWords Go.Proofs.YtmclalniilkjiaaW.PrintLast Go.Proofs.YtmclalniilkjiaaW.PrintMore Go.Proofs.Ytmclalniilkjiaa.Ba Go.Proofs.Ytmclalniilkjiaa.Ck Go.Proofs.Ytmclalniilkjiaa.Gr Go.Proofs.Ytmclalniilkjiaa.Un Go.Proofs.Ytmclalniilkjiaa.Fl

theorem PG_lenp {α β : Type} (e : Nat → α) (f : Nat → β) (p : Nat → Bool) : ∀ n, (PG e p n).length = (PG f p n).length
 | 0 => rfl
 | n + 1 => by
  have := PG_lenp e f p n
  simp only [PG]
  split
  ·rw [List.length_append, List.length_append, this]; rfl
  ·exact this
theorem PG_ext {α : Type} (e f : Nat → α) (p : Nat → Bool) : ∀ n, (∀ i, i < n → p i = true → e i = f i) → PG e p n = PG f p n
 | 0, _ => rfl
 | n + 1, h => by
  have ih := PG_ext e f p n (fun i hi => h i (by omega))
  simp only [PG]
  split
  ·next hp => rw [ih, h n (by omega) hp]
  ·exact ih
theorem PG_set {α : Type} (e : Nat → α) (p : Nat → Bool) (m : Nat) (v : α) (hm : p m = true) : ∀ n, m < n → (PG e p n).set (PG e p m).length v = PG (fun i => if i = m then v else e i) p n
 | 0, h => by omega
 | n + 1, h => by
  by_cases e1 : m = n
  ·subst e1
   rw [PG_succ hm, PG_succ hm, List.set_append_right _ _ (Nat.le_refl _), Nat.sub_self, if_pos rfl]
   rw [PG_ext (fun i => if i = m then v else e i) e p m (fun i hi _ => if_neg (by omega))]
   rfl
  ·have ih := PG_set e p m v hm n (by omega)
   have hl := PG_lt e p m hm n (by omega)
   by_cases h2 : p n = true
   ·rw [PG_succ h2, PG_succ h2, List.set_append_left _ _ hl, ih, if_neg (Ne.symm e1)]
   ·rw [PG_skip h2, PG_skip h2, ih]
theorem PG_rep {α : Type} (v : α) (p : Nat → Bool) : ∀ n, List.replicate (PG (fun _ => v) p n).length v = PG (fun _ => v) p n
 | 0 => rfl
 | n + 1 => by
  have ih := PG_rep v p n
  by_cases h2 : p n = true
  ·rw [PG_succ h2, List.length_append, List.length_singleton, List.replicate_succ', ih]
  ·rw [PG_skip h2, ih]

/-- The messages in the program's form: for each row, one for each 1 of it. -/
def dn (rows : List (List Int)) (C : Nat) (F : Nat → Nat → Int) : List (List Int) := LL rows.length (fun j => PG (F j) (bit rows j) C)
/-- The messages in the document's form: a number for each entry. -/
def fr (rows : List (List Int)) (C : Nat) (F : Nat → Nat → Int) : List (List Int) := LL rows.length (fun j => LL C (fun i => if bit rows j i = true then F j i else 0))
/-- Row j sends to position p, and is not left out. -/
def use (rows : List (List Int)) (b : Int) (p j : Nat) : Bool := bit rows j p && !decide ((j : Int) = b)
def hasT (rows : List (List Int)) (F : Nat → Nat → Int) (b : Int) (p : Nat) : Nat → Bool
 | 0 => false
 | n + 1 => hasT rows F b p n || (use rows b p n && decide (F n p = 1099511627776))
def tot (rows : List (List Int)) (inp : List Int) (F : Nat → Nat → Int) (b : Int) (p n : Nat) : Int := rd inp (p : Int) + sumTo (fun j => if use rows b p j = true then F j p else 0) n
def cl (x : Int) : Int := mx (mn x 1099511627775) (-1099511627775)
/-- The sum of an input and of the messages to a position but that of row b. -/
def smv (rows : List (List Int)) (inp : List Int) (F : Nat → Nat → Int) (b : Int) (p : Nat) : Int := if hasT rows F b p rows.length = true then 1099511627776 else cl (tot rows inp F b p rows.length)
def Bd (F : Nat → Nat → Int) : Prop := ∀ j i, -1099511627776 ≤ F j i ∧ F j i ≤ 1099511627776
def Bi (inp : List Int) : Prop := ∀ i, -1048576 ≤ rd inp i ∧ rd inp i ≤ 1048576
theorem cl_bound (x : Int) : -1099511627775 ≤ cl x ∧ cl x ≤ 1099511627775 := by
 unfold cl mx mn
 split <;> split <;> omega
theorem smv_bound (rows : List (List Int)) (inp : List Int) (F : Nat → Nat → Int) (b : Int) (p : Nat) : -1099511627776 ≤ smv rows inp F b p ∧ smv rows inp F b p ≤ 1099511627776 := by
 unfold smv
 split
 ·omega
 ·have := cl_bound (tot rows inp F b p rows.length); omega
theorem hasT_mono (rows : List (List Int)) (F : Nat → Nat → Int) (b : Int) (p m : Nat) (h : hasT rows F b p m = true) : ∀ n, m ≤ n → hasT rows F b p n = true
 | 0, hn => by
  obtain rfl : m = 0 := by omega
  exact h
 | n + 1, hn => by
  by_cases e : m = n + 1
  ·subst e; exact h
  ·show (hasT rows F b p n || _) = true
   rw [hasT_mono rows F b p m h n (by omega)]; rfl
section
variable (rows : List (List Int)) (inp : List Int) (F : Nat → Nat → Int) (b : Int) (p C : Nat) (hr : rows.length ≤ 256) (hB : Bd F) (hI : Bi inp)
include hB hI
theorem tot_bound (n : Nat) (hn : n ≤ 256) : -1000000000000000 ≤ tot rows inp F b p n ∧ tot rows inp F b p n ≤ 1000000000000000 := by
 have h1 := sumTo_bound (fun j => if use rows b p j = true then F j p else 0) (-1099511627776) 1099511627776 n (fun i _ => by
  have := hB i p
  show _ ≤ (if use rows b p i = true then F i p else 0) ∧ (if use rows b p i = true then F i p else 0) ≤ _
  split <;> omega)
 have h2 := hI (p : Int)
 unfold tot
 omega
include hr
/-- The sum of the graph. -/
theorem sum_l0 (hp : p < C) (hC : C ≤ 256) : ∀ d j : Nat, j + d = rows.length → hasT rows F b p j = false →
  Ev (fun k => mg_sum.l0 k (dn rows C F) b (tot rows inp F b p j) (edg rows p rows.length) ((edg rows p rows.length).length : Int) ((edg rows p j).length : Int)) (smv rows inp F b p)
 | 0, j, h, h0 => by
  obtain rfl : j = rows.length := by omega
  refine Ev.step (f := fun _ => some _) (fun k => ?_) (Ev.now _)
  simp only [mg_sum.l0]
  rw [if_neg (by omega)]
  unfold smv
  rw [h0, if_neg Bool.false_ne_true]
  rfl
 | d + 1, j, h, h0 => by
  by_cases hb : bit rows j p = true
  ·have hlt := PG_lt (fun j => (⟨(j : Int), ((one rows j p).length : Int)⟩ : S77)) (fun j => bit rows j p) j hb rows.length (by omega)
   have hat := PG_at z77 (fun j => (⟨(j : Int), ((one rows j p).length : Int)⟩ : S77)) (fun j => bit rows j p) j hb rows.length (by omega)
   have hlt' : (edg rows p j).length < (edg rows p rows.length).length := hlt
   have hat' : rd_T77 (edg rows p rows.length) ((edg rows p j).length : Int) = ⟨(j : Int), ((one rows j p).length : Int)⟩ := by
    unfold rd_T77; rw [Int.toNat_natCast]; exact hat
   have hf0 : (rd_T77 (edg rows p rows.length) ((edg rows p j).length : Int)).f0 = (j : Int) := by rw [hat']
   have hf1 : (rd_T77 (edg rows p rows.length) ((edg rows p j).length : Int)).f1 = ((one rows j p).length : Int) := by rw [hat']
   have hle := edg_le rows p j
   have he1 : (edg rows p (j + 1)).length = (edg rows p j).length + 1 := by
    show (PG _ _ (j + 1)).length = _
    rw [PG_succ (p := fun j => bit rows j p) hb, List.length_append, List.length_singleton]; rfl
   have hdl : (dn rows C F).length = rows.length := LL_length _ _
   have hrow : rd_L1 (dn rows C F) (j : Int) = PG (F j) (bit rows j) C := by rw [rd_L1_nat]; exact LL_at _ _ _ _ (by omega)
   have hol : (one rows j p).length = (PG (F j) (bit rows j) p).length := PG_lenp _ _ _ _
   have hvl : (one rows j p).length < (PG (F j) (bit rows j) C).length := by rw [hol]; exact PG_lt _ _ p hb C hp
   have hv : rd (PG (F j) (bit rows j) C) ((one rows j p).length : Int) = F j p := by rw [rd_nat, hol]; exact PG_at 0 _ _ p hb C hp
   have ht0 := tot_bound rows inp F b p hB hI j (by omega)
   have hFb := hB j p
   by_cases hjb : (j : Int) = b
   ·have hu : use rows b p j = false := by unfold use; rw [decide_eq_true hjb]; simp
    have e1 : tot rows inp F b p (j + 1) = tot rows inp F b p j := by unfold tot; simp only [sumTo]; rw [hu]; simp
    have e2 : hasT rows F b p (j + 1) = false := by show (_ || _) = _; rw [h0, hu]; rfl
    have ih := sum_l0 hp hC d (j + 1) (by omega) e2
    rw [e1, he1] at ih
    refine Ev.step (fun k => ?_) ih
    simp only [mg_sum.l0]
    rw [hf0, if_pos (by omega), if_pos (by omega), if_pos (by omega), if_pos hjb, w64_id (by omega) (by omega)]
    rfl
   ·have hu : use rows b p j = true := by unfold use; rw [decide_eq_false hjb, hb]; rfl
    by_cases hT : F j p = 1099511627776
    ·have e2 : hasT rows F b p (j + 1) = true := by show (_ || _) = _; rw [h0, hu, decide_eq_true hT]; rfl
     have e3 : smv rows inp F b p = 1099511627776 := if_pos (hasT_mono rows F b p (j + 1) e2 rows.length (by omega))
     rw [e3]
     refine Ev.step (f := fun _ => some _) (fun k => ?_) (Ev.now _)
     simp only [mg_sum.l0]
     rw [hf0, if_pos (by omega), if_pos (by omega), if_pos (by omega), if_neg hjb, if_pos (by omega), if_pos (by omega), hf1, if_pos (by omega)]
     rw [hrow, if_pos (by omega), hv, if_pos hT]
    ·have e1 : tot rows inp F b p (j + 1) = tot rows inp F b p j + F j p := by unfold tot; simp only [sumTo]; rw [hu]; simp; omega
     have e2 : hasT rows F b p (j + 1) = false := by show (_ || _) = _; rw [h0, hu, decide_eq_false hT]; rfl
     have ih := sum_l0 hp hC d (j + 1) (by omega) e2
     rw [e1, he1] at ih
     refine Ev.step (fun k => ?_) ih
     simp only [mg_sum.l0]
     rw [hf0, if_pos (by omega), if_pos (by omega), if_pos (by omega), if_neg hjb, if_pos (by omega), if_pos (by omega), hf1, if_pos (by omega)]
     rw [hrow, if_pos (by omega), hv, if_neg hT, w64_id (n := tot rows inp F b p j + F j p) (by omega) (by omega), w64_id (by omega) (by omega)]
     rfl
  ·have hb2 : bit rows j p = false := by cases h2 : bit rows j p <;> simp_all
   have hu : use rows b p j = false := by unfold use; rw [hb2]; rfl
   have e1 : tot rows inp F b p (j + 1) = tot rows inp F b p j := by unfold tot; simp only [sumTo]; rw [hu]; simp
   have e2 : hasT rows F b p (j + 1) = false := by show (_ || _) = _; rw [h0, hu]; rfl
   have ih := sum_l0 hp hC d (j + 1) (by omega) e2
   have e3 : edg rows p (j + 1) = edg rows p j := PG_skip (p := fun j => bit rows j p) hb
   rw [e1, e3] at ih
   exact ih
theorem sum_ev (hp : p < C) (hC : C ≤ 256) (hlen : inp.length = C) : Ev (fun k => mg_sum.f k (checks rows C rows.length) (at_ rows C rows.length) inp (dn rows C F) (p : Int) b) (smv rows inp F b p) := by
 have h := sum_l0 rows inp F b p C hr hB hI hp hC rows.length 0 (by omega) rfl
 have hal : (at_ rows C rows.length).length = C := LL_length _ _
 have h9 : rd_L9 (at_ rows C rows.length) (p : Int) = edg rows p rows.length := by unfold rd_L9; rw [Int.toNat_natCast]; exact LL_at _ _ _ _ hp
 have e0 : tot rows inp F b p 0 = rd inp (p : Int) := by unfold tot; simp [sumTo]
 rw [e0] at h
 refine Ev.congr (fun k => ?_) h
 unfold mg_sum.f
 rw [if_pos (by omega), if_pos (by omega), if_pos (by omega), h9]
 rfl
omit hB hI in
/-- The list that the document sums. -/
theorem into_l0 (c : Int) (hp : p < C) (hrl : ∀ j, j < rows.length → (rows.getD j []).length = C) : ∀ d j : Nat, j + d = rows.length →
  Ev (fun k => crM_into.l0 k (fr rows C F) (p : Int) b (rd inp (p : Int) :: PG (fun j => F j p) (use rows b p) j) (j : Int) c rows) (rd inp (p : Int) :: PG (fun j => F j p) (use rows b p) rows.length)
 | 0, j, h => by
  obtain rfl : j = rows.length := by omega
  refine Ev.step (f := fun _ => some _) (fun k => ?_) (Ev.now _)
  simp only [crM_into.l0]
  rw [if_neg (by omega)]
 | d + 1, j, h => by
  have ih := into_l0 c hp hrl d (j + 1) (by omega)
  have hrj := hrl j (by omega)
  have hle := PG_le (fun j => F j p) (use rows b p) j
  have hfl : (fr rows C F).length = rows.length := LL_length _ _
  have hrow : rd_L1 (fr rows C F) (j : Int) = LL C (fun i => if bit rows j i = true then F j i else 0) := by rw [rd_L1_nat]; exact LL_at _ _ _ _ (by omega)
  have hrl2 : (LL C (fun i => if bit rows j i = true then F j i else 0)).length = C := LL_length _ _
  by_cases hjb : (j : Int) = b
  ·have hu : use rows b p j = false := by unfold use; rw [decide_eq_true hjb]; simp
   rw [PG_skip (by rw [hu]; decide)] at ih
   refine Ev.step (fun k => ?_) ih
   simp only [crM_into.l0]
   rw [if_pos (by omega), if_pos hjb, w64_id (by omega) (by omega)]
   rfl
  ·by_cases hb : rd (rows.getD j []) (p : Int) = 1
   ·have hb2 : bit rows j p = true := decide_eq_true hb
    have hu : use rows b p j = true := by unfold use; rw [decide_eq_false hjb, hb2]; rfl
    have hv : rd (LL C (fun i => if bit rows j i = true then F j i else 0)) (p : Int) = F j p := by rw [rd_LL _ _ _ hp, if_pos hb2]
    rw [PG_succ hu] at ih
    refine Ev.step (fun k => ?_) ih
    simp only [crM_into.l0]
    rw [if_pos (by omega), if_neg hjb, if_pos (by omega), if_pos (by omega), rd_L1_nat, if_pos (by omega), if_pos hb, if_pos (by omega), hrow, if_pos (by omega), if_pos (by simp; omega), hv, w64_id (by omega) (by omega)]
    rfl
   ·have hb2 : bit rows j p = false := by unfold bit; exact decide_eq_false hb
    have hu : use rows b p j = false := by unfold use; rw [hb2]; rfl
    rw [PG_skip (by rw [hu]; decide)] at ih
    refine Ev.step (fun k => ?_) ih
    simp only [crM_into.l0]
    rw [if_pos (by omega), if_neg hjb, if_pos (by omega), if_pos (by omega), rd_L1_nat, if_pos (by omega), if_neg hb, w64_id (by omega) (by omega)]
    rfl
omit hB hI in
theorem into_ev (c : Int) (hp : p < C) (hlen : inp.length = C) (hrl : ∀ j, j < rows.length → (rows.getD j []).length = C) :
  Ev (fun k => crM_into.f k c rows inp (fr rows C F) (p : Int) b) (rd inp (p : Int) :: PG (fun j => F j p) (use rows b p) rows.length) := by
 have h := into_l0 rows inp F b p C hr c hp hrl rows.length 0 (by omega)
 refine Ev.congr (fun k => ?_) h
 unfold crM_into.f
 rw [if_pos (by omega), if_pos (by omega)]
 rfl
theorem rsum_l0 : ∀ d j : Nat, j + d = rows.length → hasT rows F b p j = false →
  Ev (fun k => crM_sum.l0 k (rd inp (p : Int) :: PG (fun j => F j p) (use rows b p) rows.length) (tot rows inp F b p j) (((PG (fun j => F j p) (use rows b p) j).length + 1 : Nat) : Int)) (smv rows inp F b p)
 | 0, j, h, h0 => by
  obtain rfl : j = rows.length := by omega
  refine Ev.step (f := fun _ => some _) (fun k => ?_) (Ev.now _)
  simp only [crM_sum.l0]
  rw [if_neg (by simp)]
  unfold smv
  rw [h0, if_neg Bool.false_ne_true]
  rfl
 | d + 1, j, h, h0 => by
  by_cases hu : use rows b p j = true
  ·have hlt := PG_lt (fun j => F j p) (use rows b p) j hu rows.length (by omega)
   have hat := PG_at 0 (fun j => F j p) (use rows b p) j hu rows.length (by omega)
   have hle := PG_le (fun j => F j p) (use rows b p) j
   have he1 : (PG (fun j => F j p) (use rows b p) (j + 1)).length = (PG (fun j => F j p) (use rows b p) j).length + 1 := by rw [PG_succ hu, List.length_append, List.length_singleton]
   have hv : rd (rd inp (p : Int) :: PG (fun j => F j p) (use rows b p) rows.length) (((PG (fun j => F j p) (use rows b p) j).length + 1 : Nat) : Int) = F j p := by rw [rd_nat, List.getD_cons_succ]; exact hat
   have ht0 := tot_bound rows inp F b p hB hI j (by omega)
   have hFb := hB j p
   by_cases hT : F j p = 1099511627776
   ·have e2 : hasT rows F b p (j + 1) = true := by show (_ || _) = _; rw [h0, hu, decide_eq_true hT]; rfl
    have e3 : smv rows inp F b p = 1099511627776 := if_pos (hasT_mono rows F b p (j + 1) e2 rows.length (by omega))
    rw [e3]
    refine Ev.step (f := fun _ => some _) (fun k => ?_) (Ev.now _)
    simp only [crM_sum.l0]
    rw [if_pos (by rw [List.length_cons]; omega), if_pos (by omega), hv, if_pos hT]
   ·have e1 : tot rows inp F b p (j + 1) = tot rows inp F b p j + F j p := by unfold tot; simp only [sumTo]; rw [hu]; simp; omega
    have e2 : hasT rows F b p (j + 1) = false := by show (_ || _) = _; rw [h0, hu, decide_eq_false hT]; rfl
    have ih := rsum_l0 d (j + 1) (by omega) e2
    rw [e1, he1] at ih
    refine Ev.step (fun k => ?_) ih
    simp only [crM_sum.l0]
    rw [if_pos (by rw [List.length_cons]; omega), if_pos (by omega), hv, if_neg hT, w64_id (n := tot rows inp F b p j + F j p) (by omega) (by omega), w64_id (by omega) (by omega)]
    rfl
  ·have hu2 : use rows b p j = false := by cases h2 : use rows b p j <;> simp_all
   have e1 : tot rows inp F b p (j + 1) = tot rows inp F b p j := by unfold tot; simp only [sumTo]; rw [hu2]; simp
   have e2 : hasT rows F b p (j + 1) = false := by show (_ || _) = _; rw [h0, hu2]; rfl
   have ih := rsum_l0 d (j + 1) (by omega) e2
   rw [e1, PG_skip hu] at ih
   exact ih
theorem rsum_ev : Ev (fun k => crM_sum.f k (rd inp (p : Int) :: PG (fun j => F j p) (use rows b p) rows.length)) (smv rows inp F b p) := by
 have h := rsum_l0 rows inp F b p hr hB hI rows.length 0 (by omega) rfl
 have hi := hI (p : Int)
 have e0 : tot rows inp F b p 0 = rd inp (p : Int) := by unfold tot; simp [sumTo]
 rw [e0] at h
 unfold crM_sum.f
 refine Ev.step (fun k => ?_) h
 have hv : rd (rd inp (p : Int) :: PG (fun j => F j p) (use rows b p) rows.length) 0 = rd inp (p : Int) := rfl
 simp only [crM_sum.l0]
 rw [if_pos (by rw [List.length_cons]; omega), if_pos (by omega), hv, if_neg (by omega), w64_id (n := 0 + rd inp (p : Int)) (by omega) (by omega), Int.zero_add]
 exact congrArg (crM_sum.l0 k _ _) (w64_id (by omega) (by omega))
end
end Go.Proofs.Ytmclalniilkjiaa.Ms
/- The message of a check: the fold over the other positions is the least absolute value with the sign of the number of negative ones; two least values suffice. Plain laws. No condition. -/
namespace Go.Proofs.Ytmclalniilkjiaa.Rv
open Go.RowKit Go.Proofs.Ytmclalniilkjiaa.Q Go.Proofs.YtmclalniilkjiaaW.PrintWords Go.Proofs.YtmclalniilkjiaaW.PrintLast Go.Proofs.YtmclalniilkjiaaW.PrintMore Go.Proofs.Ytmclalniilkjiaa.Ba Go.Proofs.Ytmclalniilkjiaa.Ck Go.Proofs.Ytmclalniilkjiaa.Gr Go.Proofs.Ytmclalniilkjiaa.Un Go.Proofs.Ytmclalniilkjiaa.Fl Go.Proofs.Ytmclalniilkjiaa.Ms

def comb (x r : Int) : Int := if ((decide (x < 0)) != (decide (r < 0))) = true then -(mn (mx x (-x)) (mx r (-r))) else mn (mx x (-x)) (mx r (-r))
def rv (u : Nat → Int) (q : Nat → Bool) (i : Nat) : Nat → Int
 | 0 => 1099511627776
 | n + 1 => if n = i then rv u q i n else if q n = true then comb (u n) (rv u q i n) else rv u q i n
def mg (u : Nat → Int) (q : Nat → Bool) (i : Nat) : Nat → Int
 | 0 => 1099511627776
 | n + 1 => if n = i then mg u q i n else if q n = true then mn (mx (u n) (-(u n))) (mg u q i n) else mg u q i n
def ng (u : Nat → Int) (q : Nat → Bool) (i : Nat) : Nat → Int
 | 0 => 0
 | n + 1 => if n = i then ng u q i n else if q n = true then ng u q i n + (if u n < 0 then 1 else 0) else ng u q i n
def nga (u : Nat → Int) (q : Nat → Bool) : Nat → Int
 | 0 => 0
 | n + 1 => if q n = true then nga u q n + (if u n < 0 then 1 else 0) else nga u q n
theorem mx_abs (x : Int) : mx x (-x) = if x < 0 then -x else x := by unfold mx; split <;> split <;> omega
theorem mg_bound (u : Nat → Int) (q : Nat → Bool) (i : Nat) : ∀ n, 0 ≤ mg u q i n ∧ mg u q i n ≤ 1099511627776
 | 0 => by simp only [mg]; omega
 | n + 1 => by
  have ih := mg_bound u q i n
  simp only [mg]
  split
  ·exact ih
  ·split
   ·rw [mx_abs]; unfold mn; split <;> split <;> omega
   ·exact ih
theorem ng_bound (u : Nat → Int) (q : Nat → Bool) (i : Nat) : ∀ n : Nat, 0 ≤ ng u q i n ∧ ng u q i n ≤ (n : Int)
 | 0 => by simp only [ng]; omega
 | n + 1 => by
  have ih := ng_bound u q i n
  simp only [ng]
  split
  ·omega
  ·split
   ·split <;> omega
   ·omega
theorem nga_bound (u : Nat → Int) (q : Nat → Bool) : ∀ n : Nat, 0 ≤ nga u q n ∧ nga u q n ≤ (n : Int)
 | 0 => by simp only [nga]; omega
 | n + 1 => by
  have ih := nga_bound u q n
  simp only [nga]
  split
  ·split <;> omega
  ·omega
theorem rv_eq (u : Nat → Int) (q : Nat → Bool) (i : Nat) : ∀ n, rv u q i n = if ng u q i n % 2 = 1 then -(mg u q i n) else mg u q i n
 | 0 => by simp [rv, ng, mg]
 | n + 1 => by
  have ih := rv_eq u q i n
  have hb := mg_bound u q i n
  by_cases h1 : n = i
  ·have e1 : rv u q i (n + 1) = rv u q i n := by simp only [rv]; rw [if_pos h1]
   have e2 : ng u q i (n + 1) = ng u q i n := by simp only [ng]; rw [if_pos h1]
   have e3 : mg u q i (n + 1) = mg u q i n := by simp only [mg]; rw [if_pos h1]
   rw [e1, e2, e3]; exact ih
  ·by_cases h2 : q n = true
   ·have e1 : rv u q i (n + 1) = comb (u n) (rv u q i n) := by simp only [rv]; rw [if_neg h1, if_pos h2]
    have e2 : ng u q i (n + 1) = ng u q i n + (if u n < 0 then 1 else 0) := by simp only [ng]; rw [if_neg h1, if_pos h2]
    have e3 : mg u q i (n + 1) = mn (mx (u n) (-(u n))) (mg u q i n) := by simp only [mg]; rw [if_neg h1, if_pos h2]
    rw [e1, e2, e3]
    generalize mg u q i n = M at ih hb ⊢
    generalize ng u q i n = N at ih ⊢
    generalize rv u q i n = r at ih ⊢
    have hr : mx r (-r) = M := by rw [mx_abs, ih]; split <;> split <;> omega
    unfold comb
    rw [hr, mx_abs]
    by_cases hx : u n < 0
    ·rw [if_pos hx, if_pos hx, decide_eq_true hx]
     by_cases hN : N % 2 = 1
     ·rw [if_pos hN] at ih
      rw [if_neg (by omega : ¬ (N + 1) % 2 = 1)]
      by_cases hM : r < 0
      ·rw [decide_eq_true hM, if_neg (by decide)]
      ·rw [decide_eq_false hM, if_pos (by decide)]
       have : M = 0 := by omega
       subst this
       unfold mn; split <;> omega
     ·rw [if_neg hN] at ih
      rw [if_pos (by omega : (N + 1) % 2 = 1), decide_eq_false (by omega : ¬ r < 0), if_pos (by decide)]
    ·rw [if_neg hx, if_neg hx, decide_eq_false hx, Int.add_zero]
     by_cases hN : N % 2 = 1
     ·rw [if_pos hN] at ih ⊢
      by_cases hM : r < 0
      ·rw [decide_eq_true hM, if_pos (by decide)]
      ·rw [decide_eq_false hM, if_neg (by decide)]
       have : M = 0 := by omega
       subst this
       unfold mn; split <;> omega
     ·rw [if_neg hN] at ih ⊢
      rw [decide_eq_false (by omega : ¬ r < 0), if_neg (by decide)]
   ·have e1 : rv u q i (n + 1) = rv u q i n := by simp only [rv]; rw [if_neg h1, if_neg h2]
    have e2 : ng u q i (n + 1) = ng u q i n := by simp only [ng]; rw [if_neg h1, if_neg h2]
    have e3 : mg u q i (n + 1) = mg u q i n := by simp only [mg]; rw [if_neg h1, if_neg h2]
    rw [e1, e2, e3]; exact ih
theorem rv_bound (u : Nat → Int) (q : Nat → Bool) (i n : Nat) : -1099511627776 ≤ rv u q i n ∧ rv u q i n ≤ 1099511627776 := by
 have hb := mg_bound u q i n
 rw [rv_eq]
 split <;> omega
theorem nga_eq (u : Nat → Int) (q : Nat → Bool) (i : Nat) (hi : q i = true) : ∀ n, nga u q n = ng u q i n + (if i < n then (if u i < 0 then 1 else 0) else 0)
 | 0 => by simp [nga, ng]
 | n + 1 => by
  have ih := nga_eq u q i hi n
  by_cases h1 : n = i
  ·subst h1
   have e1 : nga u q (n + 1) = nga u q n + (if u n < 0 then 1 else 0) := by simp only [nga]; rw [if_pos hi]
   have e2 : ng u q n (n + 1) = ng u q n n := by simp [ng]
   rw [if_neg (by omega)] at ih
   rw [e1, e2, if_pos (by omega : n < n + 1), ih]; omega
  ·have e : (if i < n + 1 then (if u i < 0 then (1 : Int) else 0) else 0) = (if i < n then (if u i < 0 then 1 else 0) else 0) := by
    by_cases h2 : i < n
    ·rw [if_pos h2, if_pos (by omega)]
    ·rw [if_neg h2, if_neg (by omega)]
   rw [e]
   by_cases h2 : q n = true
   ·have e1 : nga u q (n + 1) = nga u q n + (if u n < 0 then 1 else 0) := by simp only [nga]; rw [if_pos h2]
    have e2 : ng u q i (n + 1) = ng u q i n + (if u n < 0 then 1 else 0) := by simp only [ng]; rw [if_neg h1, if_pos h2]
    rw [e1, e2, ih]; omega
   ·have e1 : nga u q (n + 1) = nga u q n := by simp only [nga]; rw [if_neg h2]
    have e2 : ng u q i (n + 1) = ng u q i n := by simp only [ng]; rw [if_neg h1, if_neg h2]
    rw [e1, e2, ih]
/-- What the two least values, their place and the number of negative messages tell of the positions below n. -/
def Stt (rows : List (List Int)) (u : Nat → Int) (j n : Nat) (f s a m : Int) : Prop :=
 m = nga u (bit rows j) n ∧ ((a = -1 ∧ f = 1099511627776 ∧ s = 1099511627776 ∧ ∀ i, mg u (bit rows j) i n = 1099511627776) ∨
  (∃ q : Nat, q < n ∧ bit rows j q = true ∧ a = ((one rows j q).length : Int) ∧ f = mx (u q) (-(u q)) ∧ s = mg u (bit rows j) q n ∧ f ≤ s ∧ ∀ i, i ≠ q → mg u (bit rows j) i n = f))
theorem Stt_0 (rows : List (List Int)) (u : Nat → Int) (j : Nat) : Stt rows u j 0 1099511627776 1099511627776 (-1) 0 :=
 ⟨rfl, Or.inl ⟨rfl, rfl, rfl, fun _ => rfl⟩⟩
theorem Stt_skip {rows : List (List Int)} {u : Nat → Int} {j n : Nat} {f s a m : Int} (h : Stt rows u j n f s a m) (hb : ¬ bit rows j n = true) : Stt rows u j (n + 1) f s a m := by
 have e : ∀ i, mg u (bit rows j) i (n + 1) = mg u (bit rows j) i n := fun i => by simp only [mg]; rw [if_neg hb]; split <;> rfl
 have e2 : nga u (bit rows j) (n + 1) = nga u (bit rows j) n := by simp only [nga]; rw [if_neg hb]
 obtain ⟨h1, h2⟩ := h
 refine ⟨by rw [e2]; exact h1, ?_⟩
 rcases h2 with ⟨a1, a2, a3, a4⟩ | ⟨q, b1, b2, b3, b4, b5, b6, b7⟩
 ·exact Or.inl ⟨a1, a2, a3, fun i => by rw [e]; exact a4 i⟩
 ·exact Or.inr ⟨q, by omega, b2, b3, b4, by rw [e]; exact b5, b6, fun i hi => by rw [e]; exact b7 i hi⟩
section
variable {rows : List (List Int)} {u : Nat → Int} {j n : Nat} {f s a m : Int} (h : Stt rows u j n f s a m) (hb : bit rows j n = true) (hu : mx (u n) (-(u n)) ≤ 1099511627776)
include h hb
theorem Stt_minus : (if u n < 0 then m + 1 else m) = nga u (bit rows j) (n + 1) := by
 simp only [nga]
 rw [if_pos hb, ← h.1]
 split <;> omega
omit hb in
theorem Stt_range : (a = -1 ∨ 0 ≤ a) ∧ 0 ≤ f ∧ f ≤ s ∧ s ≤ 1099511627776 := by
 obtain ⟨h1, h2⟩ := h
 rcases h2 with ⟨a1, a2, a3, a4⟩ | ⟨q, b1, b2, b3, b4, b5, b6, b7⟩
 ·omega
 ·have := mg_bound u (bit rows j) q n
  have h3 := mx_abs (u q)
  rw [← b4] at h3
  refine ⟨Or.inr (by omega), ?_, b6, by omega⟩
  rw [h3]; split <;> omega
include hu
theorem Stt_new (hlt : a < 0 ∨ mx (u n) (-(u n)) < f) : Stt rows u j (n + 1) (mx (u n) (-(u n))) f ((one rows j n).length : Int) (if u n < 0 then m + 1 else m) := by
 refine ⟨Stt_minus h hb, Or.inr ⟨n, by omega, hb, rfl, rfl, ?_, ?_, ?_⟩⟩
 ·rw [show mg u (bit rows j) n (n + 1) = mg u (bit rows j) n n by simp [mg]]
  rcases h.2 with ⟨a1, a2, a3, a4⟩ | ⟨q, b1, b2, b3, b4, b5, b6, b7⟩
  ·rw [a2, a4]
  ·rw [b7 n (by omega)]
 ·rcases h.2 with ⟨a1, a2, a3, a4⟩ | ⟨q, b1, b2, b3, b4, b5, b6, b7⟩
  ·omega
  ·omega
 ·intro i hi
  simp only [mg]
  rw [if_neg (Ne.symm hi), if_pos hb]
  rcases h.2 with ⟨a1, a2, a3, a4⟩ | ⟨q, b1, b2, b3, b4, b5, b6, b7⟩
  ·rw [a4]; unfold mn; split <;> omega
  ·have : f ≤ mg u (bit rows j) i n := by
    by_cases e : i = q
    ·subst e; omega
    ·rw [b7 i e]; omega
   unfold mn; split <;> omega
omit hu
theorem Stt_old (hge : ¬ a < 0) (hge2 : ¬ mx (u n) (-(u n)) < f) : Stt rows u j (n + 1) f (if mx (u n) (-(u n)) < s then mx (u n) (-(u n)) else s) a (if u n < 0 then m + 1 else m) := by
 rcases h.2 with ⟨a1, a2, a3, a4⟩ | ⟨q, b1, b2, b3, b4, b5, b6, b7⟩
 ·omega
 ·refine ⟨Stt_minus h hb, Or.inr ⟨q, by omega, b2, b3, b4, ?_, by split <;> omega, ?_⟩⟩
  ·have e : mg u (bit rows j) q (n + 1) = mn (mx (u n) (-(u n))) (mg u (bit rows j) q n) := by simp only [mg]; rw [if_neg (by omega), if_pos hb]
   rw [e, ← b5]
   unfold mn
   by_cases h3 : mx (u n) (-(u n)) < s
   ·rw [if_pos h3]; split <;> omega
   ·rw [if_neg h3]; split <;> omega
  ·intro i hi
   simp only [mg]
   by_cases e : n = i
   ·rw [if_pos e]; exact b7 i hi
   ·rw [if_neg e, if_pos hb, b7 i hi]
    unfold mn; split <;> omega
end
/-- The message to position i. -/
theorem Stt_out {rows : List (List Int)} {u : Nat → Int} {j C : Nat} {f s a m : Int} (h : Stt rows u j C f s a m) (i : Nat) (hi : i < C) (hb : bit rows j i = true) :
  (if ((one rows j i).length : Int) = a then s else f) = mg u (bit rows j) i C ∧ m - (if u i < 0 then 1 else 0) = ng u (bit rows j) i C := by
 have h2 := nga_eq u (bit rows j) i hb C
 rw [if_pos hi, ← h.1] at h2
 refine ⟨?_, by omega⟩
 rcases h.2 with ⟨a1, a2, a3, a4⟩ | ⟨q, b1, b2, b3, b4, b5, b6, b7⟩
 ·rw [if_neg (by omega), a4, a2]
 ·by_cases e : i = q
  ·subst e; rw [if_pos b3.symm, b5]
  ·rw [b7 i e]
   refine if_neg (fun e2 => ?_)
   rw [b3] at e2
   have e3 : (one rows j i).length = (one rows j q).length := by omega
   rcases Nat.lt_or_gt_of_ne e with h3 | h3
   ·have := PG_lt (fun i => (i : Int)) (bit rows j) i hb q h3
    have e4 : (PG (fun i => (i : Int)) (bit rows j) i).length = (PG (fun i => (i : Int)) (bit rows j) q).length := e3
    omega
   ·have := PG_lt (fun i => (i : Int)) (bit rows j) q b2 i h3
    have e4 : (PG (fun i => (i : Int)) (bit rows j) i).length = (PG (fun i => (i : Int)) (bit rows j) q).length := e3
    omega
/-- The messages behind one more round. -/
def nxF (rows : List (List Int)) (C : Nat) (inp : List Int) (F : Nat → Nat → Int) (j i : Nat) : Int := rv (fun k => smv rows inp F (j : Int) k) (bit rows j) i C
def msF (rows : List (List Int)) (C : Nat) (inp : List Int) : Nat → Nat → Nat → Int
 | 0 => fun _ _ => 0
 | r + 1 => nxF rows C inp (msF rows C inp r)
theorem nxF_bd (rows : List (List Int)) (C : Nat) (inp : List Int) (F : Nat → Nat → Int) : Bd (nxF rows C inp F) := fun _ _ => rv_bound _ _ _ _
theorem msF_bd (rows : List (List Int)) (C : Nat) (inp : List Int) : ∀ r, Bd (msF rows C inp r)
 | 0 => fun _ _ => by simp only [msF]; omega
 | _ + 1 => nxF_bd _ _ _ _
/-- The beliefs behind r rounds. -/
def bel (rows : List (List Int)) (C : Nat) (inp : List Int) (r : Nat) : List Int := LL C (fun p => smv rows inp (msF rows C inp r) (-1) p)
end Go.Proofs.Ytmclalniilkjiaa.Rv
namespace Go.Proofs.Ytmclalniilkjiaa.Q
open Go.RowKit Go.Proofs.YtmclalniilkjiaaW.PrintWords Go.Proofs.YtmclalniilkjiaaW.PrintLast Go.Proofs.YtmclalniilkjiaaW.PrintMore
open List renaming setIfInBounds_toArray → l01_, set_cons_zero → l02_, set_cons_succ → l03_
attribute [local go_sem] max2_int min2_int max_two min_two max_three min_three max_four min_four
set_option linter.unusedVariables false
set_option linter.unusedSimpArgs false
def message_inputs.l0 : Nat → Int → List Int → Int → Int → Option (Int)
 | 0, _, _, _, _ => none
 | k + 1, x2, x14, x15, x16 => if x16 < x15 then (if 0 ≤ x16 then (if x16 < (x14.length : Int) then (if (rd x14 x16) < (-1048576) then (some 6) else (if (rd x14 x16) > 1048576 then (some 6) else (message_inputs.l0 k x2 x14 x15 (wrap64 (x16 + 1))))) else (none)) else (none)) else (if x2 < 0 then (some 6) else (if x2 > 256 then (some 6) else (some 0)))
def message_inputs.f (k : Nat) (a0_0 : Int) (l0_1 : List (List Int)) (l1 : List Int) (a2 : Int) : Option (Int) := if (l1.length : Int) = a0_0 then (message_inputs.l0 k a2 l1 (l1.length : Int) 0) else (some 4)
theorem message_inputs.mono_l : ∀ k, (∀ y0 y1 y2 y3, LeO (message_inputs.l0 k y0 y1 y2 y3) (message_inputs.l0 (k + 1) y0 y1 y2 y3))
 | 0 => fun _ _ _ _ r h => by simp [message_inputs.l0] at h
 | k + 1 => by
  have ih0 := message_inputs.mono_l k
  ·intro y0 y1 y2 y3;unfold message_inputs.l0
   repeat' first
   | (with_reducible exact ih0 _ _ _ _)
   | (with_reducible exact LeO.refl _)
   | (with_reducible exact LeO.none _)
   | (with_reducible refine LeO.ite ?_ ?_)
   | (with_reducible refine LeO.bind ?_ (fun _ => ?_))
   | exact ih0 _ _ _ _
   | exact LeO.none _
   | refine LeO.ite ?_ ?_
   | refine LeO.bind ?_ (fun _ => ?_)
theorem message_inputs.mono : ∀ a0 a1 a2 a3 k, LeO (message_inputs.f k a0 a1 a2 a3) (message_inputs.f (k + 1) a0 a1 a2 a3) := by
 intro a0 a1 a2 a3 k;have ih0 := message_inputs.mono_l k;unfold message_inputs.f
 repeat' first
   | (with_reducible exact ih0 _ _ _ _)
   | (with_reducible exact LeO.refl _)
   | (with_reducible exact LeO.none _)
   | (with_reducible refine LeO.ite ?_ ?_)
   | (with_reducible refine LeO.bind ?_ (fun _ => ?_))
   | exact ih0 _ _ _ _
   | exact LeO.none _
   | refine LeO.ite ?_ ?_
   | refine LeO.bind ?_ (fun _ => ?_)
set_option maxHeartbeats 8000000 in
set_option maxRecDepth 100000 in
theorem message_inputs.calls (k : Nat) (a0_0 : Int) (A0_1 : Option Addr) (c0_1 : Nat) (l0_1 : List (List Int)) (A1 : Option Addr) (c1 : Nat) (l1 : List Int) (a2 : Int) (r : Int) (w : World) (hr0_1 : Kd.C (Kd.slice 3 (Kd.int .i64)) w A0_1 l0_1.length l0_1) (hc0_1 : l0_1.length ≤ c0_1) (hr1 : Kd.C (Kd.int .i64) w A1 l1.length l1) (hc1 : l1.length ≤ c1) (h : message_inputs.f k a0_0 l0_1 l1 a2 = some r) :
  Calls Try.prog 45 #[.agg #[.int .i64 a0_0, .slice A0_1 l0_1.length c0_1], .slice A1 l1.length c1, .int .i64 a2] w fun e w' => e = .returned (.int .i64 r) ∧ Below w.heap.size w w' := by
 have hu24 := Try.underlying24;have HR0_1 := Ai0.mk hr0_1;have HC0_1 := Ai0.mk hc0_1;clear hr0_1 hc0_1;have HR1 := Ai0.mk hr1;have HC1 := Ai0.mk hc1;clear hr1 hc1;have HB := Ai0.mk (Below.refl w.heap.size w);have H : (if (l1.length : Int) = a0_0 then (message_inputs.l0 k a2 l1 (l1.length : Int) 0) else (some 4)) = some r := h;clear h;by_cases c4 : (l1.length : Int) = a0_0
 ·rw [if_pos c4] at H;have c4b0 : ((l1.length : Int) == a0_0) = true := beq_iff_eq.mpr c4;have c4b1 : ((l1.length : Int) != a0_0) = false := bne_eq_false_iff_eq.mpr c4;clear c4;have H' := Ai0.mk H;clear H;go_enter Try.func45, Try.ntmps45
  go_wp2_with (first | ((with_reducible refine gate_dst (N := 3) rfl ?_); refine box_event ?hg (N := 3) ?hd (cs := #[.int .i64 a0_0, .slice A0_1 l0_1.length c0_1]) (t := 24) ?hr ?_; (case hd => rfl); (case hg => rfl); (case hr => first | (go_simp; done) | (go_simp; rfl)); intro gb125 hg w5 hbox hb; have n0_ := Ai0.mk (bt1 bl_ hb); have n1_ := Ai0.mk (hbox); have n2_ := Ai0.mk ((by rw [hg]; exact (bz1 bl_) : w.heap.size ≤ gb125)); have n3_ := Ai0.mk ((by rw [hg]; exact (bz1 bl_) : w.heap.size ≤ gb125)); clear HB; have HB := n0_; have BK125 := n1_; have GW125 := n2_; have GE125 := n3_; clear n0_ n1_ n2_ n3_; clear hb hbox hg; have hcz6_0 : w5.cell? ⟨gb125, 0, none⟩ = some (.int .i64 a0_0) := (kc1 BK125.out 0).trans rfl; have hcz6_1 : w5.cell? ⟨gb125, 1, none⟩ = some (.slice A0_1 l0_1.length c0_1) := (kc1 BK125.out 1).trans rfl; have hfz6_0 := kf1 BK125.out 0; have hfz6_1 := kf1 BK125.out 1))
  go_loopg [16] k (fun kq v16 w' => ∃ (x16_1 : Int), v16 = .int .i64 x16_1 ∧ Ai0 (message_inputs.l0 kq a2 l1 (l1.length : Int) x16_1 = some r) ∧ Ai0 (kq ≤ k) ∧ Ai0 (w'.heap[gb125]? = some (.cells #[.int .i64 a0_0, (.slice A0_1 l0_1.length c0_1)] 24 (0, 0))) ∧ Ai0 (Below w.heap.size w w'))
  case atStart => exact ⟨(0), rf_, H', ⟨Nat.le_refl _⟩, ⟨kk_ BK125.out⟩, ⟨bl_⟩⟩
  case round =>
   clear H'
   try clear c1
   try clear p2
   try clear c4
   try clear c4b0
   try clear c4b1
   try clear hcz6_0
   try clear hcz6_1
   try clear hfz6_0
   try clear hfz6_1
   obtain ⟨x16_1, rfl, HA, HK1, BK125, HB⟩ := hrel
   cases gk with
   | zero => exact absurd HA.out (by simp [message_inputs.l0])
   | succ k1 =>
    have H := HA.out;clear HA;simp only [message_inputs.l0] at H;by_cases c7 : x16_1 < (l1.length : Int)
    ·rw [if_pos c7] at H;have c7b0 : decide (x16_1 < (l1.length : Int)) = true := decide_eq_true c7;clear c7;by_cases c8 : 0 ≤ x16_1
     ·rw [if_pos c8] at H;have c8b0 : decide (0 ≤ x16_1) = true := decide_eq_true c8;clear c8;by_cases c9 : x16_1 < (l1.length : Int)
      ·rw [if_pos c9] at H;have c9b0 : decide (x16_1 < (l1.length : Int)) = true := decide_eq_true c9;clear c9;by_cases c10 : (rd l1 x16_1) < (-1048576)
       ·rw [if_pos c10] at H;have c10b0 : decide ((rd l1 x16_1) < (-1048576)) = true := decide_eq_true c10;clear c10;obtain rfl := Option.some.inj H;have p126 : 0 ≤ (x16_1 : Int) := od_;have q126 : x16_1 < (l1.length : Int) := od_;obtain ⟨ad126, e126, hx126_0⟩ := Kd.at_int HR1.out x16_1 p126 q126;cases e126;replace hx126_0 := (HB.out.cell (World.block_lt_of_cell? w _ hx126_0)).trans hx126_0;replace p126 := eq_true p126;replace q126 := eq_true q126
        go_wp2
        go_ret
        exact ⟨by first | rfl | (simp [eW0, eW1] <;> rfl) | (simp [*, eW0, eW1] <;> rfl), bl_⟩
       ·rw [if_neg c10] at H;have c10b0 : decide ((rd l1 x16_1) < (-1048576)) = false := decide_eq_false c10;clear c10;by_cases c11 : (rd l1 x16_1) > 1048576
        ·rw [if_pos c11] at H;have c11b0 : decide (1048576 < (rd l1 x16_1)) = true := decide_eq_true c11;clear c11;obtain rfl := Option.some.inj H;have p126 : 0 ≤ (x16_1 : Int) := od_;have q126 : x16_1 < (l1.length : Int) := od_;obtain ⟨ad126, e126, hx126_0⟩ := Kd.at_int HR1.out x16_1 p126 q126;cases e126;replace hx126_0 := (HB.out.cell (World.block_lt_of_cell? w _ hx126_0)).trans hx126_0;replace p126 := eq_true p126;replace q126 := eq_true q126
         go_wp2
         go_ret
         exact ⟨by first | rfl | (simp [eW0, eW1] <;> rfl) | (simp [*, eW0, eW1] <;> rfl), bl_⟩
        ·rw [if_neg c11] at H;have c11b0 : decide (1048576 < (rd l1 x16_1)) = false := decide_eq_false c11;clear c11;have H' := Ai0.mk H;clear H;have p126 : 0 ≤ (x16_1 : Int) := od_;have q126 : x16_1 < (l1.length : Int) := od_;obtain ⟨ad126, e126, hx126_0⟩ := Kd.at_int HR1.out x16_1 p126 q126;cases e126;replace hx126_0 := (HB.out.cell (World.block_lt_of_cell? w _ hx126_0)).trans hx126_0;replace p126 := eq_true p126;replace q126 := eq_true q126
         go_wp2
         go_roundg k1
         case measure => have := HK1.out; omega
         case rel => exact ⟨(wrap64 (x16_1 + 1)), rf_, H', ⟨by have := HK1.out; omega⟩, ⟨kk_ BK125.out⟩, ⟨bl_⟩⟩
      ·rw [if_neg c9] at H;exact absurd H (by simp)
     ·rw [if_neg c8] at H;exact absurd H (by simp)
    ·rw [if_neg c7] at H;have c7b0 : decide (x16_1 < (l1.length : Int)) = false := decide_eq_false c7;clear c7;by_cases c12 : a2 < 0
     ·rw [if_pos c12] at H;have c12b0 : decide (a2 < 0) = true := decide_eq_true c12;clear c12;obtain rfl := Option.some.inj H
      go_wp2
      go_ret
      exact ⟨by first | rfl | (simp [eW0, eW1] <;> rfl) | (simp [*, eW0, eW1] <;> rfl), bl_⟩
     ·rw [if_neg c12] at H;have c12b0 : decide (a2 < 0) = false := decide_eq_false c12;clear c12;by_cases c13 : a2 > 256
      ·rw [if_pos c13] at H;have c13b0 : decide (256 < a2) = true := decide_eq_true c13;clear c13;obtain rfl := Option.some.inj H
       go_wp2
       go_ret
       exact ⟨by first | rfl | (simp [eW0, eW1] <;> rfl) | (simp [*, eW0, eW1] <;> rfl), bl_⟩
      ·rw [if_neg c13] at H;have c13b0 : decide (256 < a2) = false := decide_eq_false c13;clear c13;obtain rfl := Option.some.inj H
       go_wp2
       go_ret
       exact ⟨by first | rfl | (simp [eW0, eW1] <;> rfl) | (simp [*, eW0, eW1] <;> rfl), bl_⟩
 ·rw [if_neg c4] at H;have c4b0 : ((l1.length : Int) == a0_0) = false := beq_eq_false_iff_ne.mpr c4;have c4b1 : ((l1.length : Int) != a0_0) = true := bne_iff_ne.mpr c4;obtain rfl := Option.some.inj H;go_enter Try.func45, Try.ntmps45
  go_wp2_with (first | ((with_reducible refine gate_dst (N := 3) rfl ?_); refine box_event ?hg (N := 3) ?hd (cs := #[.int .i64 a0_0, .slice A0_1 l0_1.length c0_1]) (t := 24) ?hr ?_; (case hd => rfl); (case hg => rfl); (case hr => first | (go_simp; done) | (go_simp; rfl)); intro gb125 hg w14 hbox hb; have n0_ := Ai0.mk (bt1 bl_ hb); have n1_ := Ai0.mk (hbox); have n2_ := Ai0.mk ((by rw [hg]; exact (bz1 bl_) : w.heap.size ≤ gb125)); have n3_ := Ai0.mk ((by rw [hg]; exact (bz1 bl_) : w.heap.size ≤ gb125)); clear HB; have HB := n0_; have BK125 := n1_; have GW125 := n2_; have GE125 := n3_; clear n0_ n1_ n2_ n3_; clear hb hbox hg; have hcz15_0 : w14.cell? ⟨gb125, 0, none⟩ = some (.int .i64 a0_0) := (kc1 BK125.out 0).trans rfl; have hcz15_1 : w14.cell? ⟨gb125, 1, none⟩ = some (.slice A0_1 l0_1.length c0_1) := (kc1 BK125.out 1).trans rfl; have hfz15_0 := kf1 BK125.out 0; have hfz15_1 := kf1 BK125.out 1))
  go_ret
  exact ⟨by first | rfl | (simp [eW0, eW1] <;> rfl) | (simp [*, eW0, eW1] <;> rfl), bl_⟩
def mg_messages.l0 : Nat → List (List Int) → List (List Int) → Int → Int → Option ((List (List Int)))
 | 0, _, _, _, _ => none
 | k + 1, x3, x9, x10, x11 => if x11 < x10 then (if 0 ≤ x11 then (if x11 < (x9.length : Int) then (if 0 ≤ ((rd_L1 x9 x11).length : Int) then (if (((rd_L1 x9 x11).length : Int) : Int).toNat ≤ 35184372088832 then (if x3.length < 5864062014805 then (mg_messages.l0 k (x3 ++ [(List.replicate (((rd_L1 x9 x11).length : Int) : Int).toNat 0)]) x9 x10 (wrap64 (x11 + 1))) else (none)) else (none)) else (none)) else (none)) else (none)) else (some x3)
def mg_messages.f (k : Nat) (l0_0 : List (List Int)) (l0_1 : List (List (S77))) : Option ((List (List Int))) := mg_messages.l0 k ([] : List (List Int)) l0_0 (l0_0.length : Int) 0
theorem mg_messages.mono_l : ∀ k, (∀ y0 y1 y2 y3, LeO (mg_messages.l0 k y0 y1 y2 y3) (mg_messages.l0 (k + 1) y0 y1 y2 y3))
 | 0 => fun _ _ _ _ r h => by simp [mg_messages.l0] at h
 | k + 1 => by
  have ih0 := mg_messages.mono_l k
  ·intro y0 y1 y2 y3;unfold mg_messages.l0
   repeat' first
   | (with_reducible exact ih0 _ _ _ _)
   | (with_reducible exact LeO.refl _)
   | (with_reducible exact LeO.none _)
   | (with_reducible refine LeO.ite ?_ ?_)
   | (with_reducible refine LeO.bind ?_ (fun _ => ?_))
   | exact ih0 _ _ _ _
   | exact LeO.none _
   | refine LeO.ite ?_ ?_
   | refine LeO.bind ?_ (fun _ => ?_)
theorem mg_messages.mono : ∀ a0 a1 k, LeO (mg_messages.f k a0 a1) (mg_messages.f (k + 1) a0 a1) := by
 intro a0 a1 k;have ih0 := mg_messages.mono_l k;unfold mg_messages.f
 repeat' first
   | (with_reducible exact ih0 _ _ _ _)
   | (with_reducible exact LeO.refl _)
   | (with_reducible exact LeO.none _)
   | (with_reducible refine LeO.ite ?_ ?_)
   | (with_reducible refine LeO.bind ?_ (fun _ => ?_))
   | exact ih0 _ _ _ _
   | exact LeO.none _
   | refine LeO.ite ?_ ?_
   | refine LeO.bind ?_ (fun _ => ?_)
set_option maxHeartbeats 8000000 in
set_option maxRecDepth 100000 in
theorem mg_messages.calls (k : Nat) (A0_0 : Option Addr) (c0_0 : Nat) (l0_0 : List (List Int)) (A0_1 : Option Addr) (c0_1 : Nat) (l0_1 : List (List (S77))) (r : List (List Int)) (gG : Nat) (w : World) (hr0_0 : Kd.C (Kd.slice 3 (Kd.int .i64)) w A0_0 l0_0.length l0_0) (hc0_0 : l0_0.length ≤ c0_0) (hr0_1 : Kd.C (Kd.slice 77 k77) w A0_1 l0_1.length l0_1) (hc0_1 : l0_1.length ≤ c0_1) (hG : w.heap[gG]? = some (.cells #[.slice A0_0 l0_0.length c0_0, .slice A0_1 l0_1.length c0_1] 73 (0, 0))) (h : mg_messages.f k l0_0 l0_1 = some r) :
  Calls Try.prog 46 #[.pointer (some ⟨gG, 0, none⟩)] w fun e w' => ∃ v0_ : Value, e = .returned (v0_) ∧ Kd.S (Kd.slice 3 (Kd.int .i64)) 25 w' w.heap.size (fun _ => True) v0_ r ∧ Below w.heap.size w w' := by
 have hu73 := Try.underlying73;have HR0_0 := Ai0.mk hr0_0;have HC0_0 := Ai0.mk hc0_0;clear hr0_0 hc0_0;have HR0_1 := Ai0.mk hr0_1;have HC0_1 := Ai0.mk hc0_1;clear hr0_1 hc0_1;have HB := Ai0.mk (Below.refl w.heap.size w);have H : (mg_messages.l0 k ([] : List (List Int)) l0_0 (l0_0.length : Int) 0) = some r := h;clear h;have H' := Ai0.mk H;clear H;have BK387 := Ai0.mk hG;have hcz3_0 : w.cell? ⟨gG, 0, none⟩ = some (.slice A0_0 l0_0.length c0_0) := (kc1 BK387.out 0).trans rfl;have hcz3_1 : w.cell? ⟨gG, 1, none⟩ = some (.slice A0_1 l0_1.length c0_1) := (kc1 BK387.out 1).trans rfl;have hfz3_0 := kf1 BK387.out 0;have hfz3_1 := kf1 BK387.out 1;go_enter Try.func46, Try.ntmps46
 go_wp2
 go_loopg [3, 11] k (fun kq v3 v11 w' => ∃ (x3_1 : List (List Int)) (x11_1 : Int), v11 = .int .i64 x11_1 ∧ Ai0 (mg_messages.l0 kq x3_1 l0_0 (l0_0.length : Int) x11_1 = some r) ∧ Ai0 (kq ≤ k) ∧ Ai0 (Kd.S (Kd.slice 3 (Kd.int .i64)) 25 w' w.heap.size (fun _ => True) v3 x3_1) ∧ Ai0 (w'.heap[gG]? = some (.cells #[(.slice A0_0 l0_0.length c0_0), (.slice A0_1 l0_1.length c0_1)] 73 (0, 0))) ∧ Ai0 (Below w.heap.size w w'))
 case atStart => exact ⟨(([] : List (List Int))), (0), rf_, H', ⟨Nat.le_refl _⟩, ⟨by first | exact Kd.S_nil _ _ _ _ _ | exact Kd.N_nil _ _ _ _ _ | exact Kd.V_nil _ _ _ _ _ | exact Kd.Q_nil _ _ _ _ _ | exact Kd.R_nil _ _ _ _ _⟩, ⟨kk_ BK387.out⟩, ⟨bl_⟩⟩
 case round =>
  clear H'
  try clear p2
  try clear hcz3_0
  try clear hcz3_1
  try clear hfz3_0
  try clear hfz3_1
  obtain ⟨x3_1, x11_1, rfl, HA, HK1, HO_3, BK387, HB⟩ := hrel
  cases gk with
  | zero => exact absurd HA.out (by simp [mg_messages.l0])
  | succ k1 =>
   have H := HA.out;clear HA;simp only [mg_messages.l0] at H;by_cases c4 : x11_1 < (l0_0.length : Int)
   ·rw [if_pos c4] at H;have c4b0 : decide (x11_1 < (l0_0.length : Int)) = true := decide_eq_true c4;clear c4;by_cases c5 : 0 ≤ x11_1
    ·rw [if_pos c5] at H;have c5b0 : decide (0 ≤ x11_1) = true := decide_eq_true c5;clear c5;by_cases c6 : x11_1 < (l0_0.length : Int)
     ·rw [if_pos c6] at H;have c6b0 : decide (x11_1 < (l0_0.length : Int)) = true := decide_eq_true c6;clear c6;by_cases c7 : 0 ≤ ((rd_L1 l0_0 x11_1).length : Int)
      ·rw [if_pos c7] at H;have c7b0 := eq_true c7;have c7b1 : decide (0 ≤ ((rd_L1 l0_0 x11_1).length : Int)) = true := decide_eq_true c7;clear c7;by_cases c8 : (((rd_L1 l0_0 x11_1).length : Int) : Int).toNat ≤ 35184372088832
       ·rw [if_pos c8] at H;have c8b0 := eq_true c8;have c8b1 : decide ((((rd_L1 l0_0 x11_1).length : Int) : Int).toNat ≤ 35184372088832) = true := decide_eq_true c8;clear c8;(obtain ⟨y389, hy389⟩ : ∃ y_ : List Int, y_ = (List.replicate (((rd_L1 l0_0 x11_1).length : Int) : Int).toNat 0) := ⟨_, rfl⟩);(replace H : (if x3_1.length < 5864062014805 then (mg_messages.l0 k1 (x3_1 ++ [y389]) l0_0 (l0_0.length : Int) (wrap64 (x11_1 + 1))) else (none)) = some r := by first | (rw [hy389]; with_reducible exact H) | (have H2_ := (Option.bind_some _ _).symm.trans H; rw [hy389]; with_reducible exact H2_) | (have H2_ := (Option.bind_some _ _).symm.trans H; with_reducible exact H2_) | with_reducible exact H | (rw [hy389]; exact H) | exact H);have Ny389 := Ai0.mk hy389;clear hy389;by_cases c9 : x3_1.length < 5864062014805
        ·rw [if_pos c9] at H;have LMc9 := Ai0.mk c9;clear c9;(obtain ⟨y392, hy392⟩ : ∃ y_ : List (List Int), y_ = (x3_1 ++ [y389]) := ⟨_, rfl⟩);(replace H : (mg_messages.l0 k1 y392 l0_0 (l0_0.length : Int) (wrap64 (x11_1 + 1))) = some r := by first | (rw [hy392]; with_reducible exact H) | (have H2_ := (Option.bind_some _ _).symm.trans H; rw [hy392]; with_reducible exact H2_) | (have H2_ := (Option.bind_some _ _).symm.trans H; with_reducible exact H2_) | with_reducible exact H | (rw [hy392]; exact H) | exact H);have Ny392 := Ai0.mk hy392;clear hy392;have H' := Ai0.mk H;clear H;have p388 : 0 ≤ (x11_1 : Int) := od_;have q388 : x11_1 < (l0_0.length : Int) := od_;obtain ⟨ad388, A388_0, c388_0, e388, hx388_0, hl388_0, hi388_0⟩ := at_L1 HR0_0.out x11_1 p388 q388;cases e388;replace hx388_0 := (HB.out.cell (World.block_lt_of_cell? w _ hx388_0)).trans hx388_0;have HR388_0 := Ai0.mk hi388_0;have HC388_0 := Ai0.mk hl388_0;clear hi388_0 hl388_0;replace p388 := eq_true p388;replace q388 := eq_true q388
         go_wp2_with (first | ((with_reducible refine gate_dst (N := 18) rfl ?_); refine Kd.R_make (Kd.int .i64) _ 3 rfl (N := 18) rfl 25 _ _ rfl ((rd_L1 l0_0 x11_1).length : Int) rfl rfl Try.underlying25 (.int .i64 0) 8 info3 rfl (by decide) (by omega) 0 (ok := fun _ => True) (okp := fun _ => True) rfl (fun _ hk => hk) trivial od_ (Nat.le_trans (Nat.mul_le_mul_right _ (od_ : ((rd_L1 l0_0 x11_1).length : Int).toNat ≤ 35184372088832)) (by omega)) (Below.refl _ _) (Nat.le_refl _) ?_; intro v390 w10 ho11 hb hg_ hnew_; clear hg_ hnew_; (first | rw [← Ny389.out] at ho11 | (simp only [Int.reduceToNat] at ho11; rw [← Ny389.out] at ho11)); have n0_ := Ai0.mk (Kd.S_elder' (ks_ HO_3.out) (Kd.R_base ho11) hb); have n1_ := Ai0.mk (Kd.R_lower ho11 (bz1 bl_)); have n2_ := Ai0.mk (kb1 (g := gG) (o := .cells #[.slice (some ad388) l0_0.length c0_0, .slice A0_1 l0_1.length c0_1] 73 (0, 0)) (kk_ BK387.out) hb); have n3_ := Ai0.mk (bt1 bl_ hb); clear HO_3; clear BK387; clear HB; have HO_3 := n0_; have HO391 := n1_; have BK387 := n2_; have HB := n3_; clear n0_ n1_ n2_ n3_; clear hb ho11; obtain ⟨Ao13, co13, eo13⟩ := Kd.R_slice HO391.out; subst eo13) | ((with_reducible refine gate_builtin (b := .append) (xs := #[.tmp 15, .tmp 19]) rfl ?_); at_builtin; refine Kd.S_append (Kd.slice 3 (Kd.int .i64)) (w0 := w) w.heap.size rfl (.tmp 15) (.tmp 19) 22 25 (.slice none 0 0) 24 rfl Try.underlying22 info25 rfl (by decide) (by omega) u3 x3_1 y389 [.slice Ao13 y389.length co13] (fun _ => True) (fun k_ => some k_ = (.slice Ao13 y389.length co13 : Value).ownBlock) rfl rfl ?aP (fun k_ hk_ => ((Kd.R_mono (ok' := fun k_ => ((fun _ => True)) k_ ∧ some k_ ≠ (u3 : Value).ownBlock) (Kd.R_apart' (HO391.out) (Kd.S_typed HO_3.out) (by decide)) (fun k_ hk => ⟨trivial, hk.2⟩))).1 k_ hk_.symm) ?aF ?aO ?aB ?aS ?aL ?_; (case aP => exact Kd.M_row (Kd.R_mono (Kd.R_tight rfl (Kd.R_mono (ok' := fun k_ => ((fun _ => True)) k_ ∧ some k_ ≠ (u3 : Value).ownBlock) (Kd.R_apart' (HO391.out) (Kd.S_typed HO_3.out) (by decide)) (fun k_ hk => ⟨trivial, hk.2⟩))) (fun _ h_ => h_))); (case aB => exact bl_); (case aF => exact (fun _ _ => trivial)); (case aO => exact (by (with_reducible repeat (first | apply Kd.S_alloc | apply Kd.S_drewN | apply Kd.S_drew)); exact Kd.S_mono HO_3.out (fun k_ hk => ⟨trivial, fun e_ => hk.2 e_⟩))); (case aS => exact (bz1 bl_)); (case aL => have := LMc9.out; omega); intro v393 w12 ho hb hg hat; rw [← Ny392.out] at ho; have n0_ := Ai0.mk (blk_grown (g := gG) (o := .cells #[.slice (some ad388) l0_0.length c0_0, .slice A0_1 l0_1.length c0_1] 73 (0, 0)) (kk_ BK387.out) hg (Kd.S_ne HO_3.out BK387.out (by decide))); have n1_ := Ai0.mk (hb); have n2_ := Ai0.mk (ho); clear BK387; clear HB; clear HO_3; clear HO391; have BK387 := n0_; have HB := n1_; have HO394 := n2_; clear n0_ n1_ n2_; clear ho hb hg hat))
         go_roundg k1
         case measure => have := HK1.out; omega
         case rel => exact ⟨(y392), (wrap64 (x11_1 + 1)), rf_, H', ⟨by have := HK1.out; omega⟩, ⟨ks_ HO394.out⟩, ⟨kk_ BK387.out⟩, ⟨bl_⟩⟩
        ·rw [if_neg c9] at H;exact absurd H (by simp)
       ·rw [if_neg c8] at H;exact absurd H (by simp)
      ·rw [if_neg c7] at H;exact absurd H (by simp)
     ·rw [if_neg c6] at H;exact absurd H (by simp)
    ·rw [if_neg c5] at H;exact absurd H (by simp)
   ·rw [if_neg c4] at H;have c4b0 : decide (x11_1 < (l0_0.length : Int)) = false := decide_eq_false c4;clear c4;obtain rfl := Option.some.inj H
    go_wp2
    go_ret
    exact ⟨_, by first | rfl | (simp [eW0, eW1] <;> rfl) | (simp [*, eW0, eW1] <;> rfl), by (with_reducible repeat (first | apply Kd.S_alloc | apply Kd.S_drewN | apply Kd.S_drew)); exact HO_3.out, bl_⟩
mutual
def mg_round.l0 : Nat → List Int → List (List Int) → List (List Int) → List (List Int) → Int → Int → List (List Int) → List (List (S77)) → Option ((List (List Int)))
 | 0, _, _, _, _, _, _, _, _ => none
 | k + 1, x1, x2, x7, x26, x27, x28, x403000, x403001 => if x28 < x27 then (if 0 ≤ x28 then (if x28 < (x26.length : Int) then (if 0 ≤ ((rd_L1 x26 x28).length : Int) then (if (((rd_L1 x26 x28).length : Int) : Int).toNat ≤ 35184372088832 then (mg_round.l1 k x1 x2 x7 x28 (rd_L1 x26 x28) 1099511627776 1099511627776 (-1) 0 (List.replicate (((rd_L1 x26 x28).length : Int) : Int).toNat 0) x26 x27 x28 (rd_L1 x26 x28) ((rd_L1 x26 x28).length : Int) 0 x403000 x403001) else (none)) else (none)) else (none)) else (none)) else (some x7)
def mg_round.l1 : Nat → List Int → List (List Int) → List (List Int) → Int → List Int → Int → Int → Int → Int → List Int → List (List Int) → Int → Int → List Int → Int → Int → List (List Int) → List (List (S77)) → Option ((List (List Int)))
 | 0, _, _, _, _, _, _, _, _, _, _, _, _, _, _, _, _, _, _ => none
 | k + 1, x1, x2, x7, x8, x9, x10, x11, x12, x13, x14, x26, x27, x28, x36, x37, x38, x403000, x403001 => if x38 < x37 then (if 0 ≤ x38 then (if x38 < (x36.length : Int) then ((mg_sum.f k x403000 x403001 x1 x2 (rd x36 x38) x8).bind fun t411 => (if x38 < (x14.length : Int) then ((some (x14.set (x38 : Int).toNat t411 : List Int)).bind fun y412 => (if (rd y412 x38) < 0 then (mg_round.j2 k x1 x2 x7 x8 x9 x10 x11 x12 (wrap64 (x13 + 1)) y412 x38 (wrap64 (-(rd y412 x38))) x26 x27 x28 x36 x37 x38 x403000 x403001) else (mg_round.j2 k x1 x2 x7 x8 x9 x10 x11 x12 x13 y412 x38 (rd y412 x38) x26 x27 x28 x36 x37 x38 x403000 x403001))) else (none))) else (none)) else (none)) else (mg_round.l2 k x1 x2 x7 x8 x10 x11 x12 x13 x14 x26 x27 x28 (x9.length : Int) 0 x403000 x403001)
def mg_round.j2 : Nat → List Int → List (List Int) → List (List Int) → Int → List Int → Int → Int → Int → Int → List Int → Int → Int → List (List Int) → Int → Int → List Int → Int → Int → List (List Int) → List (List (S77)) → Option ((List (List Int)))
 | 0, _, _, _, _, _, _, _, _, _, _, _, _, _, _, _, _, _, _, _, _ => none
 | k + 1, x1, x2, x7, x8, x9, x10, x11, x12, x13, x14, x15, x17, x26, x27, x28, x36, x37, x38, x403000, x403001 => if x12 < 0 then (mg_round.j3 k x1 x2 x7 x8 x9 x10 x11 x12 x13 x14 x15 x17 x26 x27 x28 x36 x37 x38 true x403000 x403001) else (mg_round.j3 k x1 x2 x7 x8 x9 x10 x11 x12 x13 x14 x15 x17 x26 x27 x28 x36 x37 x38 (decide (x17 < x10)) x403000 x403001)
def mg_round.j3 : Nat → List Int → List (List Int) → List (List Int) → Int → List Int → Int → Int → Int → Int → List Int → Int → Int → List (List Int) → Int → Int → List Int → Int → Int → Bool → List (List Int) → List (List (S77)) → Option ((List (List Int)))
 | 0, _, _, _, _, _, _, _, _, _, _, _, _, _, _, _, _, _, _, _, _, _ => none
 | k + 1, x1, x2, x7, x8, x9, x10, x11, x12, x13, x14, x15, x17, x26, x27, x28, x36, x37, x38, x62, x403000, x403001 => if x62 = true then (mg_round.l1 k x1 x2 x7 x8 x9 x17 x10 x15 x13 x14 x26 x27 x28 x36 x37 (wrap64 (x38 + 1)) x403000 x403001) else (if x17 < x11 then (mg_round.l1 k x1 x2 x7 x8 x9 x10 x17 x12 x13 x14 x26 x27 x28 x36 x37 (wrap64 (x38 + 1)) x403000 x403001) else (mg_round.l1 k x1 x2 x7 x8 x9 x10 x11 x12 x13 x14 x26 x27 x28 x36 x37 (wrap64 (x38 + 1)) x403000 x403001))
def mg_round.l2 : Nat → List Int → List (List Int) → List (List Int) → Int → Int → Int → Int → Int → List Int → List (List Int) → Int → Int → Int → Int → List (List Int) → List (List (S77)) → Option ((List (List Int)))
 | 0, _, _, _, _, _, _, _, _, _, _, _, _, _, _, _, _ => none
 | k + 1, x1, x2, x7, x8, x10, x11, x12, x13, x14, x26, x27, x28, x80, x81, x403000, x403001 => if x81 < x80 then (if x81 = x12 then (mg_round.j5 k x1 x2 x7 x8 x10 x11 x12 x13 x14 x81 x11 x13 x26 x27 x28 x80 x81 x403000 x403001) else (mg_round.j5 k x1 x2 x7 x8 x10 x11 x12 x13 x14 x81 x10 x13 x26 x27 x28 x80 x81 x403000 x403001)) else (mg_round.l0 k x1 x2 x7 x26 x27 (wrap64 (x28 + 1)) x403000 x403001)
def mg_round.j5 : Nat → List Int → List (List Int) → List (List Int) → Int → Int → Int → Int → Int → List Int → Int → Int → Int → List (List Int) → Int → Int → Int → Int → List (List Int) → List (List (S77)) → Option ((List (List Int)))
 | 0, _, _, _, _, _, _, _, _, _, _, _, _, _, _, _, _, _, _, _ => none
 | k + 1, x1, x2, x7, x8, x10, x11, x12, x13, x14, x18, x19, x20, x26, x27, x28, x80, x81, x403000, x403001 => if 0 ≤ x18 then (if x18 < (x14.length : Int) then (if (rd x14 x18) < 0 then (if (Int.tmod (wrap64 (x20 - 1)) 2) = 1 then (if 0 ≤ x8 then (if x8 < (x7.length : Int) then (if x18 < ((rd_L1 x7 x8).length : Int) then (mg_round.l2 k x1 x2 (x7.set (x8 : Int).toNat ((rd_L1 x7 x8).set (x18 : Int).toNat (wrap64 (-x19)))) x8 x10 x11 x12 x13 x14 x26 x27 x28 x80 (wrap64 (x81 + 1)) x403000 x403001) else (none)) else (none)) else (none)) else (if 0 ≤ x8 then (if x8 < (x7.length : Int) then (if x18 < ((rd_L1 x7 x8).length : Int) then (mg_round.l2 k x1 x2 (x7.set (x8 : Int).toNat ((rd_L1 x7 x8).set (x18 : Int).toNat x19)) x8 x10 x11 x12 x13 x14 x26 x27 x28 x80 (wrap64 (x81 + 1)) x403000 x403001) else (none)) else (none)) else (none))) else (if (Int.tmod x20 2) = 1 then (if 0 ≤ x8 then (if x8 < (x7.length : Int) then (if x18 < ((rd_L1 x7 x8).length : Int) then (mg_round.l2 k x1 x2 (x7.set (x8 : Int).toNat ((rd_L1 x7 x8).set (x18 : Int).toNat (wrap64 (-x19)))) x8 x10 x11 x12 x13 x14 x26 x27 x28 x80 (wrap64 (x81 + 1)) x403000 x403001) else (none)) else (none)) else (none)) else (if 0 ≤ x8 then (if x8 < (x7.length : Int) then (if x18 < ((rd_L1 x7 x8).length : Int) then (mg_round.l2 k x1 x2 (x7.set (x8 : Int).toNat ((rd_L1 x7 x8).set (x18 : Int).toNat x19)) x8 x10 x11 x12 x13 x14 x26 x27 x28 x80 (wrap64 (x81 + 1)) x403000 x403001) else (none)) else (none)) else (none)))) else (none)) else (none)
end
def mg_round.f (k : Nat) (l0_0 : List (List Int)) (l0_1 : List (List (S77))) (l1 : List Int) (l2 : List (List Int)) : Option ((List (List Int))) := (mg_messages.f k l0_0 l0_1).bind fun t403 => (mg_round.l0 k l1 l2 t403 l0_0 (l0_0.length : Int) 0 l0_0 l0_1)
theorem mg_round.mono_l : ∀ k, (∀ y0 y1 y2 y3 y4 y5 y6 y7, LeO (mg_round.l0 k y0 y1 y2 y3 y4 y5 y6 y7) (mg_round.l0 (k + 1) y0 y1 y2 y3 y4 y5 y6 y7)) ∧ (∀ y0 y1 y2 y3 y4 y5 y6 y7 y8 y9 y10 y11 y12 y13 y14 y15 y16 y17, LeO (mg_round.l1 k y0 y1 y2 y3 y4 y5 y6 y7 y8 y9 y10 y11 y12 y13 y14 y15 y16 y17) (mg_round.l1 (k + 1) y0 y1 y2 y3 y4 y5 y6 y7 y8 y9 y10 y11 y12 y13 y14 y15 y16 y17)) ∧ (∀ y0 y1 y2 y3 y4 y5 y6 y7 y8 y9 y10 y11 y12 y13 y14 y15 y16 y17 y18 y19, LeO (mg_round.j2 k y0 y1 y2 y3 y4 y5 y6 y7 y8 y9 y10 y11 y12 y13 y14 y15 y16 y17 y18 y19) (mg_round.j2 (k + 1) y0 y1 y2 y3 y4 y5 y6 y7 y8 y9 y10 y11 y12 y13 y14 y15 y16 y17 y18 y19)) ∧ (∀ y0 y1 y2 y3 y4 y5 y6 y7 y8 y9 y10 y11 y12 y13 y14 y15 y16 y17 y18 y19 y20, LeO (mg_round.j3 k y0 y1 y2 y3 y4 y5 y6 y7 y8 y9 y10 y11 y12 y13 y14 y15 y16 y17 y18 y19 y20) (mg_round.j3 (k + 1) y0 y1 y2 y3 y4 y5 y6 y7 y8 y9 y10 y11 y12 y13 y14 y15 y16 y17 y18 y19 y20)) ∧ (∀ y0 y1 y2 y3 y4 y5 y6 y7 y8 y9 y10 y11 y12 y13 y14 y15, LeO (mg_round.l2 k y0 y1 y2 y3 y4 y5 y6 y7 y8 y9 y10 y11 y12 y13 y14 y15) (mg_round.l2 (k + 1) y0 y1 y2 y3 y4 y5 y6 y7 y8 y9 y10 y11 y12 y13 y14 y15)) ∧ (∀ y0 y1 y2 y3 y4 y5 y6 y7 y8 y9 y10 y11 y12 y13 y14 y15 y16 y17 y18, LeO (mg_round.j5 k y0 y1 y2 y3 y4 y5 y6 y7 y8 y9 y10 y11 y12 y13 y14 y15 y16 y17 y18) (mg_round.j5 (k + 1) y0 y1 y2 y3 y4 y5 y6 y7 y8 y9 y10 y11 y12 y13 y14 y15 y16 y17 y18))
 | 0 => ⟨fun _ _ _ _ _ _ _ _ r h => by simp [mg_round.l0] at h, fun _ _ _ _ _ _ _ _ _ _ _ _ _ _ _ _ _ _ r h => by simp [mg_round.l1] at h, fun _ _ _ _ _ _ _ _ _ _ _ _ _ _ _ _ _ _ _ _ r h => by simp [mg_round.j2] at h, fun _ _ _ _ _ _ _ _ _ _ _ _ _ _ _ _ _ _ _ _ _ r h => by simp [mg_round.j3] at h, fun _ _ _ _ _ _ _ _ _ _ _ _ _ _ _ _ r h => by simp [mg_round.l2] at h, fun _ _ _ _ _ _ _ _ _ _ _ _ _ _ _ _ _ _ _ r h => by simp [mg_round.j5] at h⟩
 | k + 1 => by
  obtain ⟨ih0, ih1, ih2, ih3, ih4, ih5⟩ := mg_round.mono_l k;refine ⟨?_, ?_, ?_, ?_, ?_, ?_⟩
  ·intro y0 y1 y2 y3 y4 y5 y6 y7;unfold mg_round.l0
   repeat' first
   | (with_reducible exact ih0 _ _ _ _ _ _ _ _)
   | (with_reducible exact ih1 _ _ _ _ _ _ _ _ _ _ _ _ _ _ _ _ _ _)
   | (with_reducible exact ih2 _ _ _ _ _ _ _ _ _ _ _ _ _ _ _ _ _ _ _ _)
   | (with_reducible exact ih3 _ _ _ _ _ _ _ _ _ _ _ _ _ _ _ _ _ _ _ _ _)
   | (with_reducible exact ih4 _ _ _ _ _ _ _ _ _ _ _ _ _ _ _ _)
   | (with_reducible exact ih5 _ _ _ _ _ _ _ _ _ _ _ _ _ _ _ _ _ _ _)
   | (with_reducible exact mg_messages.mono _ _ _)
   | (with_reducible exact mg_sum.mono _ _ _ _ _ _ _)
   | (with_reducible exact LeO.refl _)
   | (with_reducible exact LeO.none _)
   | (with_reducible refine LeO.ite ?_ ?_)
   | (with_reducible refine LeO.bind ?_ (fun _ => ?_))
   | exact ih0 _ _ _ _ _ _ _ _
   | exact ih1 _ _ _ _ _ _ _ _ _ _ _ _ _ _ _ _ _ _
   | exact ih2 _ _ _ _ _ _ _ _ _ _ _ _ _ _ _ _ _ _ _ _
   | exact ih3 _ _ _ _ _ _ _ _ _ _ _ _ _ _ _ _ _ _ _ _ _
   | exact ih4 _ _ _ _ _ _ _ _ _ _ _ _ _ _ _ _
   | exact ih5 _ _ _ _ _ _ _ _ _ _ _ _ _ _ _ _ _ _ _
   | exact mg_messages.mono _ _ _
   | exact mg_sum.mono _ _ _ _ _ _ _
   | exact LeO.none _
   | refine LeO.ite ?_ ?_
   | refine LeO.bind ?_ (fun _ => ?_)
  ·intro y0 y1 y2 y3 y4 y5 y6 y7 y8 y9 y10 y11 y12 y13 y14 y15 y16 y17;unfold mg_round.l1
   repeat' first
   | (with_reducible exact ih0 _ _ _ _ _ _ _ _)
   | (with_reducible exact ih1 _ _ _ _ _ _ _ _ _ _ _ _ _ _ _ _ _ _)
   | (with_reducible exact ih2 _ _ _ _ _ _ _ _ _ _ _ _ _ _ _ _ _ _ _ _)
   | (with_reducible exact ih3 _ _ _ _ _ _ _ _ _ _ _ _ _ _ _ _ _ _ _ _ _)
   | (with_reducible exact ih4 _ _ _ _ _ _ _ _ _ _ _ _ _ _ _ _)
   | (with_reducible exact ih5 _ _ _ _ _ _ _ _ _ _ _ _ _ _ _ _ _ _ _)
   | (with_reducible exact mg_messages.mono _ _ _)
   | (with_reducible exact mg_sum.mono _ _ _ _ _ _ _)
   | (with_reducible exact LeO.refl _)
   | (with_reducible exact LeO.none _)
   | (with_reducible refine LeO.ite ?_ ?_)
   | (with_reducible refine LeO.bind ?_ (fun _ => ?_))
   | exact ih0 _ _ _ _ _ _ _ _
   | exact ih1 _ _ _ _ _ _ _ _ _ _ _ _ _ _ _ _ _ _
   | exact ih2 _ _ _ _ _ _ _ _ _ _ _ _ _ _ _ _ _ _ _ _
   | exact ih3 _ _ _ _ _ _ _ _ _ _ _ _ _ _ _ _ _ _ _ _ _
   | exact ih4 _ _ _ _ _ _ _ _ _ _ _ _ _ _ _ _
   | exact ih5 _ _ _ _ _ _ _ _ _ _ _ _ _ _ _ _ _ _ _
   | exact mg_messages.mono _ _ _
   | exact mg_sum.mono _ _ _ _ _ _ _
   | exact LeO.none _
   | refine LeO.ite ?_ ?_
   | refine LeO.bind ?_ (fun _ => ?_)
  ·intro y0 y1 y2 y3 y4 y5 y6 y7 y8 y9 y10 y11 y12 y13 y14 y15 y16 y17 y18 y19;unfold mg_round.j2
   repeat' first
   | (with_reducible exact ih0 _ _ _ _ _ _ _ _)
   | (with_reducible exact ih1 _ _ _ _ _ _ _ _ _ _ _ _ _ _ _ _ _ _)
   | (with_reducible exact ih2 _ _ _ _ _ _ _ _ _ _ _ _ _ _ _ _ _ _ _ _)
   | (with_reducible exact ih3 _ _ _ _ _ _ _ _ _ _ _ _ _ _ _ _ _ _ _ _ _)
   | (with_reducible exact ih4 _ _ _ _ _ _ _ _ _ _ _ _ _ _ _ _)
   | (with_reducible exact ih5 _ _ _ _ _ _ _ _ _ _ _ _ _ _ _ _ _ _ _)
   | (with_reducible exact mg_messages.mono _ _ _)
   | (with_reducible exact mg_sum.mono _ _ _ _ _ _ _)
   | (with_reducible exact LeO.refl _)
   | (with_reducible exact LeO.none _)
   | (with_reducible refine LeO.ite ?_ ?_)
   | (with_reducible refine LeO.bind ?_ (fun _ => ?_))
   | exact ih0 _ _ _ _ _ _ _ _
   | exact ih1 _ _ _ _ _ _ _ _ _ _ _ _ _ _ _ _ _ _
   | exact ih2 _ _ _ _ _ _ _ _ _ _ _ _ _ _ _ _ _ _ _ _
   | exact ih3 _ _ _ _ _ _ _ _ _ _ _ _ _ _ _ _ _ _ _ _ _
   | exact ih4 _ _ _ _ _ _ _ _ _ _ _ _ _ _ _ _
   | exact ih5 _ _ _ _ _ _ _ _ _ _ _ _ _ _ _ _ _ _ _
   | exact mg_messages.mono _ _ _
   | exact mg_sum.mono _ _ _ _ _ _ _
   | exact LeO.none _
   | refine LeO.ite ?_ ?_
   | refine LeO.bind ?_ (fun _ => ?_)
  ·intro y0 y1 y2 y3 y4 y5 y6 y7 y8 y9 y10 y11 y12 y13 y14 y15 y16 y17 y18 y19 y20;unfold mg_round.j3
   repeat' first
   | (with_reducible exact ih0 _ _ _ _ _ _ _ _)
   | (with_reducible exact ih1 _ _ _ _ _ _ _ _ _ _ _ _ _ _ _ _ _ _)
   | (with_reducible exact ih2 _ _ _ _ _ _ _ _ _ _ _ _ _ _ _ _ _ _ _ _)
   | (with_reducible exact ih3 _ _ _ _ _ _ _ _ _ _ _ _ _ _ _ _ _ _ _ _ _)
   | (with_reducible exact ih4 _ _ _ _ _ _ _ _ _ _ _ _ _ _ _ _)
   | (with_reducible exact ih5 _ _ _ _ _ _ _ _ _ _ _ _ _ _ _ _ _ _ _)
   | (with_reducible exact mg_messages.mono _ _ _)
   | (with_reducible exact mg_sum.mono _ _ _ _ _ _ _)
   | (with_reducible exact LeO.refl _)
   | (with_reducible exact LeO.none _)
   | (with_reducible refine LeO.ite ?_ ?_)
   | (with_reducible refine LeO.bind ?_ (fun _ => ?_))
   | exact ih0 _ _ _ _ _ _ _ _
   | exact ih1 _ _ _ _ _ _ _ _ _ _ _ _ _ _ _ _ _ _
   | exact ih2 _ _ _ _ _ _ _ _ _ _ _ _ _ _ _ _ _ _ _ _
   | exact ih3 _ _ _ _ _ _ _ _ _ _ _ _ _ _ _ _ _ _ _ _ _
   | exact ih4 _ _ _ _ _ _ _ _ _ _ _ _ _ _ _ _
   | exact ih5 _ _ _ _ _ _ _ _ _ _ _ _ _ _ _ _ _ _ _
   | exact mg_messages.mono _ _ _
   | exact mg_sum.mono _ _ _ _ _ _ _
   | exact LeO.none _
   | refine LeO.ite ?_ ?_
   | refine LeO.bind ?_ (fun _ => ?_)
  ·intro y0 y1 y2 y3 y4 y5 y6 y7 y8 y9 y10 y11 y12 y13 y14 y15;unfold mg_round.l2
   repeat' first
   | (with_reducible exact ih0 _ _ _ _ _ _ _ _)
   | (with_reducible exact ih1 _ _ _ _ _ _ _ _ _ _ _ _ _ _ _ _ _ _)
   | (with_reducible exact ih2 _ _ _ _ _ _ _ _ _ _ _ _ _ _ _ _ _ _ _ _)
   | (with_reducible exact ih3 _ _ _ _ _ _ _ _ _ _ _ _ _ _ _ _ _ _ _ _ _)
   | (with_reducible exact ih4 _ _ _ _ _ _ _ _ _ _ _ _ _ _ _ _)
   | (with_reducible exact ih5 _ _ _ _ _ _ _ _ _ _ _ _ _ _ _ _ _ _ _)
   | (with_reducible exact mg_messages.mono _ _ _)
   | (with_reducible exact mg_sum.mono _ _ _ _ _ _ _)
   | (with_reducible exact LeO.refl _)
   | (with_reducible exact LeO.none _)
   | (with_reducible refine LeO.ite ?_ ?_)
   | (with_reducible refine LeO.bind ?_ (fun _ => ?_))
   | exact ih0 _ _ _ _ _ _ _ _
   | exact ih1 _ _ _ _ _ _ _ _ _ _ _ _ _ _ _ _ _ _
   | exact ih2 _ _ _ _ _ _ _ _ _ _ _ _ _ _ _ _ _ _ _ _
   | exact ih3 _ _ _ _ _ _ _ _ _ _ _ _ _ _ _ _ _ _ _ _ _
   | exact ih4 _ _ _ _ _ _ _ _ _ _ _ _ _ _ _ _
   | exact ih5 _ _ _ _ _ _ _ _ _ _ _ _ _ _ _ _ _ _ _
   | exact mg_messages.mono _ _ _
   | exact mg_sum.mono _ _ _ _ _ _ _
   | exact LeO.none _
   | refine LeO.ite ?_ ?_
   | refine LeO.bind ?_ (fun _ => ?_)
  ·intro y0 y1 y2 y3 y4 y5 y6 y7 y8 y9 y10 y11 y12 y13 y14 y15 y16 y17 y18;unfold mg_round.j5
   repeat' first
   | (with_reducible exact ih0 _ _ _ _ _ _ _ _)
   | (with_reducible exact ih1 _ _ _ _ _ _ _ _ _ _ _ _ _ _ _ _ _ _)
   | (with_reducible exact ih2 _ _ _ _ _ _ _ _ _ _ _ _ _ _ _ _ _ _ _ _)
   | (with_reducible exact ih3 _ _ _ _ _ _ _ _ _ _ _ _ _ _ _ _ _ _ _ _ _)
   | (with_reducible exact ih4 _ _ _ _ _ _ _ _ _ _ _ _ _ _ _ _)
   | (with_reducible exact ih5 _ _ _ _ _ _ _ _ _ _ _ _ _ _ _ _ _ _ _)
   | (with_reducible exact mg_messages.mono _ _ _)
   | (with_reducible exact mg_sum.mono _ _ _ _ _ _ _)
   | (with_reducible exact LeO.refl _)
   | (with_reducible exact LeO.none _)
   | (with_reducible refine LeO.ite ?_ ?_)
   | (with_reducible refine LeO.bind ?_ (fun _ => ?_))
   | exact ih0 _ _ _ _ _ _ _ _
   | exact ih1 _ _ _ _ _ _ _ _ _ _ _ _ _ _ _ _ _ _
   | exact ih2 _ _ _ _ _ _ _ _ _ _ _ _ _ _ _ _ _ _ _ _
   | exact ih3 _ _ _ _ _ _ _ _ _ _ _ _ _ _ _ _ _ _ _ _ _
   | exact ih4 _ _ _ _ _ _ _ _ _ _ _ _ _ _ _ _
   | exact ih5 _ _ _ _ _ _ _ _ _ _ _ _ _ _ _ _ _ _ _
   | exact mg_messages.mono _ _ _
   | exact mg_sum.mono _ _ _ _ _ _ _
   | exact LeO.none _
   | refine LeO.ite ?_ ?_
   | refine LeO.bind ?_ (fun _ => ?_)
theorem mg_round.mono : ∀ a0 a1 a2 a3 k, LeO (mg_round.f k a0 a1 a2 a3) (mg_round.f (k + 1) a0 a1 a2 a3) := by
 intro a0 a1 a2 a3 k;obtain ⟨ih0, ih1, ih2, ih3, ih4, ih5⟩ := mg_round.mono_l k;unfold mg_round.f
 repeat' first
   | (with_reducible exact ih0 _ _ _ _ _ _ _ _)
   | (with_reducible exact ih1 _ _ _ _ _ _ _ _ _ _ _ _ _ _ _ _ _ _)
   | (with_reducible exact ih2 _ _ _ _ _ _ _ _ _ _ _ _ _ _ _ _ _ _ _ _)
   | (with_reducible exact ih3 _ _ _ _ _ _ _ _ _ _ _ _ _ _ _ _ _ _ _ _ _)
   | (with_reducible exact ih4 _ _ _ _ _ _ _ _ _ _ _ _ _ _ _ _)
   | (with_reducible exact ih5 _ _ _ _ _ _ _ _ _ _ _ _ _ _ _ _ _ _ _)
   | (with_reducible exact mg_messages.mono _ _ _)
   | (with_reducible exact mg_sum.mono _ _ _ _ _ _ _)
   | (with_reducible exact LeO.refl _)
   | (with_reducible exact LeO.none _)
   | (with_reducible refine LeO.ite ?_ ?_)
   | (with_reducible refine LeO.bind ?_ (fun _ => ?_))
   | exact ih0 _ _ _ _ _ _ _ _
   | exact ih1 _ _ _ _ _ _ _ _ _ _ _ _ _ _ _ _ _ _
   | exact ih2 _ _ _ _ _ _ _ _ _ _ _ _ _ _ _ _ _ _ _ _
   | exact ih3 _ _ _ _ _ _ _ _ _ _ _ _ _ _ _ _ _ _ _ _ _
   | exact ih4 _ _ _ _ _ _ _ _ _ _ _ _ _ _ _ _
   | exact ih5 _ _ _ _ _ _ _ _ _ _ _ _ _ _ _ _ _ _ _
   | exact mg_messages.mono _ _ _
   | exact mg_sum.mono _ _ _ _ _ _ _
   | exact LeO.none _
   | refine LeO.ite ?_ ?_
   | refine LeO.bind ?_ (fun _ => ?_)
set_option maxHeartbeats 8000000 in
set_option maxRecDepth 100000 in
theorem mg_round.calls (k : Nat) (A0_0 : Option Addr) (c0_0 : Nat) (l0_0 : List (List Int)) (A0_1 : Option Addr) (c0_1 : Nat) (l0_1 : List (List (S77))) (A1 : Option Addr) (c1 : Nat) (l1 : List Int) (A2 : Option Addr) (c2 : Nat) (l2 : List (List Int)) (r : List (List Int)) (gG : Nat) (w : World) (hr0_0 : Kd.C (Kd.slice 3 (Kd.int .i64)) w A0_0 l0_0.length l0_0) (hc0_0 : l0_0.length ≤ c0_0) (hr0_1 : Kd.C (Kd.slice 77 k77) w A0_1 l0_1.length l0_1) (hc0_1 : l0_1.length ≤ c0_1) (hr1 : Kd.C (Kd.int .i64) w A1 l1.length l1) (hc1 : l1.length ≤ c1) (hr2 : Kd.C (Kd.slice 3 (Kd.int .i64)) w A2 l2.length l2) (hc2 : l2.length ≤ c2) (hG : w.heap[gG]? = some (.cells #[.slice A0_0 l0_0.length c0_0, .slice A0_1 l0_1.length c0_1] 73 (0, 0))) (h : mg_round.f k l0_0 l0_1 l1 l2 = some r) :
  Calls Try.prog 47 #[.pointer (some ⟨gG, 0, none⟩), .slice A1 l1.length c1, .slice A2 l2.length c2] w fun e w' => ∃ v0_ : Value, e = .returned (v0_) ∧ Kd.S (Kd.slice 3 (Kd.int .i64)) 25 w' w.heap.size (fun _ => True) v0_ r ∧ Below w.heap.size w w' := by
 have hu73 := Try.underlying73;have HR0_0 := Ai0.mk hr0_0;have HC0_0 := Ai0.mk hc0_0;clear hr0_0 hc0_0;have HR0_1 := Ai0.mk hr0_1;have HC0_1 := Ai0.mk hc0_1;clear hr0_1 hc0_1;have HR1 := Ai0.mk hr1;have HC1 := Ai0.mk hc1;clear hr1 hc1;have HR2 := Ai0.mk hr2;have HC2 := Ai0.mk hc2;clear hr2 hc2;have HB := Ai0.mk (Below.refl w.heap.size w);have H : ((mg_messages.f k l0_0 l0_1).bind fun t403 => (mg_round.l0 k l1 l2 t403 l0_0 (l0_0.length : Int) 0 l0_0 l0_1)) = some r := h;clear h;replace H := Option.bind_eq_some_iff.mp H;obtain ⟨t403, A40, H⟩ := H;replace H : (mg_round.l0 k l1 l2 t403 l0_0 (l0_0.length : Int) 0 l0_0 l0_1) = some r := H;have A4 := Ai0.mk A40;clear A40;have H' := Ai0.mk H;clear H;have BK402 := Ai0.mk hG;have hcz6_0 : w.cell? ⟨gG, 0, none⟩ = some (.slice A0_0 l0_0.length c0_0) := (kc1 BK402.out 0).trans rfl;have hcz6_1 : w.cell? ⟨gG, 1, none⟩ = some (.slice A0_1 l0_1.length c0_1) := (kc1 BK402.out 1).trans rfl;have hfz6_0 := kf1 BK402.out 0;have hfz6_1 := kf1 BK402.out 1;go_enter Try.func47, Try.ntmps47
 go_wp2_with (first | ((with_reducible refine gate_callee (f := 46) rfl ?_); refine goesL_ (some 22) rfl rfl Try.func46 (by kernel_rfl) rfl #[.pointer (some ⟨gG, 0, none⟩)] rfl (by (try simp only [List.map_toArray, List.map_cons, List.map_nil]); first | done | rfl | (simp only [List.length_drop, List.length_take]; rfl)) ?_; (with_reducible refine (mg_messages.calls k A0_0 c0_0 l0_0 A0_1 c0_1 l0_1 t403 gG _ ?side1 ?side2 ?side3 ?side4 ?sideG A4.out).mono ?_); (case sideG => (with_reducible repeat (first | refine kn1 ?_ _ | refine kd1 ?_ | refine ka1 ?_ _)); exact BK402.out); (case side1 => exact kc_ HR0_0.out); (case side2 => exact HC0_0.out); (case side3 => exact kc_ HR0_1.out); (case side4 => exact HC0_1.out); rintro e w7 ⟨v404, rfl, ho0, hb⟩; refine ⟨_, rfl, ?_⟩; have n0_ := Ai0.mk (Kd.S_lower ho0 (bz1 bl_)); have n1_ := Ai0.mk (kb1 (g := gG) (o := .cells #[.slice A0_0 l0_0.length c0_0, .slice A0_1 l0_1.length c0_1] 73 (0, 0)) (kk_ BK402.out) hb); have n2_ := Ai0.mk (bt1 bl_ hb); clear BK402; clear HB; have HO405 := n0_; have BK402 := n1_; have HB := n2_; clear n0_ n1_ n2_; (try clear hb); (try clear hb2); (try clear hk); (try clear hi); (try clear ho0); have hcz8_0 : w7.cell? ⟨gG, 0, none⟩ = some (.slice A0_0 l0_0.length c0_0) := (kc1 BK402.out 0).trans rfl; have hcz8_1 : w7.cell? ⟨gG, 1, none⟩ = some (.slice A0_1 l0_1.length c0_1) := (kc1 BK402.out 1).trans rfl; have hfz8_0 := kf1 BK402.out 0; have hfz8_1 := kf1 BK402.out 1))
 go_loopg [28] k (fun kq v28 w' => ∃ (x7_1 : List (List Int)) (x28_1 : Int), v28 = .int .i64 x28_1 ∧ Ai0 (mg_round.l0 kq l1 l2 x7_1 l0_0 (l0_0.length : Int) x28_1 l0_0 l0_1 = some r) ∧ Ai0 (kq ≤ k) ∧ Ai0 (Kd.S (Kd.slice 3 (Kd.int .i64)) 25 w' w.heap.size (fun _ => True) v404 x7_1) ∧ Ai0 (w'.heap[gG]? = some (.cells #[(.slice A0_0 l0_0.length c0_0), (.slice A0_1 l0_1.length c0_1)] 73 (0, 0))) ∧ Ai0 (Below w.heap.size w w'))
 case atStart => exact ⟨(t403), (0), rf_, H', ⟨Nat.le_refl _⟩, ⟨ks_ HO405.out⟩, ⟨kk_ BK402.out⟩, ⟨bl_⟩⟩
 case round =>
  clear H'
  try clear c1
  try clear c2
  try clear p2
  try clear c4
  try clear hcz6_0
  try clear hcz6_1
  try clear hcz8_0
  try clear hcz8_1
  try clear hfz6_0
  try clear hfz6_1
  try clear hfz8_0
  try clear hfz8_1
  obtain ⟨x7_1, x28_1, rfl, HA, HK1, HO_7, BK402, HB⟩ := hrel
  cases gk with
  | zero => exact absurd HA.out (by simp [mg_round.l0])
  | succ k1 =>
   have H := HA.out;clear HA;simp only [mg_round.l0] at H;by_cases c9 : x28_1 < (l0_0.length : Int)
   ·rw [if_pos c9] at H;have c9b0 : decide (x28_1 < (l0_0.length : Int)) = true := decide_eq_true c9;clear c9;by_cases c10 : 0 ≤ x28_1
    ·rw [if_pos c10] at H;have c10b0 : decide (0 ≤ x28_1) = true := decide_eq_true c10;clear c10;by_cases c11 : x28_1 < (l0_0.length : Int)
     ·rw [if_pos c11] at H;have c11b0 : decide (x28_1 < (l0_0.length : Int)) = true := decide_eq_true c11;clear c11;by_cases c12 : 0 ≤ ((rd_L1 l0_0 x28_1).length : Int)
      ·rw [if_pos c12] at H;have c12b0 := eq_true c12;have c12b1 : decide (0 ≤ ((rd_L1 l0_0 x28_1).length : Int)) = true := decide_eq_true c12;clear c12;by_cases c13 : (((rd_L1 l0_0 x28_1).length : Int) : Int).toNat ≤ 35184372088832
       ·rw [if_pos c13] at H;have c13b0 := eq_true c13;have c13b1 : decide ((((rd_L1 l0_0 x28_1).length : Int) : Int).toNat ≤ 35184372088832) = true := decide_eq_true c13;clear c13;(obtain ⟨y407, hy407⟩ : ∃ y_ : List Int, y_ = (List.replicate (((rd_L1 l0_0 x28_1).length : Int) : Int).toNat 0) := ⟨_, rfl⟩);(replace H : (mg_round.l1 k1 l1 l2 x7_1 x28_1 (rd_L1 l0_0 x28_1) 1099511627776 1099511627776 (-1) 0 y407 l0_0 (l0_0.length : Int) x28_1 (rd_L1 l0_0 x28_1) ((rd_L1 l0_0 x28_1).length : Int) 0 l0_0 l0_1) = some r := by first | (rw [hy407]; with_reducible exact H) | (have H2_ := (Option.bind_some _ _).symm.trans H; rw [hy407]; with_reducible exact H2_) | (have H2_ := (Option.bind_some _ _).symm.trans H; with_reducible exact H2_) | with_reducible exact H | (rw [hy407]; exact H) | exact H);have Ny407 := Ai0.mk hy407;clear hy407;have H' := Ai0.mk H;clear H;have p406 : 0 ≤ (x28_1 : Int) := od_;have q406 : x28_1 < (l0_0.length : Int) := od_;obtain ⟨ad406, A406_0, c406_0, e406, hx406_0, hl406_0, hi406_0⟩ := at_L1 HR0_0.out x28_1 p406 q406;cases e406;replace hx406_0 := (HB.out.cell (World.block_lt_of_cell? w _ hx406_0)).trans hx406_0;have HR406_0 := Ai0.mk hi406_0;have HC406_0 := Ai0.mk hl406_0;clear hi406_0 hl406_0;replace p406 := eq_true p406;replace q406 := eq_true q406
        go_wp2_with (first | ((with_reducible refine gate_dst (N := 35) rfl ?_); refine Kd.R_make (Kd.int .i64) _ 3 rfl (N := 35) rfl 25 _ _ rfl ((rd_L1 l0_0 x28_1).length : Int) rfl rfl Try.underlying25 (.int .i64 0) 8 info3 rfl (by decide) (by omega) 0 (ok := fun _ => True) (okp := fun _ => True) rfl (fun _ hk => hk) trivial od_ (Nat.le_trans (Nat.mul_le_mul_right _ (od_ : ((rd_L1 l0_0 x28_1).length : Int).toNat ≤ 35184372088832)) (by omega)) (Below.refl _ _) (Nat.le_refl _) ?_; intro v408 w14 ho15 hb hg_ hnew_; clear hg_ hnew_; (first | rw [← Ny407.out] at ho15 | (simp only [Int.reduceToNat] at ho15; rw [← Ny407.out] at ho15)); have n0_ := Ai0.mk (Kd.S_elder' (ks_ HO_7.out) (Kd.R_base ho15) hb); have n1_ := Ai0.mk (Kd.R_lower ho15 (bz1 bl_)); have n2_ := Ai0.mk (kb1 (g := gG) (o := .cells #[.slice (some ad406) l0_0.length c0_0, .slice A0_1 l0_1.length c0_1] 73 (0, 0)) (kk_ BK402.out) hb); have n3_ := Ai0.mk (bt1 bl_ hb); clear HO_7; clear BK402; clear HB; have HO_7 := n0_; have HO409 := n1_; have BK402 := n2_; have HB := n3_; clear n0_ n1_ n2_ n3_; clear hb ho15))
        go_loopg [10, 11, 12, 13, 38] k1 (fun kq v10 v11 v12 v13 v38 w' => ∃ (x10_2 : Int) (x11_2 : Int) (x12_2 : Int) (x13_2 : Int) (x14_2 : List Int) (x38_2 : Int), v10 = .int .i64 x10_2 ∧ v11 = .int .i64 x11_2 ∧ v12 = .int .i64 x12_2 ∧ v13 = .int .i64 x13_2 ∧ v38 = .int .i64 x38_2 ∧ Ai0 (mg_round.l1 kq l1 l2 x7_1 x28_1 (rd_L1 l0_0 x28_1) x10_2 x11_2 x12_2 x13_2 x14_2 l0_0 (l0_0.length : Int) x28_1 (rd_L1 l0_0 x28_1) ((rd_L1 l0_0 x28_1).length : Int) x38_2 l0_0 l0_1 = some r) ∧ Ai0 (kq ≤ k1) ∧ Ai0 (Kd.S (Kd.slice 3 (Kd.int .i64)) 25 w' w.heap.size (fun k_ => some k_ ≠ (v408 : Value).ownBlock) v404 x7_1) ∧ Ai0 (Kd.R (Kd.int .i64) 3 w' w.heap.size (fun _ => True) v408 x14_2) ∧ Ai0 (w'.heap[gG]? = some (.cells #[(.slice (some ad406) l0_0.length c0_0), (.slice A0_1 l0_1.length c0_1)] 73 (0, 0))) ∧ Ai0 (Below w.heap.size w w'))
        case atStart => exact ⟨(1099511627776), (1099511627776), ((-1)), (0), (y407), (0), rf_, rf_, rf_, rf_, rf_, H', ⟨Nat.le_refl _⟩, ⟨by (with_reducible repeat (first | apply Kd.S_alloc | apply Kd.S_drewN | apply Kd.S_drew)); exact Kd.S_mono HO_7.out (fun _ hk => hk.2)⟩, ⟨kr_ HO409.out⟩, ⟨kk_ BK402.out⟩, ⟨bl_⟩⟩
        case round =>
         clear H'
         try clear c1
         try clear c2
         try clear p2
         try clear c4
         try clear p4
         try clear q4
         try clear hx4
         try clear c9
         try clear c9b0
         try clear c10
         try clear c10b0
         try clear c11
         try clear c11b0
         try clear c12
         try clear c12b0
         try clear c12b1
         try clear c13
         try clear c13b0
         try clear c13b1
         try clear hcz6_0
         try clear hcz6_1
         try clear hcz8_0
         try clear hcz8_1
         try clear hfz6_0
         try clear hfz6_1
         try clear hfz8_0
         try clear hfz8_1
         try clear hx406_0
         try clear p2
         try clear p406
         try clear q406
         obtain ⟨x10_2, x11_2, x12_2, x13_2, x14_2, x38_2, rfl, rfl, rfl, rfl, rfl, HA, HK2, HO_7, HO_14, BK402, HB⟩ := hrel
         cases gk with
         | zero => exact absurd HA.out (by simp [mg_round.l1])
         | succ k2 =>
          have H := HA.out;clear HA;simp only [mg_round.l1] at H;by_cases c16 : x38_2 < ((rd_L1 l0_0 x28_1).length : Int)
          ·rw [if_pos c16] at H;have c16b0 : decide (x38_2 < ((rd_L1 l0_0 x28_1).length : Int)) = true := decide_eq_true c16;clear c16;by_cases c17 : 0 ≤ x38_2
           ·rw [if_pos c17] at H;have c17b0 : decide (0 ≤ x38_2) = true := decide_eq_true c17;clear c17;by_cases c18 : x38_2 < ((rd_L1 l0_0 x28_1).length : Int)
            ·rw [if_pos c18] at H;have c18b0 : decide (x38_2 < ((rd_L1 l0_0 x28_1).length : Int)) = true := decide_eq_true c18;clear c18;replace H := Option.bind_eq_some_iff.mp H;obtain ⟨t411, A190, H⟩ := H;replace H : (if x38_2 < (x14_2.length : Int) then ((some (x14_2.set (x38_2 : Int).toNat t411 : List Int)).bind fun y412 => (if (rd y412 x38_2) < 0 then (mg_round.j2 k2 l1 l2 x7_1 x28_1 (rd_L1 l0_0 x28_1) x10_2 x11_2 x12_2 (wrap64 (x13_2 + 1)) y412 x38_2 (wrap64 (-(rd y412 x38_2))) l0_0 (l0_0.length : Int) x28_1 (rd_L1 l0_0 x28_1) ((rd_L1 l0_0 x28_1).length : Int) x38_2 l0_0 l0_1) else (mg_round.j2 k2 l1 l2 x7_1 x28_1 (rd_L1 l0_0 x28_1) x10_2 x11_2 x12_2 x13_2 y412 x38_2 (rd y412 x38_2) l0_0 (l0_0.length : Int) x28_1 (rd_L1 l0_0 x28_1) ((rd_L1 l0_0 x28_1).length : Int) x38_2 l0_0 l0_1))) else (none)) = some r := H;have A19 := Ai0.mk A190;clear A190;by_cases c20 : x38_2 < (x14_2.length : Int)
             ·rw [if_pos c20] at H;have c20b0 : decide (x38_2 < (x14_2.length : Int)) = true := decide_eq_true c20;clear c20;(obtain ⟨y412, hy412⟩ : ∃ y_ : List Int, y_ = (x14_2.set (x38_2 : Int).toNat t411) := ⟨_, rfl⟩);(replace H : (if (rd y412 x38_2) < 0 then (mg_round.j2 k2 l1 l2 x7_1 x28_1 (rd_L1 l0_0 x28_1) x10_2 x11_2 x12_2 (wrap64 (x13_2 + 1)) y412 x38_2 (wrap64 (-(rd y412 x38_2))) l0_0 (l0_0.length : Int) x28_1 (rd_L1 l0_0 x28_1) ((rd_L1 l0_0 x28_1).length : Int) x38_2 l0_0 l0_1) else (mg_round.j2 k2 l1 l2 x7_1 x28_1 (rd_L1 l0_0 x28_1) x10_2 x11_2 x12_2 x13_2 y412 x38_2 (rd y412 x38_2) l0_0 (l0_0.length : Int) x28_1 (rd_L1 l0_0 x28_1) ((rd_L1 l0_0 x28_1).length : Int) x38_2 l0_0 l0_1)) = some r := by first | (rw [hy412]; with_reducible exact H) | (have H2_ := (Option.bind_some _ _).symm.trans H; rw [hy412]; with_reducible exact H2_) | (have H2_ := (Option.bind_some _ _).symm.trans H; with_reducible exact H2_) | with_reducible exact H | (rw [hy412]; exact H) | exact H);have Ny412 := Ai0.mk hy412;clear hy412;have HC22 := Ai0.mk H;clear H;have p410 : 0 ≤ (x38_2 : Int) := od_;have q410 : x38_2 < ((rd_L1 l0_0 x28_1).length : Int) := od_;obtain ⟨ad410, e410, hx410_0⟩ := Kd.at_int HR406_0.out x38_2 p410 q410;cases e410;replace hx410_0 := (HB.out.cell (World.block_lt_of_cell? w _ hx410_0)).trans hx410_0;replace p410 := eq_true p410;replace q410 := eq_true q410;have hcz23_0 : wr.cell? ⟨gG, 0, none⟩ = some (.slice (some ad406) l0_0.length c0_0) := (kc1 BK402.out 0).trans rfl;have hcz23_1 : wr.cell? ⟨gG, 1, none⟩ = some (.slice A0_1 l0_1.length c0_1) := (kc1 BK402.out 1).trans rfl;have hfz23_0 := kf1 BK402.out 0;have hfz23_1 := kf1 BK402.out 1
              go_upto_if 57 with (first | ((with_reducible refine gate_callee (f := 69) rfl ?_); refine goesL_ (some 50) rfl rfl Try.func69 (by kernel_rfl) rfl #[.pointer (some ⟨gG, 0, none⟩), .slice A1 l1.length c1, .slice A2 l2.length c2, .int .i64 (rd (rd_L1 l0_0 x28_1) x38_2), .int .i64 x28_1] rfl (by (try simp only [List.map_toArray, List.map_cons, List.map_nil]); first | done | rfl | (simp only [List.length_drop, List.length_take]; rfl)) ?_; (with_reducible refine (mg_sum.calls k2 (some ad406) c0_0 l0_0 A0_1 c0_1 l0_1 _ _ l1 _ _ l2 (rd (rd_L1 l0_0 x28_1) x38_2) x28_1 t411 gG _ ?side1 ?side2 ?side3 ?side4 ?side5 ?side6 ?side7 ?side8 ?sideG A19.out).mono ?_); (case sideG => (with_reducible repeat (first | refine kn1 ?_ _ | refine kd1 ?_ | refine ka1 ?_ _)); exact BK402.out); (case side1 => exact kc_ HR0_0.out); (case side2 => exact HC0_0.out); (case side3 => exact kc_ HR0_1.out); (case side4 => exact HC0_1.out); (case side5 => exact kc_ HR1.out); (case side6 => exact HC1.out); (case side7 => exact kc_ HR2.out); (case side8 => exact HC2.out); rintro e w24 ⟨rfl, hb⟩; refine ⟨_, rfl, ?_⟩; have n0_ := Ai0.mk (Kd.S_below (ks_ HO_7.out) hb); have n1_ := Ai0.mk (Kd.R_below (kr_ HO_14.out) hb); have n2_ := Ai0.mk (kb1 (g := gG) (o := .cells #[.slice (some ad406) l0_0.length c0_0, .slice A0_1 l0_1.length c0_1] 73 (0, 0)) (kk_ BK402.out) hb); have n3_ := Ai0.mk (bt1 bl_ hb); clear HO_7; clear HO_14; clear BK402; clear HB; have HO_7 := n0_; have HO_14 := n1_; have BK402 := n2_; have HB := n3_; clear n0_ n1_ n2_ n3_; (try clear hb); (try clear hb2); (try clear hk); (try clear hi); have p21 : 0 ≤ (x38_2 : Int) := od_; have q21 : (x38_2 : Int) < ((x14_2.length : Int) : Int) := od_; obtain ⟨go21, co21, eo21, gb21, gl21, cl21, HG21⟩ := Kd.R_form HO_14.out (by omega); (first | cases eo21 | (injection eo21 with ea_ en_ ec_; (first | subst ea_ | (injection ea_ with ea_; subst ea_)); subst ec_; clear en_)); have GB21 := Ai0.mk gb21; have GG21 := Ai0.mk HG21; clear gb21 gl21 HG21; obtain ⟨hx21_0, hf21_0⟩ := Kd.R_celln 0 HO_14.out (x38_2 : Int) p21 q21; replace p21 := eq_true p21; replace q21 := eq_true q21; obtain ⟨hy25_, hz25_⟩ := Kd.R_celln 0 HO_14.out (x38_2 : Int) od_ od_; have HP25 := Kd.R_putg HO_14.out (x38_2 : Int) t411) | ((with_reducible refine gate_store (t := 3) (p := 51) rfl ?_); refine store_event (t := 3) (p := 51) (v := ?vo_w26) (w1 := (w24.setCell ⟨go21, (x38_2 : Int).toNat, none⟩ (.int .i64 t411))) ?hg ?ho ?hn ?hr ?_; (case ho => rfl); (case hg => rfl); (case hn => rfl); (case hr => first | (go_simp; done) | (go_simp; rfl)); intro w26 hw; have hg : w24.grownBy w26 (some go21) := (by rw [hw]; exact HP25.2); have hp_ : Kd.R (Kd.int .i64) 3 w26 w.heap.size (fun _ => True) (.slice (some ⟨go21, 0, none⟩) x14_2.length co21) y412 := (by rw [hw, Ny412.out]; exact HP25.1); clear HP25; have n0_ := Ai0.mk (Kd.S_after (v := (.slice (some ⟨go21, 0, none⟩) x14_2.length co21)) (v1 := (.slice (some ⟨go21, 0, none⟩) x14_2.length co21)) (ok := (fun _ => True)) (by (with_reducible repeat (first | apply Kd.S_alloc | apply Kd.S_drewN | apply Kd.S_drew)); exact Kd.S_mono HO_7.out (fun _ hk => ⟨trivial, hk⟩)) hg (.inl rfl)); have n1_ := Ai0.mk (hp_); have n2_ := Ai0.mk (blk_grown (g := gG) (o := .cells #[.slice (some ad406) l0_0.length c0_0, .slice A0_1 l0_1.length c0_1] 73 (0, 0)) (kk_ BK402.out) hg (Kd.R_ne HO_14.out BK402.out (by decide))); have n3_ := Ai0.mk ((by rw [hw]; exact bs1 (HB.out) GB21.out : Below w.heap.size w w26)); clear HO_7; clear HO_14; clear BK402; clear HB; have HO_7 := n0_; have HO_14 := n1_; have BK402 := n2_; have HB := n3_; clear n0_ n1_ n2_ n3_; clear hg hw hp_; have p413 : 0 ≤ (x38_2 : Int) := od_; have q413 : x38_2 < (y412.length : Int) := (by have h_ : (x38_2 : Int) < ((x14_2.length : Int) : Int) := od_; first | (have e_ := (Kd.R_reads' HO_14.out).1; omega) | simpa only [Ny412.out, List.length_set] using h_); have ql413 : ((x38_2 : Int) < ((x14_2.length : Int) : Int)) = True := eq_true od_; obtain ⟨ad413, e413, hx413_0⟩ := Kd.at_int (Kd.R_reads' HO_14.out).2.2 x38_2 p413 q413; obtain rfl : (⟨go21, 0, none⟩ : Addr) = ad413 := (by injection e413); (first | simp only [add_plain] at hx413_0 | simp only [add_at] at hx413_0 | simp only [Addr.add, Nat.zero_add] at hx413_0 | skip); replace p413 := eq_true p413; replace q413 := eq_true q413))
              (try simp only [Act.put, l01_, l02_, l03_])
              go_cut [13, 17] (fun v13 v17 wc => ∃ (kq : Nat) (x13_21 : Int) (x17_21 : Int), v13 = .int .i64 x13_21 ∧ v17 = .int .i64 x17_21 ∧ Ai0 (mg_round.j2 kq l1 l2 x7_1 x28_1 (rd_L1 l0_0 x28_1) x10_2 x11_2 x12_2 x13_21 y412 x38_2 x17_21 l0_0 (l0_0.length : Int) x28_1 (rd_L1 l0_0 x28_1) ((rd_L1 l0_0 x28_1).length : Int) x38_2 l0_0 l0_1 = some r) ∧ Ai0 (kq ≤ k2) ∧ Ai0 (Kd.S (Kd.slice 3 (Kd.int .i64)) 25 wc w.heap.size (fun k_ => some k_ ≠ ((.slice (some ⟨go21, 0, none⟩) x14_2.length co21) : Value).ownBlock) v404 x7_1) ∧ Ai0 (Kd.R (Kd.int .i64) 3 wc w.heap.size (fun _ => True) (.slice (some ⟨go21, 0, none⟩) x14_2.length co21) y412) ∧ Ai0 (wc.heap[gG]? = some (.cells #[(.slice (some ad406) l0_0.length c0_0), (.slice A0_1 l0_1.length c0_1)] 73 (0, 0))) ∧ Ai0 (Below w.heap.size w wc))
              case first =>
               have H := HC22.out;clear HC22;by_cases c27 : (rd y412 x38_2) < 0
               ·rw [if_pos c27] at H;have c27b0 : decide ((rd y412 x38_2) < 0) = true := decide_eq_true c27;clear c27;(first | rw [c27b0] | (simp only [i64_w, i32_w]; rw [c27b0]) | skip);have H' := Ai0.mk H;clear H
                go_wp2
                go_meet
                case rel => exact ⟨_, (wrap64 (x13_2 + 1)), (wrap64 (-(rd y412 x38_2))), rf_, rf_, H', ⟨by have := HK1.out; have := HK2.out; first | omega | exact Nat.le_refl _⟩, ⟨by (with_reducible repeat (first | apply Kd.S_alloc | apply Kd.S_drewN | apply Kd.S_drew)); exact Kd.S_mono HO_7.out (fun _ hk => hk.2)⟩, ⟨kr_ HO_14.out⟩, ⟨kk_ BK402.out⟩, ⟨bl_⟩⟩
               ·rw [if_neg c27] at H;have c27b0 : decide ((rd y412 x38_2) < 0) = false := decide_eq_false c27;clear c27;(first | rw [c27b0] | (simp only [i64_w, i32_w]; rw [c27b0]) | skip);have H' := Ai0.mk H;clear H
                go_wp2
                go_meet
                case rel => exact ⟨_, (x13_2), (rd y412 x38_2), rf_, rf_, H', ⟨by have := HK1.out; have := HK2.out; first | omega | exact Nat.le_refl _⟩, ⟨by (with_reducible repeat (first | apply Kd.S_alloc | apply Kd.S_drewN | apply Kd.S_drew)); exact Kd.S_mono HO_7.out (fun _ hk => hk.2)⟩, ⟨kr_ HO_14.out⟩, ⟨kk_ BK402.out⟩, ⟨bl_⟩⟩
              case rest =>
               clear HC22
               try clear c1
               try clear c2
               try clear p2
               try clear q2
               try clear hx2
               try clear c4
               try clear p4
               try clear q4
               try clear hx4
               try clear c6
               try clear p6
               try clear c9
               try clear c9b0
               try clear c10
               try clear c10b0
               try clear c11
               try clear c11b0
               try clear c12
               try clear c12b0
               try clear c12b1
               try clear c13
               try clear c13b0
               try clear c13b1
               try clear c16
               try clear c16b0
               try clear c17
               try clear c17b0
               try clear c18
               try clear c18b0
               try clear c20
               try clear c20b0
               try clear p21
               try clear q21
               try clear hx21
               try clear hf21
               try clear c27
               try clear c27b0
               try clear hcz23_0
               try clear hcz23_1
               try clear hcz6_0
               try clear hcz6_1
               try clear hcz8_0
               try clear hcz8_1
               try clear hfz23_0
               try clear hfz23_1
               try clear hfz6_0
               try clear hfz6_1
               try clear hfz8_0
               try clear hfz8_1
               try clear hx21_0
               try clear hx406_0
               try clear hx410_0
               try clear hx413_0
               try clear p2
               try clear p21
               try clear p4
               try clear p406
               try clear p410
               try clear p413
               try clear q21
               try clear q4
               try clear q406
               try clear q410
               try clear q413
               obtain ⟨kq, x13_21, x17_21, rfl, rfl, HA, HJ21, HO_7, HO_14, BK402, HB⟩ := hcut;have hl14_21 := (Kd.R_reads' HO_14.out).1;rw [hl14_21] at HO_14;(try simp only [hl14_21]);(try simp only [hl14_21] at BK402);(try simp only [hl14_21] at HO_7)
               cases kq with
               | zero => exact absurd HA.out (by simp [mg_round.j2])
               | succ kj21 =>
                have H := HA.out;clear HA;simp only [mg_round.j2] at H;have HC28 := Ai0.mk H;clear H
                go_upto_region 15 with (fail)
                go_cut [62] (fun v62 wc => ∃ (kq : Nat) (x62_27 : Bool), v62 = .bool x62_27 ∧ Ai0 (mg_round.j3 kq l1 l2 x7_1 x28_1 (rd_L1 l0_0 x28_1) x10_2 x11_2 x12_2 x13_21 y412 x38_2 x17_21 l0_0 (l0_0.length : Int) x28_1 (rd_L1 l0_0 x28_1) ((rd_L1 l0_0 x28_1).length : Int) x38_2 x62_27 l0_0 l0_1 = some r) ∧ Ai0 (kq ≤ kj21) ∧ Ai0 (Kd.S (Kd.slice 3 (Kd.int .i64)) 25 wc w.heap.size (fun k_ => some k_ ≠ ((.slice (some ⟨go21, 0, none⟩) y412.length co21) : Value).ownBlock) v404 x7_1) ∧ Ai0 (Kd.R (Kd.int .i64) 3 wc w.heap.size (fun _ => True) (.slice (some ⟨go21, 0, none⟩) y412.length co21) y412) ∧ Ai0 (wc.heap[gG]? = some (.cells #[(.slice (some ad406) l0_0.length c0_0), (.slice A0_1 l0_1.length c0_1)] 73 (0, 0))) ∧ Ai0 (Below w.heap.size w wc))
                case first =>
                 have H := HC28.out;clear HC28;by_cases c29 : x12_2 < 0
                 ·rw [if_pos c29] at H;have c29b0 : decide (x12_2 < 0) = true := decide_eq_true c29;clear c29;(first | rw [c29b0] | (simp only [i64_w, i32_w]; rw [c29b0]) | skip);have H' := Ai0.mk H;clear H
                  go_wp2
                  go_meet
                  case rel => exact ⟨_, (true), rf_, H', ⟨by have := HK1.out; have := HK2.out; have := HJ21.out; first | omega | exact Nat.le_refl _⟩, ⟨by (try simp only [hl14_21]); (with_reducible repeat (first | apply Kd.S_alloc | apply Kd.S_drewN | apply Kd.S_drew)); exact HO_7.out⟩, ⟨by (try simp only [hl14_21]); (with_reducible repeat (first | apply Kd.Ra1 | apply Kd.Rn1 | apply Kd.Rd1)); exact HO_14.out⟩, ⟨by (try simp only [hl14_21]); (with_reducible repeat (first | refine kn1 ?_ _ | refine kd1 ?_ | refine ka1 ?_ _)); exact BK402.out⟩, ⟨bl_⟩⟩
                 ·rw [if_neg c29] at H;have c29b0 : decide (x12_2 < 0) = false := decide_eq_false c29;clear c29;(first | rw [c29b0] | (simp only [i64_w, i32_w]; rw [c29b0]) | skip);have H' := Ai0.mk H;clear H
                  go_wp2
                  go_meet
                  case rel => exact ⟨_, (decide (x17_21 < x10_2)), rf_, H', ⟨by have := HK1.out; have := HK2.out; have := HJ21.out; first | omega | exact Nat.le_refl _⟩, ⟨by (try simp only [hl14_21]); (with_reducible repeat (first | apply Kd.S_alloc | apply Kd.S_drewN | apply Kd.S_drew)); exact HO_7.out⟩, ⟨by (try simp only [hl14_21]); (with_reducible repeat (first | apply Kd.Ra1 | apply Kd.Rn1 | apply Kd.Rd1)); exact HO_14.out⟩, ⟨by (try simp only [hl14_21]); (with_reducible repeat (first | refine kn1 ?_ _ | refine kd1 ?_ | refine ka1 ?_ _)); exact BK402.out⟩, ⟨bl_⟩⟩
                case rest =>
                 clear HC28
                 try clear c1
                 try clear c2
                 try clear p2
                 try clear q2
                 try clear hx2
                 try clear c4
                 try clear p4
                 try clear q4
                 try clear hx4
                 try clear c6
                 try clear p6
                 try clear c9
                 try clear c9b0
                 try clear c10
                 try clear c10b0
                 try clear c11
                 try clear c11b0
                 try clear c12
                 try clear c12b0
                 try clear c12b1
                 try clear c13
                 try clear c13b0
                 try clear c13b1
                 try clear c16
                 try clear c16b0
                 try clear c17
                 try clear c17b0
                 try clear c18
                 try clear c18b0
                 try clear c20
                 try clear c20b0
                 try clear p21
                 try clear q21
                 try clear hx21
                 try clear hf21
                 try clear c27
                 try clear c27b0
                 try clear c29
                 try clear c29b0
                 try clear hcz23_0
                 try clear hcz23_1
                 try clear hcz6_0
                 try clear hcz6_1
                 try clear hcz8_0
                 try clear hcz8_1
                 try clear hfz23_0
                 try clear hfz23_1
                 try clear hfz6_0
                 try clear hfz6_1
                 try clear hfz8_0
                 try clear hfz8_1
                 try clear hx21_0
                 try clear hx406_0
                 try clear hx410_0
                 try clear hx413_0
                 try clear p2
                 try clear p21
                 try clear p4
                 try clear p406
                 try clear p410
                 try clear p413
                 try clear p6
                 try clear q2
                 try clear q21
                 try clear q4
                 try clear q406
                 try clear q410
                 try clear q413
                 obtain ⟨kq, x62_27, rfl, HA, HJ27, HO_7, HO_14, BK402, HB⟩ := hcut
                 cases kq with
                 | zero => exact absurd HA.out (by simp [mg_round.j3])
                 | succ kj27 =>
                  have H := HA.out;clear HA;simp only [mg_round.j3] at H;by_cases c30 : x62_27 = true
                  ·subst c30;(have H1 : (mg_round.l1 kj27 l1 l2 x7_1 x28_1 (rd_L1 l0_0 x28_1) x17_21 x10_2 x38_2 x13_21 y412 l0_0 (l0_0.length : Int) x28_1 (rd_L1 l0_0 x28_1) ((rd_L1 l0_0 x28_1).length : Int) (wrap64 (x38_2 + 1)) l0_0 l0_1) = some r := by rw [if_pos rfl] at H; exact H);clear H;have H := H1;clear H1;have H' := Ai0.mk H;clear H
                   go_wp2
                   (try simp only [← hl14_21])
                   go_roundg kj27
                   case measure => have := HK1.out; have := HK2.out; have := HJ21.out; have := HJ27.out; omega
                   case rel => exact ⟨(x17_21), (x10_2), (x38_2), (x13_21), (y412), (wrap64 (x38_2 + 1)), rf_, rf_, rf_, rf_, rf_, H', ⟨by have := HK1.out; have := HK2.out; have := HJ21.out; have := HJ27.out; omega⟩, ⟨by (try simp only [hl14_21]); (with_reducible repeat (first | apply Kd.S_alloc | apply Kd.S_drewN | apply Kd.S_drew)); exact HO_7.out⟩, ⟨by (try simp only [hl14_21]); (with_reducible repeat (first | apply Kd.Ra1 | apply Kd.Rn1 | apply Kd.Rd1)); exact HO_14.out⟩, ⟨by (try simp only [hl14_21]); (with_reducible repeat (first | refine kn1 ?_ _ | refine kd1 ?_ | refine ka1 ?_ _)); exact BK402.out⟩, ⟨bl_⟩⟩
                  ·replace c30 := Bool.eq_false_iff.mpr c30;subst c30;(have H1 : (if x17_21 < x11_2 then (mg_round.l1 kj27 l1 l2 x7_1 x28_1 (rd_L1 l0_0 x28_1) x10_2 x17_21 x12_2 x13_21 y412 l0_0 (l0_0.length : Int) x28_1 (rd_L1 l0_0 x28_1) ((rd_L1 l0_0 x28_1).length : Int) (wrap64 (x38_2 + 1)) l0_0 l0_1) else (mg_round.l1 kj27 l1 l2 x7_1 x28_1 (rd_L1 l0_0 x28_1) x10_2 x11_2 x12_2 x13_21 y412 l0_0 (l0_0.length : Int) x28_1 (rd_L1 l0_0 x28_1) ((rd_L1 l0_0 x28_1).length : Int) (wrap64 (x38_2 + 1)) l0_0 l0_1)) = some r := by rw [if_neg (show ¬ (false = true) by decide)] at H; exact H);clear H;have H := H1;clear H1;by_cases c31 : x17_21 < x11_2
                   ·rw [if_pos c31] at H;have c31b0 : decide (x17_21 < x11_2) = true := decide_eq_true c31;clear c31;have H' := Ai0.mk H;clear H
                    go_wp2
                    (try simp only [← hl14_21])
                    go_roundg kj27
                    case measure => have := HK1.out; have := HK2.out; have := HJ21.out; have := HJ27.out; omega
                    case rel => exact ⟨(x10_2), (x17_21), (x12_2), (x13_21), (y412), (wrap64 (x38_2 + 1)), rf_, rf_, rf_, rf_, rf_, H', ⟨by have := HK1.out; have := HK2.out; have := HJ21.out; have := HJ27.out; omega⟩, ⟨by (try simp only [hl14_21]); (with_reducible repeat (first | apply Kd.S_alloc | apply Kd.S_drewN | apply Kd.S_drew)); exact HO_7.out⟩, ⟨by (try simp only [hl14_21]); (with_reducible repeat (first | apply Kd.Ra1 | apply Kd.Rn1 | apply Kd.Rd1)); exact HO_14.out⟩, ⟨by (try simp only [hl14_21]); (with_reducible repeat (first | refine kn1 ?_ _ | refine kd1 ?_ | refine ka1 ?_ _)); exact BK402.out⟩, ⟨bl_⟩⟩
                   ·rw [if_neg c31] at H;have c31b0 : decide (x17_21 < x11_2) = false := decide_eq_false c31;clear c31;have H' := Ai0.mk H;clear H
                    go_wp2
                    (try simp only [← hl14_21])
                    go_roundg kj27
                    case measure => have := HK1.out; have := HK2.out; have := HJ21.out; have := HJ27.out; omega
                    case rel => exact ⟨(x10_2), (x11_2), (x12_2), (x13_21), (y412), (wrap64 (x38_2 + 1)), rf_, rf_, rf_, rf_, rf_, H', ⟨by have := HK1.out; have := HK2.out; have := HJ21.out; have := HJ27.out; omega⟩, ⟨by (try simp only [hl14_21]); (with_reducible repeat (first | apply Kd.S_alloc | apply Kd.S_drewN | apply Kd.S_drew)); exact HO_7.out⟩, ⟨by (try simp only [hl14_21]); (with_reducible repeat (first | apply Kd.Ra1 | apply Kd.Rn1 | apply Kd.Rd1)); exact HO_14.out⟩, ⟨by (try simp only [hl14_21]); (with_reducible repeat (first | refine kn1 ?_ _ | refine kd1 ?_ | refine ka1 ?_ _)); exact BK402.out⟩, ⟨bl_⟩⟩
             ·rw [if_neg c20] at H;exact absurd H (by simp)
            ·rw [if_neg c18] at H;exact absurd H (by simp)
           ·rw [if_neg c17] at H;exact absurd H (by simp)
          ·rw [if_neg c16] at H;have c16b0 : decide (x38_2 < ((rd_L1 l0_0 x28_1).length : Int)) = false := decide_eq_false c16;clear c16;have H' := Ai0.mk H;clear H
           go_wp2
           go_loopg [81] k2 (fun kq v81 w' => ∃ (x7_3 : List (List Int)) (x14_3 : List Int) (x81_3 : Int), v81 = .int .i64 x81_3 ∧ Ai0 (mg_round.l2 kq l1 l2 x7_3 x28_1 x10_2 x11_2 x12_2 x13_2 x14_3 l0_0 (l0_0.length : Int) x28_1 ((rd_L1 l0_0 x28_1).length : Int) x81_3 l0_0 l0_1 = some r) ∧ Ai0 (kq ≤ k2) ∧ Ai0 (Kd.S (Kd.slice 3 (Kd.int .i64)) 25 w' w.heap.size (fun k_ => some k_ ≠ (v408 : Value).ownBlock) v404 x7_3) ∧ Ai0 (Kd.R (Kd.int .i64) 3 w' w.heap.size (fun _ => True) v408 x14_3) ∧ Ai0 (w'.heap[gG]? = some (.cells #[(.slice (some ad406) l0_0.length c0_0), (.slice A0_1 l0_1.length c0_1)] 73 (0, 0))) ∧ Ai0 (Below w.heap.size w w'))
           case atStart => exact ⟨(x7_1), (x14_2), (0), rf_, H', ⟨Nat.le_refl _⟩, ⟨ks_ HO_7.out⟩, ⟨kr_ HO_14.out⟩, ⟨kk_ BK402.out⟩, ⟨bl_⟩⟩
           case round =>
            clear H'
            try clear c1
            try clear c2
            try clear p2
            try clear q2
            try clear hx2
            try clear c3
            try clear c4
            try clear p4
            try clear q4
            try clear hx4
            try clear c6
            try clear p6
            try clear c9
            try clear c9b0
            try clear c10
            try clear c10b0
            try clear c11
            try clear c11b0
            try clear c12
            try clear c12b0
            try clear c12b1
            try clear c13
            try clear c13b0
            try clear c13b1
            try clear c16
            try clear c16b0
            try clear c17
            try clear c17b0
            try clear c18
            try clear c18b0
            try clear c20
            try clear c20b0
            try clear p21
            try clear q21
            try clear hx21
            try clear hf21
            try clear c27
            try clear c27b0
            try clear c29
            try clear c29b0
            try clear c30
            try clear c31
            try clear c31b0
            try clear hcz23_0
            try clear hcz23_1
            try clear hcz6_0
            try clear hcz6_1
            try clear hcz8_0
            try clear hcz8_1
            try clear hfz23_0
            try clear hfz23_1
            try clear hfz6_0
            try clear hfz6_1
            try clear hfz8_0
            try clear hfz8_1
            try clear hx21_0
            try clear hx406_0
            try clear hx410_0
            try clear hx413_0
            try clear p2
            try clear p21
            try clear p4
            try clear p406
            try clear p410
            try clear p413
            try clear p6
            try clear q2
            try clear q21
            try clear q4
            try clear q406
            try clear q410
            try clear q413
            obtain ⟨x7_3, x14_3, x81_3, rfl, HA, HK3, HO_7, HO_14, BK402, HB⟩ := hrel
            cases gk with
            | zero => exact absurd HA.out (by simp [mg_round.l2])
            | succ k3 =>
             have H := HA.out;clear HA;simp only [mg_round.l2] at H;by_cases c32 : x81_3 < ((rd_L1 l0_0 x28_1).length : Int)
             ·rw [if_pos c32] at H;have c32b0 : decide (x81_3 < ((rd_L1 l0_0 x28_1).length : Int)) = true := decide_eq_true c32;clear c32;have HC33 := Ai0.mk H;clear H
              go_upto_if 88 with (fail)
              go_cut [19] (fun v19 wc => ∃ (kq : Nat) (x19_32 : Int), v19 = .int .i64 x19_32 ∧ Ai0 (mg_round.j5 kq l1 l2 x7_3 x28_1 x10_2 x11_2 x12_2 x13_2 x14_3 x81_3 x19_32 x13_2 l0_0 (l0_0.length : Int) x28_1 ((rd_L1 l0_0 x28_1).length : Int) x81_3 l0_0 l0_1 = some r) ∧ Ai0 (kq ≤ k3) ∧ Ai0 (Kd.S (Kd.slice 3 (Kd.int .i64)) 25 wc w.heap.size (fun k_ => some k_ ≠ (v408 : Value).ownBlock) v404 x7_3) ∧ Ai0 (Kd.R (Kd.int .i64) 3 wc w.heap.size (fun _ => True) v408 x14_3) ∧ Ai0 (wc.heap[gG]? = some (.cells #[(.slice (some ad406) l0_0.length c0_0), (.slice A0_1 l0_1.length c0_1)] 73 (0, 0))) ∧ Ai0 (Below w.heap.size w wc))
              case first =>
               have H := HC33.out;clear HC33;by_cases c34 : x81_3 = x12_2
               ·rw [if_pos c34] at H;have c34b0 : (x81_3 == x12_2) = true := beq_iff_eq.mpr c34;have c34b1 : (x81_3 != x12_2) = false := bne_eq_false_iff_eq.mpr c34;clear c34;(first | rw [c34b0] | (simp only [i64_w, i32_w]; rw [c34b0]) | skip);have H' := Ai0.mk H;clear H
                go_wp2
                go_meet
                case rel => exact ⟨_, (x11_2), rf_, H', ⟨by have := HK1.out; have := HK2.out; have := HK3.out; first | omega | exact Nat.le_refl _⟩, ⟨ks_ HO_7.out⟩, ⟨kr_ HO_14.out⟩, ⟨kk_ BK402.out⟩, ⟨bl_⟩⟩
               ·rw [if_neg c34] at H;have c34b0 : (x81_3 == x12_2) = false := beq_eq_false_iff_ne.mpr c34;have c34b1 : (x81_3 != x12_2) = true := bne_iff_ne.mpr c34;(first | rw [c34b0] | (simp only [i64_w, i32_w]; rw [c34b0]) | skip);have H' := Ai0.mk H;clear H
                go_wp2
                go_meet
                case rel => exact ⟨_, (x10_2), rf_, H', ⟨by have := HK1.out; have := HK2.out; have := HK3.out; first | omega | exact Nat.le_refl _⟩, ⟨ks_ HO_7.out⟩, ⟨kr_ HO_14.out⟩, ⟨kk_ BK402.out⟩, ⟨bl_⟩⟩
              case rest =>
               clear HC33
               try clear c1
               try clear c2
               try clear p2
               try clear q2
               try clear hx2
               try clear c3
               try clear c4
               try clear p4
               try clear q4
               try clear hx4
               try clear c6
               try clear p6
               try clear c9
               try clear c9b0
               try clear c10
               try clear c10b0
               try clear c11
               try clear c11b0
               try clear c12
               try clear c12b0
               try clear c12b1
               try clear c13
               try clear c13b0
               try clear c13b1
               try clear c16
               try clear c16b0
               try clear c17
               try clear c17b0
               try clear c18
               try clear c18b0
               try clear c20
               try clear c20b0
               try clear p21
               try clear q21
               try clear hx21
               try clear hf21
               try clear c27
               try clear c27b0
               try clear c29
               try clear c29b0
               try clear c30
               try clear c31
               try clear c31b0
               try clear c32
               try clear c32b0
               try clear c34
               try clear c34b0
               try clear c34b1
               try clear hcz23_0
               try clear hcz23_1
               try clear hcz6_0
               try clear hcz6_1
               try clear hcz8_0
               try clear hcz8_1
               try clear hfz23_0
               try clear hfz23_1
               try clear hfz6_0
               try clear hfz6_1
               try clear hfz8_0
               try clear hfz8_1
               try clear hx21_0
               try clear hx406_0
               try clear hx410_0
               try clear hx413_0
               try clear p2
               try clear p21
               try clear p4
               try clear p406
               try clear p410
               try clear p413
               try clear p6
               try clear q2
               try clear q21
               try clear q4
               try clear q406
               try clear q410
               try clear q413
               obtain ⟨kq, x19_32, rfl, HA, HJ32, HO_7, HO_14, BK402, HB⟩ := hcut
               cases kq with
               | zero => exact absurd HA.out (by simp [mg_round.j5])
               | succ kj32 =>
                have H := HA.out;clear HA;simp only [mg_round.j5] at H;by_cases c35 : 0 ≤ x81_3
                ·rw [if_pos c35] at H;have c35b0 : decide (0 ≤ x81_3) = true := decide_eq_true c35;clear c35;by_cases c36 : x81_3 < (x14_3.length : Int)
                 ·rw [if_pos c36] at H;have c36b0 : decide (x81_3 < (x14_3.length : Int)) = true := decide_eq_true c36;clear c36;by_cases c37 : (rd x14_3 x81_3) < 0
                  ·rw [if_pos c37] at H;have c37b0 : decide ((rd x14_3 x81_3) < 0) = true := decide_eq_true c37;clear c37;by_cases c38 : (Int.tmod (wrap64 (x13_2 - 1)) 2) = 1
                   ·rw [if_pos c38] at H;have c38b0 : ((Int.tmod (wrap64 (x13_2 - 1)) 2) == 1) = true := beq_iff_eq.mpr c38;have c38b1 : ((Int.tmod (wrap64 (x13_2 - 1)) 2) != 1) = false := bne_eq_false_iff_eq.mpr c38;clear c38;by_cases c39 : 0 ≤ x28_1
                    ·rw [if_pos c39] at H;have c39b0 : decide (0 ≤ x28_1) = true := decide_eq_true c39;clear c39;by_cases c40 : x28_1 < (x7_3.length : Int)
                     ·rw [if_pos c40] at H;have c40b0 : decide (x28_1 < (x7_3.length : Int)) = true := decide_eq_true c40;clear c40;by_cases c41 : x81_3 < ((rd_L1 x7_3 x28_1).length : Int)
                      ·rw [if_pos c41] at H;have c41b0 : decide (x81_3 < ((rd_L1 x7_3 x28_1).length : Int)) = true := decide_eq_true c41;clear c41;(obtain ⟨y416, hy416⟩ : ∃ y_ : List Int, y_ = ((rd_L1 x7_3 x28_1).set (x81_3 : Int).toNat (wrap64 (-x19_32))) := ⟨_, rfl⟩);(replace H : (mg_round.l2 kj32 l1 l2 (x7_3.set (x28_1 : Int).toNat y416) x28_1 x10_2 x11_2 x12_2 x13_2 x14_3 l0_0 (l0_0.length : Int) x28_1 ((rd_L1 l0_0 x28_1).length : Int) (wrap64 (x81_3 + 1)) l0_0 l0_1) = some r := by first | (rw [hy416]; with_reducible exact H) | (have H2_ := (Option.bind_some _ _).symm.trans H; rw [hy416]; with_reducible exact H2_) | (have H2_ := (Option.bind_some _ _).symm.trans H; with_reducible exact H2_) | with_reducible exact H | (rw [hy416]; exact H) | exact H);have Ny416 := Ai0.mk hy416;clear hy416;(obtain ⟨y418, hy418⟩ : ∃ y_ : List (List Int), y_ = (x7_3.set (x28_1 : Int).toNat y416) := ⟨_, rfl⟩);(replace H : (mg_round.l2 kj32 l1 l2 y418 x28_1 x10_2 x11_2 x12_2 x13_2 x14_3 l0_0 (l0_0.length : Int) x28_1 ((rd_L1 l0_0 x28_1).length : Int) (wrap64 (x81_3 + 1)) l0_0 l0_1) = some r := by first | (rw [hy418]; with_reducible exact H) | (have H2_ := (Option.bind_some _ _).symm.trans H; rw [hy418]; with_reducible exact H2_) | (have H2_ := (Option.bind_some _ _).symm.trans H; with_reducible exact H2_) | with_reducible exact H | (rw [hy418]; exact H) | exact H);have Ny418 := Ai0.mk hy418;clear hy418;have H' := Ai0.mk H;clear H;obtain ⟨Ao43, co43, eo43⟩ := Kd.R_slice HO_14.out;subst eo43;have p414 : 0 ≤ (x81_3 : Int) := od_;have q414 : x81_3 < (x14_3.length : Int) := od_;obtain ⟨ad414, e414, hx414_0⟩ := Kd.at_int (Kd.R_reads' HO_14.out).2.2 x81_3 p414 q414;cases e414;replace p414 := eq_true p414;replace q414 := eq_true q414;obtain ⟨Ao44, co44, eo44⟩ := Kd.S_slice HO_7.out;subst eo44;have p415 : 0 ≤ (x28_1 : Int) := od_;have q415 : x28_1 < (x7_3.length : Int) := od_;obtain ⟨ad415, A415_0, c415_0, e415, hx415_0, hl415_0, hi415_0⟩ := at_L1 (Kd.S_reads' HO_7.out).2.2 x28_1 p415 q415;cases e415;obtain ⟨ce415, hce415, hMe415, hcc415⟩ := Kd.S_get HO_7.out [] x28_1 p415 (by first | exact q415 | exact od_ | (have e_ := (Kd.S_reads' HO_7.out).1; omega));obtain ⟨ve415_0, rfl, ge415_0⟩ := hMe415;have hv415_0 := hcc415 0 _ rfl;rw [Nat.add_zero, show ((Kd.slice 3 (Kd.int .i64))).sz = 1 from rfl, Nat.mul_one] at hv415_0;replace hv415_0 := Option.some.inj (hv415_0.symm.trans hx415_0);rw [hv415_0] at ge415_0;have HL415_0 := Ai0.mk (show Kd.R (Kd.int .i64) 3 _ _ _ _ (rd_L1 x7_3 x28_1) from ge415_0);clear hv415_0 ge415_0;have HX415_0 := Ai0.mk hx415_0;clear hcc415 hce415;have HR415_0 := Ai0.mk hi415_0;have HC415_0 := Ai0.mk hl415_0;clear hi415_0 hl415_0;replace p415 := eq_true p415;replace q415 := eq_true q415;have p42 : 0 ≤ (x81_3 : Int) := od_;have q42 : (x81_3 : Int) < (((rd_L1 x7_3 x28_1).length : Int) : Int) := od_;obtain ⟨go42, co42, eo42, gb42, gl42, cl42, HG42⟩ := Kd.R_form HL415_0.out (by omega);(first | cases eo42 | (injection eo42 with ea_ en_ ec_; (first | subst ea_ | (injection ea_ with ea_; subst ea_)); subst ec_; clear en_));have GB42 := Ai0.mk gb42;have GG42 := Ai0.mk HG42;clear gb42 gl42 HG42;obtain ⟨hx42_0, hf42_0⟩ := Kd.R_celln 0 HL415_0.out (x81_3 : Int) p42 q42;replace p42 := eq_true p42;replace q42 := eq_true q42;have hq45 : (x28_1 : Int) < (x7_3.length : Int) := (by have h_ : (x28_1 : Int) < ((x7_3.length : Int) : Int) := od_; first | exact h_ | (have e_ := (Kd.S_reads' HO_7.out).1; omega) | simpa only [List.length_set, List.length_set] using h_);obtain ⟨oki45, ce45, hcl45, hM45, hcc45, hok45, hbk45⟩ := Kd.S_borrow HO_7.out [] (x28_1 : Int) od_ hq45;obtain ⟨ve45_0, rfl, ge45_0⟩ := hM45;have hv45 := hcc45 0 _ rfl;rw [Nat.add_zero, show ((Kd.slice 3 (Kd.int .i64))).sz = 1 from rfl, Nat.mul_one] at hv45;replace hv45 := Option.some.inj (hv45.symm.trans HX415_0.out);subst hv45;clear hcc45 hcl45;replace ge45_0 := (show Kd.R (Kd.int .i64) 3 _ _ _ _ (rd_L1 x7_3 x28_1) from ge45_0);have HP45 := Kd.R_putg ge45_0 (x81_3 : Int) (wrap64 (-x19_32))
                       go_wp2_with (first | ((with_reducible refine gate_store (t := 3) (p := 108) rfl ?_); refine store_event (t := 3) (p := 108) (v := ?vo_w46) (w1 := (wc.setCell ⟨go42, (x81_3 : Int).toNat, none⟩ (.int .i64 (wrap64 (-x19_32))))) ?hg ?ho ?hn ?hr ?_; (case ho => rfl); (case hg => rfl); (case hn => rfl); (case hr => first | (go_simp; done) | (go_simp; rfl)); intro w46 hw; have hg : wc.grownBy w46 (some go42) := (by rw [hw]; exact HP45.2); have hz_ : Kd.R (Kd.int .i64) 3 w46 w.heap.size oki45 (.slice (some ⟨go42, 0, none⟩) (rd_L1 x7_3 x28_1).length c415_0) y416 := (by rw [hw, Ny416.out]; exact HP45.1); have hp_ : Kd.S (Kd.slice 3 (Kd.int .i64)) 25 w46 w.heap.size (fun k_ => some k_ ≠ (.slice (some ad414) x14_3.length co43 : Value).ownBlock) (.slice (some ad415) x7_3.length co44) y418 := (by rw [Ny418.out]; exact hbk45 hg (fun k_ e_ => by injection e_ with e_; subst e_; exact ge45_0.1 _ rfl) (Kd.M_row hz_)); have hm_ := Kd.R_mono hz_ hok45; clear HP45 hbk45; have n0_ := Ai0.mk (hp_); have n1_ := Ai0.mk (Kd.R_grown1 (kr_ HO_14.out) rfl hg ((HL415_0.out.1 _ rfl).1)); have n2_ := Ai0.mk (blk_grown (g := gG) (o := .cells #[.slice (some ad406) l0_0.length c0_0, .slice A0_1 l0_1.length c0_1] 73 (0, 0)) (kk_ BK402.out) hg (Kd.R_ne HL415_0.out BK402.out (by decide))); have n3_ := Ai0.mk ((by rw [hw]; exact bs1 (HB.out) GB42.out : Below w.heap.size w w46)); have n4_ := Ai0.mk (hm_); have n5_ := Ai0.mk ((Kd.R_reads' hm_).2.1); clear HO_7; clear HO_14; clear BK402; clear HB; clear HL415_0; have HO_7 := n0_; have HO_14 := n1_; have BK402 := n2_; have HB := n3_; have HL431 := n4_; have HC417 := n5_; clear n0_ n1_ n2_ n3_ n4_ n5_; clear hg hw hp_ hz_ hm_ hok45))
                       go_roundg kj32
                       case measure => have := HK1.out; have := HK2.out; have := HK3.out; have := HJ32.out; omega
                       case rel => exact ⟨(y418), (x14_3), (wrap64 (x81_3 + 1)), rf_, H', ⟨by have := HK1.out; have := HK2.out; have := HK3.out; have := HJ32.out; omega⟩, ⟨ks_ HO_7.out⟩, ⟨kr_ HO_14.out⟩, ⟨kk_ BK402.out⟩, ⟨bl_⟩⟩
                      ·rw [if_neg c41] at H;exact absurd H (by simp)
                     ·rw [if_neg c40] at H;exact absurd H (by simp)
                    ·rw [if_neg c39] at H;exact absurd H (by simp)
                   ·rw [if_neg c38] at H;have c38b0 : ((Int.tmod (wrap64 (x13_2 - 1)) 2) == 1) = false := beq_eq_false_iff_ne.mpr c38;have c38b1 : ((Int.tmod (wrap64 (x13_2 - 1)) 2) != 1) = true := bne_iff_ne.mpr c38;by_cases c47 : 0 ≤ x28_1
                    ·rw [if_pos c47] at H;have c47b0 : decide (0 ≤ x28_1) = true := decide_eq_true c47;clear c47;by_cases c48 : x28_1 < (x7_3.length : Int)
                     ·rw [if_pos c48] at H;have c48b0 : decide (x28_1 < (x7_3.length : Int)) = true := decide_eq_true c48;clear c48;by_cases c49 : x81_3 < ((rd_L1 x7_3 x28_1).length : Int)
                      ·rw [if_pos c49] at H;have c49b0 : decide (x81_3 < ((rd_L1 x7_3 x28_1).length : Int)) = true := decide_eq_true c49;clear c49;(obtain ⟨y420, hy420⟩ : ∃ y_ : List Int, y_ = ((rd_L1 x7_3 x28_1).set (x81_3 : Int).toNat x19_32) := ⟨_, rfl⟩);(replace H : (mg_round.l2 kj32 l1 l2 (x7_3.set (x28_1 : Int).toNat y420) x28_1 x10_2 x11_2 x12_2 x13_2 x14_3 l0_0 (l0_0.length : Int) x28_1 ((rd_L1 l0_0 x28_1).length : Int) (wrap64 (x81_3 + 1)) l0_0 l0_1) = some r := by first | (rw [hy420]; with_reducible exact H) | (have H2_ := (Option.bind_some _ _).symm.trans H; rw [hy420]; with_reducible exact H2_) | (have H2_ := (Option.bind_some _ _).symm.trans H; with_reducible exact H2_) | with_reducible exact H | (rw [hy420]; exact H) | exact H);have Ny420 := Ai0.mk hy420;clear hy420;(obtain ⟨y422, hy422⟩ : ∃ y_ : List (List Int), y_ = (x7_3.set (x28_1 : Int).toNat y420) := ⟨_, rfl⟩);(replace H : (mg_round.l2 kj32 l1 l2 y422 x28_1 x10_2 x11_2 x12_2 x13_2 x14_3 l0_0 (l0_0.length : Int) x28_1 ((rd_L1 l0_0 x28_1).length : Int) (wrap64 (x81_3 + 1)) l0_0 l0_1) = some r := by first | (rw [hy422]; with_reducible exact H) | (have H2_ := (Option.bind_some _ _).symm.trans H; rw [hy422]; with_reducible exact H2_) | (have H2_ := (Option.bind_some _ _).symm.trans H; with_reducible exact H2_) | with_reducible exact H | (rw [hy422]; exact H) | exact H);have Ny422 := Ai0.mk hy422;clear hy422;have H' := Ai0.mk H;clear H;obtain ⟨Ao51, co51, eo51⟩ := Kd.R_slice HO_14.out;subst eo51;have p414 : 0 ≤ (x81_3 : Int) := od_;have q414 : x81_3 < (x14_3.length : Int) := od_;obtain ⟨ad414, e414, hx414_0⟩ := Kd.at_int (Kd.R_reads' HO_14.out).2.2 x81_3 p414 q414;cases e414;replace p414 := eq_true p414;replace q414 := eq_true q414;obtain ⟨Ao52, co52, eo52⟩ := Kd.S_slice HO_7.out;subst eo52;have p419 : 0 ≤ (x28_1 : Int) := od_;have q419 : x28_1 < (x7_3.length : Int) := od_;obtain ⟨ad419, A419_0, c419_0, e419, hx419_0, hl419_0, hi419_0⟩ := at_L1 (Kd.S_reads' HO_7.out).2.2 x28_1 p419 q419;cases e419;obtain ⟨ce419, hce419, hMe419, hcc419⟩ := Kd.S_get HO_7.out [] x28_1 p419 (by first | exact q419 | exact od_ | (have e_ := (Kd.S_reads' HO_7.out).1; omega));obtain ⟨ve419_0, rfl, ge419_0⟩ := hMe419;have hv419_0 := hcc419 0 _ rfl;rw [Nat.add_zero, show ((Kd.slice 3 (Kd.int .i64))).sz = 1 from rfl, Nat.mul_one] at hv419_0;replace hv419_0 := Option.some.inj (hv419_0.symm.trans hx419_0);rw [hv419_0] at ge419_0;have HL419_0 := Ai0.mk (show Kd.R (Kd.int .i64) 3 _ _ _ _ (rd_L1 x7_3 x28_1) from ge419_0);clear hv419_0 ge419_0;have HX419_0 := Ai0.mk hx419_0;clear hcc419 hce419;have HR419_0 := Ai0.mk hi419_0;have HC419_0 := Ai0.mk hl419_0;clear hi419_0 hl419_0;replace p419 := eq_true p419;replace q419 := eq_true q419;have p50 : 0 ≤ (x81_3 : Int) := od_;have q50 : (x81_3 : Int) < (((rd_L1 x7_3 x28_1).length : Int) : Int) := od_;obtain ⟨go50, co50, eo50, gb50, gl50, cl50, HG50⟩ := Kd.R_form HL419_0.out (by omega);(first | cases eo50 | (injection eo50 with ea_ en_ ec_; (first | subst ea_ | (injection ea_ with ea_; subst ea_)); subst ec_; clear en_));have GB50 := Ai0.mk gb50;have GG50 := Ai0.mk HG50;clear gb50 gl50 HG50;obtain ⟨hx50_0, hf50_0⟩ := Kd.R_celln 0 HL419_0.out (x81_3 : Int) p50 q50;replace p50 := eq_true p50;replace q50 := eq_true q50;have hq53 : (x28_1 : Int) < (x7_3.length : Int) := (by have h_ : (x28_1 : Int) < ((x7_3.length : Int) : Int) := od_; first | exact h_ | (have e_ := (Kd.S_reads' HO_7.out).1; omega) | simpa only [List.length_set, List.length_set] using h_);obtain ⟨oki53, ce53, hcl53, hM53, hcc53, hok53, hbk53⟩ := Kd.S_borrow HO_7.out [] (x28_1 : Int) od_ hq53;obtain ⟨ve53_0, rfl, ge53_0⟩ := hM53;have hv53 := hcc53 0 _ rfl;rw [Nat.add_zero, show ((Kd.slice 3 (Kd.int .i64))).sz = 1 from rfl, Nat.mul_one] at hv53;replace hv53 := Option.some.inj (hv53.symm.trans HX419_0.out);subst hv53;clear hcc53 hcl53;replace ge53_0 := (show Kd.R (Kd.int .i64) 3 _ _ _ _ (rd_L1 x7_3 x28_1) from ge53_0);have HP53 := Kd.R_putg ge53_0 (x81_3 : Int) x19_32
                       go_wp2_with (first | ((with_reducible refine gate_store (t := 3) (p := 108) rfl ?_); refine store_event (t := 3) (p := 108) (v := ?vo_w54) (w1 := (wc.setCell ⟨go50, (x81_3 : Int).toNat, none⟩ (.int .i64 x19_32))) ?hg ?ho ?hn ?hr ?_; (case ho => rfl); (case hg => rfl); (case hn => rfl); (case hr => first | (go_simp; done) | (go_simp; rfl)); intro w54 hw; have hg : wc.grownBy w54 (some go50) := (by rw [hw]; exact HP53.2); have hz_ : Kd.R (Kd.int .i64) 3 w54 w.heap.size oki53 (.slice (some ⟨go50, 0, none⟩) (rd_L1 x7_3 x28_1).length c419_0) y420 := (by rw [hw, Ny420.out]; exact HP53.1); have hp_ : Kd.S (Kd.slice 3 (Kd.int .i64)) 25 w54 w.heap.size (fun k_ => some k_ ≠ (.slice (some ad414) x14_3.length co51 : Value).ownBlock) (.slice (some ad419) x7_3.length co52) y422 := (by rw [Ny422.out]; exact hbk53 hg (fun k_ e_ => by injection e_ with e_; subst e_; exact ge53_0.1 _ rfl) (Kd.M_row hz_)); have hm_ := Kd.R_mono hz_ hok53; clear HP53 hbk53; have n0_ := Ai0.mk (hp_); have n1_ := Ai0.mk (Kd.R_grown1 (kr_ HO_14.out) rfl hg ((HL419_0.out.1 _ rfl).1)); have n2_ := Ai0.mk (blk_grown (g := gG) (o := .cells #[.slice (some ad406) l0_0.length c0_0, .slice A0_1 l0_1.length c0_1] 73 (0, 0)) (kk_ BK402.out) hg (Kd.R_ne HL419_0.out BK402.out (by decide))); have n3_ := Ai0.mk ((by rw [hw]; exact bs1 (HB.out) GB50.out : Below w.heap.size w w54)); have n4_ := Ai0.mk (hm_); have n5_ := Ai0.mk ((Kd.R_reads' hm_).2.1); clear HO_7; clear HO_14; clear BK402; clear HB; clear HL419_0; have HO_7 := n0_; have HO_14 := n1_; have BK402 := n2_; have HB := n3_; have HL432 := n4_; have HC421 := n5_; clear n0_ n1_ n2_ n3_ n4_ n5_; clear hg hw hp_ hz_ hm_ hok53))
                       go_roundg kj32
                       case measure => have := HK1.out; have := HK2.out; have := HK3.out; have := HJ32.out; omega
                       case rel => exact ⟨(y422), (x14_3), (wrap64 (x81_3 + 1)), rf_, H', ⟨by have := HK1.out; have := HK2.out; have := HK3.out; have := HJ32.out; omega⟩, ⟨ks_ HO_7.out⟩, ⟨kr_ HO_14.out⟩, ⟨kk_ BK402.out⟩, ⟨bl_⟩⟩
                      ·rw [if_neg c49] at H;exact absurd H (by simp)
                     ·rw [if_neg c48] at H;exact absurd H (by simp)
                    ·rw [if_neg c47] at H;exact absurd H (by simp)
                  ·rw [if_neg c37] at H;have c37b0 : decide ((rd x14_3 x81_3) < 0) = false := decide_eq_false c37;clear c37;by_cases c55 : (Int.tmod x13_2 2) = 1
                   ·rw [if_pos c55] at H;have c55b0 : ((Int.tmod x13_2 2) == 1) = true := beq_iff_eq.mpr c55;have c55b1 : ((Int.tmod x13_2 2) != 1) = false := bne_eq_false_iff_eq.mpr c55;clear c55;by_cases c56 : 0 ≤ x28_1
                    ·rw [if_pos c56] at H;have c56b0 : decide (0 ≤ x28_1) = true := decide_eq_true c56;clear c56;by_cases c57 : x28_1 < (x7_3.length : Int)
                     ·rw [if_pos c57] at H;have c57b0 : decide (x28_1 < (x7_3.length : Int)) = true := decide_eq_true c57;clear c57;by_cases c58 : x81_3 < ((rd_L1 x7_3 x28_1).length : Int)
                      ·rw [if_pos c58] at H;have c58b0 : decide (x81_3 < ((rd_L1 x7_3 x28_1).length : Int)) = true := decide_eq_true c58;clear c58;(obtain ⟨y424, hy424⟩ : ∃ y_ : List Int, y_ = ((rd_L1 x7_3 x28_1).set (x81_3 : Int).toNat (wrap64 (-x19_32))) := ⟨_, rfl⟩);(replace H : (mg_round.l2 kj32 l1 l2 (x7_3.set (x28_1 : Int).toNat y424) x28_1 x10_2 x11_2 x12_2 x13_2 x14_3 l0_0 (l0_0.length : Int) x28_1 ((rd_L1 l0_0 x28_1).length : Int) (wrap64 (x81_3 + 1)) l0_0 l0_1) = some r := by first | (rw [hy424]; with_reducible exact H) | (have H2_ := (Option.bind_some _ _).symm.trans H; rw [hy424]; with_reducible exact H2_) | (have H2_ := (Option.bind_some _ _).symm.trans H; with_reducible exact H2_) | with_reducible exact H | (rw [hy424]; exact H) | exact H);have Ny424 := Ai0.mk hy424;clear hy424;(obtain ⟨y426, hy426⟩ : ∃ y_ : List (List Int), y_ = (x7_3.set (x28_1 : Int).toNat y424) := ⟨_, rfl⟩);(replace H : (mg_round.l2 kj32 l1 l2 y426 x28_1 x10_2 x11_2 x12_2 x13_2 x14_3 l0_0 (l0_0.length : Int) x28_1 ((rd_L1 l0_0 x28_1).length : Int) (wrap64 (x81_3 + 1)) l0_0 l0_1) = some r := by first | (rw [hy426]; with_reducible exact H) | (have H2_ := (Option.bind_some _ _).symm.trans H; rw [hy426]; with_reducible exact H2_) | (have H2_ := (Option.bind_some _ _).symm.trans H; with_reducible exact H2_) | with_reducible exact H | (rw [hy426]; exact H) | exact H);have Ny426 := Ai0.mk hy426;clear hy426;have H' := Ai0.mk H;clear H;obtain ⟨Ao60, co60, eo60⟩ := Kd.R_slice HO_14.out;subst eo60;have p414 : 0 ≤ (x81_3 : Int) := od_;have q414 : x81_3 < (x14_3.length : Int) := od_;obtain ⟨ad414, e414, hx414_0⟩ := Kd.at_int (Kd.R_reads' HO_14.out).2.2 x81_3 p414 q414;cases e414;replace p414 := eq_true p414;replace q414 := eq_true q414;obtain ⟨Ao61, co61, eo61⟩ := Kd.S_slice HO_7.out;subst eo61;have p423 : 0 ≤ (x28_1 : Int) := od_;have q423 : x28_1 < (x7_3.length : Int) := od_;obtain ⟨ad423, A423_0, c423_0, e423, hx423_0, hl423_0, hi423_0⟩ := at_L1 (Kd.S_reads' HO_7.out).2.2 x28_1 p423 q423;cases e423;obtain ⟨ce423, hce423, hMe423, hcc423⟩ := Kd.S_get HO_7.out [] x28_1 p423 (by first | exact q423 | exact od_ | (have e_ := (Kd.S_reads' HO_7.out).1; omega));obtain ⟨ve423_0, rfl, ge423_0⟩ := hMe423;have hv423_0 := hcc423 0 _ rfl;rw [Nat.add_zero, show ((Kd.slice 3 (Kd.int .i64))).sz = 1 from rfl, Nat.mul_one] at hv423_0;replace hv423_0 := Option.some.inj (hv423_0.symm.trans hx423_0);rw [hv423_0] at ge423_0;have HL423_0 := Ai0.mk (show Kd.R (Kd.int .i64) 3 _ _ _ _ (rd_L1 x7_3 x28_1) from ge423_0);clear hv423_0 ge423_0;have HX423_0 := Ai0.mk hx423_0;clear hcc423 hce423;have HR423_0 := Ai0.mk hi423_0;have HC423_0 := Ai0.mk hl423_0;clear hi423_0 hl423_0;replace p423 := eq_true p423;replace q423 := eq_true q423;have p59 : 0 ≤ (x81_3 : Int) := od_;have q59 : (x81_3 : Int) < (((rd_L1 x7_3 x28_1).length : Int) : Int) := od_;obtain ⟨go59, co59, eo59, gb59, gl59, cl59, HG59⟩ := Kd.R_form HL423_0.out (by omega);(first | cases eo59 | (injection eo59 with ea_ en_ ec_; (first | subst ea_ | (injection ea_ with ea_; subst ea_)); subst ec_; clear en_));have GB59 := Ai0.mk gb59;have GG59 := Ai0.mk HG59;clear gb59 gl59 HG59;obtain ⟨hx59_0, hf59_0⟩ := Kd.R_celln 0 HL423_0.out (x81_3 : Int) p59 q59;replace p59 := eq_true p59;replace q59 := eq_true q59;have hq62 : (x28_1 : Int) < (x7_3.length : Int) := (by have h_ : (x28_1 : Int) < ((x7_3.length : Int) : Int) := od_; first | exact h_ | (have e_ := (Kd.S_reads' HO_7.out).1; omega) | simpa only [List.length_set, List.length_set] using h_);obtain ⟨oki62, ce62, hcl62, hM62, hcc62, hok62, hbk62⟩ := Kd.S_borrow HO_7.out [] (x28_1 : Int) od_ hq62;obtain ⟨ve62_0, rfl, ge62_0⟩ := hM62;have hv62 := hcc62 0 _ rfl;rw [Nat.add_zero, show ((Kd.slice 3 (Kd.int .i64))).sz = 1 from rfl, Nat.mul_one] at hv62;replace hv62 := Option.some.inj (hv62.symm.trans HX423_0.out);subst hv62;clear hcc62 hcl62;replace ge62_0 := (show Kd.R (Kd.int .i64) 3 _ _ _ _ (rd_L1 x7_3 x28_1) from ge62_0);have HP62 := Kd.R_putg ge62_0 (x81_3 : Int) (wrap64 (-x19_32))
                       go_wp2_with (first | ((with_reducible refine gate_store (t := 3) (p := 108) rfl ?_); refine store_event (t := 3) (p := 108) (v := ?vo_w63) (w1 := (wc.setCell ⟨go59, (x81_3 : Int).toNat, none⟩ (.int .i64 (wrap64 (-x19_32))))) ?hg ?ho ?hn ?hr ?_; (case ho => rfl); (case hg => rfl); (case hn => rfl); (case hr => first | (go_simp; done) | (go_simp; rfl)); intro w63 hw; have hg : wc.grownBy w63 (some go59) := (by rw [hw]; exact HP62.2); have hz_ : Kd.R (Kd.int .i64) 3 w63 w.heap.size oki62 (.slice (some ⟨go59, 0, none⟩) (rd_L1 x7_3 x28_1).length c423_0) y424 := (by rw [hw, Ny424.out]; exact HP62.1); have hp_ : Kd.S (Kd.slice 3 (Kd.int .i64)) 25 w63 w.heap.size (fun k_ => some k_ ≠ (.slice (some ad414) x14_3.length co60 : Value).ownBlock) (.slice (some ad423) x7_3.length co61) y426 := (by rw [Ny426.out]; exact hbk62 hg (fun k_ e_ => by injection e_ with e_; subst e_; exact ge62_0.1 _ rfl) (Kd.M_row hz_)); have hm_ := Kd.R_mono hz_ hok62; clear HP62 hbk62; have n0_ := Ai0.mk (hp_); have n1_ := Ai0.mk (Kd.R_grown1 (kr_ HO_14.out) rfl hg ((HL423_0.out.1 _ rfl).1)); have n2_ := Ai0.mk (blk_grown (g := gG) (o := .cells #[.slice (some ad406) l0_0.length c0_0, .slice A0_1 l0_1.length c0_1] 73 (0, 0)) (kk_ BK402.out) hg (Kd.R_ne HL423_0.out BK402.out (by decide))); have n3_ := Ai0.mk ((by rw [hw]; exact bs1 (HB.out) GB59.out : Below w.heap.size w w63)); have n4_ := Ai0.mk (hm_); have n5_ := Ai0.mk ((Kd.R_reads' hm_).2.1); clear HO_7; clear HO_14; clear BK402; clear HB; clear HL423_0; have HO_7 := n0_; have HO_14 := n1_; have BK402 := n2_; have HB := n3_; have HL433 := n4_; have HC425 := n5_; clear n0_ n1_ n2_ n3_ n4_ n5_; clear hg hw hp_ hz_ hm_ hok62))
                       go_roundg kj32
                       case measure => have := HK1.out; have := HK2.out; have := HK3.out; have := HJ32.out; omega
                       case rel => exact ⟨(y426), (x14_3), (wrap64 (x81_3 + 1)), rf_, H', ⟨by have := HK1.out; have := HK2.out; have := HK3.out; have := HJ32.out; omega⟩, ⟨ks_ HO_7.out⟩, ⟨kr_ HO_14.out⟩, ⟨kk_ BK402.out⟩, ⟨bl_⟩⟩
                      ·rw [if_neg c58] at H;exact absurd H (by simp)
                     ·rw [if_neg c57] at H;exact absurd H (by simp)
                    ·rw [if_neg c56] at H;exact absurd H (by simp)
                   ·rw [if_neg c55] at H;have c55b0 : ((Int.tmod x13_2 2) == 1) = false := beq_eq_false_iff_ne.mpr c55;have c55b1 : ((Int.tmod x13_2 2) != 1) = true := bne_iff_ne.mpr c55;by_cases c64 : 0 ≤ x28_1
                    ·rw [if_pos c64] at H;have c64b0 : decide (0 ≤ x28_1) = true := decide_eq_true c64;clear c64;by_cases c65 : x28_1 < (x7_3.length : Int)
                     ·rw [if_pos c65] at H;have c65b0 : decide (x28_1 < (x7_3.length : Int)) = true := decide_eq_true c65;clear c65;by_cases c66 : x81_3 < ((rd_L1 x7_3 x28_1).length : Int)
                      ·rw [if_pos c66] at H;have c66b0 : decide (x81_3 < ((rd_L1 x7_3 x28_1).length : Int)) = true := decide_eq_true c66;clear c66;(obtain ⟨y428, hy428⟩ : ∃ y_ : List Int, y_ = ((rd_L1 x7_3 x28_1).set (x81_3 : Int).toNat x19_32) := ⟨_, rfl⟩);(replace H : (mg_round.l2 kj32 l1 l2 (x7_3.set (x28_1 : Int).toNat y428) x28_1 x10_2 x11_2 x12_2 x13_2 x14_3 l0_0 (l0_0.length : Int) x28_1 ((rd_L1 l0_0 x28_1).length : Int) (wrap64 (x81_3 + 1)) l0_0 l0_1) = some r := by first | (rw [hy428]; with_reducible exact H) | (have H2_ := (Option.bind_some _ _).symm.trans H; rw [hy428]; with_reducible exact H2_) | (have H2_ := (Option.bind_some _ _).symm.trans H; with_reducible exact H2_) | with_reducible exact H | (rw [hy428]; exact H) | exact H);have Ny428 := Ai0.mk hy428;clear hy428;(obtain ⟨y430, hy430⟩ : ∃ y_ : List (List Int), y_ = (x7_3.set (x28_1 : Int).toNat y428) := ⟨_, rfl⟩);(replace H : (mg_round.l2 kj32 l1 l2 y430 x28_1 x10_2 x11_2 x12_2 x13_2 x14_3 l0_0 (l0_0.length : Int) x28_1 ((rd_L1 l0_0 x28_1).length : Int) (wrap64 (x81_3 + 1)) l0_0 l0_1) = some r := by first | (rw [hy430]; with_reducible exact H) | (have H2_ := (Option.bind_some _ _).symm.trans H; rw [hy430]; with_reducible exact H2_) | (have H2_ := (Option.bind_some _ _).symm.trans H; with_reducible exact H2_) | with_reducible exact H | (rw [hy430]; exact H) | exact H);have Ny430 := Ai0.mk hy430;clear hy430;have H' := Ai0.mk H;clear H;obtain ⟨Ao68, co68, eo68⟩ := Kd.R_slice HO_14.out;subst eo68;have p414 : 0 ≤ (x81_3 : Int) := od_;have q414 : x81_3 < (x14_3.length : Int) := od_;obtain ⟨ad414, e414, hx414_0⟩ := Kd.at_int (Kd.R_reads' HO_14.out).2.2 x81_3 p414 q414;cases e414;replace p414 := eq_true p414;replace q414 := eq_true q414;obtain ⟨Ao69, co69, eo69⟩ := Kd.S_slice HO_7.out;subst eo69;have p427 : 0 ≤ (x28_1 : Int) := od_;have q427 : x28_1 < (x7_3.length : Int) := od_;obtain ⟨ad427, A427_0, c427_0, e427, hx427_0, hl427_0, hi427_0⟩ := at_L1 (Kd.S_reads' HO_7.out).2.2 x28_1 p427 q427;cases e427;obtain ⟨ce427, hce427, hMe427, hcc427⟩ := Kd.S_get HO_7.out [] x28_1 p427 (by first | exact q427 | exact od_ | (have e_ := (Kd.S_reads' HO_7.out).1; omega));obtain ⟨ve427_0, rfl, ge427_0⟩ := hMe427;have hv427_0 := hcc427 0 _ rfl;rw [Nat.add_zero, show ((Kd.slice 3 (Kd.int .i64))).sz = 1 from rfl, Nat.mul_one] at hv427_0;replace hv427_0 := Option.some.inj (hv427_0.symm.trans hx427_0);rw [hv427_0] at ge427_0;have HL427_0 := Ai0.mk (show Kd.R (Kd.int .i64) 3 _ _ _ _ (rd_L1 x7_3 x28_1) from ge427_0);clear hv427_0 ge427_0;have HX427_0 := Ai0.mk hx427_0;clear hcc427 hce427;have HR427_0 := Ai0.mk hi427_0;have HC427_0 := Ai0.mk hl427_0;clear hi427_0 hl427_0;replace p427 := eq_true p427;replace q427 := eq_true q427;have p67 : 0 ≤ (x81_3 : Int) := od_;have q67 : (x81_3 : Int) < (((rd_L1 x7_3 x28_1).length : Int) : Int) := od_;obtain ⟨go67, co67, eo67, gb67, gl67, cl67, HG67⟩ := Kd.R_form HL427_0.out (by omega);(first | cases eo67 | (injection eo67 with ea_ en_ ec_; (first | subst ea_ | (injection ea_ with ea_; subst ea_)); subst ec_; clear en_));have GB67 := Ai0.mk gb67;have GG67 := Ai0.mk HG67;clear gb67 gl67 HG67;obtain ⟨hx67_0, hf67_0⟩ := Kd.R_celln 0 HL427_0.out (x81_3 : Int) p67 q67;replace p67 := eq_true p67;replace q67 := eq_true q67;have hq70 : (x28_1 : Int) < (x7_3.length : Int) := (by have h_ : (x28_1 : Int) < ((x7_3.length : Int) : Int) := od_; first | exact h_ | (have e_ := (Kd.S_reads' HO_7.out).1; omega) | simpa only [List.length_set, List.length_set] using h_);obtain ⟨oki70, ce70, hcl70, hM70, hcc70, hok70, hbk70⟩ := Kd.S_borrow HO_7.out [] (x28_1 : Int) od_ hq70;obtain ⟨ve70_0, rfl, ge70_0⟩ := hM70;have hv70 := hcc70 0 _ rfl;rw [Nat.add_zero, show ((Kd.slice 3 (Kd.int .i64))).sz = 1 from rfl, Nat.mul_one] at hv70;replace hv70 := Option.some.inj (hv70.symm.trans HX427_0.out);subst hv70;clear hcc70 hcl70;replace ge70_0 := (show Kd.R (Kd.int .i64) 3 _ _ _ _ (rd_L1 x7_3 x28_1) from ge70_0);have HP70 := Kd.R_putg ge70_0 (x81_3 : Int) x19_32
                       go_wp2_with (first | ((with_reducible refine gate_store (t := 3) (p := 108) rfl ?_); refine store_event (t := 3) (p := 108) (v := ?vo_w71) (w1 := (wc.setCell ⟨go67, (x81_3 : Int).toNat, none⟩ (.int .i64 x19_32))) ?hg ?ho ?hn ?hr ?_; (case ho => rfl); (case hg => rfl); (case hn => rfl); (case hr => first | (go_simp; done) | (go_simp; rfl)); intro w71 hw; have hg : wc.grownBy w71 (some go67) := (by rw [hw]; exact HP70.2); have hz_ : Kd.R (Kd.int .i64) 3 w71 w.heap.size oki70 (.slice (some ⟨go67, 0, none⟩) (rd_L1 x7_3 x28_1).length c427_0) y428 := (by rw [hw, Ny428.out]; exact HP70.1); have hp_ : Kd.S (Kd.slice 3 (Kd.int .i64)) 25 w71 w.heap.size (fun k_ => some k_ ≠ (.slice (some ad414) x14_3.length co68 : Value).ownBlock) (.slice (some ad427) x7_3.length co69) y430 := (by rw [Ny430.out]; exact hbk70 hg (fun k_ e_ => by injection e_ with e_; subst e_; exact ge70_0.1 _ rfl) (Kd.M_row hz_)); have hm_ := Kd.R_mono hz_ hok70; clear HP70 hbk70; have n0_ := Ai0.mk (hp_); have n1_ := Ai0.mk (Kd.R_grown1 (kr_ HO_14.out) rfl hg ((HL427_0.out.1 _ rfl).1)); have n2_ := Ai0.mk (blk_grown (g := gG) (o := .cells #[.slice (some ad406) l0_0.length c0_0, .slice A0_1 l0_1.length c0_1] 73 (0, 0)) (kk_ BK402.out) hg (Kd.R_ne HL427_0.out BK402.out (by decide))); have n3_ := Ai0.mk ((by rw [hw]; exact bs1 (HB.out) GB67.out : Below w.heap.size w w71)); have n4_ := Ai0.mk (hm_); have n5_ := Ai0.mk ((Kd.R_reads' hm_).2.1); clear HO_7; clear HO_14; clear BK402; clear HB; clear HL427_0; have HO_7 := n0_; have HO_14 := n1_; have BK402 := n2_; have HB := n3_; have HL434 := n4_; have HC429 := n5_; clear n0_ n1_ n2_ n3_ n4_ n5_; clear hg hw hp_ hz_ hm_ hok70))
                       go_roundg kj32
                       case measure => have := HK1.out; have := HK2.out; have := HK3.out; have := HJ32.out; omega
                       case rel => exact ⟨(y430), (x14_3), (wrap64 (x81_3 + 1)), rf_, H', ⟨by have := HK1.out; have := HK2.out; have := HK3.out; have := HJ32.out; omega⟩, ⟨ks_ HO_7.out⟩, ⟨kr_ HO_14.out⟩, ⟨kk_ BK402.out⟩, ⟨bl_⟩⟩
                      ·rw [if_neg c66] at H;exact absurd H (by simp)
                     ·rw [if_neg c65] at H;exact absurd H (by simp)
                    ·rw [if_neg c64] at H;exact absurd H (by simp)
                 ·rw [if_neg c36] at H;exact absurd H (by simp)
                ·rw [if_neg c35] at H;exact absurd H (by simp)
             ·rw [if_neg c32] at H;have c32b0 : decide (x81_3 < ((rd_L1 l0_0 x28_1).length : Int)) = false := decide_eq_false c32;clear c32;have H' := Ai0.mk H;clear H
              go_wp2
              go_roundg k3
              case measure => have := HK1.out; have := HK2.out; have := HK3.out; omega
              case rel => exact ⟨(x7_3), (wrap64 (x28_1 + 1)), rf_, H', ⟨by have := HK1.out; have := HK2.out; have := HK3.out; omega⟩, ⟨by (with_reducible repeat (first | apply Kd.S_alloc | apply Kd.S_drewN | apply Kd.S_drew)); exact Kd.S_mono HO_7.out (fun _ hk => trivial)⟩, ⟨kk_ BK402.out⟩, ⟨bl_⟩⟩
       ·rw [if_neg c13] at H;exact absurd H (by simp)
      ·rw [if_neg c12] at H;exact absurd H (by simp)
     ·rw [if_neg c11] at H;exact absurd H (by simp)
    ·rw [if_neg c10] at H;exact absurd H (by simp)
   ·rw [if_neg c9] at H;have c9b0 : decide (x28_1 < (l0_0.length : Int)) = false := decide_eq_false c9;clear c9;obtain rfl := Option.some.inj H
    go_wp2
    go_ret
    exact ⟨_, by first | rfl | (simp [eW0, eW1] <;> rfl) | (simp [*, eW0, eW1] <;> rfl), by (with_reducible repeat (first | apply Kd.S_alloc | apply Kd.S_drewN | apply Kd.S_drew)); exact HO_7.out, bl_⟩
def mg_beliefs.l0 : Nat → List Int → List (List Int) → List Int → Int → Int → List (List Int) → List (List (S77)) → Option (List Int)
 | 0, _, _, _, _, _, _, _ => none
 | k + 1, x1, x2, x7, x13, x14, x436000, x436001 => if x14 < x13 then ((mg_sum.f k x436000 x436001 x1 x2 x14 (-1)).bind fun t439 => (if 0 ≤ x14 then (if x14 < (x7.length : Int) then (mg_beliefs.l0 k x1 x2 (x7.set (x14 : Int).toNat t439) x13 (wrap64 (x14 + 1)) x436000 x436001) else (none)) else (none))) else (some x7)
def mg_beliefs.f (k : Nat) (l0_0 : List (List Int)) (l0_1 : List (List (S77))) (l1 : List Int) (l2 : List (List Int)) : Option (List Int) := if 0 ≤ (l1.length : Int) then (if ((l1.length : Int) : Int).toNat ≤ 35184372088832 then (mg_beliefs.l0 k l1 l2 (List.replicate ((l1.length : Int) : Int).toNat 0) (l1.length : Int) 0 l0_0 l0_1) else (none)) else (none)
theorem mg_beliefs.mono_l : ∀ k, (∀ y0 y1 y2 y3 y4 y5 y6, LeO (mg_beliefs.l0 k y0 y1 y2 y3 y4 y5 y6) (mg_beliefs.l0 (k + 1) y0 y1 y2 y3 y4 y5 y6))
 | 0 => fun _ _ _ _ _ _ _ r h => by simp [mg_beliefs.l0] at h
 | k + 1 => by
  have ih0 := mg_beliefs.mono_l k
  ·intro y0 y1 y2 y3 y4 y5 y6;unfold mg_beliefs.l0
   repeat' first
   | (with_reducible exact ih0 _ _ _ _ _ _ _)
   | (with_reducible exact mg_sum.mono _ _ _ _ _ _ _)
   | (with_reducible exact LeO.refl _)
   | (with_reducible exact LeO.none _)
   | (with_reducible refine LeO.ite ?_ ?_)
   | (with_reducible refine LeO.bind ?_ (fun _ => ?_))
   | exact ih0 _ _ _ _ _ _ _
   | exact mg_sum.mono _ _ _ _ _ _ _
   | exact LeO.none _
   | refine LeO.ite ?_ ?_
   | refine LeO.bind ?_ (fun _ => ?_)
theorem mg_beliefs.mono : ∀ a0 a1 a2 a3 k, LeO (mg_beliefs.f k a0 a1 a2 a3) (mg_beliefs.f (k + 1) a0 a1 a2 a3) := by
 intro a0 a1 a2 a3 k;have ih0 := mg_beliefs.mono_l k;unfold mg_beliefs.f
 repeat' first
   | (with_reducible exact ih0 _ _ _ _ _ _ _)
   | (with_reducible exact mg_sum.mono _ _ _ _ _ _ _)
   | (with_reducible exact LeO.refl _)
   | (with_reducible exact LeO.none _)
   | (with_reducible refine LeO.ite ?_ ?_)
   | (with_reducible refine LeO.bind ?_ (fun _ => ?_))
   | exact ih0 _ _ _ _ _ _ _
   | exact mg_sum.mono _ _ _ _ _ _ _
   | exact LeO.none _
   | refine LeO.ite ?_ ?_
   | refine LeO.bind ?_ (fun _ => ?_)
set_option maxHeartbeats 8000000 in
set_option maxRecDepth 100000 in
theorem mg_beliefs.calls (k : Nat) (A0_0 : Option Addr) (c0_0 : Nat) (l0_0 : List (List Int)) (A0_1 : Option Addr) (c0_1 : Nat) (l0_1 : List (List (S77))) (A1 : Option Addr) (c1 : Nat) (l1 : List Int) (A2 : Option Addr) (c2 : Nat) (l2 : List (List Int)) (r : List Int) (gG : Nat) (w : World) (hr0_0 : Kd.C (Kd.slice 3 (Kd.int .i64)) w A0_0 l0_0.length l0_0) (hc0_0 : l0_0.length ≤ c0_0) (hr0_1 : Kd.C (Kd.slice 77 k77) w A0_1 l0_1.length l0_1) (hc0_1 : l0_1.length ≤ c0_1) (hr1 : Kd.C (Kd.int .i64) w A1 l1.length l1) (hc1 : l1.length ≤ c1) (hr2 : Kd.C (Kd.slice 3 (Kd.int .i64)) w A2 l2.length l2) (hc2 : l2.length ≤ c2) (hG : w.heap[gG]? = some (.cells #[.slice A0_0 l0_0.length c0_0, .slice A0_1 l0_1.length c0_1] 73 (0, 0))) (h : mg_beliefs.f k l0_0 l0_1 l1 l2 = some r) :
  Calls Try.prog 48 #[.pointer (some ⟨gG, 0, none⟩), .slice A1 l1.length c1, .slice A2 l2.length c2] w fun e w' => ∃ v0_ : Value, e = .returned (v0_) ∧ Kd.R (Kd.int .i64) 3 w' w.heap.size (fun _ => True) v0_ r ∧ Below w.heap.size w w' := by
 have hu73 := Try.underlying73;have HR0_0 := Ai0.mk hr0_0;have HC0_0 := Ai0.mk hc0_0;clear hr0_0 hc0_0;have HR0_1 := Ai0.mk hr0_1;have HC0_1 := Ai0.mk hc0_1;clear hr0_1 hc0_1;have HR1 := Ai0.mk hr1;have HC1 := Ai0.mk hc1;clear hr1 hc1;have HR2 := Ai0.mk hr2;have HC2 := Ai0.mk hc2;clear hr2 hc2;have HB := Ai0.mk (Below.refl w.heap.size w);have H : (if 0 ≤ (l1.length : Int) then (if ((l1.length : Int) : Int).toNat ≤ 35184372088832 then (mg_beliefs.l0 k l1 l2 (List.replicate ((l1.length : Int) : Int).toNat 0) (l1.length : Int) 0 l0_0 l0_1) else (none)) else (none)) = some r := h;clear h;by_cases c4 : 0 ≤ (l1.length : Int)
 ·rw [if_pos c4] at H;have c4b0 := eq_true c4;have c4b1 : decide (0 ≤ (l1.length : Int)) = true := decide_eq_true c4;clear c4;by_cases c5 : ((l1.length : Int) : Int).toNat ≤ 35184372088832
  ·rw [if_pos c5] at H;have c5b0 := eq_true c5;have c5b1 : decide (((l1.length : Int) : Int).toNat ≤ 35184372088832) = true := decide_eq_true c5;clear c5;obtain ⟨y436, hy436⟩ : ∃ y_ : List Int, y_ = (List.replicate ((l1.length : Int) : Int).toNat 0) := ⟨_, rfl⟩
   replace H : (mg_beliefs.l0 k l1 l2 y436 (l1.length : Int) 0 l0_0 l0_1) = some r := by first | (rw [hy436]; with_reducible exact H) | (have H2_ := (Option.bind_some _ _).symm.trans H; rw [hy436]; with_reducible exact H2_) | (have H2_ := (Option.bind_some _ _).symm.trans H; with_reducible exact H2_) | with_reducible exact H | (rw [hy436]; exact H) | exact H
   have Ny436 := Ai0.mk hy436;clear hy436;have H' := Ai0.mk H;clear H;have BK435 := Ai0.mk hG;go_enter Try.func48, Try.ntmps48
   go_wp2_with (first | ((with_reducible refine gate_dst (N := 11) rfl ?_); refine Kd.R_make (Kd.int .i64) _ 3 rfl (N := 11) rfl 25 _ _ rfl (l1.length : Int) rfl rfl Try.underlying25 (.int .i64 0) 8 info3 rfl (by decide) (by omega) 0 (ok := fun _ => True) (okp := fun _ => True) rfl (fun _ hk => hk) trivial od_ (Nat.le_trans (Nat.mul_le_mul_right _ (od_ : (l1.length : Int).toNat ≤ 35184372088832)) (by omega)) (Below.refl _ _) (Nat.le_refl _) ?_; intro v437 w7 ho8 hb hg_ hnew_; clear hg_ hnew_; (first | rw [← Ny436.out] at ho8 | (simp only [Int.reduceToNat] at ho8; rw [← Ny436.out] at ho8)); have n0_ := Ai0.mk (Kd.R_lower ho8 (bz1 bl_)); have n1_ := Ai0.mk (kb1 (g := gG) (o := .cells #[.slice A0_0 l0_0.length c0_0, .slice A0_1 l0_1.length c0_1] 73 (0, 0)) (kk_ BK435.out) hb); have n2_ := Ai0.mk (bt1 bl_ hb); clear BK435; clear HB; have HO438 := n0_; have BK435 := n1_; have HB := n2_; clear n0_ n1_ n2_; clear hb ho8))
   go_loopg [14] k (fun kq v14 w' => ∃ (x7_1 : List Int) (x14_1 : Int), v14 = .int .i64 x14_1 ∧ Ai0 (mg_beliefs.l0 kq l1 l2 x7_1 (l1.length : Int) x14_1 l0_0 l0_1 = some r) ∧ Ai0 (kq ≤ k) ∧ Ai0 (Kd.R (Kd.int .i64) 3 w' w.heap.size (fun _ => True) v437 x7_1) ∧ Ai0 (w'.heap[gG]? = some (.cells #[(.slice A0_0 l0_0.length c0_0), (.slice A0_1 l0_1.length c0_1)] 73 (0, 0))) ∧ Ai0 (Below w.heap.size w w'))
   case atStart => exact ⟨(y436), (0), rf_, H', ⟨Nat.le_refl _⟩, ⟨kr_ HO438.out⟩, ⟨kk_ BK435.out⟩, ⟨bl_⟩⟩
   case round =>
    clear H'
    try clear c1
    try clear c2
    try clear p2
    try clear c4
    try clear c4b0
    try clear c4b1
    try clear c5
    try clear c5b0
    try clear c5b1
    obtain ⟨x7_1, x14_1, rfl, HA, HK1, HO_7, BK435, HB⟩ := hrel
    cases gk with
    | zero => exact absurd HA.out (by simp [mg_beliefs.l0])
    | succ k1 =>
     have H := HA.out;clear HA;simp only [mg_beliefs.l0] at H;by_cases c9 : x14_1 < (l1.length : Int)
     ·rw [if_pos c9] at H;have c9b0 : decide (x14_1 < (l1.length : Int)) = true := decide_eq_true c9;clear c9;replace H := Option.bind_eq_some_iff.mp H;obtain ⟨t439, A100, H⟩ := H;replace H : (if 0 ≤ x14_1 then (if x14_1 < (x7_1.length : Int) then (mg_beliefs.l0 k1 l1 l2 (x7_1.set (x14_1 : Int).toNat t439) (l1.length : Int) (wrap64 (x14_1 + 1)) l0_0 l0_1) else (none)) else (none)) = some r := H;have A10 := Ai0.mk A100;clear A100;by_cases c11 : 0 ≤ x14_1
      ·rw [if_pos c11] at H;have c11b0 : decide (0 ≤ x14_1) = true := decide_eq_true c11;clear c11;by_cases c12 : x14_1 < (x7_1.length : Int)
       ·rw [if_pos c12] at H;have c12b0 : decide (x14_1 < (x7_1.length : Int)) = true := decide_eq_true c12;clear c12;(obtain ⟨y440, hy440⟩ : ∃ y_ : List Int, y_ = (x7_1.set (x14_1 : Int).toNat t439) := ⟨_, rfl⟩);(replace H : (mg_beliefs.l0 k1 l1 l2 y440 (l1.length : Int) (wrap64 (x14_1 + 1)) l0_0 l0_1) = some r := by first | (rw [hy440]; with_reducible exact H) | (have H2_ := (Option.bind_some _ _).symm.trans H; rw [hy440]; with_reducible exact H2_) | (have H2_ := (Option.bind_some _ _).symm.trans H; with_reducible exact H2_) | with_reducible exact H | (rw [hy440]; exact H) | exact H);have Ny440 := Ai0.mk hy440;clear hy440;have H' := Ai0.mk H;clear H;have hcz14_0 : wr.cell? ⟨gG, 0, none⟩ = some (.slice A0_0 l0_0.length c0_0) := (kc1 BK435.out 0).trans rfl;have hcz14_1 : wr.cell? ⟨gG, 1, none⟩ = some (.slice A0_1 l0_1.length c0_1) := (kc1 BK435.out 1).trans rfl;have hfz14_0 := kf1 BK435.out 0;have hfz14_1 := kf1 BK435.out 1
        go_wp2_with (first | ((with_reducible refine gate_callee (f := 69) rfl ?_); refine goesL_ (some 23) rfl rfl Try.func69 (by kernel_rfl) rfl #[.pointer (some ⟨gG, 0, none⟩), .slice A1 l1.length c1, .slice A2 l2.length c2, .int .i64 x14_1, .int .i64 (-1)] rfl (by (try simp only [List.map_toArray, List.map_cons, List.map_nil]); first | done | rfl | (simp only [List.length_drop, List.length_take]; rfl)) ?_; (with_reducible refine (mg_sum.calls k1 A0_0 c0_0 l0_0 A0_1 c0_1 l0_1 _ _ l1 _ _ l2 x14_1 (-1) t439 gG _ ?side1 ?side2 ?side3 ?side4 ?side5 ?side6 ?side7 ?side8 ?sideG A10.out).mono ?_); (case sideG => (with_reducible repeat (first | refine kn1 ?_ _ | refine kd1 ?_ | refine ka1 ?_ _)); exact BK435.out); (case side1 => exact kc_ HR0_0.out); (case side2 => exact HC0_0.out); (case side3 => exact kc_ HR0_1.out); (case side4 => exact HC0_1.out); (case side5 => exact kc_ HR1.out); (case side6 => exact HC1.out); (case side7 => exact kc_ HR2.out); (case side8 => exact HC2.out); rintro e w15 ⟨rfl, hb⟩; refine ⟨_, rfl, ?_⟩; have n0_ := Ai0.mk (Kd.R_below (kr_ HO_7.out) hb); have n1_ := Ai0.mk (kb1 (g := gG) (o := .cells #[.slice A0_0 l0_0.length c0_0, .slice A0_1 l0_1.length c0_1] 73 (0, 0)) (kk_ BK435.out) hb); have n2_ := Ai0.mk (bt1 bl_ hb); clear HO_7; clear BK435; clear HB; have HO_7 := n0_; have BK435 := n1_; have HB := n2_; clear n0_ n1_ n2_; (try clear hb); (try clear hb2); (try clear hk); (try clear hi); have p13 : 0 ≤ (x14_1 : Int) := od_; have q13 : (x14_1 : Int) < ((x7_1.length : Int) : Int) := od_; obtain ⟨go13, co13, eo13, gb13, gl13, cl13, HG13⟩ := Kd.R_form HO_7.out (by omega); (first | cases eo13 | (injection eo13 with ea_ en_ ec_; (first | subst ea_ | (injection ea_ with ea_; subst ea_)); subst ec_; clear en_)); have GB13 := Ai0.mk gb13; have GG13 := Ai0.mk HG13; clear gb13 gl13 HG13; obtain ⟨hx13_0, hf13_0⟩ := Kd.R_celln 0 HO_7.out (x14_1 : Int) p13 q13; replace p13 := eq_true p13; replace q13 := eq_true q13; obtain ⟨hy16_, hz16_⟩ := Kd.R_celln 0 HO_7.out (x14_1 : Int) od_ od_; have HP16 := Kd.R_putg HO_7.out (x14_1 : Int) t439) | ((with_reducible refine gate_store (t := 3) (p := 24) rfl ?_); refine store_event (t := 3) (p := 24) (v := ?vo_w17) (w1 := (w15.setCell ⟨go13, (x14_1 : Int).toNat, none⟩ (.int .i64 t439))) ?hg ?ho ?hn ?hr ?_; (case ho => rfl); (case hg => rfl); (case hn => rfl); (case hr => first | (go_simp; done) | (go_simp; rfl)); intro w17 hw; have hg : w15.grownBy w17 (some go13) := (by rw [hw]; exact HP16.2); have hp_ : Kd.R (Kd.int .i64) 3 w17 w.heap.size (fun _ => True) (.slice (some ⟨go13, 0, none⟩) x7_1.length co13) y440 := (by rw [hw, Ny440.out]; exact HP16.1); clear HP16; have n0_ := Ai0.mk (hp_); have n1_ := Ai0.mk (blk_grown (g := gG) (o := .cells #[.slice A0_0 l0_0.length c0_0, .slice A0_1 l0_1.length c0_1] 73 (0, 0)) (kk_ BK435.out) hg (Kd.R_ne HO_7.out BK435.out (by decide))); have n2_ := Ai0.mk ((by rw [hw]; exact bs1 (HB.out) GB13.out : Below w.heap.size w w17)); clear HO_7; clear BK435; clear HB; have HO_7 := n0_; have BK435 := n1_; have HB := n2_; clear n0_ n1_ n2_; clear hg hw hp_))
        go_roundg k1
        case measure => have := HK1.out; omega
        case rel => exact ⟨(y440), (wrap64 (x14_1 + 1)), rf_, H', ⟨by have := HK1.out; omega⟩, ⟨kr_ HO_7.out⟩, ⟨kk_ BK435.out⟩, ⟨bl_⟩⟩
       ·rw [if_neg c12] at H;exact absurd H (by simp)
      ·rw [if_neg c11] at H;exact absurd H (by simp)
     ·rw [if_neg c9] at H;have c9b0 : decide (x14_1 < (l1.length : Int)) = false := decide_eq_false c9;clear c9;obtain rfl := Option.some.inj H
      go_wp2
      go_ret
      exact ⟨_, by first | rfl | (simp [eW0, eW1] <;> rfl) | (simp [*, eW0, eW1] <;> rfl), by (with_reducible repeat (first | apply Kd.Ra1 | apply Kd.Rn1 | apply Kd.Rd1)); exact HO_7.out, bl_⟩
  ·rw [if_neg c5] at H;exact absurd H (by simp)
 ·rw [if_neg c4] at H;exact absurd H (by simp)
end Go.Proofs.Ytmclalniilkjiaa.Q
/- What the printed messages, round, beliefs and Beliefs compute. Condition: the matrix and the inputs have no fault. -/
namespace Go.Proofs.Ytmclalniilkjiaa.Rp
open Go.RowKit Go.Proofs.Ytmclalniilkjiaa.Q Go.Proofs.YtmclalniilkjiaaW.PrintWords Go.Proofs.YtmclalniilkjiaaW.PrintLast Go.Proofs.YtmclalniilkjiaaW.PrintMore Go.Proofs.Ytmclalniilkjiaa.Ba Go.Proofs.Ytmclalniilkjiaa.Ck Go.Proofs.Ytmclalniilkjiaa.Gr Go.Proofs.Ytmclalniilkjiaa.Un Go.Proofs.Ytmclalniilkjiaa.Fl Go.Proofs.Ytmclalniilkjiaa.Ms Go.Proofs.Ytmclalniilkjiaa.Rv

theorem checks_len (rows : List (List Int)) (C n : Nat) : (checks rows C n).length = n := LL_length _ _
section
variable (rows : List (List Int)) (C : Nat) (hr : rows.length ≤ 256) (hC : C ≤ 256)
include hr hC
theorem messages_l0 : ∀ d j : Nat, j + d = rows.length →
  Ev (fun k => mg_messages.l0 k (LL j (fun j => PG (fun _ => 0) (bit rows j) C)) (checks rows C rows.length) (rows.length : Int) (j : Int)) (dn rows C (fun _ _ => 0))
 | 0, j, h => by
  obtain rfl : j = rows.length := by omega
  refine Ev.step (f := fun _ => some _) (fun k => ?_) (Ev.now _)
  simp only [mg_messages.l0]
  rw [if_neg (by omega)]
  rfl
 | d + 1, j, h => by
  have ih := messages_l0 d (j + 1) (by omega)
  have hcl := checks_len rows C rows.length
  have h1 := checks_at rows C rows.length j (by omega)
  have hle := one_le rows j C
  have hll : (LL j (fun j => PG (fun _ => (0 : Int)) (bit rows j) C)).length = j := LL_length _ _
  rw [LL_succ] at ih
  refine Ev.step (fun k => ?_) ih
  simp only [mg_messages.l0]
  rw [if_pos (by omega), if_pos (by omega), if_pos (by omega), h1, if_pos (by omega), if_pos (by omega), if_pos (by omega), w64_id (by omega) (by omega), Int.toNat_natCast]
  rw [show (one rows j C).length = (PG (fun _ => (0 : Int)) (bit rows j) C).length from PG_lenp _ _ _ _, PG_rep]
  rfl
theorem messages_ev (ats : List (List S77)) : Ev (fun k => mg_messages.f k (checks rows C rows.length) ats) (dn rows C (fun _ _ => 0)) := by
 have h := messages_l0 rows C hr hC rows.length 0 (by omega)
 refine Ev.congr (fun k => ?_) h
 unfold mg_messages.f
 rw [checks_len]
 rfl
end
section
variable (rows : List (List Int)) (C : Nat) (inp : List Int) (F : Nat → Nat → Int) (hr : rows.length ≤ 256) (hC : C ≤ 256) (hlen : inp.length = C) (hB : Bd F) (hI : Bi inp)
/-- Row j's messages, those of the positions below n. -/
def pre (rows : List (List Int)) (C : Nat) (v : Nat → Int) (j n : Nat) : List Int := PG (fun i => if i < n then v i else 0) (bit rows j) C
theorem pre_len (v : Nat → Int) (j n : Nat) : (pre rows C v j n).length = (one rows j C).length := PG_lenp _ _ _ _
theorem pre_skip (v : Nat → Int) (j n : Nat) (hb : ¬ bit rows j n = true) : pre rows C v j (n + 1) = pre rows C v j n :=
 PG_ext _ _ _ _ (fun i _ hi => by
  by_cases h : i < n
  ·rw [if_pos h, if_pos (by omega)]
  ·have : i ≠ n := fun e => hb (e ▸ hi)
   rw [if_neg h, if_neg (by omega)])
theorem pre_set (v : Nat → Int) (j n : Nat) (hn : n < C) (hb : bit rows j n = true) : (pre rows C v j n).set (one rows j n).length (v n) = pre rows C v j (n + 1) := by
 have hl : (one rows j n).length = (PG (fun i => if i < n then v i else 0) (bit rows j) n).length := PG_lenp _ _ _ _
 unfold pre
 rw [hl, PG_set _ _ n (v n) hb C hn]
 refine PG_ext _ _ _ _ (fun i _ _ => ?_)
 show (if i = n then v n else if i < n then v i else 0) = if i < n + 1 then v i else 0
 by_cases e : i = n
 ·subst e; rw [if_pos rfl, if_pos (by omega)]
 ·rw [if_neg e]
  by_cases h : i < n
  ·rw [if_pos h, if_pos (by omega)]
  ·rw [if_neg h, if_neg (by omega)]
theorem pre_0 (v : Nat → Int) (j : Nat) : pre rows C v j 0 = PG (fun _ => 0) (bit rows j) C := PG_ext _ _ _ _ (fun _ _ _ => if_neg (by omega))
theorem pre_C (v : Nat → Int) (j : Nat) : pre rows C v j C = PG v (bit rows j) C := PG_ext _ _ _ _ (fun _ hi _ => if_pos hi)
theorem idx_lt (j n : Nat) (hn : n < C) (hb : bit rows j n = true) : (one rows j n).length < (one rows j C).length := PG_lt _ _ n hb C hn
theorem idx_succ (j n : Nat) (hb : bit rows j n = true) : (one rows j (n + 1)).length = (one rows j n).length + 1 := by
 show (PG _ _ (n + 1)).length = _
 rw [PG_succ hb, List.length_append, List.length_singleton]; rfl
theorem idx_skip (j n : Nat) (hb : ¬ bit rows j n = true) : one rows j (n + 1) = one rows j n := PG_skip hb
include hr hC
/-- The signs and sizes are written into row j. -/
theorem rnd_l2 {r : List (List Int)} (j : Nat) (hj : j < rows.length) (down : List (List Int)) (base : List (List Int)) (hbl : base.length = rows.length) (u : Nat → Int) (f s a m : Int) (hS : Stt rows u j C f s a m) (hu : ∀ i, -1099511627776 ≤ u i ∧ u i ≤ 1099511627776)
  (ih : Ev (fun k => mg_round.l0 k inp down (base.set j (PG (fun i => rv u (bit rows j) i C) (bit rows j) C)) (checks rows C rows.length) (rows.length : Int) ((j + 1 : Nat) : Int) (checks rows C rows.length) (at_ rows C rows.length)) r) : ∀ d n : Nat, n + d = C →
  Ev (fun k => mg_round.l2 k inp down (base.set j (pre rows C (fun i => rv u (bit rows j) i C) j n)) (j : Int) f s a m (PG u (bit rows j) C) (checks rows C rows.length) (rows.length : Int) (j : Int) ((one rows j C).length : Int) ((one rows j n).length : Int) (checks rows C rows.length) (at_ rows C rows.length)) r
 | 0, n, h => by
  obtain rfl : n = C := by omega
  rw [pre_C]
  refine Ev.step (fun k => ?_) ih
  simp only [mg_round.l2]
  rw [if_neg (by omega), w64_id (by omega) (by omega)]
  rfl
 | d + 1, n, h => by
  have ih2 := rnd_l2 j hj down base hbl u f s a m hS hu ih d (n + 1) (by omega)
  by_cases hb : bit rows j n = true
  ·have hlt := idx_lt rows C j n (by omega) hb
   have hle := one_le rows j C
   have hul : (PG u (bit rows j) C).length = (one rows j C).length := PG_lenp _ _ _ _
   have hv : rd (PG u (bit rows j) C) ((one rows j n).length : Int) = u n := by
    rw [rd_nat, show (one rows j n).length = (PG u (bit rows j) n).length from PG_lenp _ _ _ _]
    exact PG_at 0 _ _ n hb C (by omega)
   obtain ⟨h1, h2⟩ := Stt_out hS n (by omega) hb
   have h3 := mg_bound u (bit rows j) n C
   have h4 := ng_bound u (bit rows j) n C
   have h5 := rv_eq u (bit rows j) n C
   rw [idx_succ rows j n hb] at ih2
   have hsl : (base.set j (pre rows C (fun i => rv u (bit rows j) i C) j n)).length = rows.length := by rw [List.length_set]; exact hbl
   have hrow : rd_L1 (base.set j (pre rows C (fun i => rv u (bit rows j) i C) j n)) (j : Int) = pre rows C (fun i => rv u (bit rows j) i C) j n := by
    rw [rd_L1_nat, List.getD_eq_getElem?_getD, List.getElem?_set_self (by omega)]; rfl
   have hpl := pre_len rows C (fun i => rv u (bit rows j) i C) j n
   have hset : (base.set j (pre rows C (fun i => rv u (bit rows j) i C) j n)).set j ((pre rows C (fun i => rv u (bit rows j) i C) j n).set (one rows j n).length (rv u (bit rows j) n C)) = base.set j (pre rows C (fun i => rv u (bit rows j) i C) j (n + 1)) := by
    rw [List.set_set, pre_set rows C (fun i => rv u (bit rows j) i C) j n (by omega) hb]
   rw [← hset] at ih2
   have hj5 : Ev (fun k => mg_round.j5 k inp down (base.set j (pre rows C (fun i => rv u (bit rows j) i C) j n)) (j : Int) f s a m (PG u (bit rows j) C) ((one rows j n).length : Int) (mg u (bit rows j) n C) m (checks rows C rows.length) (rows.length : Int) (j : Int) ((one rows j C).length : Int) ((one rows j n).length : Int) (checks rows C rows.length) (at_ rows C rows.length)) r := by
    refine Ev.step (fun k => ?_) ih2
    simp only [mg_round.j5]
    rw [if_pos (by omega), if_pos (by omega), hv]
    by_cases hx : u n < 0
    ·rw [if_pos hx] at h2 ⊢
     rw [h2, w64_id (n := ng u (bit rows j) n C) (by omega) (by omega), Int.tmod_eq_emod_of_nonneg (by omega)]
     by_cases hN : ng u (bit rows j) n C % 2 = 1
     ·rw [if_pos hN] at h5 ⊢
      rw [if_pos (by omega), if_pos (by omega), hrow, if_pos (by omega), w64_id (n := -(mg u (bit rows j) n C)) (by omega) (by omega), w64_id (by omega) (by omega), h5, Int.toNat_natCast, Int.toNat_natCast]
      rfl
     ·rw [if_neg hN] at h5 ⊢
      rw [if_pos (by omega), if_pos (by omega), hrow, if_pos (by omega), w64_id (by omega) (by omega), h5, Int.toNat_natCast, Int.toNat_natCast]
      rfl
    ·rw [if_neg hx] at h2 ⊢
     rw [Int.sub_zero] at h2
     rw [h2, Int.tmod_eq_emod_of_nonneg (by omega)]
     by_cases hN : ng u (bit rows j) n C % 2 = 1
     ·rw [if_pos hN] at h5 ⊢
      rw [if_pos (by omega), if_pos (by omega), hrow, if_pos (by omega), w64_id (n := -(mg u (bit rows j) n C)) (by omega) (by omega), w64_id (by omega) (by omega), h5, Int.toNat_natCast, Int.toNat_natCast]
      rfl
     ·rw [if_neg hN] at h5 ⊢
      rw [if_pos (by omega), if_pos (by omega), hrow, if_pos (by omega), w64_id (by omega) (by omega), h5, Int.toNat_natCast, Int.toNat_natCast]
      rfl
   refine Ev.step (fun k => ?_) hj5
   simp only [mg_round.l2]
   rw [if_pos (by omega)]
   by_cases ha : ((one rows j n).length : Int) = a
   ·rw [if_pos ha] at h1 ⊢; rw [h1]
   ·rw [if_neg ha] at h1 ⊢; rw [h1]
  ·rw [idx_skip rows j n hb, pre_skip rows C _ j n hb] at ih2
   exact ih2
include hlen hB hI
/-- The positions of row j are gone through. -/
theorem rnd_l1 {r : List (List Int)} (j : Nat) (hj : j < rows.length) (base : List (List Int))
  (hfin : ∀ f s a m, Stt rows (fun k => smv rows inp F (j : Int) k) j C f s a m → Ev (fun k => mg_round.l2 k inp (dn rows C F) base (j : Int) f s a m (PG (fun k => smv rows inp F (j : Int) k) (bit rows j) C) (checks rows C rows.length) (rows.length : Int) (j : Int) ((one rows j C).length : Int) 0 (checks rows C rows.length) (at_ rows C rows.length)) r) : ∀ d n : Nat, n + d = C → ∀ f s a m, Stt rows (fun k => smv rows inp F (j : Int) k) j n f s a m →
  Ev (fun k => mg_round.l1 k inp (dn rows C F) base (j : Int) (one rows j C) f s a m (pre rows C (fun k => smv rows inp F (j : Int) k) j n) (checks rows C rows.length) (rows.length : Int) (j : Int) (one rows j C) ((one rows j C).length : Int) ((one rows j n).length : Int) (checks rows C rows.length) (at_ rows C rows.length)) r
 | 0, n, h, f, s, a, m, hS => by
  obtain rfl : n = C := by omega
  rw [pre_C]
  refine Ev.step (fun k => ?_) (hfin f s a m hS)
  simp only [mg_round.l1]
  rw [if_neg (by omega)]
 | d + 1, n, h, f, s, a, m, hS => by
  have ih := rnd_l1 j hj base hfin d (n + 1) (by omega)
  by_cases hb : bit rows j n = true
  ·have hlt := idx_lt rows C j n (by omega) hb
   have hle := one_le rows j C
   have hpl := pre_len rows C (fun k => smv rows inp F (j : Int) k) j n
   have hub := smv_bound rows inp F (j : Int) n
   have hur : mx (smv rows inp F (j : Int) n) (-(smv rows inp F (j : Int) n)) ≤ 1099511627776 := by rw [mx_abs]; split <;> omega
   obtain ⟨hra, hrf, hrs, hrt⟩ := Stt_range hS
   have hnb := nga_bound (fun k => smv rows inp F (j : Int) k) (bit rows j) n
   have hm := hS.1
   have hrd : rd (one rows j C) ((one rows j n).length : Int) = (n : Int) := by
    rw [rd_nat]; exact PG_at 0 (fun i => (i : Int)) (bit rows j) n hb C (by omega)
   have hps := pre_set rows C (fun k => smv rows inp F (j : Int) k) j n (by omega) hb
   have hpv : rd (pre rows C (fun k => smv rows inp F (j : Int) k) j (n + 1)) ((one rows j n).length : Int) = smv rows inp F (j : Int) n := by
    unfold pre
    rw [rd_nat, show (one rows j n).length = (PG (fun i => if i < n + 1 then smv rows inp F (j : Int) i else 0) (bit rows j) n).length from PG_lenp _ _ _ _]
    rw [PG_at 0 _ _ n hb C (by omega), if_pos (by omega)]
   rw [idx_succ rows j n hb] at ih
   have hsum := sum_ev rows inp F (j : Int) n C hr hB hI (by omega) hC hlen
   have hnew := fun hlt => Stt_new hS hb hur hlt
   have hold := fun h1 h2 => Stt_old hS hb h1 h2
   have hj3 : ∀ (M : Int), M = (if smv rows inp F (j : Int) n < 0 then m + 1 else m) → ∀ (b : Bool), (b = true → a < 0 ∨ mx (smv rows inp F (j : Int) n) (-(smv rows inp F (j : Int) n)) < f) → (b = false → ¬ a < 0 ∧ ¬ mx (smv rows inp F (j : Int) n) (-(smv rows inp F (j : Int) n)) < f) →
     Ev (fun k => mg_round.j3 k inp (dn rows C F) base (j : Int) (one rows j C) f s a M (pre rows C (fun k => smv rows inp F (j : Int) k) j (n + 1)) ((one rows j n).length : Int) (mx (smv rows inp F (j : Int) n) (-(smv rows inp F (j : Int) n))) (checks rows C rows.length) (rows.length : Int) (j : Int) (one rows j C) ((one rows j C).length : Int) ((one rows j n).length : Int) b (checks rows C rows.length) (at_ rows C rows.length)) r := by
    intro M hM b hbt hbf
    cases b with
    | true =>
     have ih2 := ih _ _ _ _ (hnew (hbt rfl))
     rw [← hM] at ih2
     refine Ev.step (fun k => ?_) ih2
     simp only [mg_round.j3]
     rw [if_pos trivial, w64_id (by omega) (by omega)]
     rfl
    | false =>
     obtain ⟨h1, h2⟩ := hbf rfl
     have ih2 := ih _ _ _ _ (hold h1 h2)
     rw [← hM] at ih2
     refine Ev.step (fun k => ?_) ih2
     simp only [mg_round.j3]
     rw [if_neg Bool.false_ne_true, w64_id (by omega) (by omega)]
     by_cases h3 : mx (smv rows inp F (j : Int) n) (-(smv rows inp F (j : Int) n)) < s
     ·rw [if_pos h3, if_pos h3]; rfl
     ·rw [if_neg h3, if_neg h3]; rfl
   have hj2 : ∀ (M : Int), M = (if smv rows inp F (j : Int) n < 0 then m + 1 else m) →
     Ev (fun k => mg_round.j2 k inp (dn rows C F) base (j : Int) (one rows j C) f s a M (pre rows C (fun k => smv rows inp F (j : Int) k) j (n + 1)) ((one rows j n).length : Int) (mx (smv rows inp F (j : Int) n) (-(smv rows inp F (j : Int) n))) (checks rows C rows.length) (rows.length : Int) (j : Int) (one rows j C) ((one rows j C).length : Int) ((one rows j n).length : Int) (checks rows C rows.length) (at_ rows C rows.length)) r := by
    intro M hM
    by_cases ha : a < 0
    ·refine Ev.step (fun k => ?_) (hj3 M hM true (fun _ => Or.inl ha) (fun e => by cases e))
     simp only [mg_round.j2]
     rw [if_pos ha]
    ·refine Ev.step (fun k => ?_) (hj3 M hM (decide (mx (smv rows inp F (j : Int) n) (-(smv rows inp F (j : Int) n)) < f)) (fun e => Or.inr (of_decide_eq_true e)) (fun e => ⟨ha, of_decide_eq_false e⟩))
     simp only [mg_round.j2]
     rw [if_neg ha]
   have hab := mx_abs (smv rows inp F (j : Int) n)
   have hbody : Ev (fun k => (mg_sum.f k (checks rows C rows.length) (at_ rows C rows.length) inp (dn rows C F) (n : Int) (j : Int)).bind fun t411 => (if ((one rows j n).length : Int) < ((pre rows C (fun k => smv rows inp F (j : Int) k) j n).length : Int) then ((some ((pre rows C (fun k => smv rows inp F (j : Int) k) j n).set (one rows j n).length t411 : List Int)).bind fun y412 => (if (rd y412 ((one rows j n).length : Int)) < 0 then (mg_round.j2 k inp (dn rows C F) base (j : Int) (one rows j C) f s a (wrap64 (m + 1)) y412 ((one rows j n).length : Int) (wrap64 (-(rd y412 ((one rows j n).length : Int)))) (checks rows C rows.length) (rows.length : Int) (j : Int) (one rows j C) ((one rows j C).length : Int) ((one rows j n).length : Int) (checks rows C rows.length) (at_ rows C rows.length)) else (mg_round.j2 k inp (dn rows C F) base (j : Int) (one rows j C) f s a m y412 ((one rows j n).length : Int) (rd y412 ((one rows j n).length : Int)) (checks rows C rows.length) (rows.length : Int) (j : Int) (one rows j C) ((one rows j C).length : Int) ((one rows j n).length : Int) (checks rows C rows.length) (at_ rows C rows.length)))) else (none))) r := by
    refine hsum.bind (Ev.congr (fun k => if_pos (by omega)) ?_)
    rw [hps]
    refine Ev.congr (fun k => by rw [Option.bind_some, hpv]) ?_
    by_cases hx : smv rows inp F (j : Int) n < 0
    ·have h6 := hj2 (m + 1) (if_pos hx).symm
     rw [if_pos hx] at hab
     rw [hab] at h6
     refine Ev.congr (fun k => ?_) h6
     rw [if_pos hx, w64_id (n := m + 1) (by omega) (by omega), w64_id (by omega) (by omega)]
    ·have h6 := hj2 m (if_neg hx).symm
     rw [if_neg hx] at hab
     rw [hab] at h6
     refine Ev.congr (fun k => ?_) h6
     rw [if_neg hx]
   refine Ev.step (fun k => ?_) hbody
   simp only [mg_round.l1]
   rw [if_pos (by omega), if_pos (by omega), if_pos (by omega), hrd, Int.toNat_natCast]
  ·rw [idx_skip rows j n hb, pre_skip rows C _ j n hb] at ih
   exact ih f s a m (Stt_skip hS hb)
theorem rnd_l0 : ∀ d j : Nat, j + d = rows.length →
  Ev (fun k => mg_round.l0 k inp (dn rows C F) (LL rows.length (fun t => if t < j then PG (nxF rows C inp F t) (bit rows t) C else PG (fun _ => 0) (bit rows t) C)) (checks rows C rows.length) (rows.length : Int) (j : Int) (checks rows C rows.length) (at_ rows C rows.length)) (dn rows C (nxF rows C inp F))
 | 0, j, h => by
  obtain rfl : j = rows.length := by omega
  refine Ev.step (f := fun _ => some _) (fun k => ?_) (Ev.now _)
  simp only [mg_round.l0]
  rw [if_neg (by omega)]
  exact congrArg some (LL_congr _ _ _ (fun t ht => if_pos ht))
 | d + 1, j, h => by
  have ih := rnd_l0 d (j + 1) (by omega)
  have hcl := checks_len rows C rows.length
  have hca := checks_at rows C rows.length j (by omega)
  have hle := one_le rows j C
  have e1 : (LL rows.length (fun t => if t < j then PG (nxF rows C inp F t) (bit rows t) C else PG (fun _ => 0) (bit rows t) C)).set j (PG (fun i => rv (fun k => smv rows inp F (j : Int) k) (bit rows j) i C) (bit rows j) C) = LL rows.length (fun t => if t < j + 1 then PG (nxF rows C inp F t) (bit rows t) C else PG (fun _ => 0) (bit rows t) C) := by
   rw [LL_set]
   refine LL_congr _ _ _ (fun t _ => ?_)
   by_cases e : t = j
   ·subst e; rw [if_pos rfl, if_pos (by omega)]; rfl
   ·rw [if_neg e]
    by_cases h2 : t < j
    ·rw [if_pos h2, if_pos (by omega)]
    ·rw [if_neg h2, if_neg (by omega)]
  have e2 : (LL rows.length (fun t => if t < j then PG (nxF rows C inp F t) (bit rows t) C else PG (fun _ => 0) (bit rows t) C)).set j (pre rows C (fun i => rv (fun k => smv rows inp F (j : Int) k) (bit rows j) i C) j 0) = LL rows.length (fun t => if t < j then PG (nxF rows C inp F t) (bit rows t) C else PG (fun _ => 0) (bit rows t) C) := by
   rw [LL_set, pre_0]
   refine LL_congr _ _ _ (fun t _ => ?_)
   by_cases e : t = j
   ·subst e; rw [if_pos rfl, if_neg (by omega)]
   ·rw [if_neg e]
  have h1 := rnd_l1 rows C inp F hr hC hlen hB hI (r := dn rows C (nxF rows C inp F)) j (by omega) (LL rows.length (fun t => if t < j then PG (nxF rows C inp F t) (bit rows t) C else PG (fun _ => 0) (bit rows t) C)) (fun f s a m hS => by
   have h2 := rnd_l2 rows C inp hr hC (r := dn rows C (nxF rows C inp F)) j (by omega) (dn rows C F) (LL rows.length (fun t => if t < j then PG (nxF rows C inp F t) (bit rows t) C else PG (fun _ => 0) (bit rows t) C)) (LL_length _ _) (fun k => smv rows inp F (j : Int) k) f s a m hS (fun i => smv_bound _ _ _ _ _) (by rw [e1]; exact ih) C 0 (by omega)
   rw [e2] at h2
   exact h2) C 0 (by omega) _ _ _ _ (Stt_0 _ _ _)
  rw [pre_0] at h1
  refine Ev.step (fun k => ?_) h1
  simp only [mg_round.l0]
  rw [if_pos (by omega), if_pos (by omega), if_pos (by omega), hca, if_pos (by omega), if_pos (by omega), Int.toNat_natCast]
  rw [show (one rows j C).length = (PG (fun _ => (0 : Int)) (bit rows j) C).length from PG_lenp _ _ _ _, PG_rep]
  rfl
theorem round_ev : Ev (fun k => mg_round.f k (checks rows C rows.length) (at_ rows C rows.length) inp (dn rows C F)) (dn rows C (nxF rows C inp F)) := by
 have h := rnd_l0 rows C inp F hr hC hlen hB hI rows.length 0 (by omega)
 have e : LL rows.length (fun t => if t < 0 then PG (nxF rows C inp F t) (bit rows t) C else PG (fun _ => 0) (bit rows t) C) = dn rows C (fun _ _ => 0) := LL_congr _ _ _ (fun t _ => if_neg (by omega))
 rw [e] at h
 unfold mg_round.f
 refine (messages_ev rows C hr hC _).bind ?_
 rw [checks_len]
 exact h
theorem beliefs_l0 : ∀ d p : Nat, p + d = C →
  Ev (fun k => mg_beliefs.l0 k inp (dn rows C F) (LL C (fun t => if t < p then smv rows inp F (-1) t else 0)) (C : Int) (p : Int) (checks rows C rows.length) (at_ rows C rows.length)) (LL C (fun t => smv rows inp F (-1) t))
 | 0, p, h => by
  obtain rfl : p = C := by omega
  refine Ev.step (f := fun _ => some _) (fun k => ?_) (Ev.now _)
  simp only [mg_beliefs.l0]
  rw [if_neg (by omega)]
  exact congrArg some (LL_congr _ _ _ (fun t ht => if_pos ht))
 | d + 1, p, h => by
  have ih := beliefs_l0 d (p + 1) (by omega)
  have hll : (LL C (fun t => if t < p then smv rows inp F (-1) t else 0)).length = C := LL_length _ _
  have e1 : (LL C (fun t => if t < p then smv rows inp F (-1) t else 0)).set p (smv rows inp F (-1) p) = LL C (fun t => if t < p + 1 then smv rows inp F (-1) t else 0) := by
   rw [LL_set]
   refine LL_congr _ _ _ (fun t _ => ?_)
   by_cases e : t = p
   ·subst e; rw [if_pos rfl, if_pos (by omega)]
   ·rw [if_neg e]
    by_cases h2 : t < p
    ·rw [if_pos h2, if_pos (by omega)]
    ·rw [if_neg h2, if_neg (by omega)]
  rw [← e1] at ih
  refine Ev.step (f := fun k => (mg_sum.f k (checks rows C rows.length) (at_ rows C rows.length) inp (dn rows C F) (p : Int) (-1)).bind fun t439 => (if 0 ≤ (p : Int) then (if (p : Int) < ((LL C (fun t => if t < p then smv rows inp F (-1) t else 0)).length : Int) then (mg_beliefs.l0 k inp (dn rows C F) ((LL C (fun t => if t < p then smv rows inp F (-1) t else 0)).set p t439) (C : Int) ((p + 1 : Nat) : Int) (checks rows C rows.length) (at_ rows C rows.length)) else (none)) else (none))) (fun k => ?_) ((sum_ev rows inp F (-1) p C hr hB hI (by omega) hC hlen).bind (Ev.congr (fun k => if_pos (by omega)) (Ev.congr (fun k => if_pos (by omega)) ih)))
  simp only [mg_beliefs.l0]
  rw [if_pos (by omega), Int.toNat_natCast, w64_id (by omega) (by omega)]
  rfl
theorem beliefs_ev : Ev (fun k => mg_beliefs.f k (checks rows C rows.length) (at_ rows C rows.length) inp (dn rows C F)) (LL C (fun t => smv rows inp F (-1) t)) := by
 have h := beliefs_l0 rows C inp F hr hC hlen hB hI C 0 (by omega)
 have e : LL C (fun t => if t < 0 then smv rows inp F (-1) t else 0) = List.replicate C 0 := by rw [LL_rep]; exact LL_congr _ _ _ (fun t _ => if_neg (by omega))
 rw [e] at h
 refine Ev.congr (fun k => ?_) h
 unfold mg_beliefs.f
 rw [if_pos (by omega), if_pos (by omega), hlen, Int.toNat_natCast]
 rfl
end
end Go.Proofs.Ytmclalniilkjiaa.Rp
