-- Joined by pack.py, a program of this work: Qx66 Qx78 Fl Qx26 Fw Qx24
import Derived.Test.YtmclalniilkjiaaZDecreases0
import Derived.Test.YtmclalniilkjiaaZDecreases3
namespace Go.Proofs.Ytmclalniilkjiaa.Q
open Go.RowKit Go.Proofs.YtmclalniilkjiaaW.PrintWords Go.Proofs.YtmclalniilkjiaaW.PrintLast Go.Proofs.YtmclalniilkjiaaW.PrintMore
open List renaming setIfInBounds_toArray → l01_, set_cons_zero → l02_, set_cons_succ → l03_
attribute [local go_sem] max2_int min2_int max_two min_two max_three min_three max_four min_four
set_option linter.unusedVariables false
set_option linter.unusedSimpArgs false
mutual
def message_Flip.l0 : Nat → List Int → List Bool → List Int → Int → Int → List (List Int) → List (List (S77)) → Option (List Int × List Int × Int)
 | 0, _, _, _, _, _, _, _ => none
 | k + 1, x4, x9, x40, x41, x42, x295000, x295001 => if x42 < x41 then (if 0 ≤ x42 then (if x42 < (x40.length : Int) then (if 0 ≤ (rd x40 x42) then (if (rd x40 x42) < (x9.length : Int) then (message_Flip.l0 k x4 (x9.set ((rd x40 x42) : Int).toNat true) x40 x41 (wrap64 (x42 + 1)) x295000 x295001) else (none)) else (none)) else (none)) else (none)) else (message_Flip.l1 k x4 ([] : List Int) x9 x295000 x295001)
def message_Flip.l1 : Nat → List Int → List Int → List Bool → List (List Int) → List (List (S77)) → Option (List Int × List Int × Int)
 | 0, _, _, _, _, _ => none
 | k + 1, x4, x5, x9, x295000, x295001 => (mg_worst.f k x295000 x295001 x9).bind fun t307 => (if t307 < 0 then (some (x4, x5, 0)) else (if 0 ≤ t307 then (if t307 < (x4.length : Int) then (if x5.length < 17592186044416 then (if t307 < (x295001.length : Int) then (message_Flip.l2 k (x4.set (t307 : Int).toNat (wrap64 (1 - (rd x4 t307)))) (x5 ++ [t307]) x9 (rd_L9 x295001 t307) ((rd_L9 x295001 t307).length : Int) 0 x295000 x295001) else (none)) else (none)) else (none)) else (none)))
def message_Flip.l2 : Nat → List Int → List Int → List Bool → List (S77) → Int → Int → List (List Int) → List (List (S77)) → Option (List Int × List Int × Int)
 | 0, _, _, _, _, _, _, _, _ => none
 | k + 1, x4, x5, x9, x75, x76, x77, x295000, x295001 => if x77 < x76 then (if 0 ≤ x77 then (if x77 < (x75.length : Int) then (if 0 ≤ ((rd_T77 x75 x77).f0) then (if ((rd_T77 x75 x77).f0) < (x9.length : Int) then (message_Flip.l2 k x4 x5 (x9.set (((rd_T77 x75 x77).f0) : Int).toNat (!(rdOf false x9 ((rd_T77 x75 x77).f0)))) x75 x76 (wrap64 (x77 + 1)) x295000 x295001) else (none)) else (none)) else (none)) else (none)) else (message_Flip.l1 k x4 x5 x9 x295000 x295001)
end
def message_Flip.f (k : Nat) (a0_0 : Int) (l0_1 : List (List Int)) (l1 : List Int) : Option (List Int × List Int × Int) := (message_build.f k a0_0 l0_1).bind fun bt287 => (if bt287.2.2 = 0 then ((message_bitsOf.f k a0_0 l0_1 l1).bind fun t295 => (if t295 = 0 then (if ([] : List Int).length + l1.length < 17592186044416 then (if 0 ≤ (bt287.1.length : Int) then (if ((bt287.1.length : Int) : Int).toNat ≤ 281474976710656 then ((mg_unsatisfied.f k bt287.1 bt287.2.1 l1).bind fun t302 => (message_Flip.l0 k (([] : List Int) ++ l1) (List.replicate ((bt287.1.length : Int) : Int).toNat false) t302 (t302.length : Int) 0 bt287.1 bt287.2.1)) else (none)) else (none)) else (none)) else (some (([] : List Int), ([] : List Int), t295)))) else (some (([] : List Int), ([] : List Int), bt287.2.2)))
theorem message_Flip.mono_l : ∀ k, (∀ y0 y1 y2 y3 y4 y5 y6, LeO (message_Flip.l0 k y0 y1 y2 y3 y4 y5 y6) (message_Flip.l0 (k + 1) y0 y1 y2 y3 y4 y5 y6)) ∧ (∀ y0 y1 y2 y3 y4, LeO (message_Flip.l1 k y0 y1 y2 y3 y4) (message_Flip.l1 (k + 1) y0 y1 y2 y3 y4)) ∧ (∀ y0 y1 y2 y3 y4 y5 y6 y7, LeO (message_Flip.l2 k y0 y1 y2 y3 y4 y5 y6 y7) (message_Flip.l2 (k + 1) y0 y1 y2 y3 y4 y5 y6 y7))
 | 0 => ⟨fun _ _ _ _ _ _ _ r h => by simp [message_Flip.l0] at h, fun _ _ _ _ _ r h => by simp [message_Flip.l1] at h, fun _ _ _ _ _ _ _ _ r h => by simp [message_Flip.l2] at h⟩
 | k + 1 => by
  obtain ⟨ih0, ih1, ih2⟩ := message_Flip.mono_l k;refine ⟨?_, ?_, ?_⟩
  ·intro y0 y1 y2 y3 y4 y5 y6;unfold message_Flip.l0
   repeat' first
   | (with_reducible exact ih0 _ _ _ _ _ _ _)
   | (with_reducible exact ih1 _ _ _ _ _)
   | (with_reducible exact ih2 _ _ _ _ _ _ _ _)
   | (with_reducible exact message_bitsOf.mono _ _ _ _)
   | (with_reducible exact message_build.mono _ _ _)
   | (with_reducible exact mg_unsatisfied.mono _ _ _ _)
   | (with_reducible exact mg_worst.mono _ _ _ _)
   | (with_reducible exact LeO.refl _)
   | (with_reducible exact LeO.none _)
   | (with_reducible refine LeO.ite ?_ ?_)
   | (with_reducible refine LeO.bind ?_ (fun _ => ?_))
   | exact ih0 _ _ _ _ _ _ _
   | exact ih1 _ _ _ _ _
   | exact ih2 _ _ _ _ _ _ _ _
   | exact message_bitsOf.mono _ _ _ _
   | exact message_build.mono _ _ _
   | exact mg_unsatisfied.mono _ _ _ _
   | exact mg_worst.mono _ _ _ _
   | exact LeO.none _
   | refine LeO.ite ?_ ?_
   | refine LeO.bind ?_ (fun _ => ?_)
  ·intro y0 y1 y2 y3 y4;unfold message_Flip.l1
   repeat' first
   | (with_reducible exact ih0 _ _ _ _ _ _ _)
   | (with_reducible exact ih1 _ _ _ _ _)
   | (with_reducible exact ih2 _ _ _ _ _ _ _ _)
   | (with_reducible exact message_bitsOf.mono _ _ _ _)
   | (with_reducible exact message_build.mono _ _ _)
   | (with_reducible exact mg_unsatisfied.mono _ _ _ _)
   | (with_reducible exact mg_worst.mono _ _ _ _)
   | (with_reducible exact LeO.refl _)
   | (with_reducible exact LeO.none _)
   | (with_reducible refine LeO.ite ?_ ?_)
   | (with_reducible refine LeO.bind ?_ (fun _ => ?_))
   | exact ih0 _ _ _ _ _ _ _
   | exact ih1 _ _ _ _ _
   | exact ih2 _ _ _ _ _ _ _ _
   | exact message_bitsOf.mono _ _ _ _
   | exact message_build.mono _ _ _
   | exact mg_unsatisfied.mono _ _ _ _
   | exact mg_worst.mono _ _ _ _
   | exact LeO.none _
   | refine LeO.ite ?_ ?_
   | refine LeO.bind ?_ (fun _ => ?_)
  ·intro y0 y1 y2 y3 y4 y5 y6 y7;unfold message_Flip.l2
   repeat' first
   | (with_reducible exact ih0 _ _ _ _ _ _ _)
   | (with_reducible exact ih1 _ _ _ _ _)
   | (with_reducible exact ih2 _ _ _ _ _ _ _ _)
   | (with_reducible exact message_bitsOf.mono _ _ _ _)
   | (with_reducible exact message_build.mono _ _ _)
   | (with_reducible exact mg_unsatisfied.mono _ _ _ _)
   | (with_reducible exact mg_worst.mono _ _ _ _)
   | (with_reducible exact LeO.refl _)
   | (with_reducible exact LeO.none _)
   | (with_reducible refine LeO.ite ?_ ?_)
   | (with_reducible refine LeO.bind ?_ (fun _ => ?_))
   | exact ih0 _ _ _ _ _ _ _
   | exact ih1 _ _ _ _ _
   | exact ih2 _ _ _ _ _ _ _ _
   | exact message_bitsOf.mono _ _ _ _
   | exact message_build.mono _ _ _
   | exact mg_unsatisfied.mono _ _ _ _
   | exact mg_worst.mono _ _ _ _
   | exact LeO.none _
   | refine LeO.ite ?_ ?_
   | refine LeO.bind ?_ (fun _ => ?_)
theorem message_Flip.mono : ∀ a0 a1 a2 k, LeO (message_Flip.f k a0 a1 a2) (message_Flip.f (k + 1) a0 a1 a2) := by
 intro a0 a1 a2 k;obtain ⟨ih0, ih1, ih2⟩ := message_Flip.mono_l k;unfold message_Flip.f
 repeat' first
   | (with_reducible exact ih0 _ _ _ _ _ _ _)
   | (with_reducible exact ih1 _ _ _ _ _)
   | (with_reducible exact ih2 _ _ _ _ _ _ _ _)
   | (with_reducible exact message_bitsOf.mono _ _ _ _)
   | (with_reducible exact message_build.mono _ _ _)
   | (with_reducible exact mg_unsatisfied.mono _ _ _ _)
   | (with_reducible exact mg_worst.mono _ _ _ _)
   | (with_reducible exact LeO.refl _)
   | (with_reducible exact LeO.none _)
   | (with_reducible refine LeO.ite ?_ ?_)
   | (with_reducible refine LeO.bind ?_ (fun _ => ?_))
   | exact ih0 _ _ _ _ _ _ _
   | exact ih1 _ _ _ _ _
   | exact ih2 _ _ _ _ _ _ _ _
   | exact message_bitsOf.mono _ _ _ _
   | exact message_build.mono _ _ _
   | exact mg_unsatisfied.mono _ _ _ _
   | exact mg_worst.mono _ _ _ _
   | exact LeO.none _
   | refine LeO.ite ?_ ?_
   | refine LeO.bind ?_ (fun _ => ?_)
def message_Flip.T22 : Bool × List (List Nat × List Nat) := (true, [([], []), ([], []), ([1], [1]), ([], []), ([], []), ([4], [4]), ([3, 5], [3, 5]), ([6], [6]), ([7], [7]), ([0, 2, 0, 1, 2, 3, 4, 5, 6, 7, 8], [0, 2]), ([9, 8, 0, 1, 2, 3, 4, 5, 6, 7, 8], [8, 9])])
def message_Flip.B22 : List Nat := [0, 0, 2, 0, 0, 16, 56, 120, 248, 511, 1023]
theorem message_Flip.tab22 : rtab .any (opsOf Try.f24 22) = message_Flip.T22 := by kernel_rfl
theorem message_Flip.bits22 : waitsOk message_Flip.T22.2 message_Flip.B22 = true := by kernel_rfl
set_option maxHeartbeats 8000000 in
set_option maxRecDepth 100000 in
theorem message_Flip.calls (k : Nat) (a0_0 : Int) (A0_1 : Option Addr) (c0_1 : Nat) (l0_1 : List (List Int)) (A1 : Option Addr) (c1 : Nat) (l1 : List Int) (r1 : List Int) (r2 : List Int) (r3 : Int) (w : World) (hr0_1 : Kd.C (Kd.slice 3 (Kd.int .i64)) w A0_1 l0_1.length l0_1) (hc0_1 : l0_1.length ≤ c0_1) (hr1 : Kd.C (Kd.int .i64) w A1 l1.length l1) (hc1 : l1.length ≤ c1) (h : message_Flip.f k a0_0 l0_1 l1 = some (r1, r2, r3)) :
  Calls Try.prog 24 #[.agg #[.int .i64 a0_0, .slice A0_1 l0_1.length c0_1], .slice A1 l1.length c1] w fun e w' => ∃ v0_ v1_ : Value, e = .returned (.tuple #[v0_, v1_, .int .i64 r3]) ∧ Kd.R (Kd.int .i64) 3 w' w.heap.size (fun k_ => some k_ ≠ (v1_ : Value).ownBlock) v0_ r1 ∧ Kd.R (Kd.int .i64) 3 w' w.heap.size (fun k_ => some k_ ≠ (v0_ : Value).ownBlock) v1_ r2 ∧ Below w.heap.size w w' := by
 have hu24 := Try.underlying24;have hu73 := Try.underlying73;have hu77 := Try.underlying77;have HR0_1 := Ai0.mk hr0_1;have HC0_1 := Ai0.mk hc0_1;clear hr0_1 hc0_1;have HR1 := Ai0.mk hr1;have HC1 := Ai0.mk hc1;clear hr1 hc1;have HB := Ai0.mk (Below.refl w.heap.size w);have H : ((message_build.f k a0_0 l0_1).bind fun bt287 => (if bt287.2.2 = 0 then ((message_bitsOf.f k a0_0 l0_1 l1).bind fun t295 => (if t295 = 0 then (if ([] : List Int).length + l1.length < 17592186044416 then (if 0 ≤ (bt287.1.length : Int) then (if ((bt287.1.length : Int) : Int).toNat ≤ 281474976710656 then ((mg_unsatisfied.f k bt287.1 bt287.2.1 l1).bind fun t302 => (message_Flip.l0 k (([] : List Int) ++ l1) (List.replicate ((bt287.1.length : Int) : Int).toNat false) t302 (t302.length : Int) 0 bt287.1 bt287.2.1)) else (none)) else (none)) else (none)) else (some (([] : List Int), ([] : List Int), t295)))) else (some (([] : List Int), ([] : List Int), bt287.2.2)))) = some (r1, r2, r3) := h;clear h;replace H := Option.bind_eq_some_iff.mp H;obtain ⟨⟨t287, t290, t293⟩, A30, H⟩ := H;replace H : (if t293 = 0 then ((message_bitsOf.f k a0_0 l0_1 l1).bind fun t295 => (if t295 = 0 then (if ([] : List Int).length + l1.length < 17592186044416 then (if 0 ≤ (t287.length : Int) then (if ((t287.length : Int) : Int).toNat ≤ 281474976710656 then ((mg_unsatisfied.f k t287 t290 l1).bind fun t302 => (message_Flip.l0 k (([] : List Int) ++ l1) (List.replicate ((t287.length : Int) : Int).toNat false) t302 (t302.length : Int) 0 t287 t290)) else (none)) else (none)) else (none)) else (some (([] : List Int), ([] : List Int), t295)))) else (some (([] : List Int), ([] : List Int), t293))) = some (r1, r2, r3) := H;have A3 := Ai0.mk A30;clear A30;by_cases c4 : t293 = 0
 ·rw [if_pos c4] at H;have c4b0 : (t293 == 0) = true := beq_iff_eq.mpr c4;have c4b1 : (t293 != 0) = false := bne_eq_false_iff_eq.mpr c4;clear c4;replace H := Option.bind_eq_some_iff.mp H;obtain ⟨t295, A50, H⟩ := H;replace H : (if t295 = 0 then (if ([] : List Int).length + l1.length < 17592186044416 then (if 0 ≤ (t287.length : Int) then (if ((t287.length : Int) : Int).toNat ≤ 281474976710656 then ((mg_unsatisfied.f k t287 t290 l1).bind fun t302 => (message_Flip.l0 k (([] : List Int) ++ l1) (List.replicate ((t287.length : Int) : Int).toNat false) t302 (t302.length : Int) 0 t287 t290)) else (none)) else (none)) else (none)) else (some (([] : List Int), ([] : List Int), t295))) = some (r1, r2, r3) := H;have A5 := Ai0.mk A50;clear A50;by_cases c6 : t295 = 0
  ·rw [if_pos c6] at H;have c6b0 : (t295 == 0) = true := beq_iff_eq.mpr c6;have c6b1 : (t295 != 0) = false := bne_eq_false_iff_eq.mpr c6;clear c6;by_cases c7 : ([] : List Int).length + l1.length < 17592186044416
   ·rw [if_pos c7] at H;have LMc7 := Ai0.mk c7;clear c7;(obtain ⟨y296, hy296⟩ : ∃ y_ : List Int, y_ = (([] : List Int) ++ l1) := ⟨_, rfl⟩);(replace H : (if 0 ≤ (t287.length : Int) then (if ((t287.length : Int) : Int).toNat ≤ 281474976710656 then ((mg_unsatisfied.f k t287 t290 l1).bind fun t302 => (message_Flip.l0 k y296 (List.replicate ((t287.length : Int) : Int).toNat false) t302 (t302.length : Int) 0 t287 t290)) else (none)) else (none)) = some (r1, r2, r3) := by first | (rw [hy296]; with_reducible exact H) | (have H2_ := (Option.bind_some _ _).symm.trans H; rw [hy296]; with_reducible exact H2_) | (have H2_ := (Option.bind_some _ _).symm.trans H; with_reducible exact H2_) | with_reducible exact H | (rw [hy296]; exact H) | exact H);have Ny296 := Ai0.mk hy296;clear hy296;by_cases c8 : 0 ≤ (t287.length : Int)
    ·rw [if_pos c8] at H;have c8b0 := eq_true c8;have c8b1 : decide (0 ≤ (t287.length : Int)) = true := decide_eq_true c8;clear c8;by_cases c9 : ((t287.length : Int) : Int).toNat ≤ 281474976710656
     ·rw [if_pos c9] at H;have c9b0 := eq_true c9;have c9b1 : decide (((t287.length : Int) : Int).toNat ≤ 281474976710656) = true := decide_eq_true c9;clear c9;(obtain ⟨y299, hy299⟩ : ∃ y_ : List Bool, y_ = (List.replicate ((t287.length : Int) : Int).toNat false) := ⟨_, rfl⟩);(replace H : ((mg_unsatisfied.f k t287 t290 l1).bind fun t302 => (message_Flip.l0 k y296 y299 t302 (t302.length : Int) 0 t287 t290)) = some (r1, r2, r3) := by first | (rw [hy299]; with_reducible exact H) | (have H2_ := (Option.bind_some _ _).symm.trans H; rw [hy299]; with_reducible exact H2_) | (have H2_ := (Option.bind_some _ _).symm.trans H; with_reducible exact H2_) | with_reducible exact H | (rw [hy299]; exact H) | exact H);have Ny299 := Ai0.mk hy299;clear hy299;replace H := Option.bind_eq_some_iff.mp H;obtain ⟨t302, A100, H⟩ := H;replace H : (message_Flip.l0 k y296 y299 t302 (t302.length : Int) 0 t287 t290) = some (r1, r2, r3) := H;have A10 := Ai0.mk A100;clear A100;have H' := Ai0.mk H;clear H;go_enter Try.func24, Try.ntmps24
      go_wp2_with (first | ((with_reducible refine gate_dst (N := 2) rfl ?_); refine box_event ?hg (N := 2) ?hd (cs := #[.int .i64 a0_0, .slice A0_1 l0_1.length c0_1]) (t := 24) ?hr ?_; (case hd => rfl); (case hg => rfl); (case hr => first | (go_simp; done) | (go_simp; rfl)); intro gb286 hg w11 hbox hb; have n0_ := Ai0.mk (bt1 (by repeat (first | (with_reducible first | exact HB.out | apply ba1 | apply pbN | apply bw1) | exact HB.out)) hb); have n1_ := Ai0.mk (hbox); have n2_ := Ai0.mk ((by rw [hg]; exact (bz1 (by repeat (first | (with_reducible first | exact HB.out | apply ba1 | apply pbN | apply bw1) | exact HB.out))) : w.heap.size ≤ gb286)); have n3_ := Ai0.mk ((by rw [hg]; exact (bz1 (by repeat (first | (with_reducible first | exact HB.out | apply ba1 | apply pbN | apply bw1) | exact HB.out))) : w.heap.size ≤ gb286)); clear HB; have HB := n0_; have BK286 := n1_; have GW286 := n2_; have GE286 := n3_; clear n0_ n1_ n2_ n3_; clear hb hbox hg; have hcz12_0 : w11.cell? ⟨gb286, 0, none⟩ = some (.int .i64 a0_0) := (kc1 BK286.out 0).trans rfl; have hcz12_1 : w11.cell? ⟨gb286, 1, none⟩ = some (.slice A0_1 l0_1.length c0_1) := (kc1 BK286.out 1).trans rfl; have hfz12_0 := kf1 BK286.out 0; have hfz12_1 := kf1 BK286.out 1) | ((with_reducible refine gate_callee (f := 44) rfl ?_); refine goesL_ (some 17) rfl rfl Try.func44 (by kernel_rfl) rfl #[.agg #[.int .i64 a0_0, .slice A0_1 l0_1.length c0_1]] rfl (by (try simp only [List.map_toArray, List.map_cons, List.map_nil]); first | done | rfl | (simp only [List.length_drop, List.length_take]; rfl)) ?_; (with_reducible refine (message_build.calls k a0_0 _ _ l0_1 t287 t290 t293 _ ?side1 ?side2 A3.out).mono ?_); (case side1 => repeat (first | exact (Kd.C_below HR0_1.out HB.out) | (with_reducible refine Kd.C_alloc ?_ _) | (with_reducible refine Kd.C_drewN ?_ _) | (with_reducible refine Kd.C_drew ?_))); (case side2 => exact HC0_1.out); rintro e w13 ⟨gg_, rfl, hb, hbu_⟩; obtain ⟨gb294, v288, v291, rfl, hge_, hbk_, ho0, ho1⟩ := Built.ok hbu_ (beq_iff_eq.mp c4b0); refine ⟨_, rfl, ?_⟩; have BK294 := Ai0.mk hbk_; have GE294 := Ai0.mk (Nat.le_trans (bz1 (by repeat (first | (with_reducible first | exact HB.out | apply ba1 | apply pbN | apply bw1 | refine bs1 ?_ GE286.out) | exact HB.out))) hge_); have GW294 := GE294; have NB286_294 := Ai0.mk (Nat.ne_of_lt (Nat.lt_of_lt_of_le (blk_lt (g := gb286) (o := .cells #[.int .i64 a0_0, .slice A0_1 l0_1.length c0_1] 24 (0, 0)) (by (with_reducible repeat (first | refine kn1 ?_ _ | refine kd1 ?_ | refine ka1 ?_ _)); exact BK286.out)) hge_)); have NB294_286 := Ai0.mk (Ne.symm NB286_294.out); clear hbk_ hge_ hbu_; have n0_ := Ai0.mk (Kd.S_lower ho0 (bz1 (by repeat (first | (with_reducible first | exact HB.out | apply ba1 | apply pbN | apply bw1 | refine bs1 ?_ GE286.out) | exact HB.out)))); have n1_ := Ai0.mk (Kd.S_lower ho1 (bz1 (by repeat (first | (with_reducible first | exact HB.out | apply ba1 | apply pbN | apply bw1 | refine bs1 ?_ GE286.out) | exact HB.out)))); have n2_ := Ai0.mk (kb1 (g := gb286) (o := .cells #[.int .i64 a0_0, .slice A0_1 l0_1.length c0_1] 24 (0, 0)) (by (with_reducible repeat (first | refine kn1 ?_ _ | refine kd1 ?_ | refine ka1 ?_ _)); exact BK286.out) hb); have n3_ := Ai0.mk (bt1 (by repeat (first | (with_reducible first | exact HB.out | apply ba1 | apply pbN | apply bw1 | refine bs1 ?_ GE286.out) | exact HB.out)) hb); clear BK286; clear HB; have HO289 := n0_; have HO292 := n1_; have BK286 := n2_; have HB := n3_; clear n0_ n1_ n2_ n3_; (try clear hb); (try clear hb2); (try clear hk); (try clear hi); (try clear ho0); (try clear ho1); obtain ⟨Ao14, co14, eo14⟩ := Kd.S_slice HO292.out; subst eo14; obtain ⟨Ao15, co15, eo15⟩ := Kd.S_slice HO289.out; subst eo15; have hnb17 := NB286_294.out; have hnc17 := NB294_286.out; have hcz18_0 : w13.cell? ⟨gb286, 0, none⟩ = some (.int .i64 a0_0) := (kc1 BK286.out 0).trans rfl; have hcz18_1 : w13.cell? ⟨gb286, 1, none⟩ = some (.slice A0_1 l0_1.length c0_1) := (kc1 BK286.out 1).trans rfl; have hfz18_0 := kf1 BK286.out 0; have hfz18_1 := kf1 BK286.out 1) | ((with_reducible refine gate_callee (f := 52) rfl ?_); refine goesL_ (some 25) rfl rfl Try.func52 (by kernel_rfl) rfl #[.agg #[.int .i64 a0_0, .slice A0_1 l0_1.length c0_1], .slice A1 l1.length c1] rfl (by (try simp only [List.map_toArray, List.map_cons, List.map_nil]); first | done | rfl | (simp only [List.length_drop, List.length_take]; rfl)) ?_; (with_reducible refine (message_bitsOf.calls k a0_0 _ _ l0_1 _ _ l1 t295 _ ?side1 ?side2 ?side3 ?side4 A5.out).mono ?_); (case side1 => repeat (first | exact (Kd.C_below HR0_1.out HB.out) | (with_reducible refine Kd.C_alloc ?_ _) | (with_reducible refine Kd.C_drewN ?_ _) | (with_reducible refine Kd.C_drew ?_))); (case side2 => exact HC0_1.out); (case side3 => repeat (first | exact (Kd.C_below HR1.out HB.out) | (with_reducible refine Kd.C_alloc ?_ _) | (with_reducible refine Kd.C_drewN ?_ _) | (with_reducible refine Kd.C_drew ?_))); (case side4 => exact HC1.out); rintro e w19 ⟨rfl, hb⟩; refine ⟨_, rfl, ?_⟩; have n0_ := Ai0.mk (Kd.S_below (by (with_reducible repeat (first | apply Kd.S_alloc | apply Kd.S_drewN | apply Kd.S_drew)); exact HO289.out) hb); have n1_ := Ai0.mk (Kd.S_below (by (with_reducible repeat (first | apply Kd.S_alloc | apply Kd.S_drewN | apply Kd.S_drew)); exact HO292.out) hb); have n2_ := Ai0.mk (kb1 (g := gb286) (o := .cells #[.int .i64 a0_0, .slice A0_1 l0_1.length c0_1] 24 (0, 0)) (by (with_reducible repeat (first | refine kn1 ?_ _ | refine kd1 ?_ | refine ka1 ?_ _)); exact BK286.out) hb); have n3_ := Ai0.mk (kb1 (g := gb294) (o := .cells #[.slice Ao15 t287.length co15, .slice Ao14 t290.length co14] 73 (0, 0)) (by (with_reducible repeat (first | refine kn1 ?_ _ | refine kd1 ?_ | refine ka1 ?_ _)); exact BK294.out) hb); have n4_ := Ai0.mk (bt1 (by repeat (first | (with_reducible first | exact HB.out | apply ba1 | apply pbN | apply bw1 | refine bs1 ?_ GE286.out | refine bs1 ?_ GE294.out) | exact HB.out)) hb); clear HO289; clear HO292; clear BK286; clear BK294; clear HB; have HO289 := n0_; have HO292 := n1_; have BK286 := n2_; have BK294 := n3_; have HB := n4_; clear n0_ n1_ n2_ n3_ n4_; (try clear hb); (try clear hb2); (try clear hk); (try clear hi)) | ((with_reducible refine gate_builtin (b := .append) (xs := #[.tmp 29, .tmp 30]) rfl ?_); at_builtin; refine Kd.R_append_rows (Kd.int .i64) (w0 := w) w.heap.size rfl (.tmp 29) (.tmp 30) 25 3 (.int .i64 0) 8 rfl Try.underlying25 info3 rfl (by decide) (by omega) (.slice none 0 0) ([] : List Int) l1 _ _ _ (fun _ => True) (fun _ => False) rfl rfl ?aO ?aR (fun _ _ h => h) (fun _ h => h.elim) ?aF ?aB ?aS ?aL ?_; (case aR => repeat (first | exact (Kd.C_below HR1.out HB.out) | (with_reducible refine Kd.C_alloc ?_ _) | (with_reducible refine Kd.C_drewN ?_ _) | (with_reducible refine Kd.C_drew ?_))); (case aB => exact (by repeat (first | (with_reducible first | exact HB.out | apply ba1 | apply pbN | apply bw1 | refine bs1 ?_ GE286.out | refine bs1 ?_ GE294.out) | exact HB.out))); (case aF => exact (fun _ _ => trivial)); (case aO => exact ((Kd.R_nil _ _ _ _ (fun _ => True)))); (case aS => exact (bz1 (by repeat (first | (with_reducible first | exact HB.out | apply ba1 | apply pbN | apply bw1 | refine bs1 ?_ GE286.out | refine bs1 ?_ GE294.out) | exact HB.out)))); (case aL => have := LMc7.out; omega); intro v297 w20 ho hb hg hat; rw [← Ny296.out] at ho; have n0_ := Ai0.mk (blk_grown (g := gb286) (o := .cells #[.int .i64 a0_0, .slice A0_1 l0_1.length c0_1] 24 (0, 0)) (by (with_reducible repeat (first | refine kn1 ?_ _ | refine kd1 ?_ | refine ka1 ?_ _)); exact BK286.out) hg (by simp [Value.ownBlock])); have n1_ := Ai0.mk (Kd.S_after (Kd.S_apart_nil (by (with_reducible repeat (first | apply Kd.S_alloc | apply Kd.S_drewN | apply Kd.S_drew)); exact HO289.out)) hg hat); have n2_ := Ai0.mk (Kd.S_grown (by (with_reducible repeat (first | apply Kd.S_alloc | apply Kd.S_drewN | apply Kd.S_drew)); exact HO292.out) hg (fun _ _ => by simp [Value.ownBlock])); have n3_ := Ai0.mk (blk_grown (g := gb294) (o := .cells #[.slice Ao15 t287.length co15, .slice Ao14 t290.length co14] 73 (0, 0)) (by (with_reducible repeat (first | refine kn1 ?_ _ | refine kd1 ?_ | refine ka1 ?_ _)); exact BK294.out) hg (by simp [Value.ownBlock])); have n4_ := Ai0.mk (hb); have n5_ := Ai0.mk (ho); clear BK286; clear HO289; clear HO292; clear BK294; clear HB; have BK286 := n0_; have HO289 := n1_; have HO292 := n2_; have BK294 := n3_; have HB := n4_; have HO298 := n5_; clear n0_ n1_ n2_ n3_ n4_ n5_; clear ho hb hg hat; have hcz21_0 : w20.cell? ⟨gb294, 0, none⟩ = some (.slice Ao15 t287.length co15) := (kc1 BK294.out 0).trans rfl; have hcz21_1 : w20.cell? ⟨gb294, 1, none⟩ = some (.slice Ao14 t290.length co14) := (kc1 BK294.out 1).trans rfl; have hfz21_0 := kf1 BK294.out 0; have hfz21_1 := kf1 BK294.out 1) | ((with_reducible refine gate_dst (N := 37) rfl ?_); refine Kd.R_make Kd.bool _ 4 rfl (N := 37) rfl 70 _ _ rfl (t287.length : Int) rfl rfl Try.underlying70 (.bool false) 1 info4 rfl (by decide) (by omega) false (ok := fun _ => True) (okp := fun _ => True) rfl (fun _ hk => hk) trivial (of_decide_eq_true (by first | (with_reducible assumption) | assumption)) (Nat.le_trans (Nat.mul_le_mul_right _ (of_decide_eq_true (by first | (with_reducible assumption) | assumption) : (t287.length : Int).toNat ≤ 281474976710656)) (by omega)) (Below.refl _ _) (Nat.le_refl _) ?_; intro v300 w22 ho23 hb hg_ hnew_; clear hg_ hnew_; (first | rw [← Ny299.out] at ho23 | (simp only [Int.reduceToNat] at ho23; rw [← Ny299.out] at ho23)); have n0_ := Ai0.mk (Kd.S_below (by (with_reducible repeat (first | apply Kd.S_alloc | apply Kd.S_drewN | apply Kd.S_drew)); exact HO289.out) hb); have n1_ := Ai0.mk (Kd.S_below (by (with_reducible repeat (first | apply Kd.S_alloc | apply Kd.S_drewN | apply Kd.S_drew)); exact HO292.out) hb); have n2_ := Ai0.mk (Kd.R_below (by (with_reducible repeat (first | apply Kd.Ra1 | apply Kd.Rn1 | apply Kd.Rd1)); exact HO298.out) hb); have n3_ := Ai0.mk (Kd.R_lower ho23 (bz1 (by repeat (first | (with_reducible first | exact HB.out | apply ba1 | apply pbN | apply bw1 | refine bs1 ?_ GE286.out | refine bs1 ?_ GE294.out) | exact HB.out)))); have n4_ := Ai0.mk (kb1 (g := gb286) (o := .cells #[.int .i64 a0_0, .slice A0_1 l0_1.length c0_1] 24 (0, 0)) (by (with_reducible repeat (first | refine kn1 ?_ _ | refine kd1 ?_ | refine ka1 ?_ _)); exact BK286.out) hb); have n5_ := Ai0.mk (kb1 (g := gb294) (o := .cells #[.slice Ao15 t287.length co15, .slice Ao14 t290.length co14] 73 (0, 0)) (by (with_reducible repeat (first | refine kn1 ?_ _ | refine kd1 ?_ | refine ka1 ?_ _)); exact BK294.out) hb); have n6_ := Ai0.mk (bt1 (by repeat (first | (with_reducible first | exact HB.out | apply ba1 | apply pbN | apply bw1 | refine bs1 ?_ GE286.out | refine bs1 ?_ GE294.out) | exact HB.out)) hb); clear HO289; clear HO292; clear HO298; clear BK286; clear BK294; clear HB; have HO289 := n0_; have HO292 := n1_; have HO298 := n2_; have HO301 := n3_; have BK286 := n4_; have BK294 := n5_; have HB := n6_; clear n0_ n1_ n2_ n3_ n4_ n5_ n6_; clear hb ho23; have hcz24_0 : w22.cell? ⟨gb294, 0, none⟩ = some (.slice Ao15 t287.length co15) := (kc1 BK294.out 0).trans rfl; have hcz24_1 : w22.cell? ⟨gb294, 1, none⟩ = some (.slice Ao14 t290.length co14) := (kc1 BK294.out 1).trans rfl; have hfz24_0 := kf1 BK294.out 0; have hfz24_1 := kf1 BK294.out 1) | ((with_reducible refine gate_callee (f := 49) rfl ?_); refine goesL_ (some 40) rfl rfl Try.func49 (by kernel_rfl) rfl #[.pointer (some ⟨gb294, 0, none⟩), .slice A1 l1.length c1] rfl (by (try simp only [List.map_toArray, List.map_cons, List.map_nil]); first | done | rfl | (simp only [List.length_drop, List.length_take]; rfl)) ?_; (with_reducible refine (mg_unsatisfied.calls k Ao15 co15 t287 Ao14 co14 t290 _ _ l1 t302 gb294 _ ?side1 ?side2 ?side3 ?side4 ?side5 ?side6 ?sideG A10.out).mono ?_); (case sideG => (with_reducible repeat (first | refine kn1 ?_ _ | refine kd1 ?_ | refine ka1 ?_ _)); exact BK294.out); (case side1 => repeat (first | exact (Kd.S_reads' HO289.out).2.2 | (with_reducible refine Kd.C_alloc ?_ _) | (with_reducible refine Kd.C_drewN ?_ _) | (with_reducible refine Kd.C_drew ?_))); (case side2 => exact (Kd.S_reads' HO289.out).2.1); (case side3 => repeat (first | exact (Kd.S_reads' HO292.out).2.2 | (with_reducible refine Kd.C_alloc ?_ _) | (with_reducible refine Kd.C_drewN ?_ _) | (with_reducible refine Kd.C_drew ?_))); (case side4 => exact (Kd.S_reads' HO292.out).2.1); (case side5 => repeat (first | exact (Kd.C_below HR1.out HB.out) | (with_reducible refine Kd.C_alloc ?_ _) | (with_reducible refine Kd.C_drewN ?_ _) | (with_reducible refine Kd.C_drew ?_))); (case side6 => exact HC1.out); rintro e w25 ⟨v303, rfl, ho0, hb⟩; refine ⟨_, rfl, ?_⟩; have n0_ := Ai0.mk (Kd.S_elder' (by (with_reducible repeat (first | apply Kd.S_alloc | apply Kd.S_drewN | apply Kd.S_drew)); exact HO289.out) (Kd.R_base ho0) hb); have n1_ := Ai0.mk (Kd.S_below (by (with_reducible repeat (first | apply Kd.S_alloc | apply Kd.S_drewN | apply Kd.S_drew)); exact HO292.out) hb); have n2_ := Ai0.mk (Kd.R_elder' (by (with_reducible repeat (first | apply Kd.Ra1 | apply Kd.Rn1 | apply Kd.Rd1)); exact HO298.out) (Kd.R_base ho0) hb); have n3_ := Ai0.mk (Kd.R_below (by (with_reducible repeat (first | apply Kd.Ra1 | apply Kd.Rn1 | apply Kd.Rd1)); exact HO301.out) hb); have n4_ := Ai0.mk (Kd.R_lower (Kd.R_new' ho0 (Kd.R_lt (by (with_reducible repeat (first | apply Kd.Ra1 | apply Kd.Rn1 | apply Kd.Rd1)); exact HO298.out))) (bz1 (by repeat (first | (with_reducible first | exact HB.out | apply ba1 | apply pbN | apply bw1 | refine bs1 ?_ GE286.out | refine bs1 ?_ GE294.out) | exact HB.out)))); have n5_ := Ai0.mk (kb1 (g := gb286) (o := .cells #[.int .i64 a0_0, .slice A0_1 l0_1.length c0_1] 24 (0, 0)) (by (with_reducible repeat (first | refine kn1 ?_ _ | refine kd1 ?_ | refine ka1 ?_ _)); exact BK286.out) hb); have n6_ := Ai0.mk (kb1 (g := gb294) (o := .cells #[.slice Ao15 t287.length co15, .slice Ao14 t290.length co14] 73 (0, 0)) (by (with_reducible repeat (first | refine kn1 ?_ _ | refine kd1 ?_ | refine ka1 ?_ _)); exact BK294.out) hb); have n7_ := Ai0.mk (bt1 (by repeat (first | (with_reducible first | exact HB.out | apply ba1 | apply pbN | apply bw1 | refine bs1 ?_ GE286.out | refine bs1 ?_ GE294.out) | exact HB.out)) hb); clear HO289; clear HO292; clear HO298; clear HO301; clear BK286; clear BK294; clear HB; have HO289 := n0_; have HO292 := n1_; have HO298 := n2_; have HO301 := n3_; have HO304 := n4_; have BK286 := n5_; have BK294 := n6_; have HB := n7_; clear n0_ n1_ n2_ n3_ n4_ n5_ n6_ n7_; (try clear hb); (try clear hb2); (try clear hk); (try clear hi); (try clear ho0); obtain ⟨Ao26, co26, eo26⟩ := Kd.R_slice HO304.out; subst eo26))
      go_loopg [42] k (fun kq v42 w' => ∃ (x9_1 : List Bool) (x42_1 : Int), v42 = .int .i64 x42_1 ∧ Ai0 (message_Flip.l0 kq y296 x9_1 t302 (t302.length : Int) x42_1 t287 t290 = some (r1, r2, r3)) ∧ Ai0 (kq ≤ k) ∧ Ai0 (Kd.R (Kd.int .i64) 3 w' w.heap.size (fun k_ => some k_ ≠ ((.slice Ao26 t302.length co26) : Value).ownBlock) v297 y296) ∧ Ai0 (Kd.R Kd.bool 4 w' w.heap.size (fun _ => True) v300 x9_1) ∧ Ai0 (Kd.R (Kd.int .i64) 3 w' w.heap.size (fun k_ => some k_ ≠ (v297 : Value).ownBlock) (.slice Ao26 t302.length co26) t302) ∧ Ai0 (Kd.S (Kd.slice 3 (Kd.int .i64)) 25 w' w.heap.size (fun k_ => some k_ ≠ (v297 : Value).ownBlock ∧ some k_ ≠ ((.slice Ao26 t302.length co26) : Value).ownBlock) (.slice Ao15 t287.length co15) t287) ∧ Ai0 (Kd.S (Kd.slice 77 k77) 75 w' w.heap.size (fun _ => True) (.slice Ao14 t290.length co14) t290) ∧ Ai0 (w'.heap[gb286]? = some (.cells #[.int .i64 a0_0, (.slice A0_1 l0_1.length c0_1)] 24 (0, 0))) ∧ Ai0 (w'.heap[gb294]? = some (.cells #[(.slice Ao15 t287.length co15), (.slice Ao14 t290.length co14)] 73 (0, 0))) ∧ Ai0 (Below w.heap.size w w'))
      case atStart => exact ⟨(y299), (0), (by first | rfl | (simp; done) | (simp [*]; done)), H', ⟨Nat.le_refl _⟩, ⟨by (with_reducible repeat (first | apply Kd.Ra1 | apply Kd.Rn1 | apply Kd.Rd1)); exact Kd.R_mono HO298.out (fun _ hk => hk.2)⟩, ⟨by (with_reducible repeat (first | apply Kd.Ra1 | apply Kd.Rn1 | apply Kd.Rd1)); exact HO301.out⟩, ⟨by (with_reducible repeat (first | apply Kd.Ra1 | apply Kd.Rn1 | apply Kd.Rd1)); exact Kd.R_mono HO304.out (fun _ hk => hk.2)⟩, ⟨by (with_reducible repeat (first | apply Kd.S_alloc | apply Kd.S_drewN | apply Kd.S_drew)); exact Kd.S_mono HO289.out (fun _ hk => ⟨hk.1.2, hk.2⟩)⟩, ⟨by (with_reducible repeat (first | apply Kd.S_alloc | apply Kd.S_drewN | apply Kd.S_drew)); exact HO292.out⟩, ⟨by (with_reducible repeat (first | refine kn1 ?_ _ | refine kd1 ?_ | refine ka1 ?_ _)); exact BK286.out⟩, ⟨by (with_reducible repeat (first | refine kn1 ?_ _ | refine kd1 ?_ | refine ka1 ?_ _)); exact BK294.out⟩, ⟨by repeat (first | (with_reducible first | exact HB.out | apply ba1 | apply pbN | apply bw1 | refine bs1 ?_ GE286.out | refine bs1 ?_ GE294.out) | exact HB.out)⟩⟩
      case round =>
       clear H'
       try clear c1
       try clear c2
       try clear p2
       try clear c4
       try clear c4b0
       try clear c4b1
       try clear c5
       try clear c6
       try clear c6b0
       try clear c6b1
       try clear c7
       try clear c8
       try clear c8b0
       try clear c8b1
       try clear c9
       try clear c9b0
       try clear c9b1
       try clear c17
       try clear c24
       try clear hcz12_0
       try clear hcz12_1
       try clear hcz18_0
       try clear hcz18_1
       try clear hcz21_0
       try clear hcz21_1
       try clear hcz24_0
       try clear hcz24_1
       try clear hfz12_0
       try clear hfz12_1
       try clear hfz18_0
       try clear hfz18_1
       try clear hfz21_0
       try clear hfz21_1
       try clear hfz24_0
       try clear hfz24_1
       obtain ⟨x9_1, x42_1, rfl, HA, HK1, HO_4, HO_9, HO_40, HO_295000, HO_295001, BK286, BK294, HB⟩ := hrel
       cases gk with
       | zero => exact absurd HA.out (by simp [message_Flip.l0])
       | succ k1 =>
        have H := HA.out;clear HA;simp only [message_Flip.l0] at H;by_cases c27 : x42_1 < (t302.length : Int)
        ·rw [if_pos c27] at H;have c27b0 : decide (x42_1 < (t302.length : Int)) = true := decide_eq_true c27;clear c27;by_cases c28 : 0 ≤ x42_1
         ·rw [if_pos c28] at H;have c28b0 : decide (0 ≤ x42_1) = true := decide_eq_true c28;clear c28;by_cases c29 : x42_1 < (t302.length : Int)
          ·rw [if_pos c29] at H;have c29b0 : decide (x42_1 < (t302.length : Int)) = true := decide_eq_true c29;clear c29;by_cases c30 : 0 ≤ (rd t302 x42_1)
           ·rw [if_pos c30] at H;have c30b0 : decide (0 ≤ (rd t302 x42_1)) = true := decide_eq_true c30;clear c30;by_cases c31 : (rd t302 x42_1) < (x9_1.length : Int)
            ·rw [if_pos c31] at H;have c31b0 : decide ((rd t302 x42_1) < (x9_1.length : Int)) = true := decide_eq_true c31;clear c31;(obtain ⟨y306, hy306⟩ : ∃ y_ : List Bool, y_ = (x9_1.set ((rd t302 x42_1) : Int).toNat true) := ⟨_, rfl⟩);(replace H : (message_Flip.l0 k1 y296 y306 t302 (t302.length : Int) (wrap64 (x42_1 + 1)) t287 t290) = some (r1, r2, r3) := by first | (rw [hy306]; with_reducible exact H) | (have H2_ := (Option.bind_some _ _).symm.trans H; rw [hy306]; with_reducible exact H2_) | (have H2_ := (Option.bind_some _ _).symm.trans H; with_reducible exact H2_) | with_reducible exact H | (rw [hy306]; exact H) | exact H);have Ny306 := Ai0.mk hy306;clear hy306;have H' := Ai0.mk H;clear H;have p305 : 0 ≤ (x42_1 : Int) := of_decide_eq_true (by first | (with_reducible assumption) | assumption);have q305 : x42_1 < (t302.length : Int) := of_decide_eq_true (by first | (with_reducible assumption) | assumption);obtain ⟨ad305, e305, hx305_0⟩ := Kd.at_int (Kd.R_reads' HO_40.out).2.2 x42_1 p305 q305;cases e305;replace p305 := eq_true p305;replace q305 := eq_true q305;have p32 : 0 ≤ ((rd t302 x42_1) : Int) := of_decide_eq_true (by first | (with_reducible assumption) | assumption);have q32 : ((rd t302 x42_1) : Int) < ((x9_1.length : Int) : Int) := of_decide_eq_true (by first | (with_reducible assumption) | assumption);obtain ⟨go32, co32, eo32, gb32, gl32, cl32, HG32⟩ := Kd.R_form HO_9.out (by omega);(first | cases eo32 | (injection eo32 with ea_ en_ ec_; (first | subst ea_ | (injection ea_ with ea_; subst ea_)); subst ec_; clear en_));have GB32 := Ai0.mk gb32;have GG32 := Ai0.mk HG32;clear gb32 gl32 HG32;obtain ⟨hx32_0, hf32_0⟩ := Kd.R_celln false HO_9.out ((rd t302 x42_1) : Int) p32 q32;replace p32 := eq_true p32;replace q32 := eq_true q32;have HP33 := Kd.R_putg HO_9.out ((rd t302 x42_1) : Int) true
             go_wp2_with (first | ((with_reducible refine gate_store (t := 4) (p := 48) rfl ?_); refine store_event (t := 4) (p := 48) (v := ?vo_w34) (w1 := (wr.setCell ⟨go32, ((rd t302 x42_1) : Int).toNat, none⟩ (.bool true))) ?hg ?ho ?hn ?hr ?_; (case ho => rfl); (case hg => rfl); (case hn => rfl); (case hr => first | (go_simp; done) | (go_simp; rfl)); intro w34 hw; have hg : wr.grownBy w34 (some go32) := (by rw [hw]; exact HP33.2); have hp_ : Kd.R Kd.bool 4 w34 w.heap.size (fun _ => True) (.slice (some ⟨go32, 0, none⟩) x9_1.length co32) y306 := (by rw [hw, Ny306.out]; exact HP33.1); clear HP33; have n0_ := Ai0.mk (Kd.R_over' (v := (.slice (some ⟨go32, 0, none⟩) x9_1.length co32)) (by (with_reducible repeat (first | apply Kd.Ra1 | apply Kd.Rn1 | apply Kd.Rd1)); exact HO_4.out) (Kd.R_typed HO_9.out) (by decide) hg); have n1_ := Ai0.mk (hp_); have n2_ := Ai0.mk (Kd.R_over' (v := (.slice (some ⟨go32, 0, none⟩) x9_1.length co32)) (by (with_reducible repeat (first | apply Kd.Ra1 | apply Kd.Rn1 | apply Kd.Rd1)); exact HO_40.out) (Kd.R_typed HO_9.out) (by decide) hg); have n3_ := Ai0.mk (Kd.S_over' (v := (.slice (some ⟨go32, 0, none⟩) x9_1.length co32)) (by (with_reducible repeat (first | apply Kd.S_alloc | apply Kd.S_drewN | apply Kd.S_drew)); exact HO_295000.out) (Kd.R_typed HO_9.out) (by decide) hg); have n4_ := Ai0.mk (Kd.S_over' (v := (.slice (some ⟨go32, 0, none⟩) x9_1.length co32)) (by (with_reducible repeat (first | apply Kd.S_alloc | apply Kd.S_drewN | apply Kd.S_drew)); exact HO_295001.out) (Kd.R_typed HO_9.out) (by decide) hg); have n5_ := Ai0.mk (blk_grown (g := gb286) (o := .cells #[.int .i64 a0_0, .slice A0_1 l0_1.length c0_1] 24 (0, 0)) (by (with_reducible repeat (first | refine kn1 ?_ _ | refine kd1 ?_ | refine ka1 ?_ _)); exact BK286.out) hg (Kd.R_ne HO_9.out BK286.out (by decide))); have n6_ := Ai0.mk (blk_grown (g := gb294) (o := .cells #[.slice Ao15 t287.length co15, .slice Ao14 t290.length co14] 73 (0, 0)) (by (with_reducible repeat (first | refine kn1 ?_ _ | refine kd1 ?_ | refine ka1 ?_ _)); exact BK294.out) hg (Kd.R_ne HO_9.out BK294.out (by decide))); have n7_ := Ai0.mk ((by rw [hw]; exact bs1 (HB.out) GB32.out : Below w.heap.size w w34)); clear HO_4; clear HO_9; clear HO_40; clear HO_295000; clear HO_295001; clear BK286; clear BK294; clear HB; have HO_4 := n0_; have HO_9 := n1_; have HO_40 := n2_; have HO_295000 := n3_; have HO_295001 := n4_; have BK286 := n5_; have BK294 := n6_; have HB := n7_; clear n0_ n1_ n2_ n3_ n4_ n5_ n6_ n7_; clear hg hw hp_))
             go_roundg k1
             case measure => have := HK1.out; omega
             case rel => exact ⟨(y306), (wrap64 (x42_1 + 1)), (by first | rfl | (simp; done) | (simp [*]; done)), H', ⟨by have := HK1.out; omega⟩, ⟨by (with_reducible repeat (first | apply Kd.Ra1 | apply Kd.Rn1 | apply Kd.Rd1)); exact HO_4.out⟩, ⟨by (with_reducible repeat (first | apply Kd.Ra1 | apply Kd.Rn1 | apply Kd.Rd1)); exact HO_9.out⟩, ⟨by (with_reducible repeat (first | apply Kd.Ra1 | apply Kd.Rn1 | apply Kd.Rd1)); exact HO_40.out⟩, ⟨by (with_reducible repeat (first | apply Kd.S_alloc | apply Kd.S_drewN | apply Kd.S_drew)); exact HO_295000.out⟩, ⟨by (with_reducible repeat (first | apply Kd.S_alloc | apply Kd.S_drewN | apply Kd.S_drew)); exact HO_295001.out⟩, ⟨by (with_reducible repeat (first | refine kn1 ?_ _ | refine kd1 ?_ | refine ka1 ?_ _)); exact BK286.out⟩, ⟨by (with_reducible repeat (first | refine kn1 ?_ _ | refine kd1 ?_ | refine ka1 ?_ _)); exact BK294.out⟩, ⟨by repeat (first | (with_reducible first | exact HB.out | apply ba1 | apply pbN | apply bw1 | refine bs1 ?_ GE286.out | refine bs1 ?_ GE294.out) | exact HB.out)⟩⟩
            ·rw [if_neg c31] at H;exact absurd H (by simp)
           ·rw [if_neg c30] at H;exact absurd H (by simp)
          ·rw [if_neg c29] at H;exact absurd H (by simp)
         ·rw [if_neg c28] at H;exact absurd H (by simp)
        ·rw [if_neg c27] at H;have c27b0 : decide (x42_1 < (t302.length : Int)) = false := decide_eq_false c27;clear c27;have H' := Ai0.mk H;clear H
         go_wp2
         go_loopg [4, 5] k1 (fun kq v4 v5 w' => ∃ (x4_2 : List Int) (x5_2 : List Int) (x9_2 : List Bool), Ai0 (message_Flip.l1 kq x4_2 x5_2 x9_2 t287 t290 = some (r1, r2, r3)) ∧ Ai0 (kq ≤ k1) ∧ Ai0 (Kd.R (Kd.int .i64) 3 w' w.heap.size (fun k_ => some k_ ≠ (v5 : Value).ownBlock) v4 x4_2) ∧ Ai0 (Kd.R (Kd.int .i64) 3 w' w.heap.size (fun k_ => some k_ ≠ (v4 : Value).ownBlock) v5 x5_2) ∧ Ai0 (Kd.R Kd.bool 4 w' w.heap.size (fun _ => True) v300 x9_2) ∧ Ai0 (Kd.S (Kd.slice 3 (Kd.int .i64)) 25 w' w.heap.size (fun k_ => some k_ ≠ (v4 : Value).ownBlock ∧ some k_ ≠ (v5 : Value).ownBlock) (.slice Ao15 t287.length co15) t287) ∧ Ai0 (Kd.S (Kd.slice 77 k77) 75 w' w.heap.size (fun _ => True) (.slice Ao14 t290.length co14) t290) ∧ Ai0 (w'.heap[gb286]? = some (.cells #[.int .i64 a0_0, (.slice A0_1 l0_1.length c0_1)] 24 (0, 0))) ∧ Ai0 (w'.heap[gb294]? = some (.cells #[(.slice Ao15 t287.length co15), (.slice Ao14 t290.length co14)] 73 (0, 0))) ∧ Ai0 (Below w.heap.size w w'))
         case atStart => exact ⟨(y296), (([] : List Int)), (x9_1), H', ⟨Nat.le_refl _⟩, ⟨by (with_reducible repeat (first | apply Kd.Ra1 | apply Kd.Rn1 | apply Kd.Rd1)); exact Kd.R_mono HO_4.out (fun _ hk => (by simp [Value.ownBlock]))⟩, ⟨by first | exact Kd.R_nil _ _ _ _ _ | exact Kd.N_nil _ _ _ _ _ | exact Kd.V_nil _ _ _ _ _ | exact Kd.Q_nil _ _ _ _ _ | exact Kd.S_nil _ _ _ _ _⟩, ⟨by (with_reducible repeat (first | apply Kd.Ra1 | apply Kd.Rn1 | apply Kd.Rd1)); exact HO_9.out⟩, ⟨by (with_reducible repeat (first | apply Kd.S_alloc | apply Kd.S_drewN | apply Kd.S_drew)); exact Kd.S_mono HO_295000.out (fun _ hk => ⟨hk.1, (by simp [Value.ownBlock])⟩)⟩, ⟨by (with_reducible repeat (first | apply Kd.S_alloc | apply Kd.S_drewN | apply Kd.S_drew)); exact HO_295001.out⟩, ⟨by (with_reducible repeat (first | refine kn1 ?_ _ | refine kd1 ?_ | refine ka1 ?_ _)); exact BK286.out⟩, ⟨by (with_reducible repeat (first | refine kn1 ?_ _ | refine kd1 ?_ | refine ka1 ?_ _)); exact BK294.out⟩, ⟨by repeat (first | (with_reducible first | exact HB.out | apply ba1 | apply pbN | apply bw1 | refine bs1 ?_ GE286.out | refine bs1 ?_ GE294.out) | exact HB.out)⟩⟩
         case round =>
          clear H'
          try clear c1
          try clear c2
          try clear p2
          try clear c3
          try clear p3
          try clear q3
          try clear hx3
          try clear hf3
          try clear c4
          try clear c4b0
          try clear c4b1
          try clear c5
          try clear c6
          try clear c6b0
          try clear c6b1
          try clear p6
          try clear c7
          try clear c8
          try clear c8b0
          try clear c8b1
          try clear c9
          try clear c9b0
          try clear c9b1
          try clear c17
          try clear c24
          try clear c27
          try clear c27b0
          try clear c28
          try clear c28b0
          try clear c29
          try clear c29b0
          try clear c30
          try clear c30b0
          try clear p30
          try clear q30
          try clear hx30
          try clear c31
          try clear c31b0
          try clear p32
          try clear q32
          try clear hx32
          try clear hf32
          try clear hcz12_0
          try clear hcz12_1
          try clear hcz18_0
          try clear hcz18_1
          try clear hcz21_0
          try clear hcz21_1
          try clear hcz24_0
          try clear hcz24_1
          try clear hfz12_0
          try clear hfz12_1
          try clear hfz18_0
          try clear hfz18_1
          try clear hfz21_0
          try clear hfz21_1
          try clear hfz24_0
          try clear hfz24_1
          try clear hx305_0
          try clear hx32_0
          try clear p2
          try clear p305
          try clear p32
          try clear q305
          try clear q32
          obtain ⟨x4_2, x5_2, x9_2, HA, HK2, HO_4, HO_5, HO_9, HO_295000, HO_295001, BK286, BK294, HB⟩ := hrel
          cases gk with
          | zero => exact absurd HA.out (by simp [message_Flip.l1])
          | succ k2 =>
           have H := HA.out;clear HA;simp only [message_Flip.l1] at H;replace H := Option.bind_eq_some_iff.mp H;obtain ⟨t307, A350, H⟩ := H;replace H : (if t307 < 0 then (some (x4_2, x5_2, 0)) else (if 0 ≤ t307 then (if t307 < (x4_2.length : Int) then (if x5_2.length < 17592186044416 then (if t307 < (t290.length : Int) then (message_Flip.l2 k2 (x4_2.set (t307 : Int).toNat (wrap64 (1 - (rd x4_2 t307)))) (x5_2 ++ [t307]) x9_2 (rd_L9 t290 t307) ((rd_L9 t290 t307).length : Int) 0 t287 t290) else (none)) else (none)) else (none)) else (none))) = some (r1, r2, r3) := H;have A35 := Ai0.mk A350;clear A350;by_cases c36 : t307 < 0
           ·rw [if_pos c36] at H;have c36b0 : decide (t307 < 0) = true := decide_eq_true c36;clear c36;simp only [Option.some.injEq, Prod.mk.injEq] at H;obtain ⟨rfl, rfl, rfl⟩ := H;have hnb37 := NB294_286.out;have hnc37 := NB286_294.out;have hcz38_0 : wr.cell? ⟨gb294, 0, none⟩ = some (.slice Ao15 t287.length co15) := (kc1 BK294.out 0).trans rfl;have hcz38_1 : wr.cell? ⟨gb294, 1, none⟩ = some (.slice Ao14 t290.length co14) := (kc1 BK294.out 1).trans rfl;have hfz38_0 := kf1 BK294.out 0;have hfz38_1 := kf1 BK294.out 1;obtain ⟨Ao39, co39, eo39⟩ := Kd.R_slice HO_9.out;subst eo39
            go_wp2_with (first | ((with_reducible refine gate_callee (f := 53) rfl ?_); refine goesL_ (some 52) rfl rfl Try.func53 (by kernel_rfl) rfl #[.pointer (some ⟨gb294, 0, none⟩), .slice Ao39 x9_2.length co39] rfl (by (try simp only [List.map_toArray, List.map_cons, List.map_nil]); first | done | rfl | (simp only [List.length_drop, List.length_take]; rfl)) ?_; (with_reducible refine (mg_worst.calls k2 Ao15 co15 t287 Ao14 co14 t290 _ _ x9_2 t307 gb294 _ ?side1 ?side2 ?side3 ?side4 ?side5 ?side6 ?sideG A35.out).mono ?_); (case sideG => (with_reducible repeat (first | refine kn1 ?_ _ | refine kd1 ?_ | refine ka1 ?_ _)); exact BK294.out); (case side1 => repeat (first | exact (Kd.S_reads' HO_295000.out).2.2 | (with_reducible refine Kd.C_alloc ?_ _) | (with_reducible refine Kd.C_drewN ?_ _) | (with_reducible refine Kd.C_drew ?_))); (case side2 => exact (Kd.S_reads' HO_295000.out).2.1); (case side3 => repeat (first | exact (Kd.S_reads' HO_295001.out).2.2 | (with_reducible refine Kd.C_alloc ?_ _) | (with_reducible refine Kd.C_drewN ?_ _) | (with_reducible refine Kd.C_drew ?_))); (case side4 => exact (Kd.S_reads' HO_295001.out).2.1); (case side5 => repeat (first | exact (Kd.R_reads' HO_9.out).2.2 | (with_reducible refine Kd.C_alloc ?_ _) | (with_reducible refine Kd.C_drewN ?_ _) | (with_reducible refine Kd.C_drew ?_))); (case side6 => exact (Kd.R_reads' HO_9.out).2.1); rintro e w40 ⟨rfl, hb⟩; refine ⟨_, rfl, ?_⟩; have n0_ := Ai0.mk (Kd.R_below (by (with_reducible repeat (first | apply Kd.Ra1 | apply Kd.Rn1 | apply Kd.Rd1)); exact HO_4.out) hb); have n1_ := Ai0.mk (Kd.R_below (by (with_reducible repeat (first | apply Kd.Ra1 | apply Kd.Rn1 | apply Kd.Rd1)); exact HO_5.out) hb); have n2_ := Ai0.mk (Kd.R_below (by (with_reducible repeat (first | apply Kd.Ra1 | apply Kd.Rn1 | apply Kd.Rd1)); exact HO_9.out) hb); have n3_ := Ai0.mk (Kd.S_below (by (with_reducible repeat (first | apply Kd.S_alloc | apply Kd.S_drewN | apply Kd.S_drew)); exact HO_295000.out) hb); have n4_ := Ai0.mk (Kd.S_below (by (with_reducible repeat (first | apply Kd.S_alloc | apply Kd.S_drewN | apply Kd.S_drew)); exact HO_295001.out) hb); have n5_ := Ai0.mk (kb1 (g := gb286) (o := .cells #[.int .i64 a0_0, .slice A0_1 l0_1.length c0_1] 24 (0, 0)) (by (with_reducible repeat (first | refine kn1 ?_ _ | refine kd1 ?_ | refine ka1 ?_ _)); exact BK286.out) hb); have n6_ := Ai0.mk (kb1 (g := gb294) (o := .cells #[.slice Ao15 t287.length co15, .slice Ao14 t290.length co14] 73 (0, 0)) (by (with_reducible repeat (first | refine kn1 ?_ _ | refine kd1 ?_ | refine ka1 ?_ _)); exact BK294.out) hb); have n7_ := Ai0.mk (bt1 (by repeat (first | (with_reducible first | exact HB.out | apply ba1 | apply pbN | apply bw1 | refine bs1 ?_ GE286.out | refine bs1 ?_ GE294.out) | exact HB.out)) hb); clear HO_4; clear HO_5; clear HO_9; clear HO_295000; clear HO_295001; clear BK286; clear BK294; clear HB; have HO_4 := n0_; have HO_5 := n1_; have HO_9 := n2_; have HO_295000 := n3_; have HO_295001 := n4_; have BK286 := n5_; have BK294 := n6_; have HB := n7_; clear n0_ n1_ n2_ n3_ n4_ n5_ n6_ n7_; (try clear hb); (try clear hb2); (try clear hk); (try clear hi)))
            go_ret3
            exact ⟨_, _, by first | rfl | (simp [eW0, eW1] <;> rfl) | (simp [*, eW0, eW1] <;> rfl), by (with_reducible repeat (first | apply Kd.Ra1 | apply Kd.Rn1 | apply Kd.Rd1)); exact HO_4.out, by (with_reducible repeat (first | apply Kd.Ra1 | apply Kd.Rn1 | apply Kd.Rd1)); exact HO_5.out, by repeat (first | (with_reducible first | exact HB.out | apply ba1 | apply pbN | apply bw1 | refine bs1 ?_ GE286.out | refine bs1 ?_ GE294.out) | exact HB.out)⟩
           ·rw [if_neg c36] at H;have c36b0 : decide (t307 < 0) = false := decide_eq_false c36;clear c36;by_cases c41 : 0 ≤ t307
            ·rw [if_pos c41] at H;have c41b0 : decide (0 ≤ t307) = true := decide_eq_true c41;clear c41;by_cases c42 : t307 < (x4_2.length : Int)
             ·rw [if_pos c42] at H;have c42b0 : decide (t307 < (x4_2.length : Int)) = true := decide_eq_true c42;clear c42;(obtain ⟨y309, hy309⟩ : ∃ y_ : List Int, y_ = (x4_2.set (t307 : Int).toNat (wrap64 (1 - (rd x4_2 t307)))) := ⟨_, rfl⟩);(replace H : (if x5_2.length < 17592186044416 then (if t307 < (t290.length : Int) then (message_Flip.l2 k2 y309 (x5_2 ++ [t307]) x9_2 (rd_L9 t290 t307) ((rd_L9 t290 t307).length : Int) 0 t287 t290) else (none)) else (none)) = some (r1, r2, r3) := by first | (rw [hy309]; with_reducible exact H) | (have H2_ := (Option.bind_some _ _).symm.trans H; rw [hy309]; with_reducible exact H2_) | (have H2_ := (Option.bind_some _ _).symm.trans H; with_reducible exact H2_) | with_reducible exact H | (rw [hy309]; exact H) | exact H);have Ny309 := Ai0.mk hy309;clear hy309;by_cases c44 : x5_2.length < 17592186044416
              ·rw [if_pos c44] at H;have LMc44 := Ai0.mk c44;clear c44;(obtain ⟨y310, hy310⟩ : ∃ y_ : List Int, y_ = (x5_2 ++ [t307]) := ⟨_, rfl⟩);(replace H : (if t307 < (t290.length : Int) then (message_Flip.l2 k2 y309 y310 x9_2 (rd_L9 t290 t307) ((rd_L9 t290 t307).length : Int) 0 t287 t290) else (none)) = some (r1, r2, r3) := by first | (rw [hy310]; with_reducible exact H) | (have H2_ := (Option.bind_some _ _).symm.trans H; rw [hy310]; with_reducible exact H2_) | (have H2_ := (Option.bind_some _ _).symm.trans H; with_reducible exact H2_) | with_reducible exact H | (rw [hy310]; exact H) | exact H);have Ny310 := Ai0.mk hy310;clear hy310;by_cases c45 : t307 < (t290.length : Int)
               ·rw [if_pos c45] at H;have c45b0 : decide (t307 < (t290.length : Int)) = true := decide_eq_true c45;clear c45;have H' := Ai0.mk H;clear H;have hnb46 := NB294_286.out;have hnc46 := NB286_294.out;have hcz47_0 : wr.cell? ⟨gb294, 0, none⟩ = some (.slice Ao15 t287.length co15) := (kc1 BK294.out 0).trans rfl;have hcz47_1 : wr.cell? ⟨gb294, 1, none⟩ = some (.slice Ao14 t290.length co14) := (kc1 BK294.out 1).trans rfl;have hfz47_0 := kf1 BK294.out 0;have hfz47_1 := kf1 BK294.out 1;obtain ⟨Ao48, co48, eo48⟩ := Kd.R_slice HO_9.out;subst eo48
                go_wp2_with (first | ((with_reducible refine gate_callee (f := 53) rfl ?_); refine goesL_ (some 52) rfl rfl Try.func53 (by kernel_rfl) rfl #[.pointer (some ⟨gb294, 0, none⟩), .slice Ao48 x9_2.length co48] rfl (by (try simp only [List.map_toArray, List.map_cons, List.map_nil]); first | done | rfl | (simp only [List.length_drop, List.length_take]; rfl)) ?_; (with_reducible refine (mg_worst.calls k2 Ao15 co15 t287 Ao14 co14 t290 _ _ x9_2 t307 gb294 _ ?side1 ?side2 ?side3 ?side4 ?side5 ?side6 ?sideG A35.out).mono ?_); (case sideG => (with_reducible repeat (first | refine kn1 ?_ _ | refine kd1 ?_ | refine ka1 ?_ _)); exact BK294.out); (case side1 => repeat (first | exact (Kd.S_reads' HO_295000.out).2.2 | (with_reducible refine Kd.C_alloc ?_ _) | (with_reducible refine Kd.C_drewN ?_ _) | (with_reducible refine Kd.C_drew ?_))); (case side2 => exact (Kd.S_reads' HO_295000.out).2.1); (case side3 => repeat (first | exact (Kd.S_reads' HO_295001.out).2.2 | (with_reducible refine Kd.C_alloc ?_ _) | (with_reducible refine Kd.C_drewN ?_ _) | (with_reducible refine Kd.C_drew ?_))); (case side4 => exact (Kd.S_reads' HO_295001.out).2.1); (case side5 => repeat (first | exact (Kd.R_reads' HO_9.out).2.2 | (with_reducible refine Kd.C_alloc ?_ _) | (with_reducible refine Kd.C_drewN ?_ _) | (with_reducible refine Kd.C_drew ?_))); (case side6 => exact (Kd.R_reads' HO_9.out).2.1); rintro e w49 ⟨rfl, hb⟩; refine ⟨_, rfl, ?_⟩; have n0_ := Ai0.mk (Kd.R_below (by (with_reducible repeat (first | apply Kd.Ra1 | apply Kd.Rn1 | apply Kd.Rd1)); exact HO_4.out) hb); have n1_ := Ai0.mk (Kd.R_below (by (with_reducible repeat (first | apply Kd.Ra1 | apply Kd.Rn1 | apply Kd.Rd1)); exact HO_5.out) hb); have n2_ := Ai0.mk (Kd.R_below (by (with_reducible repeat (first | apply Kd.Ra1 | apply Kd.Rn1 | apply Kd.Rd1)); exact HO_9.out) hb); have n3_ := Ai0.mk (Kd.S_below (by (with_reducible repeat (first | apply Kd.S_alloc | apply Kd.S_drewN | apply Kd.S_drew)); exact HO_295000.out) hb); have n4_ := Ai0.mk (Kd.S_below (by (with_reducible repeat (first | apply Kd.S_alloc | apply Kd.S_drewN | apply Kd.S_drew)); exact HO_295001.out) hb); have n5_ := Ai0.mk (kb1 (g := gb286) (o := .cells #[.int .i64 a0_0, .slice A0_1 l0_1.length c0_1] 24 (0, 0)) (by (with_reducible repeat (first | refine kn1 ?_ _ | refine kd1 ?_ | refine ka1 ?_ _)); exact BK286.out) hb); have n6_ := Ai0.mk (kb1 (g := gb294) (o := .cells #[.slice Ao15 t287.length co15, .slice Ao14 t290.length co14] 73 (0, 0)) (by (with_reducible repeat (first | refine kn1 ?_ _ | refine kd1 ?_ | refine ka1 ?_ _)); exact BK294.out) hb); have n7_ := Ai0.mk (bt1 (by repeat (first | (with_reducible first | exact HB.out | apply ba1 | apply pbN | apply bw1 | refine bs1 ?_ GE286.out | refine bs1 ?_ GE294.out) | exact HB.out)) hb); clear HO_4; clear HO_5; clear HO_9; clear HO_295000; clear HO_295001; clear BK286; clear BK294; clear HB; have HO_4 := n0_; have HO_5 := n1_; have HO_9 := n2_; have HO_295000 := n3_; have HO_295001 := n4_; have BK286 := n5_; have BK294 := n6_; have HB := n7_; clear n0_ n1_ n2_ n3_ n4_ n5_ n6_ n7_; (try clear hb); (try clear hb2); (try clear hk); (try clear hi); obtain ⟨Ao50, co50, eo50⟩ := Kd.R_slice HO_4.out; subst eo50; have p308 : 0 ≤ (t307 : Int) := of_decide_eq_true (by first | (with_reducible assumption) | assumption); have q308 : t307 < (x4_2.length : Int) := of_decide_eq_true (by first | (with_reducible assumption) | assumption); obtain ⟨ad308, e308, hx308_0⟩ := Kd.at_int (Kd.R_reads' HO_4.out).2.2 t307 p308 q308; cases e308; replace p308 := eq_true p308; replace q308 := eq_true q308; have p43 : 0 ≤ (t307 : Int) := of_decide_eq_true (by first | (with_reducible assumption) | assumption); have q43 : (t307 : Int) < ((x4_2.length : Int) : Int) := of_decide_eq_true (by first | (with_reducible assumption) | assumption); obtain ⟨go43, co43, eo43, gb43, gl43, cl43, HG43⟩ := Kd.R_form HO_4.out (by omega); (first | cases eo43 | (injection eo43 with ea_ en_ ec_; (first | subst ea_ | (injection ea_ with ea_; subst ea_)); subst ec_; clear en_)); have GB43 := Ai0.mk gb43; have GG43 := Ai0.mk HG43; clear gb43 gl43 HG43; (first | simp only [add_plain] at hx308_0 | skip); obtain ⟨hx43_0, hf43_0⟩ := Kd.R_celln 0 HO_4.out (t307 : Int) p43 q43; replace p43 := eq_true p43; replace q43 := eq_true q43; obtain ⟨hy51_, hz51_⟩ := Kd.R_celln 0 HO_4.out (t307 : Int) (of_decide_eq_true (by first | (with_reducible assumption) | assumption)) (of_decide_eq_true (by first | (with_reducible assumption) | assumption)); have HP51 := Kd.R_putg HO_4.out (t307 : Int) (wrap64 (1 - (rd x4_2 t307)))) | ((with_reducible refine gate_store (t := 3) (p := 64) rfl ?_); refine store_event (t := 3) (p := 64) (v := ?vo_w52) (w1 := (w49.setCell ⟨go43, (t307 : Int).toNat, none⟩ (.int .i64 (wrap64 (1 - (rd x4_2 t307)))))) ?hg ?ho ?hn ?hr ?_; (case ho => rfl); (case hg => rfl); (case hn => rfl); (case hr => first | (go_simp; done) | (go_simp; rfl)); intro w52 hw; have hg : w49.grownBy w52 (some go43) := (by rw [hw]; exact HP51.2); have hp_ : Kd.R (Kd.int .i64) 3 w52 w.heap.size (fun k_ => some k_ ≠ (u5 : Value).ownBlock) (.slice (some ⟨go43, 0, none⟩) x4_2.length co50) y309 := (by rw [hw, Ny309.out]; exact HP51.1); clear HP51; have n0_ := Ai0.mk (hp_); have n1_ := Ai0.mk (Kd.R_after (v := (.slice (some ⟨go43, 0, none⟩) x4_2.length co50)) (v1 := (.slice (some ⟨go43, 0, none⟩) x4_2.length co50)) (ok := (fun _ => True)) (by (with_reducible repeat (first | apply Kd.Ra1 | apply Kd.Rn1 | apply Kd.Rd1)); exact Kd.R_mono HO_5.out (fun _ hk => ⟨trivial, hk⟩)) hg (.inl rfl)); have n2_ := Ai0.mk (Kd.R_over' (v := (.slice (some ⟨go43, 0, none⟩) x4_2.length co50)) (by (with_reducible repeat (first | apply Kd.Ra1 | apply Kd.Rn1 | apply Kd.Rd1)); exact HO_9.out) (Kd.R_typed HO_4.out) (by decide) hg); have n3_ := Ai0.mk (Kd.S_after (v := (.slice (some ⟨go43, 0, none⟩) x4_2.length co50)) (v1 := (.slice (some ⟨go43, 0, none⟩) x4_2.length co50)) (ok := (fun k_ => some k_ ≠ (u5 : Value).ownBlock)) (by (with_reducible repeat (first | apply Kd.S_alloc | apply Kd.S_drewN | apply Kd.S_drew)); exact Kd.S_mono HO_295000.out (fun _ hk => ⟨hk.2, hk.1⟩)) hg (.inl rfl)); have n4_ := Ai0.mk (Kd.S_over' (v := (.slice (some ⟨go43, 0, none⟩) x4_2.length co50)) (by (with_reducible repeat (first | apply Kd.S_alloc | apply Kd.S_drewN | apply Kd.S_drew)); exact HO_295001.out) (Kd.R_typed HO_4.out) (by decide) hg); have n5_ := Ai0.mk (blk_grown (g := gb286) (o := .cells #[.int .i64 a0_0, .slice A0_1 l0_1.length c0_1] 24 (0, 0)) (by (with_reducible repeat (first | refine kn1 ?_ _ | refine kd1 ?_ | refine ka1 ?_ _)); exact BK286.out) hg (Kd.R_ne HO_4.out BK286.out (by decide))); have n6_ := Ai0.mk (blk_grown (g := gb294) (o := .cells #[.slice Ao15 t287.length co15, .slice Ao14 t290.length co14] 73 (0, 0)) (by (with_reducible repeat (first | refine kn1 ?_ _ | refine kd1 ?_ | refine ka1 ?_ _)); exact BK294.out) hg (Kd.R_ne HO_4.out BK294.out (by decide))); have n7_ := Ai0.mk ((by rw [hw]; exact bs1 (HB.out) GB43.out : Below w.heap.size w w52)); clear HO_4; clear HO_5; clear HO_9; clear HO_295000; clear HO_295001; clear BK286; clear BK294; clear HB; have HO_4 := n0_; have HO_5 := n1_; have HO_9 := n2_; have HO_295000 := n3_; have HO_295001 := n4_; have BK286 := n5_; have BK294 := n6_; have HB := n7_; clear n0_ n1_ n2_ n3_ n4_ n5_ n6_ n7_; clear hg hw hp_) | ((with_reducible refine gate_builtin (b := .append) (xs := #[.tmp 65, .tmp 67]) rfl ?_); at_builtin; refine Kd.R_append (Kd.int .i64) (w0 := w) w.heap.size rfl (.tmp 65) (.tmp 67) 25 3 (.int .i64 0) 8 rfl Try.underlying25 info3 rfl (by decide) (by omega) u5 x5_2 t307 [.int .i64 t307] (fun k_ => some k_ ≠ (.slice (some ⟨go43, 0, none⟩) x4_2.length co50 : Value).ownBlock) (fun _ => False) rfl rfl ?aP (fun _ hk => hk.elim) ?aF ?aO ?aB ?aS ?aL ?_; (case aP => exact rfl); (case aB => exact (by repeat (first | (with_reducible first | exact HB.out | apply ba1 | apply pbN | apply bw1 | refine bs1 ?_ GE286.out | refine bs1 ?_ GE294.out) | exact HB.out))); (case aF => exact (fun k_ hk => Kd.fresh' (Kd.R_lt (by (with_reducible repeat (first | apply Kd.Ra1 | apply Kd.Rn1 | apply Kd.Rd1)); exact HO_4.out)) k_ hk)); (case aO => exact (by (with_reducible repeat (first | apply Kd.Ra1 | apply Kd.Rn1 | apply Kd.Rd1)); exact Kd.R_mono HO_5.out (fun _ hk => hk.2))); (case aS => exact (bz1 (by repeat (first | (with_reducible first | exact HB.out | apply ba1 | apply pbN | apply bw1 | refine bs1 ?_ GE286.out | refine bs1 ?_ GE294.out) | exact HB.out)))); (case aL => have := LMc44.out; omega); intro v311 w53 ho hb hg hat; rw [← Ny310.out] at ho; have n0_ := Ai0.mk (Kd.R_after (ok := (fun _ => True)) (by (with_reducible repeat (first | apply Kd.Ra1 | apply Kd.Rn1 | apply Kd.Rd1)); exact Kd.R_mono HO_4.out (fun _ hk => ⟨trivial, hk⟩)) hg hat); have n1_ := Ai0.mk (Kd.R_over' (by (with_reducible repeat (first | apply Kd.Ra1 | apply Kd.Rn1 | apply Kd.Rd1)); exact HO_9.out) (Kd.R_typed (by (with_reducible repeat (first | apply Kd.Ra1 | apply Kd.Rn1 | apply Kd.Rd1)); exact HO_5.out)) (by decide) hg); have n2_ := Ai0.mk (Kd.S_after (ok := (fun k_ => some k_ ≠ (.slice (some ⟨go43, 0, none⟩) x4_2.length co50 : Value).ownBlock)) (by (with_reducible repeat (first | apply Kd.S_alloc | apply Kd.S_drewN | apply Kd.S_drew)); exact Kd.S_mono HO_295000.out (fun _ hk => ⟨hk.2, hk.1⟩)) hg hat); have n3_ := Ai0.mk (Kd.S_over' (by (with_reducible repeat (first | apply Kd.S_alloc | apply Kd.S_drewN | apply Kd.S_drew)); exact HO_295001.out) (Kd.R_typed (by (with_reducible repeat (first | apply Kd.Ra1 | apply Kd.Rn1 | apply Kd.Rd1)); exact HO_5.out)) (by decide) hg); have n4_ := Ai0.mk (blk_grown (g := gb286) (o := .cells #[.int .i64 a0_0, .slice A0_1 l0_1.length c0_1] 24 (0, 0)) (by (with_reducible repeat (first | refine kn1 ?_ _ | refine kd1 ?_ | refine ka1 ?_ _)); exact BK286.out) hg (Kd.R_ne HO_5.out BK286.out (by decide))); have n5_ := Ai0.mk (blk_grown (g := gb294) (o := .cells #[.slice Ao15 t287.length co15, .slice Ao14 t290.length co14] 73 (0, 0)) (by (with_reducible repeat (first | refine kn1 ?_ _ | refine kd1 ?_ | refine ka1 ?_ _)); exact BK294.out) hg (Kd.R_ne HO_5.out BK294.out (by decide))); have n6_ := Ai0.mk (hb); have n7_ := Ai0.mk (ho); clear HO_4; clear HO_9; clear HO_295000; clear HO_295001; clear BK286; clear BK294; clear HB; clear HO_5; have HO_4 := n0_; have HO_9 := n1_; have HO_295000 := n2_; have HO_295001 := n3_; have BK286 := n4_; have BK294 := n5_; have HB := n6_; have HO312 := n7_; clear n0_ n1_ n2_ n3_ n4_ n5_ n6_ n7_; clear ho hb hg hat; have hcz54_0 : w53.cell? ⟨gb294, 0, none⟩ = some (.slice Ao15 t287.length co15) := (kc1 BK294.out 0).trans rfl; have hcz54_1 : w53.cell? ⟨gb294, 1, none⟩ = some (.slice Ao14 t290.length co14) := (kc1 BK294.out 1).trans rfl; have hfz54_0 := kf1 BK294.out 0; have hfz54_1 := kf1 BK294.out 1; have p313 : 0 ≤ (t307 : Int) := of_decide_eq_true (by first | (with_reducible assumption) | assumption); have q313 : t307 < (t290.length : Int) := of_decide_eq_true (by first | (with_reducible assumption) | assumption); obtain ⟨ad313, A313_0, c313_0, e313, hx313_0, hl313_0, hi313_0⟩ := at_L9 (Kd.S_reads' HO_295001.out).2.2 t307 p313 q313; cases e313; obtain ⟨ce313, hce313, hMe313, hcc313⟩ := Kd.S_get HO_295001.out [] t307 p313 (by first | exact q313 | exact of_decide_eq_true (by first | (with_reducible assumption) | assumption) | (have e_ := (Kd.S_reads' HO_295001.out).1; omega)); obtain ⟨ve313_0, rfl, ge313_0⟩ := hMe313; have hv313_0 := hcc313 0 _ rfl; rw [Nat.add_zero, show ((Kd.slice 77 k77)).sz = 1 from rfl, Nat.mul_one] at hv313_0; replace hv313_0 := Option.some.inj (hv313_0.symm.trans hx313_0); rw [hv313_0] at ge313_0; have HL313_0 := Ai0.mk (show Kd.R k77 77 _ _ _ _ (rd_L9 t290 t307) from ge313_0); clear hv313_0 ge313_0; clear hcc313 hce313; have HR313_0 := Ai0.mk hi313_0; have HC313_0 := Ai0.mk hl313_0; clear hi313_0 hl313_0; replace p313 := eq_true p313; replace q313 := eq_true q313))
                go_loopg [77] k2 (fun kq v77 w' => ∃ (x9_3 : List Bool) (x77_3 : Int), v77 = .int .i64 x77_3 ∧ Ai0 (message_Flip.l2 kq y309 y310 x9_3 (rd_L9 t290 t307) ((rd_L9 t290 t307).length : Int) x77_3 t287 t290 = some (r1, r2, r3)) ∧ Ai0 (kq ≤ k2) ∧ Ai0 (Kd.R (Kd.int .i64) 3 w' w.heap.size (fun k_ => some k_ ≠ (v311 : Value).ownBlock) (.slice (some ⟨go43, 0, none⟩) x4_2.length co50) y309) ∧ Ai0 (Kd.R (Kd.int .i64) 3 w' w.heap.size (fun k_ => some k_ ≠ ((.slice (some ⟨go43, 0, none⟩) x4_2.length co50) : Value).ownBlock) v311 y310) ∧ Ai0 (Kd.R Kd.bool 4 w' w.heap.size (fun _ => True) (.slice Ao48 x9_2.length co48) x9_3) ∧ Ai0 (Kd.S (Kd.slice 3 (Kd.int .i64)) 25 w' w.heap.size (fun k_ => some k_ ≠ ((.slice (some ⟨go43, 0, none⟩) x4_2.length co50) : Value).ownBlock ∧ some k_ ≠ (v311 : Value).ownBlock) (.slice Ao15 t287.length co15) t287) ∧ Ai0 (Kd.S (Kd.slice 77 k77) 75 w' w.heap.size (fun _ => True) (.slice (some ad313) t290.length co14) t290) ∧ Ai0 (w'.heap[gb286]? = some (.cells #[.int .i64 a0_0, (.slice A0_1 l0_1.length c0_1)] 24 (0, 0))) ∧ Ai0 (w'.heap[gb294]? = some (.cells #[(.slice Ao15 t287.length co15), (.slice (some ad313) t290.length co14)] 73 (0, 0))) ∧ Ai0 (Below w.heap.size w w') ∧ Ai0 (Kd.R k77 77 w' w.heap.size (fun _ => True) (.slice A313_0 (rd_L9 t290 t307).length c313_0) (rd_L9 t290 t307)))
                case atStart => exact ⟨(x9_2), (0), (by first | rfl | (simp; done) | (simp [*]; done)), H', ⟨Nat.le_refl _⟩, ⟨by (with_reducible repeat (first | apply Kd.Ra1 | apply Kd.Rn1 | apply Kd.Rd1)); exact Kd.R_mono HO_4.out (fun _ hk => hk.2)⟩, ⟨by (with_reducible repeat (first | apply Kd.Ra1 | apply Kd.Rn1 | apply Kd.Rd1)); exact HO312.out⟩, ⟨by (with_reducible repeat (first | apply Kd.Ra1 | apply Kd.Rn1 | apply Kd.Rd1)); exact HO_9.out⟩, ⟨by (with_reducible repeat (first | apply Kd.S_alloc | apply Kd.S_drewN | apply Kd.S_drew)); exact HO_295000.out⟩, ⟨by (with_reducible repeat (first | apply Kd.S_alloc | apply Kd.S_drewN | apply Kd.S_drew)); exact HO_295001.out⟩, ⟨by (with_reducible repeat (first | refine kn1 ?_ _ | refine kd1 ?_ | refine ka1 ?_ _)); exact BK286.out⟩, ⟨by (with_reducible repeat (first | refine kn1 ?_ _ | refine kd1 ?_ | refine ka1 ?_ _)); exact BK294.out⟩, ⟨by repeat (first | (with_reducible first | exact HB.out | apply ba1 | apply pbN | apply bw1 | refine bs1 ?_ GE286.out | refine bs1 ?_ GE294.out) | exact HB.out)⟩, ⟨by (with_reducible repeat (first | apply Kd.Ra1 | apply Kd.Rn1 | apply Kd.Rd1)); exact Kd.R_mono HL313_0.out (fun _ _ => trivial)⟩⟩
                case round =>
                 clear H'
                 try clear c1
                 try clear c2
                 try clear p2
                 try clear c3
                 try clear p3
                 try clear q3
                 try clear hx3
                 try clear hf3
                 try clear c4
                 try clear c4b0
                 try clear c4b1
                 try clear p4
                 try clear q4
                 try clear hx4
                 try clear hf4
                 try clear c5
                 try clear c6
                 try clear c6b0
                 try clear c6b1
                 try clear p6
                 try clear c7
                 try clear c8
                 try clear c8b0
                 try clear c8b1
                 try clear c9
                 try clear c9b0
                 try clear c9b1
                 try clear c17
                 try clear c24
                 try clear c27
                 try clear c27b0
                 try clear c28
                 try clear c28b0
                 try clear c29
                 try clear c29b0
                 try clear c30
                 try clear c30b0
                 try clear p30
                 try clear q30
                 try clear hx30
                 try clear c31
                 try clear c31b0
                 try clear p31
                 try clear q31
                 try clear hx31
                 try clear p32
                 try clear q32
                 try clear hx32
                 try clear hf32
                 try clear c36
                 try clear c36b0
                 try clear c37
                 try clear c41
                 try clear c41b0
                 try clear c42
                 try clear c42b0
                 try clear p43
                 try clear q43
                 try clear hx43
                 try clear hf43
                 try clear c44
                 try clear c45
                 try clear c45b0
                 try clear c46
                 try clear c49
                 try clear c52
                 try clear c53
                 try clear hcz12_0
                 try clear hcz12_1
                 try clear hcz18_0
                 try clear hcz18_1
                 try clear hcz21_0
                 try clear hcz21_1
                 try clear hcz24_0
                 try clear hcz24_1
                 try clear hcz38_0
                 try clear hcz38_1
                 try clear hcz47_0
                 try clear hcz47_1
                 try clear hcz54_0
                 try clear hcz54_1
                 try clear hfz12_0
                 try clear hfz12_1
                 try clear hfz18_0
                 try clear hfz18_1
                 try clear hfz21_0
                 try clear hfz21_1
                 try clear hfz24_0
                 try clear hfz24_1
                 try clear hfz38_0
                 try clear hfz38_1
                 try clear hfz47_0
                 try clear hfz47_1
                 try clear hfz54_0
                 try clear hfz54_1
                 try clear hx305_0
                 try clear hx308_0
                 try clear hx313_0
                 try clear hx32_0
                 try clear hx43_0
                 try clear p2
                 try clear p3
                 try clear p30
                 try clear p305
                 try clear p308
                 try clear p313
                 try clear p32
                 try clear p43
                 try clear p6
                 try clear q3
                 try clear q30
                 try clear q305
                 try clear q308
                 try clear q313
                 try clear q32
                 try clear q43
                 obtain ⟨x9_3, x77_3, rfl, HA, HK3, HO_4, HO_5, HO_9, HO_295000, HO_295001, BK286, BK294, HB, HLq⟩ := hrel;have hl4_3 := (Kd.R_reads' HO_4.out).1;rw [hl4_3] at HO_4;(try simp only [hl4_3]);(try simp only [hl4_3] at BK286);(try simp only [hl4_3] at BK294);(try simp only [hl4_3] at HO_5);(try simp only [hl4_3] at HO_9);(try simp only [hl4_3] at HO_295000);(try simp only [hl4_3] at HO_295001);have hl9_3 := (Kd.R_reads' HO_9.out).1;rw [hl9_3] at HO_9;(try simp only [hl9_3]);(try simp only [hl9_3] at BK286);(try simp only [hl9_3] at BK294);(try simp only [hl9_3] at HO_4);(try simp only [hl9_3] at HO_5);(try simp only [hl9_3] at HO_295000);(try simp only [hl9_3] at HO_295001)
                 cases gk with
                 | zero => exact absurd HA.out (by simp [message_Flip.l2])
                 | succ k3 =>
                  have H := HA.out;clear HA;simp only [message_Flip.l2] at H;by_cases c55 : x77_3 < ((rd_L9 t290 t307).length : Int)
                  ·rw [if_pos c55] at H;have c55b0 : decide (x77_3 < ((rd_L9 t290 t307).length : Int)) = true := decide_eq_true c55;(try (have c55b0h0 := c55b0; simp only [hl4_3] at c55b0h0));(try (have c55b0h1 := c55b0; simp only [hl9_3] at c55b0h1));clear c55;by_cases c56 : 0 ≤ x77_3
                   ·rw [if_pos c56] at H;have c56b0 : decide (0 ≤ x77_3) = true := decide_eq_true c56;clear c56;by_cases c57 : x77_3 < ((rd_L9 t290 t307).length : Int)
                    ·rw [if_pos c57] at H;have c57b0 : decide (x77_3 < ((rd_L9 t290 t307).length : Int)) = true := decide_eq_true c57;(try (have c57b0h0 := c57b0; simp only [hl4_3] at c57b0h0));(try (have c57b0h1 := c57b0; simp only [hl9_3] at c57b0h1));clear c57;by_cases c58 : 0 ≤ ((rd_T77 (rd_L9 t290 t307) x77_3).f0)
                     ·rw [if_pos c58] at H;have c58b0 : decide (0 ≤ ((rd_T77 (rd_L9 t290 t307) x77_3).f0)) = true := decide_eq_true c58;clear c58;by_cases c59 : ((rd_T77 (rd_L9 t290 t307) x77_3).f0) < (x9_3.length : Int)
                      ·rw [if_pos c59] at H;have c59b0 : decide (((rd_T77 (rd_L9 t290 t307) x77_3).f0) < (x9_3.length : Int)) = true := decide_eq_true c59;(try (have c59b0h0 := c59b0; simp only [hl4_3] at c59b0h0));(try (have c59b0h1 := c59b0; simp only [hl9_3] at c59b0h1));clear c59;(obtain ⟨y317, hy317⟩ : ∃ y_ : List Bool, y_ = (x9_3.set (((rd_T77 (rd_L9 t290 t307) x77_3).f0) : Int).toNat (!(rdOf false x9_3 ((rd_T77 (rd_L9 t290 t307) x77_3).f0)))) := ⟨_, rfl⟩);(replace H : (message_Flip.l2 k3 y309 y310 y317 (rd_L9 t290 t307) ((rd_L9 t290 t307).length : Int) (wrap64 (x77_3 + 1)) t287 t290) = some (r1, r2, r3) := by first | (rw [hy317]; with_reducible exact H) | (have H2_ := (Option.bind_some _ _).symm.trans H; rw [hy317]; with_reducible exact H2_) | (have H2_ := (Option.bind_some _ _).symm.trans H; with_reducible exact H2_) | with_reducible exact H | (rw [hy317]; exact H) | exact H);have Ny317 := Ai0.mk hy317;clear hy317;have H' := Ai0.mk H;clear H;have p314 : 0 ≤ (x77_3 : Int) := of_decide_eq_true (by first | (with_reducible assumption) | assumption);have q314 : x77_3 < ((rd_L9 t290 t307).length : Int) := of_decide_eq_true (by first | (with_reducible assumption) | assumption);obtain ⟨ad314, e314, hx314_0, hx314_1⟩ := at_T77 (Kd.R_reads' HLq.out).2.2 x77_3 p314 q314;cases e314;replace p314 := eq_true p314;replace q314 := eq_true q314
                       try go_wp2_with (first | ((with_reducible refine gate_dst (N := 14) rfl ?_); refine box_event ?hg (N := 14) ?hd (cs := #[.int .i64 0, .int .i64 0]) (t := 77) ?hr ?_; (case hd => rfl); (case hg => rfl); (case hr => first | (go_simp; done) | (go_simp; rfl)); intro gb315 hg w61 hbox hb; have nq_ := Ai0.mk (Kd.R_below (Kd.R_elderB (by (with_reducible repeat (first | apply Kd.Ra1 | apply Kd.Rn1 | apply Kd.Rd1)); exact HLq.out) gb315 (Nat.le_of_eq hg.symm)) hb); clear HLq; have HLq := nq_; clear nq_; have n0_ := Ai0.mk (Kd.R_below (by (with_reducible repeat (first | apply Kd.Ra1 | apply Kd.Rn1 | apply Kd.Rd1)); exact HO_4.out) hb); have n1_ := Ai0.mk (Kd.R_below (by (with_reducible repeat (first | apply Kd.Ra1 | apply Kd.Rn1 | apply Kd.Rd1)); exact HO_5.out) hb); have n2_ := Ai0.mk (Kd.R_below (by (with_reducible repeat (first | apply Kd.Ra1 | apply Kd.Rn1 | apply Kd.Rd1)); exact HO_9.out) hb); have n3_ := Ai0.mk (Kd.S_below (by (with_reducible repeat (first | apply Kd.S_alloc | apply Kd.S_drewN | apply Kd.S_drew)); exact HO_295000.out) hb); have n4_ := Ai0.mk (Kd.S_below (Kd.S_elderB (by (with_reducible repeat (first | apply Kd.S_alloc | apply Kd.S_drewN | apply Kd.S_drew)); exact HO_295001.out) gb315 (Nat.le_of_eq hg.symm)) hb); have n5_ := Ai0.mk (kb1 (g := gb286) (o := .cells #[.int .i64 a0_0, .slice A0_1 l0_1.length c0_1] 24 (0, 0)) (by (with_reducible repeat (first | refine kn1 ?_ _ | refine kd1 ?_ | refine ka1 ?_ _)); exact BK286.out) hb); have n6_ := Ai0.mk (kb1 (g := gb294) (o := .cells #[.slice Ao15 t287.length co15, .slice (some ad313) t290.length co14] 73 (0, 0)) (by (with_reducible repeat (first | refine kn1 ?_ _ | refine kd1 ?_ | refine ka1 ?_ _)); exact BK294.out) hb); have n7_ := Ai0.mk (bt1 (by repeat (first | (with_reducible first | exact HB.out | apply ba1 | apply pbN | apply bw1 | refine bs1 ?_ GE286.out | refine bs1 ?_ GE294.out) | exact HB.out)) hb); have n8_ := Ai0.mk (hbox); have n9_ := Ai0.mk ((by rw [hg]; exact (bz1 (by repeat (first | (with_reducible first | exact HB.out | apply ba1 | apply pbN | apply bw1 | refine bs1 ?_ GE286.out | refine bs1 ?_ GE294.out) | exact HB.out))) : w.heap.size ≤ gb315)); have n10_ := Ai0.mk ((by rw [hg]; exact (bz1 (by repeat (first | (with_reducible first | exact HB.out | apply ba1 | apply pbN | apply bw1 | refine bs1 ?_ GE286.out | refine bs1 ?_ GE294.out) | exact HB.out))) : w.heap.size ≤ gb315)); have n11_ := Ai0.mk ((by rw [hg]; exact Nat.ne_of_lt (blk_lt (g := gb286) (o := .cells #[.int .i64 a0_0, .slice A0_1 l0_1.length c0_1] 24 (0, 0)) (by (with_reducible repeat (first | refine kn1 ?_ _ | refine kd1 ?_ | refine ka1 ?_ _)); exact BK286.out)) : gb286 ≠ gb315)); have n12_ := Ai0.mk ((by rw [hg]; exact Nat.ne_of_gt (blk_lt (g := gb286) (o := .cells #[.int .i64 a0_0, .slice A0_1 l0_1.length c0_1] 24 (0, 0)) (by (with_reducible repeat (first | refine kn1 ?_ _ | refine kd1 ?_ | refine ka1 ?_ _)); exact BK286.out)) : gb315 ≠ gb286)); have n13_ := Ai0.mk ((by rw [hg]; exact Nat.ne_of_lt (blk_lt (g := gb294) (o := .cells #[.slice Ao15 t287.length co15, .slice (some ad313) t290.length co14] 73 (0, 0)) (by (with_reducible repeat (first | refine kn1 ?_ _ | refine kd1 ?_ | refine ka1 ?_ _)); exact BK294.out)) : gb294 ≠ gb315)); have n14_ := Ai0.mk ((by rw [hg]; exact Nat.ne_of_gt (blk_lt (g := gb294) (o := .cells #[.slice Ao15 t287.length co15, .slice (some ad313) t290.length co14] 73 (0, 0)) (by (with_reducible repeat (first | refine kn1 ?_ _ | refine kd1 ?_ | refine ka1 ?_ _)); exact BK294.out)) : gb315 ≠ gb294)); clear HO_4; clear HO_5; clear HO_9; clear HO_295000; clear HO_295001; clear BK286; clear BK294; clear HB; have HO_4 := n0_; have HO_5 := n1_; have HO_9 := n2_; have HO_295000 := n3_; have HO_295001 := n4_; have BK286 := n5_; have BK294 := n6_; have HB := n7_; have BK315 := n8_; have GW315 := n9_; have GE315 := n10_; have NB286_315 := n11_; have NB315_286 := n12_; have NB294_315 := n13_; have NB315_294 := n14_; clear n0_ n1_ n2_ n3_ n4_ n5_ n6_ n7_ n8_ n9_ n10_ n11_ n12_ n13_ n14_; clear hb hbox hg; have hnb62 := NB315_286.out; have hnc62 := NB286_315.out; have hnb63 := NB315_294.out; have hnc63 := NB294_315.out; have hcz64_0 : w61.cell? ⟨gb315, 0, none⟩ = some (.int .i64 0) := (kc1 BK315.out 0).trans rfl; have hcz64_1 : w61.cell? ⟨gb315, 1, none⟩ = some (.int .i64 0) := (kc1 BK315.out 1).trans rfl; have hfz64_0 := kf1 BK315.out 0; have hfz64_1 := kf1 BK315.out 1))
                       have n0_ : Ai0 (Kd.R (Kd.int .i64) 3 ((w61.setCell ⟨gb315, 0, none⟩ (.int .i64 ((rd_T77 (rd_L9 t290 t307) x77_3).f0))).setCell ⟨gb315, 1, none⟩ (.int .i64 ((rd_T77 (rd_L9 t290 t307) x77_3).f1))) w.heap.size (fun k_ => some k_ ≠ (v311 : Value).ownBlock) (.slice (some ⟨go43, 0, none⟩) y309.length co50) y309) := ⟨by (with_reducible repeat (first | apply Kd.Ra1 | apply Kd.Rn1 | apply Kd.Rd1)); exact Kd.R_mono (Kd.R_far (p := ⟨gb315, 1, none⟩) (Kd.R_far (p := ⟨gb315, 0, none⟩) (Kd.R_types HO_4.out BK315.out (by decide)) (fun _ hk => hk.2) (.int .i64 ((rd_T77 (rd_L9 t290 t307) x77_3).f0))) (fun _ hk => hk.2) (.int .i64 ((rd_T77 (rd_L9 t290 t307) x77_3).f1))) (fun _ hk => hk.1)⟩;have n1_ : Ai0 (Kd.R (Kd.int .i64) 3 ((w61.setCell ⟨gb315, 0, none⟩ (.int .i64 ((rd_T77 (rd_L9 t290 t307) x77_3).f0))).setCell ⟨gb315, 1, none⟩ (.int .i64 ((rd_T77 (rd_L9 t290 t307) x77_3).f1))) w.heap.size (fun k_ => some k_ ≠ (.slice (some ⟨go43, 0, none⟩) y309.length co50 : Value).ownBlock) v311 y310) := ⟨by (with_reducible repeat (first | apply Kd.Ra1 | apply Kd.Rn1 | apply Kd.Rd1)); exact Kd.R_mono (Kd.R_far (p := ⟨gb315, 1, none⟩) (Kd.R_far (p := ⟨gb315, 0, none⟩) (Kd.R_types HO_5.out BK315.out (by decide)) (fun _ hk => hk.2) (.int .i64 ((rd_T77 (rd_L9 t290 t307) x77_3).f0))) (fun _ hk => hk.2) (.int .i64 ((rd_T77 (rd_L9 t290 t307) x77_3).f1))) (fun _ hk => hk.1)⟩;have n2_ : Ai0 (Kd.R Kd.bool 4 ((w61.setCell ⟨gb315, 0, none⟩ (.int .i64 ((rd_T77 (rd_L9 t290 t307) x77_3).f0))).setCell ⟨gb315, 1, none⟩ (.int .i64 ((rd_T77 (rd_L9 t290 t307) x77_3).f1))) w.heap.size (fun _ => True) (.slice Ao48 x9_3.length co48) x9_3) := ⟨by (with_reducible repeat (first | apply Kd.Ra1 | apply Kd.Rn1 | apply Kd.Rd1)); exact Kd.R_mono (Kd.R_far (p := ⟨gb315, 1, none⟩) (Kd.R_far (p := ⟨gb315, 0, none⟩) (Kd.R_types HO_9.out BK315.out (by decide)) (fun _ hk => hk.2) (.int .i64 ((rd_T77 (rd_L9 t290 t307) x77_3).f0))) (fun _ hk => hk.2) (.int .i64 ((rd_T77 (rd_L9 t290 t307) x77_3).f1))) (fun _ hk => trivial)⟩;have n3_ : Ai0 (Kd.S (Kd.slice 3 (Kd.int .i64)) 25 ((w61.setCell ⟨gb315, 0, none⟩ (.int .i64 ((rd_T77 (rd_L9 t290 t307) x77_3).f0))).setCell ⟨gb315, 1, none⟩ (.int .i64 ((rd_T77 (rd_L9 t290 t307) x77_3).f1))) w.heap.size (fun k_ => some k_ ≠ (.slice (some ⟨go43, 0, none⟩) y309.length co50 : Value).ownBlock ∧ some k_ ≠ (v311 : Value).ownBlock) (.slice Ao15 t287.length co15) t287) := ⟨by (with_reducible repeat (first | apply Kd.S_alloc | apply Kd.S_drewN | apply Kd.S_drew)); exact Kd.S_mono (Kd.S_far (p := ⟨gb315, 1, none⟩) (Kd.S_far (p := ⟨gb315, 0, none⟩) (Kd.S_types HO_295000.out BK315.out (by decide)) (fun _ hk => hk.2) (.int .i64 ((rd_T77 (rd_L9 t290 t307) x77_3).f0))) (fun _ hk => hk.2) (.int .i64 ((rd_T77 (rd_L9 t290 t307) x77_3).f1))) (fun _ hk => ⟨hk.1.1, hk.1.2⟩)⟩;have n4_ : Ai0 (Kd.S (Kd.slice 77 k77) 75 ((w61.setCell ⟨gb315, 0, none⟩ (.int .i64 ((rd_T77 (rd_L9 t290 t307) x77_3).f0))).setCell ⟨gb315, 1, none⟩ (.int .i64 ((rd_T77 (rd_L9 t290 t307) x77_3).f1))) w.heap.size (fun k_ => k_ ≠ gb315) (.slice (some ad313) t290.length co14) t290) := ⟨by (with_reducible repeat (first | apply Kd.S_alloc | apply Kd.S_drewN | apply Kd.S_drew)); exact Kd.S_mono (Kd.S_far (p := ⟨gb315, 1, none⟩) (Kd.S_far (p := ⟨gb315, 0, none⟩) (Kd.S_mono HO_295001.out (fun k_ hk => (⟨hk, hk.2⟩ : _ ∧ k_ ≠ gb315))) (fun _ hk => hk.2) (.int .i64 ((rd_T77 (rd_L9 t290 t307) x77_3).f0))) (fun _ hk => hk.2) (.int .i64 ((rd_T77 (rd_L9 t290 t307) x77_3).f1))) (fun _ hk => hk.1.2)⟩;have nq_ : Ai0 (Kd.R k77 77 ((w61.setCell ⟨gb315, 0, none⟩ (.int .i64 ((rd_T77 (rd_L9 t290 t307) x77_3).f0))).setCell ⟨gb315, 1, none⟩ (.int .i64 ((rd_T77 (rd_L9 t290 t307) x77_3).f1))) w.heap.size (fun k_ => k_ ≠ gb315) (.slice (some ad314) (rd_L9 t290 t307).length c313_0) (rd_L9 t290 t307)) := ⟨by (with_reducible repeat (first | apply Kd.Ra1 | apply Kd.Rn1 | apply Kd.Rd1)); exact Kd.R_mono (Kd.R_far (p := ⟨gb315, 1, none⟩) (Kd.R_far (p := ⟨gb315, 0, none⟩) (Kd.R_mono HLq.out (fun k_ hk => (⟨hk, hk.2⟩ : _ ∧ k_ ≠ gb315))) (fun _ hk => hk.2) (.int .i64 ((rd_T77 (rd_L9 t290 t307) x77_3).f0))) (fun _ hk => hk.2) (.int .i64 ((rd_T77 (rd_L9 t290 t307) x77_3).f1))) (fun _ hk => hk.1.2)⟩;have n5_ : Ai0 (((w61.setCell ⟨gb315, 0, none⟩ (.int .i64 ((rd_T77 (rd_L9 t290 t307) x77_3).f0))).setCell ⟨gb315, 1, none⟩ (.int .i64 ((rd_T77 (rd_L9 t290 t307) x77_3).f1))).heap[gb286]? = some (.cells #[.int .i64 a0_0, .slice A0_1 l0_1.length c0_1] 24 (0, 0))) := ⟨by (with_reducible repeat (first | refine kn1 ?_ _ | refine kd1 ?_ | refine ka1 ?_ _)); refine blk_far ?_ NB286_315.out _; (with_reducible repeat (first | refine kn1 ?_ _ | refine kd1 ?_ | refine ka1 ?_ _)); refine blk_far ?_ NB286_315.out _; (with_reducible repeat (first | refine kn1 ?_ _ | refine kd1 ?_ | refine ka1 ?_ _)); exact BK286.out⟩;have n6_ : Ai0 (((w61.setCell ⟨gb315, 0, none⟩ (.int .i64 ((rd_T77 (rd_L9 t290 t307) x77_3).f0))).setCell ⟨gb315, 1, none⟩ (.int .i64 ((rd_T77 (rd_L9 t290 t307) x77_3).f1))).heap[gb294]? = some (.cells #[.slice Ao15 t287.length co15, .slice (some ad313) t290.length co14] 73 (0, 0))) := ⟨by (with_reducible repeat (first | refine kn1 ?_ _ | refine kd1 ?_ | refine ka1 ?_ _)); refine blk_far ?_ NB294_315.out _; (with_reducible repeat (first | refine kn1 ?_ _ | refine kd1 ?_ | refine ka1 ?_ _)); refine blk_far ?_ NB294_315.out _; (with_reducible repeat (first | refine kn1 ?_ _ | refine kd1 ?_ | refine ka1 ?_ _)); exact BK294.out⟩;have n7_ : Ai0 (((w61.setCell ⟨gb315, 0, none⟩ (.int .i64 ((rd_T77 (rd_L9 t290 t307) x77_3).f0))).setCell ⟨gb315, 1, none⟩ (.int .i64 ((rd_T77 (rd_L9 t290 t307) x77_3).f1))).heap[gb315]? = some (.cells #[.int .i64 ((rd_T77 (rd_L9 t290 t307) x77_3).f0), .int .i64 ((rd_T77 (rd_L9 t290 t307) x77_3).f1)] 77 (0, 0))) := ⟨by (with_reducible repeat (first | refine kn1 ?_ _ | refine kd1 ?_ | refine ka1 ?_ _)); refine blk_put (cs := #[.int .i64 ((rd_T77 (rd_L9 t290 t307) x77_3).f0), .int .i64 0]) ?_ 1 _ rfl; (with_reducible repeat (first | refine kn1 ?_ _ | refine kd1 ?_ | refine ka1 ?_ _)); refine blk_put (cs := #[.int .i64 0, .int .i64 0]) ?_ 0 _ rfl; (with_reducible repeat (first | refine kn1 ?_ _ | refine kd1 ?_ | refine ka1 ?_ _)); exact BK315.out⟩;have n8_ : Ai0 (Below w.heap.size w ((w61.setCell ⟨gb315, 0, none⟩ (.int .i64 ((rd_T77 (rd_L9 t290 t307) x77_3).f0))).setCell ⟨gb315, 1, none⟩ (.int .i64 ((rd_T77 (rd_L9 t290 t307) x77_3).f1)))) := ⟨by repeat (first | (with_reducible first | exact HB.out | apply ba1 | apply pbN | apply bw1 | refine bs1 ?_ GE286.out | refine bs1 ?_ GE294.out | refine bs1 ?_ GE315.out) | exact HB.out)⟩;(try clear HO_4);(try clear HO_5);(try clear HO_9);(try clear HO_295000);(try clear HO_295001);(try clear BK286);(try clear BK294);(try clear BK315);(try clear HB);(generalize ((w61.setCell ⟨gb315, 0, none⟩ (.int .i64 ((rd_T77 (rd_L9 t290 t307) x77_3).f0))).setCell ⟨gb315, 1, none⟩ (.int .i64 ((rd_T77 (rd_L9 t290 t307) x77_3).f1))) = w65 at n0_ n1_ n2_ n3_ n4_ n5_ n6_ n7_ n8_ nq_ ⊢);have HO_4 := n0_;have HO_5 := n1_;have HO_9 := n2_;have HO_295000 := n3_;have HO_295001 := n4_;clear HLq;have HLq := nq_;clear nq_;have BK286 := n5_;have BK294 := n6_;have BK315 := n7_;have HB := n8_;clear n0_ n1_ n2_ n3_ n4_ n5_ n6_ n7_ n8_;have n0_ := Ai0.mk (Kd.Rd1 HO_4.out);have n1_ := Ai0.mk (Kd.Rd1 HO_5.out);have n2_ := Ai0.mk (Kd.Rd1 HO_9.out);have n3_ := Ai0.mk (Kd.S_drew HO_295000.out);have n4_ := Ai0.mk (Kd.S_drew HO_295001.out);have nq_ := Ai0.mk (Kd.Rd1 HLq.out);clear HLq;have HLq := nq_;clear nq_;have n5_ := Ai0.mk (kd1 BK286.out);have n6_ := Ai0.mk (kd1 BK294.out);have n7_ := Ai0.mk (kd1 BK315.out);have n8_ := Ai0.mk (bw1 HB.out);clear HO_4;clear HO_5;clear HO_9;clear HO_295000;clear HO_295001;clear BK286;clear BK294;clear BK315;clear HB;have HO_4 := n0_;have HO_5 := n1_;have HO_9 := n2_;have HO_295000 := n3_;have HO_295001 := n4_;have BK286 := n5_;have BK294 := n6_;have BK315 := n7_;have HB := n8_;clear n0_ n1_ n2_ n3_ n4_ n5_ n6_ n7_ n8_;have p316 : 0 ≤ (((rd_T77 (rd_L9 t290 t307) x77_3).f0) : Int) := of_decide_eq_true (by first | (with_reducible assumption) | assumption);have q316 : ((rd_T77 (rd_L9 t290 t307) x77_3).f0) < (x9_3.length : Int) := of_decide_eq_true (by first | (with_reducible assumption) | assumption);obtain ⟨ad316, e316, hx316_0⟩ := Kd.at_bool (Kd.R_reads' HO_9.out).2.2 ((rd_T77 (rd_L9 t290 t307) x77_3).f0) p316 q316;cases e316;replace p316 := eq_true p316;replace q316 := eq_true q316;have p60 : 0 ≤ (((rd_T77 (rd_L9 t290 t307) x77_3).f0) : Int) := of_decide_eq_true (by first | (with_reducible assumption) | assumption);have q60 : (((rd_T77 (rd_L9 t290 t307) x77_3).f0) : Int) < ((x9_3.length : Int) : Int) := of_decide_eq_true (by first | (with_reducible assumption) | assumption);obtain ⟨go60, co60, eo60, gb60, gl60, cl60, HG60⟩ := Kd.R_form HO_9.out (by omega);(first | cases eo60 | (injection eo60 with ea_ en_ ec_; (first | subst ea_ | (injection ea_ with ea_; subst ea_)); subst ec_; clear en_));have GB60 := Ai0.mk gb60;have GG60 := Ai0.mk HG60;clear gb60 gl60 HG60;(first | simp only [add_plain] at hx316_0 | skip);obtain ⟨hx60_0, hf60_0⟩ := Kd.R_celln false HO_9.out (((rd_T77 (rd_L9 t290 t307) x77_3).f0) : Int) p60 q60;replace p60 := eq_true p60;replace q60 := eq_true q60;have HP67 := Kd.R_putn HO_9.out (((rd_T77 (rd_L9 t290 t307) x77_3).f0) : Int) (!(rdOf false x9_3 ((rd_T77 (rd_L9 t290 t307) x77_3).f0)));rw [← Ny317.out] at HP67;have HQ67 := Ai0.mk HP67;clear HP67;refine start_ (n := 11) (S := fun w' => w'.cell? ⟨gb315, 0, none⟩ = some (.int .i64 ((rd_T77 (rd_L9 t290 t307) x77_3).f0)) ∧ w'.cell? ⟨gb315, 1, none⟩ = some (.int .i64 ((rd_T77 (rd_L9 t290 t307) x77_3).f1)) ∧ w'.cell? ⟨go60, ((((rd_T77 (rd_L9 t290 t307) x77_3).f0)) : Int).toNat, none⟩ = some (.bool (rdOf false x9_3 ((rd_T77 (rd_L9 t290 t307) x77_3).f0)))) (ds := [10]) #[false, false, false, false, false, false, false, false, false, false, false] (by kernel_rfl) rfl rfl ⟨(kc1 BK315.out 0).trans rfl, (kc1 BK315.out 1).trans rfl, hx316_0⟩ (fun hHeld => ?_); refine with_tabW message_Flip.tab22 message_Flip.bits22 (fun HT_ HW_ => ?_);(generalize w65.drew = w66 at HO_4 HO_5 HO_9 HO_295000 HO_295001 BK286 BK294 BK315 HB HLq GG60 HQ67 hf60_0 hx316_0 hx60_0 hHeld ⊢);refine pure_ (i := 0) (N := some 81) (v := ?_) (a' := ?_) #[true, false, false, false, false, false, false, false, false, false, false] rfl rfl (any_of HT_.out (by kernel_rfl)) (fun _ _ _ h => h) (Or.inl ⟨by rfl, ?_⟩) ?_ ?_;rotate_left
                       ·intro w';go_simp
                        with_reducible rfl
                       rotate_left
                       ·simp only [Act.put, l01_, l02_, l03_, i64_w, i32_w]
                        rfl
                       refine pure_ (i := 1) (N := some 82) (v := ?_) (a' := ?_) #[true, true, false, false, false, false, false, false, false, false, false] rfl rfl (any_of HT_.out (by kernel_rfl)) (fun _ _ _ h => h) (Or.inl ⟨by rfl, ?_⟩) ?_ ?_;rotate_left
                       ·intro w';go_simp
                        with_reducible rfl
                       rotate_left
                       ·simp only [Act.put, l01_, l02_, l03_, i64_w, i32_w]
                        rfl
                       refine pure_ (i := 3) (N := some 84) (v := ?_) (a' := ?_) #[true, true, false, true, false, false, false, false, false, false, false] rfl rfl (any_of HT_.out (by kernel_rfl)) (fun _ _ _ h => h) (Or.inl ⟨by rfl, ?_⟩) ?_ ?_;rotate_left
                       ·intro w';go_simp
                        with_reducible rfl
                       rotate_left
                       ·simp only [Act.put, l01_, l02_, l03_, i64_w, i32_w]
                        rfl
                       refine pure_ (i := 4) (N := some 85) (v := ?_) (a' := ?_) #[true, true, false, true, true, false, false, false, false, false, false] rfl rfl (any_of HT_.out (by kernel_rfl)) (fun _ _ _ h => h) (Or.inl ⟨by rfl, ?_⟩) ?_ ?_;rotate_left
                       ·intro w';go_simp
                        with_reducible rfl
                       rotate_left
                       ·simp only [Act.put, l01_, l02_, l03_, i64_w, i32_w]
                        rfl
                       refine take_ (i := 2) (N := some 83) (v := ?_) (a' := ?_) #[true, true, true, true, true, false, false, false, false, false, false] rfl rfl (take_ofW HT_.out HW_.out (by kernel_rfl)) (fun _ _ _ h => h) (Or.inl ⟨by rfl, ?_⟩) hHeld ?_ ?_;rotate_left
                       ·rintro w' ⟨s0, s1, s2⟩
                        go_simp
                        with_reducible rfl
                       rotate_left
                       ·simp only [Act.put, l01_, l02_, l03_, i64_w, i32_w]
                        rfl
                       refine take_ (i := 5) (N := some 86) (v := ?_) (a' := ?_) #[true, true, true, true, true, true, false, false, false, false, false] rfl rfl (take_ofW HT_.out HW_.out (by kernel_rfl)) (fun _ _ _ h => h) (Or.inl ⟨by rfl, ?_⟩) hHeld ?_ ?_;rotate_left
                       ·rintro w' ⟨s0, s1, s2⟩
                        go_simp
                        with_reducible rfl
                       rotate_left
                       ·simp only [Act.put, l01_, l02_, l03_, i64_w, i32_w]
                        rfl
                       refine pure_ (i := 6) (N := some 87) (v := ?_) (a' := ?_) #[true, true, true, true, true, true, true, false, false, false, false] rfl rfl (any_of HT_.out (by kernel_rfl)) (fun _ _ _ h => h) (Or.inl ⟨by rfl, ?_⟩) ?_ ?_;rotate_left
                       ·intro w';go_simp
                        with_reducible rfl
                       rotate_left
                       ·simp only [Act.put, l01_, l02_, l03_, i64_w, i32_w]
                        rfl
                       refine take_ (i := 7) (N := some 88) (v := ?_) (a' := ?_) #[true, true, true, true, true, true, true, true, false, false, false] rfl rfl (take_ofW HT_.out HW_.out (by kernel_rfl)) (fun _ _ _ h => h) (Or.inl ⟨by rfl, ?_⟩) hHeld ?_ ?_;rotate_left
                       ·rintro w' ⟨s0, s1, s2⟩
                        go_simp
                        with_reducible rfl
                       rotate_left
                       ·simp only [Act.put, l01_, l02_, l03_, i64_w, i32_w]
                        rfl
                       refine pure_ (i := 8) (N := some 89) (v := ?_) (a' := ?_) #[true, true, true, true, true, true, true, true, true, false, false] rfl rfl (any_of HT_.out (by kernel_rfl)) (fun _ _ _ h => h) (Or.inl ⟨by rfl, ?_⟩) ?_ ?_;rotate_left
                       ·intro w';go_simp
                        with_reducible rfl
                       rotate_left
                       ·simp only [Act.put, l01_, l02_, l03_, i64_w, i32_w]
                        rfl
                       refine pure_ (i := 9) (N := some 90) (v := ?_) (a' := ?_) #[true, true, true, true, true, true, true, true, true, true, false] rfl rfl (any_of HT_.out (by kernel_rfl)) (fun _ _ _ h => h) (Or.inl ⟨by rfl, ?_⟩) ?_ ?_;rotate_left
                       ·intro w';go_simp
                        with_reducible rfl
                       rotate_left
                       ·simp only [Act.put, l01_, l02_, l03_, i64_w, i32_w]
                        rfl
                       refine last_ (i := 10) (N := none) #[true, true, true, true, true, true, true, true, true, true, true] rfl rfl (one_of HT_.out (by kernel_rfl)) (by decide) (fun K hK => ?_);refine skip_ (w1 := ?_) (by rfl) rfl ?_ ?_;rotate_left
                       ·go_simp
                        rfl
                       refine hK.out _ _ ?_;clear hK K;refine done_ (done_of HT_.out (by kernel_rfl)) ?_
                       try go_wp2
                       (try simp only [← hl4_3, ← hl9_3])
                       go_roundg k3
                       case measure => have := HK1.out; have := HK2.out; have := HK3.out; omega
                       case rel => exact ⟨(y317), (wrap64 (x77_3 + 1)), (by first | rfl | (simp; done) | (simp [*]; done)), H', ⟨by have := HK1.out; have := HK2.out; have := HK3.out; omega⟩, ⟨by (try simp only [hl4_3]); (try simp only [hl9_3]); (with_reducible repeat (first | apply Kd.Ra1 | apply Kd.Rn1 | apply Kd.Rd1)); exact Kd.R_mono (Kd.R_far (p := ⟨go60, (((rd_T77 (rd_L9 t290 t307) x77_3).f0) : Int).toNat, none⟩) (Kd.R_types HO_4.out GG60.out (by decide)) (fun _ hk => hk.2) (.bool (!(rdOf false x9_3 ((rd_T77 (rd_L9 t290 t307) x77_3).f0))))) (fun _ hk => hk.1)⟩, ⟨by (try simp only [hl4_3]); (try simp only [hl9_3]); (with_reducible repeat (first | apply Kd.Ra1 | apply Kd.Rn1 | apply Kd.Rd1)); exact Kd.R_mono (Kd.R_far (p := ⟨go60, (((rd_T77 (rd_L9 t290 t307) x77_3).f0) : Int).toNat, none⟩) (Kd.R_types HO_5.out GG60.out (by decide)) (fun _ hk => hk.2) (.bool (!(rdOf false x9_3 ((rd_T77 (rd_L9 t290 t307) x77_3).f0))))) (fun _ hk => hk.1)⟩, ⟨by (try simp only [hl4_3]); (try simp only [hl9_3]); (with_reducible repeat (first | apply Kd.Ra1 | apply Kd.Rn1 | apply Kd.Rd1)); exact HQ67.out⟩, ⟨by (try simp only [hl4_3]); (try simp only [hl9_3]); (with_reducible repeat (first | apply Kd.S_alloc | apply Kd.S_drewN | apply Kd.S_drew)); exact Kd.S_mono (Kd.S_far (p := ⟨go60, (((rd_T77 (rd_L9 t290 t307) x77_3).f0) : Int).toNat, none⟩) (Kd.S_types HO_295000.out GG60.out (by decide)) (fun _ hk => hk.2) (.bool (!(rdOf false x9_3 ((rd_T77 (rd_L9 t290 t307) x77_3).f0))))) (fun _ hk => ⟨hk.1.1, hk.1.2⟩)⟩, ⟨by (try simp only [hl4_3]); (try simp only [hl9_3]); (with_reducible repeat (first | apply Kd.S_alloc | apply Kd.S_drewN | apply Kd.S_drew)); exact Kd.S_mono (Kd.S_far (p := ⟨go60, (((rd_T77 (rd_L9 t290 t307) x77_3).f0) : Int).toNat, none⟩) (Kd.S_types HO_295001.out GG60.out (by decide)) (fun _ hk => hk.2) (.bool (!(rdOf false x9_3 ((rd_T77 (rd_L9 t290 t307) x77_3).f0))))) (fun _ hk => trivial)⟩, ⟨by (try simp only [hl4_3]); (try simp only [hl9_3]); (with_reducible repeat (first | refine kn1 ?_ _ | refine kd1 ?_ | refine ka1 ?_ _)); refine blk_far ?_ (by have h_ := Kd.R_ne HO_9.out BK286.out (by decide); intro e_; exact h_ (by rw [e_]; rfl)) _; (with_reducible repeat (first | refine kn1 ?_ _ | refine kd1 ?_ | refine ka1 ?_ _)); exact BK286.out⟩, ⟨by (try simp only [hl4_3]); (try simp only [hl9_3]); (with_reducible repeat (first | refine kn1 ?_ _ | refine kd1 ?_ | refine ka1 ?_ _)); refine blk_far ?_ (by have h_ := Kd.R_ne HO_9.out BK294.out (by decide); intro e_; exact h_ (by rw [e_]; rfl)) _; (with_reducible repeat (first | refine kn1 ?_ _ | refine kd1 ?_ | refine ka1 ?_ _)); exact BK294.out⟩, ⟨by repeat (first | (with_reducible first | exact HB.out | apply ba1 | apply pbN | apply bw1 | refine bs1 ?_ GB60.out | refine bs1 ?_ GE286.out | refine bs1 ?_ GE294.out | refine bs1 ?_ GE315.out) | exact HB.out)⟩, ⟨by (try simp only [hl4_3]); (try simp only [hl9_3]); (with_reducible repeat (first | apply Kd.Ra1 | apply Kd.Rn1 | apply Kd.Rd1)); exact Kd.R_mono (Kd.R_far (p := ⟨go60, (((rd_T77 (rd_L9 t290 t307) x77_3).f0) : Int).toNat, none⟩) (Kd.R_types HLq.out GG60.out (by decide)) (fun _ hk => hk.2) (.bool (!(rdOf false x9_3 ((rd_T77 (rd_L9 t290 t307) x77_3).f0))))) (fun _ hk => trivial)⟩⟩
                      ·rw [if_neg c59] at H;exact absurd H (by simp)
                     ·rw [if_neg c58] at H;exact absurd H (by simp)
                    ·rw [if_neg c57] at H;exact absurd H (by simp)
                   ·rw [if_neg c56] at H;exact absurd H (by simp)
                  ·rw [if_neg c55] at H;have c55b0 : decide (x77_3 < ((rd_L9 t290 t307).length : Int)) = false := decide_eq_false c55;(try (have c55b0h0 := c55b0; simp only [hl4_3] at c55b0h0));(try (have c55b0h1 := c55b0; simp only [hl9_3] at c55b0h1));clear c55;have H' := Ai0.mk H;clear H
                   go_wp2
                   (try simp only [← hl4_3, ← hl9_3])
                   go_roundg k3
                   case measure => have := HK1.out; have := HK2.out; have := HK3.out; omega
                   case rel => exact ⟨(y309), (y310), (x9_3), H', ⟨by have := HK1.out; have := HK2.out; have := HK3.out; omega⟩, ⟨by (try simp only [hl4_3]); (try simp only [hl9_3]); (with_reducible repeat (first | apply Kd.Ra1 | apply Kd.Rn1 | apply Kd.Rd1)); exact HO_4.out⟩, ⟨by (try simp only [hl4_3]); (try simp only [hl9_3]); (with_reducible repeat (first | apply Kd.Ra1 | apply Kd.Rn1 | apply Kd.Rd1)); exact HO_5.out⟩, ⟨by (try simp only [hl4_3]); (try simp only [hl9_3]); (with_reducible repeat (first | apply Kd.Ra1 | apply Kd.Rn1 | apply Kd.Rd1)); exact HO_9.out⟩, ⟨by (try simp only [hl4_3]); (try simp only [hl9_3]); (with_reducible repeat (first | apply Kd.S_alloc | apply Kd.S_drewN | apply Kd.S_drew)); exact HO_295000.out⟩, ⟨by (try simp only [hl4_3]); (try simp only [hl9_3]); (with_reducible repeat (first | apply Kd.S_alloc | apply Kd.S_drewN | apply Kd.S_drew)); exact HO_295001.out⟩, ⟨by (try simp only [hl4_3]); (try simp only [hl9_3]); (with_reducible repeat (first | refine kn1 ?_ _ | refine kd1 ?_ | refine ka1 ?_ _)); exact BK286.out⟩, ⟨by (try simp only [hl4_3]); (try simp only [hl9_3]); (with_reducible repeat (first | refine kn1 ?_ _ | refine kd1 ?_ | refine ka1 ?_ _)); exact BK294.out⟩, ⟨by repeat (first | (with_reducible first | exact HB.out | apply ba1 | apply pbN | apply bw1 | refine bs1 ?_ GE286.out | refine bs1 ?_ GE294.out) | exact HB.out)⟩⟩
               ·rw [if_neg c45] at H;exact absurd H (by simp)
              ·rw [if_neg c44] at H;exact absurd H (by simp)
             ·rw [if_neg c42] at H;exact absurd H (by simp)
            ·rw [if_neg c41] at H;exact absurd H (by simp)
     ·rw [if_neg c9] at H;exact absurd H (by simp)
    ·rw [if_neg c8] at H;exact absurd H (by simp)
   ·rw [if_neg c7] at H;exact absurd H (by simp)
  ·rw [if_neg c6] at H;have c6b0 : (t295 == 0) = false := beq_eq_false_iff_ne.mpr c6;have c6b1 : (t295 != 0) = true := bne_iff_ne.mpr c6;simp only [Option.some.injEq, Prod.mk.injEq] at H;obtain ⟨rfl, rfl, rfl⟩ := H;go_enter Try.func24, Try.ntmps24
   go_wp2_with (first | ((with_reducible refine gate_dst (N := 2) rfl ?_); refine box_event ?hg (N := 2) ?hd (cs := #[.int .i64 a0_0, .slice A0_1 l0_1.length c0_1]) (t := 24) ?hr ?_; (case hd => rfl); (case hg => rfl); (case hr => first | (go_simp; done) | (go_simp; rfl)); intro gb286 hg w68 hbox hb; have n0_ := Ai0.mk (bt1 (by repeat (first | (with_reducible first | exact HB.out | apply ba1 | apply pbN | apply bw1) | exact HB.out)) hb); have n1_ := Ai0.mk (hbox); have n2_ := Ai0.mk ((by rw [hg]; exact (bz1 (by repeat (first | (with_reducible first | exact HB.out | apply ba1 | apply pbN | apply bw1) | exact HB.out))) : w.heap.size ≤ gb286)); have n3_ := Ai0.mk ((by rw [hg]; exact (bz1 (by repeat (first | (with_reducible first | exact HB.out | apply ba1 | apply pbN | apply bw1) | exact HB.out))) : w.heap.size ≤ gb286)); clear HB; have HB := n0_; have BK286 := n1_; have GW286 := n2_; have GE286 := n3_; clear n0_ n1_ n2_ n3_; clear hb hbox hg; have hcz69_0 : w68.cell? ⟨gb286, 0, none⟩ = some (.int .i64 a0_0) := (kc1 BK286.out 0).trans rfl; have hcz69_1 : w68.cell? ⟨gb286, 1, none⟩ = some (.slice A0_1 l0_1.length c0_1) := (kc1 BK286.out 1).trans rfl; have hfz69_0 := kf1 BK286.out 0; have hfz69_1 := kf1 BK286.out 1) | ((with_reducible refine gate_callee (f := 44) rfl ?_); refine goesL_ (some 17) rfl rfl Try.func44 (by kernel_rfl) rfl #[.agg #[.int .i64 a0_0, .slice A0_1 l0_1.length c0_1]] rfl (by (try simp only [List.map_toArray, List.map_cons, List.map_nil]); first | done | rfl | (simp only [List.length_drop, List.length_take]; rfl)) ?_; (with_reducible refine (message_build.calls k a0_0 _ _ l0_1 t287 t290 t293 _ ?side1 ?side2 A3.out).mono ?_); (case side1 => repeat (first | exact (Kd.C_below HR0_1.out HB.out) | (with_reducible refine Kd.C_alloc ?_ _) | (with_reducible refine Kd.C_drewN ?_ _) | (with_reducible refine Kd.C_drew ?_))); (case side2 => exact HC0_1.out); rintro e w70 ⟨gg_, rfl, hb, hbu_⟩; obtain ⟨gb294, v288, v291, rfl, hge_, hbk_, ho0, ho1⟩ := Built.ok hbu_ (beq_iff_eq.mp c4b0); refine ⟨_, rfl, ?_⟩; have BK294 := Ai0.mk hbk_; have GE294 := Ai0.mk (Nat.le_trans (bz1 (by repeat (first | (with_reducible first | exact HB.out | apply ba1 | apply pbN | apply bw1 | refine bs1 ?_ GE286.out) | exact HB.out))) hge_); have GW294 := GE294; have NB286_294 := Ai0.mk (Nat.ne_of_lt (Nat.lt_of_lt_of_le (blk_lt (g := gb286) (o := .cells #[.int .i64 a0_0, .slice A0_1 l0_1.length c0_1] 24 (0, 0)) (by (with_reducible repeat (first | refine kn1 ?_ _ | refine kd1 ?_ | refine ka1 ?_ _)); exact BK286.out)) hge_)); have NB294_286 := Ai0.mk (Ne.symm NB286_294.out); clear hbk_ hge_ hbu_; have n0_ := Ai0.mk (Kd.S_lower ho0 (bz1 (by repeat (first | (with_reducible first | exact HB.out | apply ba1 | apply pbN | apply bw1 | refine bs1 ?_ GE286.out) | exact HB.out)))); have n1_ := Ai0.mk (Kd.S_lower ho1 (bz1 (by repeat (first | (with_reducible first | exact HB.out | apply ba1 | apply pbN | apply bw1 | refine bs1 ?_ GE286.out) | exact HB.out)))); have n2_ := Ai0.mk (kb1 (g := gb286) (o := .cells #[.int .i64 a0_0, .slice A0_1 l0_1.length c0_1] 24 (0, 0)) (by (with_reducible repeat (first | refine kn1 ?_ _ | refine kd1 ?_ | refine ka1 ?_ _)); exact BK286.out) hb); have n3_ := Ai0.mk (bt1 (by repeat (first | (with_reducible first | exact HB.out | apply ba1 | apply pbN | apply bw1 | refine bs1 ?_ GE286.out) | exact HB.out)) hb); clear BK286; clear HB; have HO289 := n0_; have HO292 := n1_; have BK286 := n2_; have HB := n3_; clear n0_ n1_ n2_ n3_; (try clear hb); (try clear hb2); (try clear hk); (try clear hi); (try clear ho0); (try clear ho1); obtain ⟨Ao71, co71, eo71⟩ := Kd.S_slice HO292.out; subst eo71; obtain ⟨Ao72, co72, eo72⟩ := Kd.S_slice HO289.out; subst eo72; have hnb74 := NB286_294.out; have hnc74 := NB294_286.out; have hcz75_0 : w70.cell? ⟨gb286, 0, none⟩ = some (.int .i64 a0_0) := (kc1 BK286.out 0).trans rfl; have hcz75_1 : w70.cell? ⟨gb286, 1, none⟩ = some (.slice A0_1 l0_1.length c0_1) := (kc1 BK286.out 1).trans rfl; have hfz75_0 := kf1 BK286.out 0; have hfz75_1 := kf1 BK286.out 1) | ((with_reducible refine gate_callee (f := 52) rfl ?_); refine goesL_ (some 25) rfl rfl Try.func52 (by kernel_rfl) rfl #[.agg #[.int .i64 a0_0, .slice A0_1 l0_1.length c0_1], .slice A1 l1.length c1] rfl (by (try simp only [List.map_toArray, List.map_cons, List.map_nil]); first | done | rfl | (simp only [List.length_drop, List.length_take]; rfl)) ?_; (with_reducible refine (message_bitsOf.calls k a0_0 _ _ l0_1 _ _ l1 t295 _ ?side1 ?side2 ?side3 ?side4 A5.out).mono ?_); (case side1 => repeat (first | exact (Kd.C_below HR0_1.out HB.out) | (with_reducible refine Kd.C_alloc ?_ _) | (with_reducible refine Kd.C_drewN ?_ _) | (with_reducible refine Kd.C_drew ?_))); (case side2 => exact HC0_1.out); (case side3 => repeat (first | exact (Kd.C_below HR1.out HB.out) | (with_reducible refine Kd.C_alloc ?_ _) | (with_reducible refine Kd.C_drewN ?_ _) | (with_reducible refine Kd.C_drew ?_))); (case side4 => exact HC1.out); rintro e w76 ⟨rfl, hb⟩; refine ⟨_, rfl, ?_⟩; have n0_ := Ai0.mk (Kd.S_below (by (with_reducible repeat (first | apply Kd.S_alloc | apply Kd.S_drewN | apply Kd.S_drew)); exact HO289.out) hb); have n1_ := Ai0.mk (Kd.S_below (by (with_reducible repeat (first | apply Kd.S_alloc | apply Kd.S_drewN | apply Kd.S_drew)); exact HO292.out) hb); have n2_ := Ai0.mk (kb1 (g := gb286) (o := .cells #[.int .i64 a0_0, .slice A0_1 l0_1.length c0_1] 24 (0, 0)) (by (with_reducible repeat (first | refine kn1 ?_ _ | refine kd1 ?_ | refine ka1 ?_ _)); exact BK286.out) hb); have n3_ := Ai0.mk (kb1 (g := gb294) (o := .cells #[.slice Ao72 t287.length co72, .slice Ao71 t290.length co71] 73 (0, 0)) (by (with_reducible repeat (first | refine kn1 ?_ _ | refine kd1 ?_ | refine ka1 ?_ _)); exact BK294.out) hb); have n4_ := Ai0.mk (bt1 (by repeat (first | (with_reducible first | exact HB.out | apply ba1 | apply pbN | apply bw1 | refine bs1 ?_ GE286.out | refine bs1 ?_ GE294.out) | exact HB.out)) hb); clear HO289; clear HO292; clear BK286; clear BK294; clear HB; have HO289 := n0_; have HO292 := n1_; have BK286 := n2_; have BK294 := n3_; have HB := n4_; clear n0_ n1_ n2_ n3_ n4_; (try clear hb); (try clear hb2); (try clear hk); (try clear hi)))
   go_ret3
   exact ⟨_, _, by first | rfl | (simp [eW0, eW1] <;> rfl) | (simp [*, eW0, eW1] <;> rfl), by first | exact Kd.R_nil _ _ _ _ _ | exact Kd.N_nil _ _ _ _ _ | exact Kd.V_nil _ _ _ _ _ | exact Kd.Q_nil _ _ _ _ _ | exact Kd.S_nil _ _ _ _ _, by first | exact Kd.R_nil _ _ _ _ _ | exact Kd.N_nil _ _ _ _ _ | exact Kd.V_nil _ _ _ _ _ | exact Kd.Q_nil _ _ _ _ _ | exact Kd.S_nil _ _ _ _ _, by repeat (first | (with_reducible first | exact HB.out | apply ba1 | apply pbN | apply bw1 | refine bs1 ?_ GE286.out | refine bs1 ?_ GE294.out) | exact HB.out)⟩
 ·rw [if_neg c4] at H;have c4b0 : (t293 == 0) = false := beq_eq_false_iff_ne.mpr c4;have c4b1 : (t293 != 0) = true := bne_iff_ne.mpr c4;simp only [Option.some.injEq, Prod.mk.injEq] at H;obtain ⟨rfl, rfl, rfl⟩ := H;go_enter Try.func24, Try.ntmps24
  go_wp2_with (first | ((with_reducible refine gate_dst (N := 2) rfl ?_); refine box_event ?hg (N := 2) ?hd (cs := #[.int .i64 a0_0, .slice A0_1 l0_1.length c0_1]) (t := 24) ?hr ?_; (case hd => rfl); (case hg => rfl); (case hr => first | (go_simp; done) | (go_simp; rfl)); intro gb286 hg w77 hbox hb; have n0_ := Ai0.mk (bt1 (by repeat (first | (with_reducible first | exact HB.out | apply ba1 | apply pbN | apply bw1) | exact HB.out)) hb); have n1_ := Ai0.mk (hbox); have n2_ := Ai0.mk ((by rw [hg]; exact (bz1 (by repeat (first | (with_reducible first | exact HB.out | apply ba1 | apply pbN | apply bw1) | exact HB.out))) : w.heap.size ≤ gb286)); have n3_ := Ai0.mk ((by rw [hg]; exact (bz1 (by repeat (first | (with_reducible first | exact HB.out | apply ba1 | apply pbN | apply bw1) | exact HB.out))) : w.heap.size ≤ gb286)); clear HB; have HB := n0_; have BK286 := n1_; have GW286 := n2_; have GE286 := n3_; clear n0_ n1_ n2_ n3_; clear hb hbox hg; have hcz78_0 : w77.cell? ⟨gb286, 0, none⟩ = some (.int .i64 a0_0) := (kc1 BK286.out 0).trans rfl; have hcz78_1 : w77.cell? ⟨gb286, 1, none⟩ = some (.slice A0_1 l0_1.length c0_1) := (kc1 BK286.out 1).trans rfl; have hfz78_0 := kf1 BK286.out 0; have hfz78_1 := kf1 BK286.out 1) | ((with_reducible refine gate_callee (f := 44) rfl ?_); refine goesL_ (some 17) rfl rfl Try.func44 (by kernel_rfl) rfl #[.agg #[.int .i64 a0_0, .slice A0_1 l0_1.length c0_1]] rfl (by (try simp only [List.map_toArray, List.map_cons, List.map_nil]); first | done | rfl | (simp only [List.length_drop, List.length_take]; rfl)) ?_; (with_reducible refine (message_build.calls k a0_0 _ _ l0_1 t287 t290 t293 _ ?side1 ?side2 A3.out).mono ?_); (case side1 => repeat (first | exact (Kd.C_below HR0_1.out HB.out) | (with_reducible refine Kd.C_alloc ?_ _) | (with_reducible refine Kd.C_drewN ?_ _) | (with_reducible refine Kd.C_drew ?_))); (case side2 => exact HC0_1.out); rintro e w79 ⟨gg_, rfl, hb, hbu_⟩; obtain rfl := Built.no hbu_ (beq_eq_false_iff_ne.mp c4b0); clear hbu_; refine ⟨_, rfl, ?_⟩; have n2_ := Ai0.mk (kb1 (g := gb286) (o := .cells #[.int .i64 a0_0, .slice A0_1 l0_1.length c0_1] 24 (0, 0)) (by (with_reducible repeat (first | refine kn1 ?_ _ | refine kd1 ?_ | refine ka1 ?_ _)); exact BK286.out) hb); have n3_ := Ai0.mk (bt1 (by repeat (first | (with_reducible first | exact HB.out | apply ba1 | apply pbN | apply bw1 | refine bs1 ?_ GE286.out) | exact HB.out)) hb); clear BK286; clear HB; have BK286 := n2_; have HB := n3_; clear n2_ n3_; (try clear hb); (try clear hb2); (try clear hk); (try clear hi); (try clear ho0); (try clear ho1)))
  go_ret3
  exact ⟨_, _, by first | rfl | (simp [eW0, eW1] <;> rfl) | (simp [*, eW0, eW1] <;> rfl), by first | exact Kd.R_nil _ _ _ _ _ | exact Kd.N_nil _ _ _ _ _ | exact Kd.V_nil _ _ _ _ _ | exact Kd.Q_nil _ _ _ _ _ | exact Kd.S_nil _ _ _ _ _, by first | exact Kd.R_nil _ _ _ _ _ | exact Kd.N_nil _ _ _ _ _ | exact Kd.V_nil _ _ _ _ _ | exact Kd.Q_nil _ _ _ _ _ | exact Kd.S_nil _ _ _ _ _, by repeat (first | (with_reducible first | exact HB.out | apply ba1 | apply pbN | apply bw1 | refine bs1 ?_ GE286.out | refine bs1 ?_ GE294.out) | exact HB.out)⟩
mutual
def crM_Next.l0 : Nat → List Int → Int → Int → List (List Int) → Option (Int)
 | 0, _, _, _, _ => none
 | k + 1, x1, x5, x448000, x448001 => if x5 < x448000 then (crM_Next.l1 k x1 x5 0 0 x448000 x448001) else (some (-1))
def crM_Next.l1 : Nat → List Int → Int → Int → Int → Int → List (List Int) → Option (Int)
 | 0, _, _, _, _, _, _ => none
 | k + 1, x1, x5, x6, x7, x448000, x448001 => if x7 < (x448001.length : Int) then (if 0 ≤ x7 then (if 0 ≤ x5 then (if x5 < ((rd_L1 x448001 x7).length : Int) then (if (rd (rd_L1 x448001 x7) x5) = 1 then ((crM_Odd.f k (rd_L1 x448001 x7) x1).bind fun t451 => (crM_Next.j2 k x1 x5 x6 x7 t451 x448000 x448001)) else (crM_Next.j2 k x1 x5 x6 x7 false x448000 x448001)) else (none)) else (none)) else (none)) else (if x6 > 0 then (some x5) else (crM_Next.l0 k x1 (wrap64 (x5 + 1)) x448000 x448001))
def crM_Next.j2 : Nat → List Int → Int → Int → Int → Bool → Int → List (List Int) → Option (Int)
 | 0, _, _, _, _, _, _, _ => none
 | k + 1, x1, x5, x6, x7, x38, x448000, x448001 => if x38 = true then (crM_Next.l1 k x1 x5 (wrap64 (x6 + 1)) (wrap64 (x7 + 1)) x448000 x448001) else (if 0 ≤ x7 then (if x7 < (x448001.length : Int) then (if 0 ≤ x5 then (if x5 < ((rd_L1 x448001 x7).length : Int) then (if (rd (rd_L1 x448001 x7) x5) = 1 then (crM_Next.l1 k x1 x5 (wrap64 (x6 - 1)) (wrap64 (x7 + 1)) x448000 x448001) else (crM_Next.l1 k x1 x5 x6 (wrap64 (x7 + 1)) x448000 x448001)) else (none)) else (none)) else (none)) else (none))
end
def crM_Next.f (k : Nat) (a0_0 : Int) (l0_1 : List (List Int)) (l1 : List Int) : Option (Int) := crM_Next.l0 k l1 0 a0_0 l0_1
theorem crM_Next.mono_l : ∀ k, (∀ y0 y1 y2 y3, LeO (crM_Next.l0 k y0 y1 y2 y3) (crM_Next.l0 (k + 1) y0 y1 y2 y3)) ∧ (∀ y0 y1 y2 y3 y4 y5, LeO (crM_Next.l1 k y0 y1 y2 y3 y4 y5) (crM_Next.l1 (k + 1) y0 y1 y2 y3 y4 y5)) ∧ (∀ y0 y1 y2 y3 y4 y5 y6, LeO (crM_Next.j2 k y0 y1 y2 y3 y4 y5 y6) (crM_Next.j2 (k + 1) y0 y1 y2 y3 y4 y5 y6))
 | 0 => ⟨fun _ _ _ _ r h => by simp [crM_Next.l0] at h, fun _ _ _ _ _ _ r h => by simp [crM_Next.l1] at h, fun _ _ _ _ _ _ _ r h => by simp [crM_Next.j2] at h⟩
 | k + 1 => by
  obtain ⟨ih0, ih1, ih2⟩ := crM_Next.mono_l k;refine ⟨?_, ?_, ?_⟩
  ·intro y0 y1 y2 y3;unfold crM_Next.l0
   repeat' first
   | (with_reducible exact ih0 _ _ _ _)
   | (with_reducible exact ih1 _ _ _ _ _ _)
   | (with_reducible exact ih2 _ _ _ _ _ _ _)
   | (with_reducible exact crM_Odd.mono _ _ _)
   | (with_reducible exact LeO.refl _)
   | (with_reducible exact LeO.none _)
   | (with_reducible refine LeO.ite ?_ ?_)
   | (with_reducible refine LeO.bind ?_ (fun _ => ?_))
   | exact ih0 _ _ _ _
   | exact ih1 _ _ _ _ _ _
   | exact ih2 _ _ _ _ _ _ _
   | exact crM_Odd.mono _ _ _
   | exact LeO.none _
   | refine LeO.ite ?_ ?_
   | refine LeO.bind ?_ (fun _ => ?_)
  ·intro y0 y1 y2 y3 y4 y5;unfold crM_Next.l1
   repeat' first
   | (with_reducible exact ih0 _ _ _ _)
   | (with_reducible exact ih1 _ _ _ _ _ _)
   | (with_reducible exact ih2 _ _ _ _ _ _ _)
   | (with_reducible exact crM_Odd.mono _ _ _)
   | (with_reducible exact LeO.refl _)
   | (with_reducible exact LeO.none _)
   | (with_reducible refine LeO.ite ?_ ?_)
   | (with_reducible refine LeO.bind ?_ (fun _ => ?_))
   | exact ih0 _ _ _ _
   | exact ih1 _ _ _ _ _ _
   | exact ih2 _ _ _ _ _ _ _
   | exact crM_Odd.mono _ _ _
   | exact LeO.none _
   | refine LeO.ite ?_ ?_
   | refine LeO.bind ?_ (fun _ => ?_)
  ·intro y0 y1 y2 y3 y4 y5 y6;unfold crM_Next.j2
   repeat' first
   | (with_reducible exact ih0 _ _ _ _)
   | (with_reducible exact ih1 _ _ _ _ _ _)
   | (with_reducible exact ih2 _ _ _ _ _ _ _)
   | (with_reducible exact crM_Odd.mono _ _ _)
   | (with_reducible exact LeO.refl _)
   | (with_reducible exact LeO.none _)
   | (with_reducible refine LeO.ite ?_ ?_)
   | (with_reducible refine LeO.bind ?_ (fun _ => ?_))
   | exact ih0 _ _ _ _
   | exact ih1 _ _ _ _ _ _
   | exact ih2 _ _ _ _ _ _ _
   | exact crM_Odd.mono _ _ _
   | exact LeO.none _
   | refine LeO.ite ?_ ?_
   | refine LeO.bind ?_ (fun _ => ?_)
theorem crM_Next.mono : ∀ a0 a1 a2 k, LeO (crM_Next.f k a0 a1 a2) (crM_Next.f (k + 1) a0 a1 a2) := by
 intro a0 a1 a2 k;obtain ⟨ih0, ih1, ih2⟩ := crM_Next.mono_l k;unfold crM_Next.f
 repeat' first
   | (with_reducible exact ih0 _ _ _ _)
   | (with_reducible exact ih1 _ _ _ _ _ _)
   | (with_reducible exact ih2 _ _ _ _ _ _ _)
   | (with_reducible exact crM_Odd.mono _ _ _)
   | (with_reducible exact LeO.refl _)
   | (with_reducible exact LeO.none _)
   | (with_reducible refine LeO.ite ?_ ?_)
   | (with_reducible refine LeO.bind ?_ (fun _ => ?_))
   | exact ih0 _ _ _ _
   | exact ih1 _ _ _ _ _ _
   | exact ih2 _ _ _ _ _ _ _
   | exact crM_Odd.mono _ _ _
   | exact LeO.none _
   | refine LeO.ite ?_ ?_
   | refine LeO.bind ?_ (fun _ => ?_)
set_option maxHeartbeats 8000000 in
set_option maxRecDepth 100000 in
theorem crM_Next.calls (k : Nat) (a0_0 : Int) (A0_1 : Option Addr) (c0_1 : Nat) (l0_1 : List (List Int)) (A1 : Option Addr) (c1 : Nat) (l1 : List Int) (r : Int) (w : World) (hr0_1 : Kd.C (Kd.slice 3 (Kd.int .i64)) w A0_1 l0_1.length l0_1) (hc0_1 : l0_1.length ≤ c0_1) (hr1 : Kd.C (Kd.int .i64) w A1 l1.length l1) (hc1 : l1.length ≤ c1) (h : crM_Next.f k a0_0 l0_1 l1 = some r) :
  Calls Try.prog 36 #[.agg #[.int .i64 a0_0, .slice A0_1 l0_1.length c0_1], .slice A1 l1.length c1] w fun e w' => e = .returned (.int .i64 r) ∧ Below w.heap.size w w' := by
 have hu24 := Try.underlying24;have HR0_1 := Ai0.mk hr0_1;have HC0_1 := Ai0.mk hc0_1;clear hr0_1 hc0_1;have HR1 := Ai0.mk hr1;have HC1 := Ai0.mk hc1;clear hr1 hc1;have HB := Ai0.mk (Below.refl w.heap.size w);have H : (crM_Next.l0 k l1 0 a0_0 l0_1) = some r := h;clear h;have H' := Ai0.mk H;clear H;go_enter Try.func36, Try.ntmps36
 go_wp2_with (first | ((with_reducible refine gate_dst (N := 2) rfl ?_); refine box_event ?hg (N := 2) ?hd (cs := #[.int .i64 a0_0, .slice A0_1 l0_1.length c0_1]) (t := 24) ?hr ?_; (case hd => rfl); (case hg => rfl); (case hr => first | (go_simp; done) | (go_simp; rfl)); intro gb447 hg w3 hbox hb; have n0_ := Ai0.mk (bt1 (by repeat (first | (with_reducible first | exact HB.out | apply ba1 | apply pbN | apply bw1) | exact HB.out)) hb); have n1_ := Ai0.mk (hbox); have n2_ := Ai0.mk ((by rw [hg]; exact (bz1 (by repeat (first | (with_reducible first | exact HB.out | apply ba1 | apply pbN | apply bw1) | exact HB.out))) : w.heap.size ≤ gb447)); have n3_ := Ai0.mk ((by rw [hg]; exact (bz1 (by repeat (first | (with_reducible first | exact HB.out | apply ba1 | apply pbN | apply bw1) | exact HB.out))) : w.heap.size ≤ gb447)); clear HB; have HB := n0_; have BK447 := n1_; have GW447 := n2_; have GE447 := n3_; clear n0_ n1_ n2_ n3_; clear hb hbox hg))
 go_loopg [5] k (fun kq v5 w' => ∃ (x5_1 : Int), v5 = .int .i64 x5_1 ∧ Ai0 (crM_Next.l0 kq l1 x5_1 a0_0 l0_1 = some r) ∧ Ai0 (kq ≤ k) ∧ Ai0 (w'.heap[gb447]? = some (.cells #[.int .i64 a0_0, (.slice A0_1 l0_1.length c0_1)] 24 (0, 0))) ∧ Ai0 (Below w.heap.size w w'))
 case atStart => exact ⟨(0), (by first | rfl | (simp; done) | (simp [*]; done)), H', ⟨Nat.le_refl _⟩, ⟨by (with_reducible repeat (first | refine kn1 ?_ _ | refine kd1 ?_ | refine ka1 ?_ _)); exact BK447.out⟩, ⟨by repeat (first | (with_reducible first | exact HB.out | apply ba1 | apply pbN | apply bw1 | refine bs1 ?_ GE447.out) | exact HB.out)⟩⟩
 case round =>
  clear H'
  try clear c1
  try clear p2
  try clear c3
  obtain ⟨x5_1, rfl, HA, HK1, BK447, HB⟩ := hrel
  cases gk with
  | zero => exact absurd HA.out (by simp [crM_Next.l0])
  | succ k1 =>
   have H := HA.out;clear HA;simp only [crM_Next.l0] at H;by_cases c4 : x5_1 < a0_0
   ·rw [if_pos c4] at H;have c4b0 : decide (x5_1 < a0_0) = true := decide_eq_true c4;clear c4;have H' := Ai0.mk H;clear H;have hcz5_0 : wr.cell? ⟨gb447, 0, none⟩ = some (.int .i64 a0_0) := (kc1 BK447.out 0).trans rfl;have hcz5_1 : wr.cell? ⟨gb447, 1, none⟩ = some (.slice A0_1 l0_1.length c0_1) := (kc1 BK447.out 1).trans rfl;have hfz5_0 := kf1 BK447.out 0;have hfz5_1 := kf1 BK447.out 1
    go_wp2
    go_loopg [6, 7] k1 (fun kq v6 v7 w' => ∃ (x6_2 : Int) (x7_2 : Int), v6 = .int .i64 x6_2 ∧ v7 = .int .i64 x7_2 ∧ Ai0 (crM_Next.l1 kq l1 x5_1 x6_2 x7_2 a0_0 l0_1 = some r) ∧ Ai0 (kq ≤ k1) ∧ Ai0 (w'.heap[gb447]? = some (.cells #[.int .i64 a0_0, (.slice A0_1 l0_1.length c0_1)] 24 (0, 0))) ∧ Ai0 (Below w.heap.size w w'))
    case atStart => exact ⟨(0), (0), (by first | rfl | (simp; done) | (simp [*]; done)), (by first | rfl | (simp; done) | (simp [*]; done)), H', ⟨Nat.le_refl _⟩, ⟨by (with_reducible repeat (first | refine kn1 ?_ _ | refine kd1 ?_ | refine ka1 ?_ _)); exact BK447.out⟩, ⟨by repeat (first | (with_reducible first | exact HB.out | apply ba1 | apply pbN | apply bw1 | refine bs1 ?_ GE447.out) | exact HB.out)⟩⟩
    case round =>
     clear H'
     try clear c1
     try clear p2
     try clear c3
     try clear c4
     try clear c4b0
     try clear hcz5_0
     try clear hcz5_1
     try clear hfz5_0
     try clear hfz5_1
     try clear p2
     obtain ⟨x6_2, x7_2, rfl, rfl, HA, HK2, BK447, HB⟩ := hrel
     cases gk with
     | zero => exact absurd HA.out (by simp [crM_Next.l1])
     | succ k2 =>
      have H := HA.out;clear HA;simp only [crM_Next.l1] at H;by_cases c6 : x7_2 < (l0_1.length : Int)
      ·rw [if_pos c6] at H;have c6b0 : decide (x7_2 < (l0_1.length : Int)) = true := decide_eq_true c6;clear c6;have HC7 := Ai0.mk H;clear H;have hcz8_0 : wr.cell? ⟨gb447, 0, none⟩ = some (.int .i64 a0_0) := (kc1 BK447.out 0).trans rfl;have hcz8_1 : wr.cell? ⟨gb447, 1, none⟩ = some (.slice A0_1 l0_1.length c0_1) := (kc1 BK447.out 1).trans rfl;have hfz8_0 := kf1 BK447.out 0;have hfz8_1 := kf1 BK447.out 1
       go_upto_region 8 with (fail)
       go_cut [38] (fun v38 wc => ∃ (kq : Nat) (x38_6 : Bool), v38 = .bool x38_6 ∧ Ai0 (crM_Next.j2 kq l1 x5_1 x6_2 x7_2 x38_6 a0_0 l0_1 = some r) ∧ Ai0 (kq ≤ k2) ∧ Ai0 (wc.heap[gb447]? = some (.cells #[.int .i64 a0_0, (.slice A0_1 l0_1.length c0_1)] 24 (0, 0))) ∧ Ai0 (Below w.heap.size w wc))
       case first =>
        have H := HC7.out;clear HC7;by_cases c9 : 0 ≤ x7_2
        ·rw [if_pos c9] at H;have c9b0 : decide (0 ≤ x7_2) = true := decide_eq_true c9;clear c9;(first | rw [c9b0] | (simp only [i64_w, i32_w]; rw [c9b0]) | skip);by_cases c10 : 0 ≤ x5_1
         ·rw [if_pos c10] at H;have c10b0 : decide (0 ≤ x5_1) = true := decide_eq_true c10;clear c10;by_cases c11 : x5_1 < ((rd_L1 l0_1 x7_2).length : Int)
          ·rw [if_pos c11] at H;have c11b0 : decide (x5_1 < ((rd_L1 l0_1 x7_2).length : Int)) = true := decide_eq_true c11;clear c11;by_cases c12 : (rd (rd_L1 l0_1 x7_2) x5_1) = 1
           case' pos =>
            rw [if_pos c12] at H;have c12b0 : ((rd (rd_L1 l0_1 x7_2) x5_1) == 1) = true := beq_iff_eq.mpr c12;have c12b1 : ((rd (rd_L1 l0_1 x7_2) x5_1) != 1) = false := bne_eq_false_iff_eq.mpr c12;clear c12;replace H := Option.bind_eq_some_iff.mp H;obtain ⟨t451, A130, H⟩ := H;replace H : (crM_Next.j2 k2 l1 x5_1 x6_2 x7_2 t451 a0_0 l0_1) = some r := H;have A13 := Ai0.mk A130;clear A130
           case' neg =>
            rw [if_neg c12] at H;have c12b0 : ((rd (rd_L1 l0_1 x7_2) x5_1) == 1) = false := beq_eq_false_iff_ne.mpr c12;have c12b1 : ((rd (rd_L1 l0_1 x7_2) x5_1) != 1) = true := bne_iff_ne.mpr c12
           all_goals
            have H' := Ai0.mk H;clear H;have hcz14_0 : wr.cell? ⟨gb447, 0, none⟩ = some (.int .i64 a0_0) := (kc1 BK447.out 0).trans rfl;have hcz14_1 : wr.cell? ⟨gb447, 1, none⟩ = some (.slice A0_1 l0_1.length c0_1) := (kc1 BK447.out 1).trans rfl;have hfz14_0 := kf1 BK447.out 0;have hfz14_1 := kf1 BK447.out 1;have p448 : 0 ≤ (x7_2 : Int) := of_decide_eq_true (by first | (with_reducible assumption) | assumption);have q448 : x7_2 < (l0_1.length : Int) := of_decide_eq_true (by first | (with_reducible assumption) | assumption);obtain ⟨ad448, A448_0, c448_0, e448, hx448_0, hl448_0, hi448_0⟩ := at_L1 HR0_1.out x7_2 p448 q448;cases e448;replace hx448_0 := (HB.out.cell (World.block_lt_of_cell? w _ hx448_0)).trans hx448_0;have HR448_0 := Ai0.mk hi448_0;have HC448_0 := Ai0.mk hl448_0;clear hi448_0 hl448_0;replace p448 := eq_true p448;replace q448 := eq_true q448;have p449 : 0 ≤ (x5_1 : Int) := of_decide_eq_true (by first | (with_reducible assumption) | assumption);have q449 : x5_1 < ((rd_L1 l0_1 x7_2).length : Int) := of_decide_eq_true (by first | (with_reducible assumption) | assumption);obtain ⟨ad449, e449, hx449_0⟩ := Kd.at_int HR448_0.out x5_1 p449 q449;cases e449;replace hx449_0 := (HB.out.cell (World.block_lt_of_cell? w _ hx449_0)).trans hx449_0;replace p449 := eq_true p449;replace q449 := eq_true q449
           ·go_wp2
            go_meet
            case rel => exact ⟨_, (false), (by first | rfl | (simp; done) | (simp [*]; done)), H', ⟨by have := HK1.out; have := HK2.out; first | omega | exact Nat.le_refl _⟩, ⟨by (with_reducible repeat (first | refine kn1 ?_ _ | refine kd1 ?_ | refine ka1 ?_ _)); exact BK447.out⟩, ⟨by repeat (first | (with_reducible first | exact HB.out | apply ba1 | apply pbN | apply bw1 | refine bs1 ?_ GE447.out) | exact HB.out)⟩⟩
           ·have p450 : 0 ≤ (x7_2 : Int) := of_decide_eq_true (by first | (with_reducible assumption) | assumption);have q450 : x7_2 < (l0_1.length : Int) := of_decide_eq_true (by first | (with_reducible assumption) | assumption);obtain ⟨ad450, A450_0, c450_0, e450, hx450_0, hl450_0, hi450_0⟩ := at_L1 HR0_1.out x7_2 p450 q450;obtain rfl : ad448 = ad450 := (by injection e450);replace hx450_0 := (HB.out.cell (World.block_lt_of_cell? w _ hx450_0)).trans hx450_0;have HR450_0 := Ai0.mk hi450_0;have HC450_0 := Ai0.mk hl450_0;clear hi450_0 hl450_0;replace p450 := eq_true p450;replace q450 := eq_true q450;have ea_ := Option.some.inj (hx448_0.symm.trans hx450_0)
            injection ea_ with ea_ en_ ec_
            subst ea_;subst ec_;clear en_
            go_wp2_with (first | (go_at_call 50; (with_reducible refine (crM_Odd.calls k2 _ _ (rd_L1 l0_1 x7_2) _ _ l1 t451 _ ?side1 ?side2 ?side3 ?side4 A13.out).mono ?_); (case side1 => repeat (first | exact (Kd.C_below HR450_0.out HB.out) | (with_reducible refine Kd.C_alloc ?_ _) | (with_reducible refine Kd.C_drewN ?_ _) | (with_reducible refine Kd.C_drew ?_))); (case side2 => exact HC450_0.out); (case side3 => repeat (first | exact (Kd.C_below HR1.out HB.out) | (with_reducible refine Kd.C_alloc ?_ _) | (with_reducible refine Kd.C_drewN ?_ _) | (with_reducible refine Kd.C_drew ?_))); (case side4 => exact HC1.out); rintro e w' ⟨rfl, ⟨nd, rfl⟩⟩))
            go_meet
            case rel => exact ⟨_, (t451), (by first | rfl | (simp; done) | (simp [*]; done)), H', ⟨by have := HK1.out; have := HK2.out; first | omega | exact Nat.le_refl _⟩, ⟨by (with_reducible repeat (first | refine kn1 ?_ _ | refine kd1 ?_ | refine ka1 ?_ _)); exact BK447.out⟩, ⟨by repeat (first | (with_reducible first | exact HB.out | apply ba1 | apply pbN | apply bw1 | refine bs1 ?_ GE447.out) | exact HB.out)⟩⟩
          ·rw [if_neg c11] at H;exact absurd H (by simp)
         ·rw [if_neg c10] at H;exact absurd H (by simp)
        ·rw [if_neg c9] at H;exact absurd H (by simp)
       case rest =>
        clear HC7
        try clear c1
        try clear p2
        try clear c3
        try clear c4
        try clear c4b0
        try clear p4
        try clear q4
        try clear hx4
        try clear c6
        try clear c6b0
        try clear c9
        try clear c9b0
        try clear c10
        try clear c10b0
        try clear c11
        try clear c11b0
        try clear c12
        try clear c12b0
        try clear c12b1
        try clear hcz14_0
        try clear hcz14_1
        try clear hcz15_0
        try clear hcz15_1
        try clear hcz5_0
        try clear hcz5_1
        try clear hcz8_0
        try clear hcz8_1
        try clear hfz14_0
        try clear hfz14_1
        try clear hfz15_0
        try clear hfz15_1
        try clear hfz5_0
        try clear hfz5_1
        try clear hfz8_0
        try clear hfz8_1
        try clear hx448_0
        try clear hx449_0
        try clear hx450_0
        try clear p2
        try clear p448
        try clear p449
        try clear p450
        try clear q448
        try clear q449
        try clear q450
        obtain ⟨kq, x38_6, rfl, HA, HJ6, BK447, HB⟩ := hcut
        cases kq with
        | zero => exact absurd HA.out (by simp [crM_Next.j2])
        | succ kj6 =>
         have H := HA.out;clear HA;simp only [crM_Next.j2] at H;by_cases c16 : x38_6 = true
         ·subst c16;(have H1 : (crM_Next.l1 kj6 l1 x5_1 (wrap64 (x6_2 + 1)) (wrap64 (x7_2 + 1)) a0_0 l0_1) = some r := by rw [if_pos rfl] at H; exact H);clear H;have H := H1;clear H1;have H' := Ai0.mk H;clear H
          go_wp2
          go_roundg kj6
          case measure => have := HK1.out; have := HK2.out; have := HJ6.out; omega
          case rel => exact ⟨(wrap64 (x6_2 + 1)), (wrap64 (x7_2 + 1)), (by first | rfl | (simp; done) | (simp [*]; done)), (by first | rfl | (simp; done) | (simp [*]; done)), H', ⟨by have := HK1.out; have := HK2.out; have := HJ6.out; omega⟩, ⟨by (with_reducible repeat (first | refine kn1 ?_ _ | refine kd1 ?_ | refine ka1 ?_ _)); exact BK447.out⟩, ⟨by repeat (first | (with_reducible first | exact HB.out | apply ba1 | apply pbN | apply bw1 | refine bs1 ?_ GE447.out) | exact HB.out)⟩⟩
         ·replace c16 := Bool.eq_false_iff.mpr c16;subst c16;(have H1 : (if 0 ≤ x7_2 then (if x7_2 < (l0_1.length : Int) then (if 0 ≤ x5_1 then (if x5_1 < ((rd_L1 l0_1 x7_2).length : Int) then (if (rd (rd_L1 l0_1 x7_2) x5_1) = 1 then (crM_Next.l1 kj6 l1 x5_1 (wrap64 (x6_2 - 1)) (wrap64 (x7_2 + 1)) a0_0 l0_1) else (crM_Next.l1 kj6 l1 x5_1 x6_2 (wrap64 (x7_2 + 1)) a0_0 l0_1)) else (none)) else (none)) else (none)) else (none)) = some r := by rw [if_neg (show ¬ (false = true) by decide)] at H; exact H);clear H;have H := H1;clear H1;by_cases c17 : 0 ≤ x7_2
          ·rw [if_pos c17] at H;have c17b0 : decide (0 ≤ x7_2) = true := decide_eq_true c17;clear c17;by_cases c18 : x7_2 < (l0_1.length : Int)
           ·rw [if_pos c18] at H;have c18b0 : decide (x7_2 < (l0_1.length : Int)) = true := decide_eq_true c18;clear c18;by_cases c19 : 0 ≤ x5_1
            ·rw [if_pos c19] at H;have c19b0 : decide (0 ≤ x5_1) = true := decide_eq_true c19;clear c19;by_cases c20 : x5_1 < ((rd_L1 l0_1 x7_2).length : Int)
             ·rw [if_pos c20] at H;have c20b0 : decide (x5_1 < ((rd_L1 l0_1 x7_2).length : Int)) = true := decide_eq_true c20;clear c20;by_cases c21 : (rd (rd_L1 l0_1 x7_2) x5_1) = 1
              case' pos =>
               rw [if_pos c21] at H;have c21b0 : ((rd (rd_L1 l0_1 x7_2) x5_1) == 1) = true := beq_iff_eq.mpr c21;have c21b1 : ((rd (rd_L1 l0_1 x7_2) x5_1) != 1) = false := bne_eq_false_iff_eq.mpr c21;clear c21
              case' neg =>
               rw [if_neg c21] at H;have c21b0 : ((rd (rd_L1 l0_1 x7_2) x5_1) == 1) = false := beq_eq_false_iff_ne.mpr c21;have c21b1 : ((rd (rd_L1 l0_1 x7_2) x5_1) != 1) = true := bne_iff_ne.mpr c21
              all_goals
               have H' := Ai0.mk H;clear H;have hcz22_0 : wc.cell? ⟨gb447, 0, none⟩ = some (.int .i64 a0_0) := (kc1 BK447.out 0).trans rfl;have hcz22_1 : wc.cell? ⟨gb447, 1, none⟩ = some (.slice A0_1 l0_1.length c0_1) := (kc1 BK447.out 1).trans rfl;have hfz22_0 := kf1 BK447.out 0;have hfz22_1 := kf1 BK447.out 1;have p452 : 0 ≤ (x7_2 : Int) := of_decide_eq_true (by first | (with_reducible assumption) | assumption);have q452 : x7_2 < (l0_1.length : Int) := of_decide_eq_true (by first | (with_reducible assumption) | assumption);obtain ⟨ad452, A452_0, c452_0, e452, hx452_0, hl452_0, hi452_0⟩ := at_L1 HR0_1.out x7_2 p452 q452;cases e452;replace hx452_0 := (HB.out.cell (World.block_lt_of_cell? w _ hx452_0)).trans hx452_0;have HR452_0 := Ai0.mk hi452_0;have HC452_0 := Ai0.mk hl452_0;clear hi452_0 hl452_0;replace p452 := eq_true p452;replace q452 := eq_true q452;have p453 : 0 ≤ (x5_1 : Int) := of_decide_eq_true (by first | (with_reducible assumption) | assumption);have q453 : x5_1 < ((rd_L1 l0_1 x7_2).length : Int) := of_decide_eq_true (by first | (with_reducible assumption) | assumption);obtain ⟨ad453, e453, hx453_0⟩ := Kd.at_int HR452_0.out x5_1 p453 q453;cases e453;replace hx453_0 := (HB.out.cell (World.block_lt_of_cell? w _ hx453_0)).trans hx453_0;replace p453 := eq_true p453;replace q453 := eq_true q453
               go_wp2
              ·go_roundg kj6
               case measure => have := HK1.out; have := HK2.out; have := HJ6.out; omega
               case rel => exact ⟨(x6_2), (wrap64 (x7_2 + 1)), (by first | rfl | (simp; done) | (simp [*]; done)), (by first | rfl | (simp; done) | (simp [*]; done)), H', ⟨by have := HK1.out; have := HK2.out; have := HJ6.out; omega⟩, ⟨by (with_reducible repeat (first | refine kn1 ?_ _ | refine kd1 ?_ | refine ka1 ?_ _)); exact BK447.out⟩, ⟨by repeat (first | (with_reducible first | exact HB.out | apply ba1 | apply pbN | apply bw1 | refine bs1 ?_ GE447.out) | exact HB.out)⟩⟩
              ·go_roundg kj6
               case measure => have := HK1.out; have := HK2.out; have := HJ6.out; omega
               case rel => exact ⟨(wrap64 (x6_2 - 1)), (wrap64 (x7_2 + 1)), (by first | rfl | (simp; done) | (simp [*]; done)), (by first | rfl | (simp; done) | (simp [*]; done)), H', ⟨by have := HK1.out; have := HK2.out; have := HJ6.out; omega⟩, ⟨by (with_reducible repeat (first | refine kn1 ?_ _ | refine kd1 ?_ | refine ka1 ?_ _)); exact BK447.out⟩, ⟨by repeat (first | (with_reducible first | exact HB.out | apply ba1 | apply pbN | apply bw1 | refine bs1 ?_ GE447.out) | exact HB.out)⟩⟩
             ·rw [if_neg c20] at H;exact absurd H (by simp)
            ·rw [if_neg c19] at H;exact absurd H (by simp)
           ·rw [if_neg c18] at H;exact absurd H (by simp)
          ·rw [if_neg c17] at H;exact absurd H (by simp)
      ·rw [if_neg c6] at H;have c6b0 : decide (x7_2 < (l0_1.length : Int)) = false := decide_eq_false c6;clear c6;by_cases c24 : x6_2 > 0
       ·rw [if_pos c24] at H;have c24b0 : decide (0 < x6_2) = true := decide_eq_true c24;clear c24;obtain rfl := Option.some.inj H;have hcz25_0 : wr.cell? ⟨gb447, 0, none⟩ = some (.int .i64 a0_0) := (kc1 BK447.out 0).trans rfl;have hcz25_1 : wr.cell? ⟨gb447, 1, none⟩ = some (.slice A0_1 l0_1.length c0_1) := (kc1 BK447.out 1).trans rfl;have hfz25_0 := kf1 BK447.out 0;have hfz25_1 := kf1 BK447.out 1
        go_wp2
        go_ret
        exact ⟨by first | rfl | (simp [eW0, eW1] <;> rfl) | (simp [*, eW0, eW1] <;> rfl), by repeat (first | (with_reducible first | exact HB.out | apply ba1 | apply pbN | apply bw1 | refine bs1 ?_ GE447.out) | exact HB.out)⟩
       ·rw [if_neg c24] at H;have c24b0 : decide (0 < x6_2) = false := decide_eq_false c24;clear c24;have H' := Ai0.mk H;clear H;have hcz26_0 : wr.cell? ⟨gb447, 0, none⟩ = some (.int .i64 a0_0) := (kc1 BK447.out 0).trans rfl;have hcz26_1 : wr.cell? ⟨gb447, 1, none⟩ = some (.slice A0_1 l0_1.length c0_1) := (kc1 BK447.out 1).trans rfl;have hfz26_0 := kf1 BK447.out 0;have hfz26_1 := kf1 BK447.out 1
        go_wp2
        go_roundg k2
        case measure => have := HK1.out; have := HK2.out; omega
        case rel => exact ⟨(wrap64 (x5_1 + 1)), (by first | rfl | (simp; done) | (simp [*]; done)), H', ⟨by have := HK1.out; have := HK2.out; omega⟩, ⟨by (with_reducible repeat (first | refine kn1 ?_ _ | refine kd1 ?_ | refine ka1 ?_ _)); exact BK447.out⟩, ⟨by repeat (first | (with_reducible first | exact HB.out | apply ba1 | apply pbN | apply bw1 | refine bs1 ?_ GE447.out) | exact HB.out)⟩⟩
   ·rw [if_neg c4] at H;have c4b0 : decide (x5_1 < a0_0) = false := decide_eq_false c4;clear c4;obtain rfl := Option.some.inj H;have hcz27_0 : wr.cell? ⟨gb447, 0, none⟩ = some (.int .i64 a0_0) := (kc1 BK447.out 0).trans rfl;have hcz27_1 : wr.cell? ⟨gb447, 1, none⟩ = some (.slice A0_1 l0_1.length c0_1) := (kc1 BK447.out 1).trans rfl;have hfz27_0 := kf1 BK447.out 0;have hfz27_1 := kf1 BK447.out 1
    go_wp2
    go_ret
    exact ⟨by first | rfl | (simp [eW0, eW1] <;> rfl) | (simp [*, eW0, eW1] <;> rfl), by repeat (first | (with_reducible first | exact HB.out | apply ba1 | apply pbN | apply bw1 | refine bs1 ?_ GE447.out) | exact HB.out)⟩
end Go.Proofs.Ytmclalniilkjiaa.Q
/- What the printed Flip and the document's Next, Flip compute: the same changes. Condition: the matrix and the word have no fault. -/
namespace Go.Proofs.Ytmclalniilkjiaa.Fl
open Go.RowKit Go.Proofs.Ytmclalniilkjiaa.Q Go.Proofs.YtmclalniilkjiaaW.PrintWords Go.Proofs.YtmclalniilkjiaaW.PrintLast Go.Proofs.Ytmclalniilkjiaa.Ba Go.Proofs.Ytmclalniilkjiaa.Ck Go.Proofs.Ytmclalniilkjiaa.Gr Go.Proofs.Ytmclalniilkjiaa.Un

theorem PG_succ {α : Type} {e : Nat → α} {p : Nat → Bool} {m : Nat} (h : p m = true) : PG e p (m + 1) = PG e p m ++ [e m] := if_pos h
theorem PG_skip {α : Type} {e : Nat → α} {p : Nat → Bool} {m : Nat} (h : ¬ p m = true) : PG e p (m + 1) = PG e p m := if_neg h
theorem PG_lt {α : Type} (e : Nat → α) (p : Nat → Bool) (m : Nat) (h : p m = true) : ∀ n, m < n → (PG e p m).length < (PG e p n).length
 | 0, hn => by omega
 | n + 1, hn => by
  by_cases e1 : m = n
  ·subst e1; rw [PG_succ h, List.length_append, List.length_singleton]; omega
  ·have := PG_lt e p m h n (by omega)
   by_cases h2 : p n = true
   ·rw [PG_succ h2, List.length_append, List.length_singleton]; omega
   ·rw [PG_skip h2]; exact this
theorem PG_at {α : Type} (d : α) (e : Nat → α) (p : Nat → Bool) (m : Nat) (h : p m = true) : ∀ n, m < n → (PG e p n).getD (PG e p m).length d = e m
 | 0, hn => by omega
 | n + 1, hn => by
  by_cases e1 : m = n
  ·subst e1
   rw [PG_succ h, List.getD_eq_getElem?_getD, List.getElem?_append_right (Nat.le_refl _)]; simp
  ·have ih := PG_at d e p m h n (by omega)
   have hl := PG_lt e p m h n (by omega)
   by_cases h2 : p n = true
   ·rw [PG_succ h2, List.getD_eq_getElem?_getD, List.getElem?_append_left hl, ← List.getD_eq_getElem?_getD]; exact ih
   ·rw [PG_skip h2]; exact ih
/-- The unsatisfied checks of position p less the satisfied ones, below n. -/
def sc (rows : List (List Int)) (w : List Int) (C p n : Nat) : Int := sumTo (fun j => if bit rows j p = true then (if od rows w C j = true then 1 else -1) else 0) n
theorem sc_succ (rows : List (List Int)) (w : List Int) (C p j : Nat) : sc rows w C p (j + 1) = sc rows w C p j + (if bit rows j p = true then (if od rows w C j = true then 1 else -1) else 0) := rfl
/-- The first of the d positions from p on with a score above 0, or -1. -/
def nx (s : Nat → Int) : Nat → Nat → Int
 | 0, _ => -1
 | d + 1, p => if s p > 0 then (p : Int) else nx s d (p + 1)
theorem nx_or (s : Nat → Int) : ∀ d p, nx s d p = -1 ∨ ∃ q : Nat, q < p + d ∧ nx s d p = (q : Int) ∧ s q > 0
 | 0, _ => Or.inl rfl
 | d + 1, p => by
  simp only [nx]
  by_cases h : s p > 0
  ·rw [if_pos h]; exact Or.inr ⟨p, by omega, rfl, h⟩
  ·rw [if_neg h]
   rcases nx_or s d (p + 1) with h1 | ⟨q, h1, h2, h3⟩
   ·exact Or.inl h1
   ·exact Or.inr ⟨q, by omega, h2, h3⟩
def nxt (rows : List (List Int)) (w : List Int) (C : Nat) : Int := nx (fun p => sc rows w C p rows.length) C 0
theorem sc_bound (rows : List (List Int)) (w : List Int) (C p n : Nat) : -(n : Int) ≤ sc rows w C p n ∧ sc rows w C p n ≤ (n : Int) :=
 sumTo_11 _ _ (fun j _ => by
  show -1 ≤ (if bit rows j p = true then (if od rows w C j = true then (1 : Int) else -1) else 0) ∧ (if bit rows j p = true then (if od rows w C j = true then (1 : Int) else -1) else 0) ≤ 1
  split
  ·split <;> omega
  ·omega)
/-- The marks of the unsatisfied checks. -/
def bad (rows : List (List Int)) (w : List Int) (C : Nat) : List Bool := LL rows.length (od rows w C)
theorem bad_len (rows : List (List Int)) (w : List Int) (C : Nat) : (bad rows w C).length = rows.length := LL_length _ _
theorem edg_at (rows : List (List Int)) (p n t : Nat) (h : t < (edg rows p n).length) : ∃ j, j < n ∧ (rd_T77 (edg rows p n) (t : Int)).f0 = (j : Int) := by
 obtain ⟨i, h1, _, h3⟩ := PG_mem _ _ _ _ (getD_mem (edg rows p n) z77 t h)
 refine ⟨i, h1, ?_⟩
 unfold rd_T77
 rw [Int.toNat_natCast, h3]
section
variable (rows : List (List Int)) (w : List Int) (C : Nat) (hC : C ≤ 256) (hr : rows.length ≤ 256)
include hC hr
omit hC in
theorem worst_l1 (p : Nat) {r : Int} (ats : List (List S77)) (hn : sc rows w C p rows.length ≤ 0 → Ev (fun k => mg_worst.l0 k (bad rows w C) ats (C : Int) (wrap64 ((p : Int) + 1))) r) (hp : sc rows w C p rows.length > 0 → r = (p : Int)) : ∀ d i : Nat, i + d = (edg rows p rows.length).length →
  Ev (fun k => mg_worst.l1 k (bad rows w C) (p : Int) (sumTo (fun t => if rdOf false (bad rows w C) (rd_T77 (edg rows p rows.length) (t : Int)).f0 = true then 1 else -1) i) ats (C : Int) (p : Int) (edg rows p rows.length) ((edg rows p rows.length).length : Int) (i : Int)) r
 | 0, i, h => by
  obtain rfl : i = (edg rows p rows.length).length := by omega
  have e : sumTo (fun t => if rdOf false (bad rows w C) (rd_T77 (edg rows p rows.length) (t : Int)).f0 = true then (1 : Int) else -1) (edg rows p rows.length).length = sc rows w C p rows.length := by
   have := sum_PG (fun x : S77 => if rdOf false (bad rows w C) x.f0 = true then (1 : Int) else -1) z77 (fun j => (⟨(j : Int), ((one rows j p).length : Int)⟩ : S77)) (fun j => bit rows j p) rows.length
   rw [sumTo_congr _ (fun t => if rdOf false (bad rows w C) ((edg rows p rows.length).getD t z77).f0 = true then (1 : Int) else -1) _ (fun t _ => by unfold rd_T77; rw [Int.toNat_natCast])]
   refine this.trans (sumTo_congr _ _ _ (fun j hj => ?_))
   show (if bit rows j p = true then (if rdOf false (bad rows w C) (j : Int) = true then (1 : Int) else -1) else 0) = _
   unfold bad
   rw [rdOf_LL _ _ _ _ hj]
  rw [e]
  by_cases h0 : sc rows w C p rows.length > 0
  ·rw [hp h0]
   refine Ev.step (f := fun _ => some _) (fun k => ?_) (Ev.now _)
   simp only [mg_worst.l1]
   rw [if_neg (by omega), if_pos h0]
  ·refine Ev.step (fun k => ?_) (hn (by omega))
   simp only [mg_worst.l1]
   rw [if_neg (by omega), if_neg h0]
 | d + 1, i, h => by
  have ih := worst_l1 p ats hn hp d (i + 1) (by omega)
  have hle := edg_le rows p rows.length
  have hb := sumTo_11 (fun t => if rdOf false (bad rows w C) (rd_T77 (edg rows p rows.length) (t : Int)).f0 = true then (1 : Int) else -1) i (fun t _ => by split <;> omega)
  obtain ⟨j, hj, ej⟩ := edg_at rows p rows.length i (by omega)
  have hbl := bad_len rows w C
  refine Ev.step (fun k => ?_) ih
  simp only [mg_worst.l1]
  rw [if_pos (by omega), if_pos (by omega), if_pos (by omega), if_pos (by omega), if_pos (by omega), w64_id (n := (i : Int) + 1) (by omega) (by omega)]
  by_cases h0 : rdOf false (bad rows w C) (rd_T77 (edg rows p rows.length) (i : Int)).f0 = true
  ·rw [if_pos h0, w64_id (by omega) (by omega)]
   simp only [sumTo]
   rw [if_pos h0]; rfl
  ·rw [if_neg h0, w64_id (by omega) (by omega)]
   simp only [sumTo]
   rw [if_neg h0]; rfl
theorem worst_l0 : ∀ d p : Nat, p + d = C → Ev (fun k => mg_worst.l0 k (bad rows w C) (at_ rows C rows.length) (C : Int) (p : Int)) (nx (fun p => sc rows w C p rows.length) d p)
 | 0, p, h => by
  refine Ev.step (f := fun _ => some (-1)) (fun k => ?_) (Ev.now _)
  simp only [mg_worst.l0]
  rw [if_neg (by omega)]
 | d + 1, p, h => by
  have ih := worst_l0 d (p + 1) (by omega)
  have hal : (at_ rows C rows.length).length = C := LL_length _ _
  have h9 : rd_L9 (at_ rows C rows.length) (p : Int) = edg rows p rows.length := by unfold rd_L9; rw [Int.toNat_natCast]; exact LL_at _ _ _ _ (by omega)
  have h1 := worst_l1 rows w C hr p (r := nx (fun p => sc rows w C p rows.length) (d + 1) p) (at_ rows C rows.length) (fun h0 => by
   rw [w64_id (by omega) (by omega)]
   simp only [nx]
   rw [if_neg (by omega)]
   exact ih) (fun h0 => by simp only [nx]; rw [if_pos h0]) (edg rows p rows.length).length 0 (by omega)
  refine Ev.step (fun k => ?_) h1
  simp only [mg_worst.l0]
  rw [if_pos (by omega), if_pos (by omega), if_pos (by omega), h9]
  rfl
theorem worst_ev : Ev (fun k => mg_worst.f k (checks rows C rows.length) (at_ rows C rows.length) (bad rows w C)) (nxt rows w C) := by
 have h := worst_l0 rows w C hC hr C 0 (by omega)
 have hal : (at_ rows C rows.length).length = C := LL_length _ _
 refine Ev.congr (fun k => ?_) h
 unfold mg_worst.f
 rw [hal]; rfl
end
theorem next_l1 {c : Int} {rows : List (List Int)} {w : List Int} {C : Nat} (ok : Ok c rows w C) (p : Nat) (hp : p < C) {r : Int} (hn : sc rows w C p rows.length ≤ 0 → Ev (fun k => crM_Next.l0 k w (wrap64 ((p : Int) + 1)) c rows) r) (hq : sc rows w C p rows.length > 0 → r = (p : Int)) : ∀ d j : Nat, j + d = rows.length →
  Ev (fun k => crM_Next.l1 k w (p : Int) (sc rows w C p j) (j : Int) c rows) r
 | 0, j, h => by
  obtain rfl : j = rows.length := by omega
  by_cases h0 : sc rows w C p rows.length > 0
  ·rw [hq h0]
   refine Ev.step (f := fun _ => some _) (fun k => ?_) (Ev.now _)
   simp only [crM_Next.l1]
   rw [if_neg (by omega), if_pos h0]
  ·refine Ev.step (fun k => ?_) (hn (by omega))
   simp only [crM_Next.l1]
   rw [if_neg (by omega), if_neg h0]
 | d + 1, j, h => by
  have ih := next_l1 ok p hp hn hq d (j + 1) (by omega)
  have hr := ok.hr
  have hl := ok.hrl j (by omega)
  have hb := sc_bound rows w C p j
  by_cases hx : rd (rows.getD j []) (p : Int) = 1
  ·have hbit : bit rows j p = true := decide_eq_true hx
   refine Ev.step (f := fun k => (crM_Odd.f k (rows.getD j []) w).bind fun t => crM_Next.j2 k w (p : Int) (sc rows w C p j) (j : Int) t c rows) (fun k => ?_) ?_
   ·simp only [crM_Next.l1, rd_L1_nat]
    rw [if_pos (by omega), if_pos (by omega), if_pos (by omega), if_pos (by omega), if_pos hx]
   refine (rodd_ev rows ok.hw C j ok.hC ok.hlen (ok.hrow j (by omega)) hl).bind ?_
   by_cases ho : od rows w C j = true
   ·have e : sc rows w C p (j + 1) = sc rows w C p j + 1 := by rw [sc_succ, if_pos hbit, if_pos ho]
    rw [e] at ih
    refine Ev.step (fun k => ?_) ih
    simp only [crM_Next.j2]
    rw [if_pos ho, w64_id (by omega) (by omega), w64_id (by omega) (by omega)]
    rfl
   ·have e : sc rows w C p (j + 1) = sc rows w C p j - 1 := by rw [sc_succ, if_pos hbit, if_neg ho]; rfl
    rw [e] at ih
    refine Ev.step (fun k => ?_) ih
    simp only [crM_Next.j2, rd_L1_nat]
    rw [if_neg ho, if_pos (by omega), if_pos (by omega), if_pos (by omega), if_pos (by omega), if_pos hx, w64_id (by omega) (by omega), w64_id (by omega) (by omega)]
    rfl
  ·have hbit : ¬ bit rows j p = true := by unfold bit; rw [decide_eq_false hx]; decide
   have e : sc rows w C p (j + 1) = sc rows w C p j := by rw [sc_succ, if_neg hbit, Int.add_zero]
   rw [e] at ih
   refine Ev.step (f := fun k => crM_Next.j2 k w (p : Int) (sc rows w C p j) (j : Int) false c rows) (fun k => ?_) (Ev.step (fun k => ?_) ih)
   ·simp only [crM_Next.l1, rd_L1_nat]
    rw [if_pos (by omega), if_pos (by omega), if_pos (by omega), if_pos (by omega), if_neg hx]
   ·simp only [crM_Next.j2, rd_L1_nat]
    rw [if_neg Bool.false_ne_true, if_pos (by omega), if_pos (by omega), if_pos (by omega), if_pos (by omega), if_neg hx, w64_id (by omega) (by omega)]
    rfl
theorem next_l0 {c : Int} {rows : List (List Int)} {w : List Int} {C : Nat} (ok : Ok c rows w C) : ∀ d p : Nat, p + d = C → Ev (fun k => crM_Next.l0 k w (p : Int) c rows) (nx (fun p => sc rows w C p rows.length) d p)
 | 0, p, h => by
  have := ok.c
  refine Ev.step (f := fun _ => some (-1)) (fun k => ?_) (Ev.now _)
  simp only [crM_Next.l0]
  rw [if_neg (by omega)]
 | d + 1, p, h => by
  have ih := next_l0 ok d (p + 1) (by omega)
  have := ok.c
  have hC := ok.hC
  have h1 := next_l1 ok p (by omega) (r := nx (fun p => sc rows w C p rows.length) (d + 1) p) (fun h0 => by
   rw [w64_id (by omega) (by omega)]
   simp only [nx]
   rw [if_neg (by omega)]
   exact ih) (fun h0 => by simp only [nx]; rw [if_pos h0]) rows.length 0 (by omega)
  refine Ev.step (fun k => ?_) h1
  simp only [crM_Next.l0]
  rw [if_pos (by omega)]
  rfl
theorem next_ev {c : Int} {rows : List (List Int)} {w : List Int} {C : Nat} (ok : Ok c rows w C) : Ev (fun k => crM_Next.f k c rows w) (nxt rows w C) := next_l0 ok C 0 (by omega)
/-- The word with position p changed. -/
def fl (w : List Int) (p : Nat) : List Int := w.set p (1 - rd w (p : Int))
theorem rd_fl (w : List Int) (p i : Nat) (hp : p < w.length) : rd (fl w p) (i : Int) = if i = p then 1 - rd w (p : Int) else rd w (i : Int) := by
 rw [rd_nat, rd_nat w i]
 unfold fl
 rw [List.getD_eq_getElem?_getD, List.getElem?_set]
 by_cases e : i = p
 ·subst e; rw [if_pos rfl, if_pos rfl, if_pos hp]; rfl
 ·rw [if_neg (Ne.symm e), if_neg e, ← List.getD_eq_getElem?_getD]
theorem ok_fl {c : Int} {rows : List (List Int)} {w : List Int} {C : Nat} (ok : Ok c rows w C) (p : Nat) : Ok c rows (fl w p) C := by
 refine { ok with hlen := by unfold fl; rw [List.length_set]; exact ok.hlen, hw := ?_ }
 refine List.all_eq_true.2 (fun x hx => ?_)
 rcases List.mem_or_eq_of_mem_set hx with h | h
 ·exact List.all_eq_true.1 ok.hw x h
 ·rw [h]
  rcases okb_at ok.hw p with h | h <;> rw [h] <;> decide
theorem par_fl {c : Int} {rows : List (List Int)} {w : List Int} {C : Nat} (ok : Ok c rows w C) (p j : Nat) (hp : p < C) : par rows (fl w p) C j = par rows w C j + (if bit rows j p = true then 1 - 2 * rd w (p : Int) else 0) := by
 have h1 := sumTo_one (fun i => if i = p then (if bit rows j p = true then 1 - 2 * rd w (p : Int) else 0) else 0) p _ C hp (fun i hi => if_neg hi) (if_pos rfl)
 rw [← h1]
 unfold par
 rw [← sumTo_add]
 refine sumTo_congr _ _ _ (fun i _ => ?_)
 rw [rd_fl w p i (by have := ok.hlen; omega)]
 by_cases e : i = p
 ·subst e
  rw [if_pos rfl, if_pos rfl]
  by_cases hb : bit rows j i = true
  ·rw [if_pos hb, if_pos hb, if_pos hb]; omega
  ·rw [if_neg hb, if_neg hb, if_neg hb]; omega
 ·rw [if_neg e, if_neg e]; omega
theorem od_fl {c : Int} {rows : List (List Int)} {w : List Int} {C : Nat} (ok : Ok c rows w C) (p j : Nat) (hp : p < C) : od rows (fl w p) C j = if bit rows j p = true then !(od rows w C j) else od rows w C j := by
 have h1 := par_fl ok p j hp
 have h2 := (par_bound rows ok.hw C j).1
 have h3 := (par_bound rows (ok_fl ok p).hw C j).1
 have h4 := okb_at ok.hw p
 unfold od
 rw [Int.tmod_eq_emod_of_nonneg h2, Int.tmod_eq_emod_of_nonneg h3]
 by_cases hb : bit rows j p = true
 ·rw [if_pos hb] at h1 ⊢
  by_cases he : par rows w C j % 2 = 1
  ·rw [he, beq_iff_eq.2 rfl]
   have : par rows (fl w p) C j % 2 = 0 := by omega
   rw [this]; rfl
  ·have e0 : par rows w C j % 2 = 0 := by omega
   have : par rows (fl w p) C j % 2 = 1 := by omega
   rw [this, e0]; rfl
 ·rw [if_neg hb] at h1 ⊢
  rw [h1, Int.add_zero]
/-- The number of unsatisfied checks. -/
theorem uns_fl {c : Int} {rows : List (List Int)} {w : List Int} {C : Nat} (ok : Ok c rows w C) (p : Nat) (hp : p < C) : ((uns rows (fl w p) C rows.length).length : Int) = ((uns rows w C rows.length).length : Int) - sc rows w C p rows.length := by
 unfold uns
 rw [PG_len, PG_len]
 unfold sc
 rw [← sumTo_sub]
 refine sumTo_congr _ _ _ (fun j _ => ?_)
 rw [od_fl ok p j hp]
 by_cases hb : bit rows j p = true
 ·rw [if_pos hb, if_pos hb]
  cases od rows w C j <;> rfl
 ·rw [if_neg hb, if_neg hb]; omega
/-- From w the changes l lead to e, where none is left. -/
def Run (rows : List (List Int)) (C : Nat) : List Int → List Int → List Int → Prop
 | w, [], e => nxt rows w C = -1 ∧ e = w
 | w, p :: l, e => (∃ q : Nat, p = (q : Int) ∧ q < C ∧ nxt rows w C = (q : Int) ∧ sc rows w C q rows.length > 0 ∧ Run rows C (fl w q) l e)
theorem run_ex {c : Int} {rows : List (List Int)} {C : Nat} : ∀ (u : Nat) (w : List Int), Ok c rows w C → (uns rows w C rows.length).length ≤ u → ∃ l e, Run rows C w l e ∧ l.length ≤ u ∧ Ok c rows e C := by
 intro u
 induction u with
 | zero =>
  intro w ok hu
  rcases nx_or (fun p => sc rows w C p rows.length) C 0 with h | ⟨q, h1, h2, h3⟩
  ·exact ⟨[], w, ⟨h, rfl⟩, Nat.le_refl _, ok⟩
  ·have := uns_fl ok q (by omega)
   omega
 | succ u ih =>
  intro w ok hu
  rcases nx_or (fun p => sc rows w C p rows.length) C 0 with h | ⟨q, h1, h2, h3⟩
  ·exact ⟨[], w, ⟨h, rfl⟩, Nat.zero_le _, ok⟩
  ·have := uns_fl ok q (by omega)
   obtain ⟨l, e, h4, h5, h6⟩ := ih (fl w q) (ok_fl ok q) (by omega)
   exact ⟨(q : Int) :: l, e, ⟨q, rfl, by omega, h2, h3, h4⟩, by simp; omega, h6⟩
section
variable {c : Int} {rows : List (List Int)} {C : Nat}
/-- The marks while the edges of position p are gone through, up to row m. -/
def mid (rows : List (List Int)) (w : List Int) (C p m : Nat) : List Bool := LL rows.length (fun j => if j < m ∧ bit rows j p = true then !(od rows w C j) else od rows w C j)
theorem l2_ev {w : List Int} (ok : Ok c rows w C) (w' fls : List Int) (p : Nat) {r : List Int × List Int × Int} (h : Ev (fun k => message_Flip.l1 k w' fls (mid rows w C p rows.length) (checks rows C rows.length) (at_ rows C rows.length)) r) : ∀ d m : Nat, m + d = rows.length →
  Ev (fun k => message_Flip.l2 k w' fls (mid rows w C p m) (edg rows p rows.length) ((edg rows p rows.length).length : Int) ((edg rows p m).length : Int) (checks rows C rows.length) (at_ rows C rows.length)) r
 | 0, m, hm => by
  obtain rfl : m = rows.length := by omega
  refine Ev.step (fun k => ?_) h
  simp only [message_Flip.l2]
  rw [if_neg (by omega)]
 | d + 1, m, hm => by
  have ih := l2_ev ok w' fls p h d (m + 1) (by omega)
  have hr := ok.hr
  by_cases hb : bit rows m p = true
  ·have hlt : (edg rows p m).length < (edg rows p rows.length).length := PG_lt _ (fun j => bit rows j p) m hb rows.length (by omega)
   have hat : rd_T77 (edg rows p rows.length) ((edg rows p m).length : Int) = ⟨(m : Int), ((one rows m p).length : Int)⟩ := by
    unfold rd_T77; rw [Int.toNat_natCast]; exact PG_at _ _ (fun j => bit rows j p) m hb rows.length (by omega)
   have hl : (edg rows p (m + 1)).length = (edg rows p m).length + 1 := by
    have : edg rows p (m + 1) = edg rows p m ++ [⟨(m : Int), ((one rows m p).length : Int)⟩] := PG_succ (p := fun j => bit rows j p) hb
    rw [this, List.length_append, List.length_singleton]
   have hle := edg_le rows p rows.length
   have hml : (mid rows w C p m).length = rows.length := LL_length _ _
   refine Ev.step (fun k => ?_) ih
   simp only [message_Flip.l2]
   rw [if_pos (by omega), if_pos (by omega), if_pos (by omega), hat, if_pos (by show (0 : Int) ≤ (m : Int); omega), if_pos (by show (m : Int) < _; omega), w64_id (by omega) (by omega), hl]
   show message_Flip.l2 k w' fls ((mid rows w C p m).set ((m : Nat) : Int).toNat (!(rdOf false (mid rows w C p m) ((m : Nat) : Int)))) _ _ _ _ _ = _
   have e : (mid rows w C p m).set ((m : Nat) : Int).toNat (!(rdOf false (mid rows w C p m) ((m : Nat) : Int))) = mid rows w C p (m + 1) := by
    unfold mid
    rw [rdOf_LL _ _ _ _ (by omega), Int.toNat_natCast, LL_set]
    refine LL_congr _ _ _ (fun j hj => ?_)
    by_cases e : j = m
    ·subst e; rw [if_pos rfl, if_neg (by omega), if_pos ⟨by omega, hb⟩]
    ·rw [if_neg e]
     by_cases e2 : j < m ∧ bit rows j p = true
     ·rw [if_pos e2, if_pos ⟨by omega, e2.2⟩]
     ·rw [if_neg e2, if_neg (fun hh => e2 ⟨by omega, hh.2⟩)]
   rw [e]; rfl
  ·have hl : edg rows p (m + 1) = edg rows p m := PG_skip (p := fun j => bit rows j p) hb
   have e : mid rows w C p (m + 1) = mid rows w C p m := by
    refine LL_congr _ _ _ (fun j hj => ?_)
    by_cases e2 : j < m ∧ bit rows j p = true
    ·rw [if_pos e2, if_pos ⟨by omega, e2.2⟩]
    ·rw [if_neg e2, if_neg (fun hh => e2 ⟨by by_cases ej : j = m; (· subst ej; exact absurd hh.2 hb); (· omega), hh.2⟩)]
   rw [hl, e] at ih
   exact ih
def turn (k : Nat) (x4 x5 : List Int) (x9 : List Bool) (x295000 : List (List Int)) (x295001 : List (List S77)) (t307 : Int) : Option (List Int × List Int × Int) := (if t307 < 0 then (some (x4, x5, 0)) else (if 0 ≤ t307 then (if t307 < (x4.length : Int) then (if x5.length < 17592186044416 then (if t307 < (x295001.length : Int) then (message_Flip.l2 k (x4.set (t307 : Int).toNat (wrap64 (1 - (rd x4 t307)))) (x5 ++ [t307]) x9 (rd_L9 x295001 t307) ((rd_L9 x295001 t307).length : Int) 0 x295000 x295001) else (none)) else (none)) else (none)) else (none)))
theorem l1_turn (k : Nat) (x4 x5 : List Int) (x9 : List Bool) (a : List (List Int)) (b : List (List S77)) : message_Flip.l1 (k + 1) x4 x5 x9 a b = (mg_worst.f k a b x9).bind (turn k x4 x5 x9 a b) := by
 simp only [message_Flip.l1]; rfl
theorem l1_ev : ∀ (l w e fls : List Int), Ok c rows w C → Run rows C w l e → fls.length + l.length ≤ 1000 →
  Ev (fun k => message_Flip.l1 k w fls (bad rows w C) (checks rows C rows.length) (at_ rows C rows.length)) (e, fls ++ l, 0)
 | [], w, e, fls, ok, hrun, hl => by
  obtain ⟨h1, rfl⟩ := hrun
  refine Ev.step (fun k => l1_turn k e fls _ _ _) ?_
  refine (worst_ev rows e C ok.hC ok.hr).bind ?_
  rw [h1]
  refine Ev.congr (fun k => if_pos (by omega)) ?_
  rw [List.append_nil]
  exact Ev.now _
 | p :: l, w, e, fls, ok, hrun, hl => by
  obtain ⟨q, rfl, h1, h2, h3, h4⟩ := hrun
  have hlen := ok.hlen
  have hal : (at_ rows C rows.length).length = C := LL_length _ _
  have h9 : rd_L9 (at_ rows C rows.length) (q : Int) = edg rows q rows.length := by unfold rd_L9; rw [Int.toNat_natCast]; exact LL_at _ _ _ _ (by omega)
  have ih := l1_ev l (fl w q) e (fls ++ [(q : Int)]) (ok_fl ok q) h4 (by simp at hl ⊢; omega)
  have hl' : fls.length + (l.length + 1) ≤ 1000 := hl
  refine Ev.step (fun k => l1_turn k w fls _ _ _) ?_
  refine (worst_ev rows w C ok.hC ok.hr).bind ?_
  rw [h2]
  refine Ev.congr (fun k => if_neg (by omega)) (Ev.congr (fun k => if_pos (by omega)) (Ev.congr (fun k => if_pos (by omega)) (Ev.congr (fun k => if_pos (by omega)) (Ev.congr (fun k => if_pos (by omega)) ?_))))
  rw [h9, Int.toNat_natCast]
  have hwv : wrap64 (1 - rd w (q : Int)) = 1 - rd w (q : Int) := by rcases okb_at ok.hw q with h | h <;> rw [h] <;> exact w64_id (by omega) (by omega)
  rw [hwv]
  have em : bad rows w C = mid rows w C q 0 := LL_congr _ _ _ (fun j hj => by rw [if_neg (by omega)])
  rw [em, show fls ++ (q : Int) :: l = (fls ++ [(q : Int)]) ++ l by simp]
  refine l2_ev ok (fl w q) (fls ++ [(q : Int)]) q ?_ rows.length 0 (by omega)
  have en : mid rows w C q rows.length = bad rows (fl w q) C := LL_congr _ _ _ (fun j hj => by
   rw [od_fl ok q j h1]
   by_cases hb : bit rows j q = true
   ·rw [if_pos ⟨hj, hb⟩, if_pos hb]
   ·rw [if_neg (fun hh => hb hh.2), if_neg hb])
  rw [en]
  exact ih
/-- The marks while the list of unsatisfied checks is gone through, up to row m. -/
def ini (rows : List (List Int)) (w : List Int) (C m : Nat) : List Bool := LL rows.length (fun j => decide (j < m) && od rows w C j)
theorem l0_ev {w : List Int} (ok : Ok c rows w C) {r : List Int × List Int × Int} (h : Ev (fun k => message_Flip.l1 k w [] (bad rows w C) (checks rows C rows.length) (at_ rows C rows.length)) r) : ∀ d m : Nat, m + d = rows.length →
  Ev (fun k => message_Flip.l0 k w (ini rows w C m) (uns rows w C rows.length) ((uns rows w C rows.length).length : Int) ((uns rows w C m).length : Int) (checks rows C rows.length) (at_ rows C rows.length)) r
 | 0, m, hm => by
  obtain rfl : m = rows.length := by omega
  refine Ev.step (fun k => ?_) h
  simp only [message_Flip.l0]
  rw [if_neg (by omega)]
  congr 1
  exact LL_congr _ _ _ (fun j hj => by rw [decide_eq_true hj, Bool.true_and])
 | d + 1, m, hm => by
  have ih := l0_ev ok h d (m + 1) (by omega)
  have hr := ok.hr
  by_cases hb : od rows w C m = true
  ·have hlt : (uns rows w C m).length < (uns rows w C rows.length).length := PG_lt _ (od rows w C) m hb rows.length (by omega)
   have hat : rd (uns rows w C rows.length) ((uns rows w C m).length : Int) = (m : Int) := by
    rw [rd_nat]; exact PG_at _ _ (od rows w C) m hb rows.length (by omega)
   have hl : (uns rows w C (m + 1)).length = (uns rows w C m).length + 1 := by
    have : uns rows w C (m + 1) = uns rows w C m ++ [(m : Int)] := PG_succ (p := od rows w C) hb
    rw [this, List.length_append, List.length_singleton]
   have hle := uns_le rows w C rows.length
   have hml : (ini rows w C m).length = rows.length := LL_length _ _
   refine Ev.step (fun k => ?_) ih
   simp only [message_Flip.l0]
   rw [if_pos (by omega), if_pos (by omega), if_pos (by omega), hat, if_pos (by omega), if_pos (by omega), w64_id (by omega) (by omega), hl]
   have e : (ini rows w C m).set ((m : Nat) : Int).toNat true = ini rows w C (m + 1) := by
    unfold ini
    rw [Int.toNat_natCast, LL_set]
    refine LL_congr _ _ _ (fun j hj => ?_)
    by_cases e : j = m
    ·subst e; rw [if_pos rfl, hb, decide_eq_true (by omega)]; rfl
    ·rw [if_neg e]
     congr 1
     by_cases e2 : j < m
     ·rw [decide_eq_true e2, decide_eq_true (by omega)]
     ·rw [decide_eq_false e2, decide_eq_false (by omega)]
   rw [e]; rfl
  ·have hl : uns rows w C (m + 1) = uns rows w C m := PG_skip (p := od rows w C) hb
   have e : ini rows w C (m + 1) = ini rows w C m := by
    refine LL_congr _ _ _ (fun j hj => ?_)
    by_cases ej : j = m
    ·subst ej; rw [Bool.eq_false_iff.2 hb, Bool.and_false, Bool.and_false]
    ·congr 1
     by_cases e2 : j < m
     ·rw [decide_eq_true e2, decide_eq_true (by omega)]
     ·rw [decide_eq_false e2, decide_eq_false (by omega)]
   rw [hl, e] at ih
   exact ih
theorem Flip_ok {w l e : List Int} (ok : Ok c rows w C) (hrun : Run rows C w l e) (hl : l.length ≤ 256) : Ev (fun k => message_Flip.f k c rows w) (e, l, 0) := by
 have hr := ok.hr
 have hlen := ok.hlen
 have hC := ok.hC
 have hcl : (checks rows C rows.length).length = rows.length := LL_length _ _
 unfold message_Flip.f
 refine (build_C ok).bind (Ev.congr (fun k => if_pos rfl) ((bitsOf_C ok).bind (Ev.congr (fun k => if_pos rfl) ?_)))
 simp only
 rw [hcl]
 refine Ev.congr (fun k => if_pos (by simp; omega)) (Ev.congr (fun k => if_pos (by omega)) (Ev.congr (fun k => if_pos (by omega)) ?_))
 refine (unsat_ev rows ok.hw C ok.hC ok.hlen ok.hr _).bind ?_
 rw [Int.toNat_natCast, List.nil_append]
 have e0 : List.replicate rows.length false = ini rows w C 0 := by
  rw [LL_rep]
  exact LL_congr _ _ _ (fun j hj => by rw [decide_eq_false (by omega)]; rfl)
 rw [e0]
 have h1 := l1_ev l w e [] ok hrun (by simp; omega)
 rw [List.nil_append] at h1
 exact l0_ev ok h1 rows.length 0 (by omega)
end
end Go.Proofs.Ytmclalniilkjiaa.Fl
namespace Go.Proofs.Ytmclalniilkjiaa.Q
open Go.RowKit Go.Proofs.YtmclalniilkjiaaW.PrintWords Go.Proofs.YtmclalniilkjiaaW.PrintLast Go.Proofs.YtmclalniilkjiaaW.PrintMore
open List renaming setIfInBounds_toArray → l01_, set_cons_zero → l02_, set_cons_succ → l03_
attribute [local go_sem] max2_int min2_int max_two min_two max_three min_three max_four min_four
set_option linter.unusedVariables false
set_option linter.unusedSimpArgs false
mutual
def crM_Few.j0 : Nat → Int → Bool → Int → List (List Int) → Option (Bool)
 | 0, _, _, _, _ => none
 | k + 1, x2, x18, x155000, x155001 => if x18 = true then (some false) else (crM_Few.l0 k x2 0 x155000 x155001)
def crM_Few.l0 : Nat → Int → Int → Int → List (List Int) → Option (Bool)
 | 0, _, _, _, _ => none
 | k + 1, x2, x7, x155000, x155001 => if x7 < (x155001.length : Int) then (if 0 ≤ x7 then (if ((rd_L1 x155001 x7).length : Int) > x2 then (some false) else (crM_Few.l0 k x2 (wrap64 (x7 + 1)) x155000 x155001)) else (none)) else (some true)
end
def crM_Few.f (k : Nat) (a0_0 : Int) (l0_1 : List (List Int)) (a1 : Int) (a2 : Int) : Option (Bool) := if (l0_1.length : Int) > a1 then (crM_Few.j0 k a2 true a0_0 l0_1) else (crM_Few.j0 k a2 (decide (a0_0 > a2)) a0_0 l0_1)
theorem crM_Few.mono_l : ∀ k, (∀ y0 y1 y2 y3, LeO (crM_Few.j0 k y0 y1 y2 y3) (crM_Few.j0 (k + 1) y0 y1 y2 y3)) ∧ (∀ y0 y1 y2 y3, LeO (crM_Few.l0 k y0 y1 y2 y3) (crM_Few.l0 (k + 1) y0 y1 y2 y3))
 | 0 => ⟨fun _ _ _ _ r h => by simp [crM_Few.j0] at h, fun _ _ _ _ r h => by simp [crM_Few.l0] at h⟩
 | k + 1 => by
  obtain ⟨ih0, ih1⟩ := crM_Few.mono_l k;refine ⟨?_, ?_⟩
  ·intro y0 y1 y2 y3;unfold crM_Few.j0
   repeat' first
   | (with_reducible exact ih0 _ _ _ _)
   | (with_reducible exact ih1 _ _ _ _)
   | (with_reducible exact LeO.refl _)
   | (with_reducible exact LeO.none _)
   | (with_reducible refine LeO.ite ?_ ?_)
   | (with_reducible refine LeO.bind ?_ (fun _ => ?_))
   | exact ih0 _ _ _ _
   | exact ih1 _ _ _ _
   | exact LeO.none _
   | refine LeO.ite ?_ ?_
   | refine LeO.bind ?_ (fun _ => ?_)
  ·intro y0 y1 y2 y3;unfold crM_Few.l0
   repeat' first
   | (with_reducible exact ih0 _ _ _ _)
   | (with_reducible exact ih1 _ _ _ _)
   | (with_reducible exact LeO.refl _)
   | (with_reducible exact LeO.none _)
   | (with_reducible refine LeO.ite ?_ ?_)
   | (with_reducible refine LeO.bind ?_ (fun _ => ?_))
   | exact ih0 _ _ _ _
   | exact ih1 _ _ _ _
   | exact LeO.none _
   | refine LeO.ite ?_ ?_
   | refine LeO.bind ?_ (fun _ => ?_)
theorem crM_Few.mono : ∀ a0 a1 a2 a3 k, LeO (crM_Few.f k a0 a1 a2 a3) (crM_Few.f (k + 1) a0 a1 a2 a3) := by
 intro a0 a1 a2 a3 k;obtain ⟨ih0, ih1⟩ := crM_Few.mono_l k;unfold crM_Few.f
 repeat' first
   | (with_reducible exact ih0 _ _ _ _)
   | (with_reducible exact ih1 _ _ _ _)
   | (with_reducible exact LeO.refl _)
   | (with_reducible exact LeO.none _)
   | (with_reducible refine LeO.ite ?_ ?_)
   | (with_reducible refine LeO.bind ?_ (fun _ => ?_))
   | exact ih0 _ _ _ _
   | exact ih1 _ _ _ _
   | exact LeO.none _
   | refine LeO.ite ?_ ?_
   | refine LeO.bind ?_ (fun _ => ?_)
set_option maxHeartbeats 8000000 in
set_option maxRecDepth 100000 in
theorem crM_Few.calls (k : Nat) (a0_0 : Int) (A0_1 : Option Addr) (c0_1 : Nat) (l0_1 : List (List Int)) (a1 : Int) (a2 : Int) (r : Bool) (w : World) (hr0_1 : Kd.C (Kd.slice 3 (Kd.int .i64)) w A0_1 l0_1.length l0_1) (hc0_1 : l0_1.length ≤ c0_1) (h : crM_Few.f k a0_0 l0_1 a1 a2 = some r) :
  Calls Try.prog 14 #[.agg #[.int .i64 a0_0, .slice A0_1 l0_1.length c0_1], .int .i64 a1, .int .i64 a2] w fun e w' => e = .returned (.bool r) ∧ Below w.heap.size w w' := by
 have hu24 := Try.underlying24;have HR0_1 := Ai0.mk hr0_1;have HC0_1 := Ai0.mk hc0_1;clear hr0_1 hc0_1;have HB := Ai0.mk (Below.refl w.heap.size w);have H : (if (l0_1.length : Int) > a1 then (crM_Few.j0 k a2 true a0_0 l0_1) else (crM_Few.j0 k a2 (decide (a0_0 > a2)) a0_0 l0_1)) = some r := h;clear h;have HC4 := Ai0.mk H;clear H;go_enter Try.func14, Try.ntmps14
 go_upto_region 1 with (first | ((with_reducible refine gate_dst (N := 3) rfl ?_); refine box_event ?hg (N := 3) ?hd (cs := #[.int .i64 a0_0, .slice A0_1 l0_1.length c0_1]) (t := 24) ?hr ?_; (case hd => rfl); (case hg => rfl); (case hr => first | (go_simp; done) | (go_simp; rfl)); intro gb154 hg w5 hbox hb; have n0_ := Ai0.mk (bt1 (by repeat (first | (with_reducible first | exact HB.out | apply ba1 | apply pbN | apply bw1) | exact HB.out)) hb); have n1_ := Ai0.mk (hbox); have n2_ := Ai0.mk ((by rw [hg]; exact (bz1 (by repeat (first | (with_reducible first | exact HB.out | apply ba1 | apply pbN | apply bw1) | exact HB.out))) : w.heap.size ≤ gb154)); have n3_ := Ai0.mk ((by rw [hg]; exact (bz1 (by repeat (first | (with_reducible first | exact HB.out | apply ba1 | apply pbN | apply bw1) | exact HB.out))) : w.heap.size ≤ gb154)); clear HB; have HB := n0_; have BK154 := n1_; have GW154 := n2_; have GE154 := n3_; clear n0_ n1_ n2_ n3_; clear hb hbox hg))
 (try simp only [Act.put, l01_, l02_, l03_])
 go_cut [18] (fun v18 wc => ∃ (kq : Nat) (x18_3 : Bool), v18 = .bool x18_3 ∧ Ai0 (crM_Few.j0 kq a2 x18_3 a0_0 l0_1 = some r) ∧ Ai0 (kq ≤ k) ∧ Ai0 (wc.heap[gb154]? = some (.cells #[.int .i64 a0_0, (.slice A0_1 l0_1.length c0_1)] 24 (0, 0))) ∧ Ai0 (Below w.heap.size w wc))
 case first =>
  have H := HC4.out;clear HC4;by_cases c6 : (l0_1.length : Int) > a1
  ·rw [if_pos c6] at H;have c6b0 : decide (a1 < (l0_1.length : Int)) = true := decide_eq_true c6;clear c6;(first | rw [c6b0] | (simp only [i64_w, i32_w]; rw [c6b0]) | skip);have H' := Ai0.mk H;clear H;have hcz7_0 : w5.cell? ⟨gb154, 0, none⟩ = some (.int .i64 a0_0) := (kc1 BK154.out 0).trans rfl;have hcz7_1 : w5.cell? ⟨gb154, 1, none⟩ = some (.slice A0_1 l0_1.length c0_1) := (kc1 BK154.out 1).trans rfl;have hfz7_0 := kf1 BK154.out 0;have hfz7_1 := kf1 BK154.out 1
   go_wp2
   go_meet
   case rel => exact ⟨_, (true), (by first | rfl | (simp; done) | (simp [*]; done)), H', ⟨by first | omega | exact Nat.le_refl _⟩, ⟨by (with_reducible repeat (first | refine kn1 ?_ _ | refine kd1 ?_ | refine ka1 ?_ _)); exact BK154.out⟩, ⟨by repeat (first | (with_reducible first | exact HB.out | apply ba1 | apply pbN | apply bw1 | refine bs1 ?_ GE154.out) | exact HB.out)⟩⟩
  ·rw [if_neg c6] at H;have c6b0 : decide (a1 < (l0_1.length : Int)) = false := decide_eq_false c6;clear c6;(first | rw [c6b0] | (simp only [i64_w, i32_w]; rw [c6b0]) | skip);have H' := Ai0.mk H;clear H;have hcz8_0 : w5.cell? ⟨gb154, 0, none⟩ = some (.int .i64 a0_0) := (kc1 BK154.out 0).trans rfl;have hcz8_1 : w5.cell? ⟨gb154, 1, none⟩ = some (.slice A0_1 l0_1.length c0_1) := (kc1 BK154.out 1).trans rfl;have hfz8_0 := kf1 BK154.out 0;have hfz8_1 := kf1 BK154.out 1
   go_wp2
   go_meet
   case rel => exact ⟨_, (decide (a0_0 > a2)), (by first | rfl | (simp; done) | (simp [*]; done)), H', ⟨by first | omega | exact Nat.le_refl _⟩, ⟨by (with_reducible repeat (first | refine kn1 ?_ _ | refine kd1 ?_ | refine ka1 ?_ _)); exact BK154.out⟩, ⟨by repeat (first | (with_reducible first | exact HB.out | apply ba1 | apply pbN | apply bw1 | refine bs1 ?_ GE154.out) | exact HB.out)⟩⟩
 case rest =>
  clear HC4
  try clear c1
  try clear p2
  try clear c6
  try clear c6b0
  try clear hcz7_0
  try clear hcz7_1
  try clear hcz8_0
  try clear hcz8_1
  try clear hfz7_0
  try clear hfz7_1
  try clear hfz8_0
  try clear hfz8_1
  obtain ⟨kq, x18_3, rfl, HA, HJ3, BK154, HB⟩ := hcut
  cases kq with
  | zero => exact absurd HA.out (by simp [crM_Few.j0])
  | succ kj3 =>
   have H := HA.out;clear HA;simp only [crM_Few.j0] at H;by_cases c9 : x18_3 = true
   ·subst c9;(have H1 : (some false) = some r := by rw [if_pos rfl] at H; exact H);clear H;have H := H1;clear H1;obtain rfl := Option.some.inj H
    go_wp2
    go_ret
    exact ⟨by first | rfl | (simp [eW0, eW1] <;> rfl) | (simp [*, eW0, eW1] <;> rfl), by repeat (first | (with_reducible first | exact HB.out | apply ba1 | apply pbN | apply bw1 | refine bs1 ?_ GE154.out) | exact HB.out)⟩
   ·replace c9 := Bool.eq_false_iff.mpr c9;subst c9;(have H1 : (crM_Few.l0 kj3 a2 0 a0_0 l0_1) = some r := by rw [if_neg (show ¬ (false = true) by decide)] at H; exact H);clear H;have H := H1;clear H1;have H' := Ai0.mk H;clear H
    go_wp2
    go_loopg [7] kj3 (fun kq v7 w' => ∃ (x7_2 : Int), v7 = .int .i64 x7_2 ∧ Ai0 (crM_Few.l0 kq a2 x7_2 a0_0 l0_1 = some r) ∧ Ai0 (kq ≤ kj3) ∧ Ai0 (w'.heap[gb154]? = some (.cells #[.int .i64 a0_0, (.slice A0_1 l0_1.length c0_1)] 24 (0, 0))) ∧ Ai0 (Below w.heap.size w w'))
    case atStart => exact ⟨(0), (by first | rfl | (simp; done) | (simp [*]; done)), H', ⟨Nat.le_refl _⟩, ⟨by (with_reducible repeat (first | refine kn1 ?_ _ | refine kd1 ?_ | refine ka1 ?_ _)); exact BK154.out⟩, ⟨by repeat (first | (with_reducible first | exact HB.out | apply ba1 | apply pbN | apply bw1 | refine bs1 ?_ GE154.out) | exact HB.out)⟩⟩
    case round =>
     clear H'
     try clear c1
     try clear p2
     try clear c6
     try clear c6b0
     try clear c9
     try clear hcz7_0
     try clear hcz7_1
     try clear hcz8_0
     try clear hcz8_1
     try clear hfz7_0
     try clear hfz7_1
     try clear hfz8_0
     try clear hfz8_1
     try clear p2
     obtain ⟨x7_2, rfl, HA, HK2, BK154, HB⟩ := hrel
     cases gk with
     | zero => exact absurd HA.out (by simp [crM_Few.l0])
     | succ k2 =>
      have H := HA.out;clear HA;simp only [crM_Few.l0] at H;by_cases c10 : x7_2 < (l0_1.length : Int)
      ·rw [if_pos c10] at H;have c10b0 : decide (x7_2 < (l0_1.length : Int)) = true := decide_eq_true c10;clear c10;by_cases c11 : 0 ≤ x7_2
       ·rw [if_pos c11] at H;have c11b0 : decide (0 ≤ x7_2) = true := decide_eq_true c11;clear c11;by_cases c12 : ((rd_L1 l0_1 x7_2).length : Int) > a2
        ·rw [if_pos c12] at H;have c12b0 : decide (a2 < ((rd_L1 l0_1 x7_2).length : Int)) = true := decide_eq_true c12;clear c12;obtain rfl := Option.some.inj H;have hcz13_0 : wr.cell? ⟨gb154, 0, none⟩ = some (.int .i64 a0_0) := (kc1 BK154.out 0).trans rfl;have hcz13_1 : wr.cell? ⟨gb154, 1, none⟩ = some (.slice A0_1 l0_1.length c0_1) := (kc1 BK154.out 1).trans rfl;have hfz13_0 := kf1 BK154.out 0;have hfz13_1 := kf1 BK154.out 1;have p155 : 0 ≤ (x7_2 : Int) := of_decide_eq_true (by first | (with_reducible assumption) | assumption);have q155 : x7_2 < (l0_1.length : Int) := of_decide_eq_true (by first | (with_reducible assumption) | assumption);obtain ⟨ad155, A155_0, c155_0, e155, hx155_0, hl155_0, hi155_0⟩ := at_L1 HR0_1.out x7_2 p155 q155;cases e155;replace hx155_0 := (HB.out.cell (World.block_lt_of_cell? w _ hx155_0)).trans hx155_0;have HR155_0 := Ai0.mk hi155_0;have HC155_0 := Ai0.mk hl155_0;clear hi155_0 hl155_0;replace p155 := eq_true p155;replace q155 := eq_true q155
         go_wp2
         go_ret
         exact ⟨by first | rfl | (simp [eW0, eW1] <;> rfl) | (simp [*, eW0, eW1] <;> rfl), by repeat (first | (with_reducible first | exact HB.out | apply ba1 | apply pbN | apply bw1 | refine bs1 ?_ GE154.out) | exact HB.out)⟩
        ·rw [if_neg c12] at H;have c12b0 : decide (a2 < ((rd_L1 l0_1 x7_2).length : Int)) = false := decide_eq_false c12;clear c12;have H' := Ai0.mk H;clear H;have hcz14_0 : wr.cell? ⟨gb154, 0, none⟩ = some (.int .i64 a0_0) := (kc1 BK154.out 0).trans rfl;have hcz14_1 : wr.cell? ⟨gb154, 1, none⟩ = some (.slice A0_1 l0_1.length c0_1) := (kc1 BK154.out 1).trans rfl;have hfz14_0 := kf1 BK154.out 0;have hfz14_1 := kf1 BK154.out 1;have p155 : 0 ≤ (x7_2 : Int) := of_decide_eq_true (by first | (with_reducible assumption) | assumption);have q155 : x7_2 < (l0_1.length : Int) := of_decide_eq_true (by first | (with_reducible assumption) | assumption);obtain ⟨ad155, A155_0, c155_0, e155, hx155_0, hl155_0, hi155_0⟩ := at_L1 HR0_1.out x7_2 p155 q155;cases e155;replace hx155_0 := (HB.out.cell (World.block_lt_of_cell? w _ hx155_0)).trans hx155_0;have HR155_0 := Ai0.mk hi155_0;have HC155_0 := Ai0.mk hl155_0;clear hi155_0 hl155_0;replace p155 := eq_true p155;replace q155 := eq_true q155
         go_wp2
         go_roundg k2
         case measure => have := HJ3.out; have := HK2.out; omega
         case rel => exact ⟨(wrap64 (x7_2 + 1)), (by first | rfl | (simp; done) | (simp [*]; done)), H', ⟨by have := HJ3.out; have := HK2.out; omega⟩, ⟨by (with_reducible repeat (first | refine kn1 ?_ _ | refine kd1 ?_ | refine ka1 ?_ _)); exact BK154.out⟩, ⟨by repeat (first | (with_reducible first | exact HB.out | apply ba1 | apply pbN | apply bw1 | refine bs1 ?_ GE154.out) | exact HB.out)⟩⟩
       ·rw [if_neg c11] at H;exact absurd H (by simp)
      ·rw [if_neg c10] at H;have c10b0 : decide (x7_2 < (l0_1.length : Int)) = false := decide_eq_false c10;clear c10;obtain rfl := Option.some.inj H;have hcz15_0 : wr.cell? ⟨gb154, 0, none⟩ = some (.int .i64 a0_0) := (kc1 BK154.out 0).trans rfl;have hcz15_1 : wr.cell? ⟨gb154, 1, none⟩ = some (.slice A0_1 l0_1.length c0_1) := (kc1 BK154.out 1).trans rfl;have hfz15_0 := kf1 BK154.out 0;have hfz15_1 := kf1 BK154.out 1
       go_wp2
       go_ret
       exact ⟨by first | rfl | (simp [eW0, eW1] <;> rfl) | (simp [*, eW0, eW1] <;> rfl), by repeat (first | (with_reducible first | exact HB.out | apply ba1 | apply pbN | apply bw1 | refine bs1 ?_ GE154.out) | exact HB.out)⟩
end Go.Proofs.Ytmclalniilkjiaa.Q
/- The printed Few functions end; what they tell. No condition. -/
namespace Go.Proofs.Ytmclalniilkjiaa.Fw
open Go.RowKit Go.Proofs.Ytmclalniilkjiaa.Q Go.Proofs.YtmclalniilkjiaaW.PrintWords Go.Proofs.YtmclalniilkjiaaW.PrintLast Go.Proofs.Ytmclalniilkjiaa.Ba Go.Proofs.Ytmclalniilkjiaa.Ck

theorem few45_l0 (c : Int) (rows : List (List Int)) (m : Int) (hr : rows.length ≤ 4611686018427387904) : ∀ (d i : Nat), i + d = rows.length → (∀ j, j < i → ((rows.getD j []).length : Int) ≤ m) → ∃ b, Ev (fun k => crM_Few.l0 k m (i : Int) c rows) b ∧ (b = true → ∀ j, j < rows.length → ((rows.getD j []).length : Int) ≤ m)
 | 0, i, h, h0 => ⟨true, Ev.step (f := fun _ => some true) (fun k => by simp only [crM_Few.l0]; rw [if_neg (by omega)]) (Ev.now _), fun _ j hj => h0 j (by omega)⟩
 | d + 1, i, h, h0 => by
  by_cases hx : ((rows.getD i []).length : Int) > m
  ·refine ⟨false, Ev.step (f := fun _ => some false) (fun k => ?_) (Ev.now _), fun h => by cases h⟩
   simp only [crM_Few.l0, rd_L1_nat]
   rw [if_pos (by omega), if_pos (by omega), if_pos hx]
  ·obtain ⟨b, ih, hb⟩ := few45_l0 c rows m hr d (i + 1) (by omega) (fun j hj => by by_cases e : j = i; (· subst e; omega); (· exact h0 j (by omega)))
   refine ⟨b, Ev.step (fun k => ?_) ih, hb⟩
   simp only [crM_Few.l0, rd_L1_nat]
   rw [if_pos (by omega), if_pos (by omega), if_neg hx, w64_id (by omega) (by omega)]
   rfl
theorem few45 (c : Int) (rows : List (List Int)) (n m : Int) (hn : n ≤ 4611686018427387904) : ∃ b, Ev (fun k => crM_Few.f k c rows n m) b ∧ (b = true → (rows.length : Int) ≤ n ∧ c ≤ m ∧ ∀ j, j < rows.length → ((rows.getD j []).length : Int) ≤ m) := by
 have hj : Ev (fun k => crM_Few.j0 k m true c rows) false := Ev.step (f := fun _ => some false) (fun k => by simp only [crM_Few.j0]; rw [if_pos trivial]) (Ev.now _)
 unfold crM_Few.f
 by_cases h1 : (rows.length : Int) > n
 ·exact ⟨false, Ev.congr (fun k => if_pos h1) hj, fun h => by cases h⟩
 by_cases h2 : c > m
 ·exact ⟨false, Ev.congr (fun k => if_neg h1) (by rw [decide_eq_true h2]; exact hj), fun h => by cases h⟩
 obtain ⟨b, hb, hb2⟩ := few45_l0 c rows m (by omega) rows.length 0 (by omega) (fun j hj => by omega)
 refine ⟨b, Ev.congr (fun k => if_neg h1) ?_, fun h => ⟨by omega, by omega, hb2 h⟩⟩
 rw [decide_eq_false h2]
 refine Ev.step (fun k => ?_) hb
 simp only [crM_Few.j0]
 rw [if_neg Bool.false_ne_true]
 rfl
end Go.Proofs.Ytmclalniilkjiaa.Fw
namespace Go.Proofs.Ytmclalniilkjiaa.Q
open Go.RowKit Go.Proofs.YtmclalniilkjiaaW.PrintWords Go.Proofs.YtmclalniilkjiaaW.PrintLast Go.Proofs.YtmclalniilkjiaaW.PrintMore
open List renaming setIfInBounds_toArray → l01_, set_cons_zero → l02_, set_cons_succ → l03_
attribute [local go_sem] max2_int min2_int max_two min_two max_three min_three max_four min_four
set_option linter.unusedVariables false
set_option linter.unusedSimpArgs false
def cw_path.f  : Option (Int × (List (List Int))) := some (3, (([(([1, 1, 0] : List Int)), (([0, 1, 1] : List Int))] : List (List Int))))
set_option maxHeartbeats 8000000 in
set_option maxRecDepth 100000 in
theorem cw_path.calls  (r1 : Int) (r2 : List (List Int)) (w : World) (h : cw_path.f  = some (r1, r2)) :
  Calls Try.prog 35 #[] w fun e w' => ∃ v1_ : Value, e = .returned (.agg #[.int .i64 r1, v1_]) ∧ Kd.N (Kd.slice 3 (Kd.int .i64)) 25 w' w.heap.size (fun k_ => (w.heap.size ≤ k_)) v1_ r2 ∧ Below w.heap.size w w' := by
 have hu24 := Try.underlying24;have HB := Ai0.mk (Below.refl w.heap.size w);have H : (some (3, (([(([1, 1, 0] : List Int)), (([0, 1, 1] : List Int))] : List (List Int))))) = some (r1, r2) := h;clear h;obtain ⟨y130, hy130⟩ : ∃ y_ : List Int, y_ = (([1, 1, 0] : List Int)) := ⟨_, rfl⟩
 replace H : (some (3, (([y130, (([0, 1, 1] : List Int))] : List (List Int))))) = some (r1, r2) := by first | (rw [hy130]; with_reducible exact H) | (have H2_ := (Option.bind_some _ _).symm.trans H; rw [hy130]; with_reducible exact H2_) | (have H2_ := (Option.bind_some _ _).symm.trans H; with_reducible exact H2_) | with_reducible exact H | (rw [hy130]; exact H) | exact H
 have Ny130 := Ai0.mk hy130;clear hy130;obtain ⟨y133, hy133⟩ : ∃ y_ : List Int, y_ = (([0, 1, 1] : List Int)) := ⟨_, rfl⟩
 replace H : (some (3, (([y130, y133] : List (List Int))))) = some (r1, r2) := by first | (rw [hy133]; with_reducible exact H) | (have H2_ := (Option.bind_some _ _).symm.trans H; rw [hy133]; with_reducible exact H2_) | (have H2_ := (Option.bind_some _ _).symm.trans H; with_reducible exact H2_) | with_reducible exact H | (rw [hy133]; exact H) | exact H
 have Ny133 := Ai0.mk hy133;clear hy133;obtain ⟨y136, hy136⟩ : ∃ y_ : List (List Int), y_ = (([y130, y133] : List (List Int))) := ⟨_, rfl⟩
 replace H : (some (3, y136)) = some (r1, r2) := by first | (rw [hy136]; with_reducible exact H) | (have H2_ := (Option.bind_some _ _).symm.trans H; rw [hy136]; with_reducible exact H2_) | (have H2_ := (Option.bind_some _ _).symm.trans H; with_reducible exact H2_) | with_reducible exact H | (rw [hy136]; exact H) | exact H
 have Ny136 := Ai0.mk hy136;clear hy136;simp only [Option.some.injEq, Prod.mk.injEq] at H;obtain ⟨rfl, rfl⟩ := H;go_enter Try.func35, Try.ntmps35
 go_wp2_with (first | ((with_reducible refine gate_dst (N := 0) rfl ?_); refine box_event ?hg (N := 0) ?hd (cs := #[.int .i64 0, .slice none 0 0]) (t := 24) ?hr ?_; (case hd => rfl); (case hg => rfl); (case hr => first | (go_simp; done) | (go_simp; rfl)); intro gb129 hg w1 hbox hb; have n0_ := Ai0.mk (bt1 (by repeat (first | (with_reducible first | exact HB.out | apply ba1 | apply pbN | apply bw1) | exact HB.out)) hb); have n1_ := Ai0.mk (hbox); have n2_ := Ai0.mk ((by rw [hg]; exact (bz1 (by repeat (first | (with_reducible first | exact HB.out | apply ba1 | apply pbN | apply bw1) | exact HB.out))) : w.heap.size ≤ gb129)); have n3_ := Ai0.mk ((by rw [hg]; exact (bz1 (by repeat (first | (with_reducible first | exact HB.out | apply ba1 | apply pbN | apply bw1) | exact HB.out))) : w.heap.size ≤ gb129)); clear HB; have HB := n0_; have BK129 := n1_; have GW129 := n2_; have GE129 := n3_; clear n0_ n1_ n2_ n3_; clear hb hbox hg) | ((with_reducible refine gate_dst (N := 1) rfl ?_); refine Kd.R_lit (Kd.int .i64) _ 3 ?hg (N := 1) ?hd (xs := ([1, 1, 0] : List Int)) (inner := [.int .i64 1, .int .i64 1, .int .i64 0]) (ok := fun _ => True) (okp := fun _ => True) ?hr ?hp (fun _ hk => hk) trivial (Below.refl _ _) (Nat.le_refl _) (by simp) ?_; (case hd => rfl); (case hg => rfl); (case hr => first | (go_simp; done) | (go_simp; rfl)); (case hp => exact (Reps.one (show Kd.M (Kd.int .i64) _ _ _ 1 [.int .i64 1] from rfl) (Reps.one (show Kd.M (Kd.int .i64) _ _ _ 1 [.int .i64 1] from rfl) (Reps.one (show Kd.M (Kd.int .i64) _ _ _ 0 [.int .i64 0] from rfl) (Reps.none _ _))))); intro v131 w2 ho3 hb hg_ hnew_; clear hg_ hnew_; (first | rw [← Ny130.out] at ho3 | (simp only [Int.reduceToNat] at ho3; rw [← Ny130.out] at ho3)); have n0_ := Ai0.mk (Kd.R_lower (Kd.R_newM (M := fun k_ => (w.heap.size ≤ k_)) ho3 (bz1 (by repeat (first | (with_reducible first | exact HB.out | apply ba1 | apply pbN | apply bw1 | refine bs1 ?_ GE129.out) | exact HB.out))) (fun k_ h_ => h_)) (bz1 (by repeat (first | (with_reducible first | exact HB.out | apply ba1 | apply pbN | apply bw1 | refine bs1 ?_ GE129.out) | exact HB.out)))); have n1_ := Ai0.mk (kb1 (g := gb129) (o := .cells #[.int .i64 0, .slice none 0 0] 24 (0, 0)) (by (with_reducible repeat (first | refine kn1 ?_ _ | refine kd1 ?_ | refine ka1 ?_ _)); exact BK129.out) hb); have n2_ := Ai0.mk (bt1 (by repeat (first | (with_reducible first | exact HB.out | apply ba1 | apply pbN | apply bw1 | refine bs1 ?_ GE129.out) | exact HB.out)) hb); clear BK129; clear HB; have HO132 := n0_; have BK129 := n1_; have HB := n2_; clear n0_ n1_ n2_; clear hb ho3) | ((with_reducible refine gate_dst (N := 2) rfl ?_); refine Kd.R_lit (Kd.int .i64) _ 3 ?hg (N := 2) ?hd (xs := ([0, 1, 1] : List Int)) (inner := [.int .i64 0, .int .i64 1, .int .i64 1]) (ok := fun _ => True) (okp := fun _ => True) ?hr ?hp (fun _ hk => hk) trivial (Below.refl _ _) (Nat.le_refl _) (by simp) ?_; (case hd => rfl); (case hg => rfl); (case hr => first | (go_simp; done) | (go_simp; rfl)); (case hp => exact (Reps.one (show Kd.M (Kd.int .i64) _ _ _ 0 [.int .i64 0] from rfl) (Reps.one (show Kd.M (Kd.int .i64) _ _ _ 1 [.int .i64 1] from rfl) (Reps.one (show Kd.M (Kd.int .i64) _ _ _ 1 [.int .i64 1] from rfl) (Reps.none _ _))))); intro v134 w4 ho5 hb hg_ hnew_; clear hg_ hnew_; (first | rw [← Ny133.out] at ho5 | (simp only [Int.reduceToNat] at ho5; rw [← Ny133.out] at ho5)); have n0_ := Ai0.mk (Kd.R_elder' (by (with_reducible repeat (first | apply Kd.Ra1 | apply Kd.Rn1 | apply Kd.Rd1)); exact HO132.out) (Kd.R_base ho5) hb); have n1_ := Ai0.mk (Kd.R_lower (Kd.R_new' (Kd.R_newM (M := fun k_ => (w.heap.size ≤ k_)) ho5 (bz1 (by repeat (first | (with_reducible first | exact HB.out | apply ba1 | apply pbN | apply bw1 | refine bs1 ?_ GE129.out) | exact HB.out))) (fun k_ h_ => h_)) (Kd.R_lt (by (with_reducible repeat (first | apply Kd.Ra1 | apply Kd.Rn1 | apply Kd.Rd1)); exact HO132.out))) (bz1 (by repeat (first | (with_reducible first | exact HB.out | apply ba1 | apply pbN | apply bw1 | refine bs1 ?_ GE129.out) | exact HB.out)))); have n2_ := Ai0.mk (kb1 (g := gb129) (o := .cells #[.int .i64 0, .slice none 0 0] 24 (0, 0)) (by (with_reducible repeat (first | refine kn1 ?_ _ | refine kd1 ?_ | refine ka1 ?_ _)); exact BK129.out) hb); have n3_ := Ai0.mk (bt1 (by repeat (first | (with_reducible first | exact HB.out | apply ba1 | apply pbN | apply bw1 | refine bs1 ?_ GE129.out) | exact HB.out)) hb); clear HO132; clear BK129; clear HB; have HO132 := n0_; have HO135 := n1_; have BK129 := n2_; have HB := n3_; clear n0_ n1_ n2_ n3_; clear hb ho5; obtain ⟨Ao6, co6, eo6⟩ := Kd.R_slice HO132.out; subst eo6; obtain ⟨Ao7, co7, eo7⟩ := Kd.R_slice HO135.out; subst eo7) | ((with_reducible refine gate_dst (N := 3) rfl ?_); refine Kd.N_lit (Kd.slice 3 (Kd.int .i64)) _ 25 ?hg (N' := 3) ?hd (xs := ([y130, y133] : List (List Int))) (inner := [.slice Ao6 y130.length co6, .slice Ao7 y133.length co7]) (ok := (fun k_ => (w.heap.size ≤ k_) ∧ k_ ≠ gb129)) (okp := (fun k_ => (w.heap.size ≤ k_) ∧ k_ ≠ gb129)) ?hr ?hp (fun _ hk => hk) ((show ∀ k_, w4.heap.size ≤ k_ → (fun k_ => (w.heap.size ≤ k_) ∧ k_ ≠ gb129) k_ from fun k_ hk => ⟨(Nat.le_trans (bz1 (by repeat (first | (with_reducible first | exact HB.out | apply ba1 | apply pbN | apply bw1 | refine bs1 ?_ GE129.out) | exact HB.out))) hk), Kd.freshB (g := gb129) (o := .cells #[.int .i64 0, .slice none 0 0] 24 (0, 0)) (by (with_reducible repeat (first | refine kn1 ?_ _ | refine kd1 ?_ | refine ka1 ?_ _)); exact BK129.out) k_ hk⟩) _ (Nat.le_refl _)) (Below.refl _ _) (Nat.le_refl _) (by simp) ?_; (case hd => rfl); (case hg => rfl); (case hr => first | (go_simp; done) | (go_simp; rfl)); (case hp => exact (Reps.one (show Kd.FK (Kd.slice 3 (Kd.int .i64)) _ _ y130 [.slice Ao6 y130.length co6] from (Kd.FK_slice_mk (Kd.R_reads' (Kd.R_mono (ok' := (fun k_ => (w.heap.size ≤ k_) ∧ k_ ≠ gb129)) (Kd.R_types (HO132.out) BK129.out (by decide)) (fun k_ hk => ⟨hk.1.1.1, hk.2⟩))).2.1 (Kd.R_F (Kd.R_mono (ok' := (fun k_ => (w.heap.size ≤ k_) ∧ k_ ≠ gb129)) (Kd.R_types (HO132.out) BK129.out (by decide)) (fun k_ hk => ⟨hk.1.1.1, hk.2⟩))))) (Reps.one (show Kd.FK (Kd.slice 3 (Kd.int .i64)) _ _ y133 [.slice Ao7 y133.length co7] from (Kd.FK_slice_mk (Kd.R_reads' (Kd.R_mono (ok' := (fun k_ => (w.heap.size ≤ k_) ∧ k_ ≠ gb129)) (Kd.R_types (HO135.out) BK129.out (by decide)) (fun k_ hk => ⟨hk.1.1.1, hk.2⟩))).2.1 (Kd.R_F (Kd.R_mono (ok' := (fun k_ => (w.heap.size ≤ k_) ∧ k_ ≠ gb129)) (Kd.R_types (HO135.out) BK129.out (by decide)) (fun k_ hk => ⟨hk.1.1.1, hk.2⟩))))) (Reps.none _ _)))); intro v137 w8 ho9 hb hg_ hnew_; clear hg_ hnew_; (first | rw [← Ny136.out] at ho9 | (simp only [Int.reduceToNat] at ho9; rw [← Ny136.out] at ho9)); have n0_ := Ai0.mk (Kd.N_lower ho9 (bz1 (by repeat (first | (with_reducible first | exact HB.out | apply ba1 | apply pbN | apply bw1 | refine bs1 ?_ GE129.out) | exact HB.out)))); have n1_ := Ai0.mk (kb1 (g := gb129) (o := .cells #[.int .i64 0, .slice none 0 0] 24 (0, 0)) (by (with_reducible repeat (first | refine kn1 ?_ _ | refine kd1 ?_ | refine ka1 ?_ _)); exact BK129.out) hb); have n2_ := Ai0.mk (bt1 (by repeat (first | (with_reducible first | exact HB.out | apply ba1 | apply pbN | apply bw1 | refine bs1 ?_ GE129.out) | exact HB.out)) hb); clear BK129; clear HB; clear HO132; clear HO135; have HO138 := n0_; have BK129 := n1_; have HB := n2_; clear n0_ n1_ n2_; clear hb ho9; obtain ⟨Ao10, co10, eo10⟩ := Kd.N_slice HO138.out; subst eo10; have hcz11_0 : w8.cell? ⟨gb129, 0, none⟩ = some (.int .i64 0) := (kc1 BK129.out 0).trans rfl; have hcz11_1 : w8.cell? ⟨gb129, 1, none⟩ = some (.slice none 0 0) := (kc1 BK129.out 1).trans rfl; have hfz11_0 := kf1 BK129.out 0; have hfz11_1 := kf1 BK129.out 1))
 refine bodyPost_ret (results_cell_row rfl _ _ gb129 24 #[.int .i64 3, .slice Ao10 y136.length co10] (0, 0) _ rfl (by (with_reducible repeat (first | refine kn1 ?_ _ | refine kd1 ?_ | refine ka1 ?_ _)); refine blk_put (cs := #[.int .i64 3, .slice none 0 0]) ?_ 1 _ rfl; (with_reducible repeat (first | refine kn1 ?_ _ | refine kd1 ?_ | refine ka1 ?_ _)); refine blk_put (cs := #[.int .i64 0, .slice none 0 0]) ?_ 0 _ rfl; (with_reducible repeat (first | refine kn1 ?_ _ | refine kd1 ?_ | refine ka1 ?_ _)); exact BK129.out) Try.underlying24 rfl (by kernel_rfl)) rfl ?_;exact ⟨_, by first | rfl | (simp [eW0, eW1] <;> rfl) | (simp [*, eW0, eW1] <;> rfl), by (with_reducible repeat (first | apply Kd.N_alloc | apply Kd.N_drewN | apply Kd.N_drew)); exact Kd.N_mono (Kd.N_far (p := ⟨gb129, 1, none⟩) (Kd.N_far (p := ⟨gb129, 0, none⟩) (Kd.N_mono HO138.out (fun k_ hk => (⟨hk, hk.2⟩ : _ ∧ k_ ≠ gb129))) (fun _ hk => hk.2) (.int .i64 3)) (fun _ hk => hk.2) (.slice Ao10 y136.length co10)) (fun _ hk => hk.1.1), by repeat (first | (with_reducible first | exact HB.out | apply ba1 | apply pbN | apply bw1 | refine bs1 ?_ GE129.out) | exact HB.out)⟩
end Go.Proofs.Ytmclalniilkjiaa.Q
