-- Joined by pack.py, a program of this work: Qx37 Qx43 Qx47 Qx91 Qx92 Be Qx46 Qx94 Mi Qx68
import Derived.Test.YtmclalniilkjiaaZMinSums0
import Derived.Test.YtmclalniilkjiaaZMinSums3
import Derived.Test.YtmclalniilkjiaaZMinSums2
namespace Go.Proofs.Ytmclalniilkjiaa.Q
open Go.RowKit Go.Proofs.YtmclalniilkjiaaW.PrintWords Go.Proofs.YtmclalniilkjiaaW.PrintLast Go.Proofs.YtmclalniilkjiaaW.PrintMore
open List renaming setIfInBounds_toArray → l01_, set_cons_zero → l02_, set_cons_succ → l03_
attribute [local go_sem] max2_int min2_int max_two min_two max_three min_three max_four min_four
set_option linter.unusedVariables false
set_option linter.unusedSimpArgs false
def crM_Args.l0 : Nat → List Int → Int → Int → Option (Int)
 | 0, _, _, _ => none
 | k + 1, x1, x2, x8 => if x8 < (x1.length : Int) then (if 0 ≤ x8 then (if (rd x1 x8) < (-1048576) then (some 6) else (if (rd x1 x8) > 1048576 then (some 6) else (crM_Args.l0 k x1 x2 (wrap64 (x8 + 1))))) else (none)) else (if x2 < 0 then (some 6) else (if x2 > 256 then (some 6) else (some 0)))
def crM_Args.f (k : Nat) (a0_0 : Int) (l0_1 : List (List Int)) (l1 : List Int) (a2 : Int) : Option (Int) := (crM_Two.f).bind fun bt199 => ((cr9_Check.f k bt199.1 bt199.2.1 bt199.2.2 a0_0 l0_1).bind fun t204 => (if t204 = 0 then (if (l1.length : Int) = a0_0 then (crM_Args.l0 k l1 a2 0) else (some 4)) else (some t204)))
theorem crM_Args.mono_l : ∀ k, (∀ y0 y1 y2, LeO (crM_Args.l0 k y0 y1 y2) (crM_Args.l0 (k + 1) y0 y1 y2))
 | 0 => fun _ _ _ r h => by simp [crM_Args.l0] at h
 | k + 1 => by
  have ih0 := crM_Args.mono_l k
  ·intro y0 y1 y2;unfold crM_Args.l0
   repeat' first
   | (with_reducible exact ih0 _ _ _)
   | (with_reducible exact cr9_Check.mono _ _ _ _ _ _)
   | (with_reducible exact LeO.refl _)
   | (with_reducible exact LeO.none _)
   | (with_reducible refine LeO.ite ?_ ?_)
   | (with_reducible refine LeO.bind ?_ (fun _ => ?_))
   | exact ih0 _ _ _
   | exact cr9_Check.mono _ _ _ _ _ _
   | exact LeO.none _
   | refine LeO.ite ?_ ?_
   | refine LeO.bind ?_ (fun _ => ?_)
theorem crM_Args.mono : ∀ a0 a1 a2 a3 k, LeO (crM_Args.f k a0 a1 a2 a3) (crM_Args.f (k + 1) a0 a1 a2 a3) := by
 intro a0 a1 a2 a3 k;have ih0 := crM_Args.mono_l k;unfold crM_Args.f
 repeat' first
   | (with_reducible exact ih0 _ _ _)
   | (with_reducible exact cr9_Check.mono _ _ _ _ _ _)
   | (with_reducible exact LeO.refl _)
   | (with_reducible exact LeO.none _)
   | (with_reducible refine LeO.ite ?_ ?_)
   | (with_reducible refine LeO.bind ?_ (fun _ => ?_))
   | exact ih0 _ _ _
   | exact cr9_Check.mono _ _ _ _ _ _
   | exact LeO.none _
   | refine LeO.ite ?_ ?_
   | refine LeO.bind ?_ (fun _ => ?_)
set_option maxHeartbeats 8000000 in
set_option maxRecDepth 100000 in
theorem crM_Args.calls (k : Nat) (a0_0 : Int) (A0_1 : Option Addr) (c0_1 : Nat) (l0_1 : List (List Int)) (A1 : Option Addr) (c1 : Nat) (l1 : List Int) (a2 : Int) (r : Int) (w : World) (hr0_1 : Kd.C (Kd.slice 3 (Kd.int .i64)) w A0_1 l0_1.length l0_1) (hc0_1 : l0_1.length ≤ c0_1) (hr1 : Kd.C (Kd.int .i64) w A1 l1.length l1) (hc1 : l1.length ≤ c1) (h : crM_Args.f k a0_0 l0_1 l1 a2 = some r) :
  Calls Try.prog 15 #[.agg #[.int .i64 a0_0, .slice A0_1 l0_1.length c0_1], .slice A1 l1.length c1, .int .i64 a2] w fun e w' => e = .returned (.int .i64 r) ∧ Below w.heap.size w w' := by
 have hu24 := Try.underlying24;have HR0_1 := Ai0.mk hr0_1;have HC0_1 := Ai0.mk hc0_1;clear hr0_1 hc0_1;have HR1 := Ai0.mk hr1;have HC1 := Ai0.mk hc1;clear hr1 hc1;have HB := Ai0.mk (Below.refl w.heap.size w);have H : ((crM_Two.f).bind fun bt199 => ((cr9_Check.f k bt199.1 bt199.2.1 bt199.2.2 a0_0 l0_1).bind fun t204 => (if t204 = 0 then (if (l1.length : Int) = a0_0 then (crM_Args.l0 k l1 a2 0) else (some 4)) else (some t204)))) = some r := h;clear h;replace H := Option.bind_eq_some_iff.mp H;obtain ⟨⟨t199, t200, t201⟩, A40, H⟩ := H;replace H : ((cr9_Check.f k t199 t200 t201 a0_0 l0_1).bind fun t204 => (if t204 = 0 then (if (l1.length : Int) = a0_0 then (crM_Args.l0 k l1 a2 0) else (some 4)) else (some t204))) = some r := H;have A4 := Ai0.mk A40;clear A40;replace H := Option.bind_eq_some_iff.mp H;obtain ⟨t204, A50, H⟩ := H;replace H : (if t204 = 0 then (if (l1.length : Int) = a0_0 then (crM_Args.l0 k l1 a2 0) else (some 4)) else (some t204)) = some r := H;have A5 := Ai0.mk A50;clear A50;by_cases c6 : t204 = 0
 ·rw [if_pos c6] at H;have c6b0 : (t204 == 0) = true := beq_iff_eq.mpr c6;have c6b1 : (t204 != 0) = false := bne_eq_false_iff_eq.mpr c6;clear c6;by_cases c7 : (l1.length : Int) = a0_0
  case' pos =>
   rw [if_pos c7] at H;have c7b0 : ((l1.length : Int) == a0_0) = true := beq_iff_eq.mpr c7;have c7b1 : ((l1.length : Int) != a0_0) = false := bne_eq_false_iff_eq.mpr c7;clear c7;have H' := Ai0.mk H;clear H
  case' neg =>
   rw [if_neg c7] at H;have c7b0 : ((l1.length : Int) == a0_0) = false := beq_eq_false_iff_ne.mpr c7;have c7b1 : ((l1.length : Int) != a0_0) = true := bne_iff_ne.mpr c7;obtain rfl := Option.some.inj H
  all_goals
   go_enter Try.func15, Try.ntmps15
   try go_wp2_with (first | ((with_reducible refine gate_dst (N := 3) rfl ?_); refine box_event ?hg (N := 3) ?hd (cs := #[.int .i64 a0_0, .slice A0_1 l0_1.length c0_1]) (t := 24) ?hr ?_; (case hd => rfl); (case hg => rfl); (case hr => first | (go_simp; done) | (go_simp; rfl)); intro gb198 hg w8 hbox hb; have n0_ := Ai0.mk (bt1 bl_ hb); have n1_ := Ai0.mk (hbox); have n2_ := Ai0.mk ((by rw [hg]; exact (bz1 bl_) : w.heap.size ≤ gb198)); have n3_ := Ai0.mk ((by rw [hg]; exact (bz1 bl_) : w.heap.size ≤ gb198)); clear HB; have HB := n0_; have BK198 := n1_; have GW198 := n2_; have GE198 := n3_; clear n0_ n1_ n2_ n3_; clear hb hbox hg))
   have n0_ := Ai0.mk (kd1 BK198.out);have n1_ := Ai0.mk (bw1 HB.out);clear BK198;clear HB;have BK198 := n0_;have HB := n1_;clear n0_ n1_;refine start_ (n := 4) (S := fun w' => w'.cell? ⟨gb198, 0, none⟩ = some (.int .i64 a0_0) ∧ w'.cell? ⟨gb198, 1, none⟩ = some (.slice A0_1 l0_1.length c0_1)) (ds := []) #[false, false, false, false] (by kernel_rfl) rfl rfl ⟨(kc1 BK198.out 0).trans rfl, (kc1 BK198.out 1).trans rfl⟩ (fun hHeld => ?_);generalize w8.drew = w9 at BK198 HB hHeld ⊢
   refine take_ (i := 1) (N := some 10) (v := ?_) (a' := ?_) #[false, true, false, false] rfl rfl (by kernel_rfl) (fun _ _ _ h => h) (Or.inl ⟨by rfl, ?_⟩) hHeld ?_ ?_;rotate_left
   ·rintro w' ⟨s0, s1⟩
    go_simp
    with_reducible rfl
   rotate_left
   ·simp only [Act.put, l01_, l02_, l03_, i64_w, i32_w]
    rfl
   refine one_ (i := 0) (N := some 9) #[true, true, false, false] rfl rfl (by kernel_rfl) (by decide) (fun K hK => ?_);refine goes_ Try.func26 (by kernel_rfl) rfl #[] (by rfl) rfl rfl (by (try simp only [List.map_toArray, List.map_cons, List.map_nil]); first | done | rfl | (simp only [List.length_drop, List.length_take]; rfl)) ?_
   with_reducible refine (crM_Two.calls  t199 t200 t201 _ A4.out).mono ?_
   rintro e w10 ⟨v202, rfl, ho0, hb⟩
   refine ⟨_, rfl, ?_⟩;have n0_ := Ai0.mk (Kd.R_lower ho0 (bz1 bl_));have n1_ := Ai0.mk (kb1 (g := gb198) (o := .cells #[.int .i64 a0_0, .slice A0_1 l0_1.length c0_1] 24 (0, 0)) (kk_ BK198.out) hb);have n2_ := Ai0.mk (bt1 bl_ hb);clear BK198;clear HB;have HO203 := n0_;have BK198 := n1_;have HB := n2_;clear n0_ n1_ n2_;(try clear hb);(try clear hb2);(try clear hk);(try clear hi);(try clear ho0);obtain ⟨Ao11, co11, eo11⟩ := Kd.R_slice HO203.out;(first | subst eo11 | (injection eo11 with f1_ f2_ f3_; have f4_ := f1_.symm; have f5_ := f3_.symm; clear f1_ f2_ f3_; subst f4_; subst f5_));refine hK.out _ _ ⟨(kc1 BK198.out 0).trans rfl, (kc1 BK198.out 1).trans rfl⟩ (fun hHeld => ?_);clear hK K;refine norm_ (a' := ?_) ?_ ?_;rotate_left
   ·show Act.put _ (some 9) _ = _;simp only [Act.put, l01_, l02_, l03_, i64_w, i32_w]
    rfl
   refine one_ (i := 2) (N := some 11) #[true, true, true, false] rfl rfl (by kernel_rfl) (by decide) (fun K hK => ?_);refine goes_ Try.func30 (by kernel_rfl) rfl #[.agg #[.int .i64 t199, .int .i64 t200, .slice Ao11 t201.length co11], .agg #[.int .i64 a0_0, .slice A0_1 l0_1.length c0_1]] (by rfl) rfl rfl (by (try simp only [List.map_toArray, List.map_cons, List.map_nil]); first | done | rfl | (simp only [List.length_drop, List.length_take]; rfl)) ?_
   with_reducible refine (cr9_Check.calls k t199 t200 _ _ t201 a0_0 _ _ l0_1 t204 _ ?side1 ?side2 ?side3 ?side4 A5.out).mono ?_
   (case side1 => repeat (first | exact (Kd.R_reads' HO203.out).2.2 | (with_reducible refine Kd.C_alloc ?_ _) | (with_reducible refine Kd.C_drewN ?_ _) | (with_reducible refine Kd.C_drew ?_)));(case side2 => exact (Kd.R_reads' HO203.out).2.1);(case side3 => exact kc_ HR0_1.out);(case side4 => exact HC0_1.out)
   rintro e w12 ⟨rfl, hb⟩
   refine ⟨_, rfl, ?_⟩;have n0_ := Ai0.mk (Kd.R_below (kr_ HO203.out) hb);have n1_ := Ai0.mk (kb1 (g := gb198) (o := .cells #[.int .i64 a0_0, .slice A0_1 l0_1.length c0_1] 24 (0, 0)) (kk_ BK198.out) hb);have n2_ := Ai0.mk (bt1 bl_ hb);clear HO203;clear BK198;clear HB;have HO203 := n0_;have BK198 := n1_;have HB := n2_;clear n0_ n1_ n2_;(try clear hb);(try clear hb2);(try clear hk);(try clear hi);refine hK.out _ _ ⟨(kc1 BK198.out 0).trans rfl, (kc1 BK198.out 1).trans rfl⟩ (fun hHeld => ?_);clear hK K;refine norm_ (a' := ?_) ?_ ?_;rotate_left
   ·show Act.put _ (some 11) _ = _;simp only [Act.put, l01_, l02_, l03_, i64_w, i32_w]
    rfl
   refine pure_ (i := 3) (N := some 7) (v := ?_) (a' := ?_) #[true, true, true, true] rfl rfl (by kernel_rfl) (fun _ _ _ h => h) (Or.inl ⟨by rfl, ?_⟩) ?_ ?_;rotate_left
   ·intro w';go_simp
    with_reducible rfl
   rotate_left
   ·simp only [Act.put, l01_, l02_, l03_, i64_w, i32_w]
    rfl
   refine done_ (by kernel_rfl) ?_;have hcz13_0 : w12.cell? ⟨gb198, 0, none⟩ = some (.int .i64 a0_0) := (kc1 BK198.out 0).trans rfl;have hcz13_1 : w12.cell? ⟨gb198, 1, none⟩ = some (.slice A0_1 l0_1.length c0_1) := (kc1 BK198.out 1).trans rfl;have hfz13_0 := kf1 BK198.out 0;have hfz13_1 := kf1 BK198.out 1
   try go_wp2
  ·go_ret
   exact ⟨by first | rfl | (simp [eW0, eW1] <;> rfl) | (simp [*, eW0, eW1] <;> rfl), bl_⟩
  ·go_loopg [8] k (fun kq v8 w' => ∃ (x8_1 : Int), v8 = .int .i64 x8_1 ∧ Ai0 (crM_Args.l0 kq l1 a2 x8_1 = some r) ∧ Ai0 (kq ≤ k) ∧ Ai0 (w'.heap[gb198]? = some (.cells #[.int .i64 a0_0, (.slice A0_1 l0_1.length c0_1)] 24 (0, 0))) ∧ Ai0 (Below w.heap.size w w'))
   case atStart => exact ⟨(0), rf_, H', ⟨Nat.le_refl _⟩, ⟨kk_ BK198.out⟩, ⟨bl_⟩⟩
   case round =>
    clear H'
    try clear c1
    try clear c2
    try clear p2
    try clear c3
    try clear c6
    try clear c6b0
    try clear c6b1
    try clear c7
    try clear c7b0
    try clear c7b1
    try clear hcz13_0
    try clear hcz13_1
    try clear hfz13_0
    try clear hfz13_1
    obtain ⟨x8_1, rfl, HA, HK1, BK198, HB⟩ := hrel
    cases gk with
    | zero => exact absurd HA.out (by simp [crM_Args.l0])
    | succ k1 =>
     have H := HA.out;clear HA;simp only [crM_Args.l0] at H;by_cases c14 : x8_1 < (l1.length : Int)
     ·rw [if_pos c14] at H;have c14b0 : decide (x8_1 < (l1.length : Int)) = true := decide_eq_true c14;clear c14;by_cases c15 : 0 ≤ x8_1
      ·rw [if_pos c15] at H;have c15b0 : decide (0 ≤ x8_1) = true := decide_eq_true c15;clear c15;by_cases c16 : (rd l1 x8_1) < (-1048576)
       ·rw [if_pos c16] at H;have c16b0 : decide ((rd l1 x8_1) < (-1048576)) = true := decide_eq_true c16;clear c16;obtain rfl := Option.some.inj H;have p205 : 0 ≤ (x8_1 : Int) := od_;have q205 : x8_1 < (l1.length : Int) := od_;obtain ⟨ad205, e205, hx205_0⟩ := Kd.at_int HR1.out x8_1 p205 q205;cases e205;replace hx205_0 := (HB.out.cell (World.block_lt_of_cell? w _ hx205_0)).trans hx205_0;replace p205 := eq_true p205;replace q205 := eq_true q205
        go_wp2
        go_ret
        exact ⟨by first | rfl | (simp [eW0, eW1] <;> rfl) | (simp [*, eW0, eW1] <;> rfl), bl_⟩
       ·rw [if_neg c16] at H;have c16b0 : decide ((rd l1 x8_1) < (-1048576)) = false := decide_eq_false c16;clear c16;by_cases c17 : (rd l1 x8_1) > 1048576
        ·rw [if_pos c17] at H;have c17b0 : decide (1048576 < (rd l1 x8_1)) = true := decide_eq_true c17;clear c17;obtain rfl := Option.some.inj H;have p205 : 0 ≤ (x8_1 : Int) := od_;have q205 : x8_1 < (l1.length : Int) := od_;obtain ⟨ad205, e205, hx205_0⟩ := Kd.at_int HR1.out x8_1 p205 q205;cases e205;replace hx205_0 := (HB.out.cell (World.block_lt_of_cell? w _ hx205_0)).trans hx205_0;replace p205 := eq_true p205;replace q205 := eq_true q205;have p206 : 0 ≤ (x8_1 : Int) := od_;have q206 : x8_1 < (l1.length : Int) := od_;obtain ⟨ad206, e206, hx206_0⟩ := Kd.at_int HR1.out x8_1 p206 q206;obtain rfl : ad205 = ad206 := (by injection e206);replace hx206_0 := (HB.out.cell (World.block_lt_of_cell? w _ hx206_0)).trans hx206_0;replace p206 := eq_true p206;replace q206 := eq_true q206
         go_wp2
         go_ret
         exact ⟨by first | rfl | (simp [eW0, eW1] <;> rfl) | (simp [*, eW0, eW1] <;> rfl), bl_⟩
        ·rw [if_neg c17] at H;have c17b0 : decide (1048576 < (rd l1 x8_1)) = false := decide_eq_false c17;clear c17;have H' := Ai0.mk H;clear H;have p205 : 0 ≤ (x8_1 : Int) := od_;have q205 : x8_1 < (l1.length : Int) := od_;obtain ⟨ad205, e205, hx205_0⟩ := Kd.at_int HR1.out x8_1 p205 q205;cases e205;replace hx205_0 := (HB.out.cell (World.block_lt_of_cell? w _ hx205_0)).trans hx205_0;replace p205 := eq_true p205;replace q205 := eq_true q205;have p206 : 0 ≤ (x8_1 : Int) := od_;have q206 : x8_1 < (l1.length : Int) := od_;obtain ⟨ad206, e206, hx206_0⟩ := Kd.at_int HR1.out x8_1 p206 q206;obtain rfl : ad205 = ad206 := (by injection e206);replace hx206_0 := (HB.out.cell (World.block_lt_of_cell? w _ hx206_0)).trans hx206_0;replace p206 := eq_true p206;replace q206 := eq_true q206
         go_wp2
         go_roundg k1
         case measure => have := HK1.out; omega
         case rel => exact ⟨(wrap64 (x8_1 + 1)), rf_, H', ⟨by have := HK1.out; omega⟩, ⟨kk_ BK198.out⟩, ⟨bl_⟩⟩
      ·rw [if_neg c15] at H;exact absurd H (by simp)
     ·rw [if_neg c14] at H;have c14b0 : decide (x8_1 < (l1.length : Int)) = false := decide_eq_false c14;clear c14;by_cases c18 : a2 < 0
      ·rw [if_pos c18] at H;have c18b0 : decide (a2 < 0) = true := decide_eq_true c18;clear c18;obtain rfl := Option.some.inj H
       go_wp2
       go_ret
       exact ⟨by first | rfl | (simp [eW0, eW1] <;> rfl) | (simp [*, eW0, eW1] <;> rfl), bl_⟩
      ·rw [if_neg c18] at H;have c18b0 : decide (a2 < 0) = false := decide_eq_false c18;clear c18;by_cases c19 : a2 > 256
       ·rw [if_pos c19] at H;have c19b0 : decide (256 < a2) = true := decide_eq_true c19;clear c19;obtain rfl := Option.some.inj H
        go_wp2
        go_ret
        exact ⟨by first | rfl | (simp [eW0, eW1] <;> rfl) | (simp [*, eW0, eW1] <;> rfl), bl_⟩
       ·rw [if_neg c19] at H;have c19b0 : decide (256 < a2) = false := decide_eq_false c19;clear c19;obtain rfl := Option.some.inj H
        go_wp2
        go_ret
        exact ⟨by first | rfl | (simp [eW0, eW1] <;> rfl) | (simp [*, eW0, eW1] <;> rfl), bl_⟩
 ·rw [if_neg c6] at H;have c6b0 : (t204 == 0) = false := beq_eq_false_iff_ne.mpr c6;have c6b1 : (t204 != 0) = true := bne_iff_ne.mpr c6;obtain rfl := Option.some.inj H;go_enter Try.func15, Try.ntmps15
  try go_wp2_with (first | ((with_reducible refine gate_dst (N := 3) rfl ?_); refine box_event ?hg (N := 3) ?hd (cs := #[.int .i64 a0_0, .slice A0_1 l0_1.length c0_1]) (t := 24) ?hr ?_; (case hd => rfl); (case hg => rfl); (case hr => first | (go_simp; done) | (go_simp; rfl)); intro gb198 hg w26 hbox hb; have n0_ := Ai0.mk (bt1 bl_ hb); have n1_ := Ai0.mk (hbox); have n2_ := Ai0.mk ((by rw [hg]; exact (bz1 bl_) : w.heap.size ≤ gb198)); have n3_ := Ai0.mk ((by rw [hg]; exact (bz1 bl_) : w.heap.size ≤ gb198)); clear HB; have HB := n0_; have BK198 := n1_; have GW198 := n2_; have GE198 := n3_; clear n0_ n1_ n2_ n3_; clear hb hbox hg))
  have n0_ := Ai0.mk (kd1 BK198.out);have n1_ := Ai0.mk (bw1 HB.out);clear BK198;clear HB;have BK198 := n0_;have HB := n1_;clear n0_ n1_;refine start_ (n := 4) (S := fun w' => w'.cell? ⟨gb198, 0, none⟩ = some (.int .i64 a0_0) ∧ w'.cell? ⟨gb198, 1, none⟩ = some (.slice A0_1 l0_1.length c0_1)) (ds := []) #[false, false, false, false] (by kernel_rfl) rfl rfl ⟨(kc1 BK198.out 0).trans rfl, (kc1 BK198.out 1).trans rfl⟩ (fun hHeld => ?_);generalize w26.drew = w27 at BK198 HB hHeld ⊢
  refine take_ (i := 1) (N := some 10) (v := ?_) (a' := ?_) #[false, true, false, false] rfl rfl (by kernel_rfl) (fun _ _ _ h => h) (Or.inl ⟨by rfl, ?_⟩) hHeld ?_ ?_;rotate_left
  ·rintro w' ⟨s0, s1⟩
   go_simp
   with_reducible rfl
  rotate_left
  ·simp only [Act.put, l01_, l02_, l03_, i64_w, i32_w]
   rfl
  refine one_ (i := 0) (N := some 9) #[true, true, false, false] rfl rfl (by kernel_rfl) (by decide) (fun K hK => ?_);refine goes_ Try.func26 (by kernel_rfl) rfl #[] (by rfl) rfl rfl (by (try simp only [List.map_toArray, List.map_cons, List.map_nil]); first | done | rfl | (simp only [List.length_drop, List.length_take]; rfl)) ?_
  with_reducible refine (crM_Two.calls  t199 t200 t201 _ A4.out).mono ?_
  rintro e w28 ⟨v202, rfl, ho0, hb⟩
  refine ⟨_, rfl, ?_⟩;have n0_ := Ai0.mk (Kd.R_lower ho0 (bz1 bl_));have n1_ := Ai0.mk (kb1 (g := gb198) (o := .cells #[.int .i64 a0_0, .slice A0_1 l0_1.length c0_1] 24 (0, 0)) (kk_ BK198.out) hb);have n2_ := Ai0.mk (bt1 bl_ hb);clear BK198;clear HB;have HO203 := n0_;have BK198 := n1_;have HB := n2_;clear n0_ n1_ n2_;(try clear hb);(try clear hb2);(try clear hk);(try clear hi);(try clear ho0);obtain ⟨Ao29, co29, eo29⟩ := Kd.R_slice HO203.out;(first | subst eo29 | (injection eo29 with f1_ f2_ f3_; have f4_ := f1_.symm; have f5_ := f3_.symm; clear f1_ f2_ f3_; subst f4_; subst f5_));refine hK.out _ _ ⟨(kc1 BK198.out 0).trans rfl, (kc1 BK198.out 1).trans rfl⟩ (fun hHeld => ?_);clear hK K;refine norm_ (a' := ?_) ?_ ?_;rotate_left
  ·show Act.put _ (some 9) _ = _;simp only [Act.put, l01_, l02_, l03_, i64_w, i32_w]
   rfl
  refine one_ (i := 2) (N := some 11) #[true, true, true, false] rfl rfl (by kernel_rfl) (by decide) (fun K hK => ?_);refine goes_ Try.func30 (by kernel_rfl) rfl #[.agg #[.int .i64 t199, .int .i64 t200, .slice Ao29 t201.length co29], .agg #[.int .i64 a0_0, .slice A0_1 l0_1.length c0_1]] (by rfl) rfl rfl (by (try simp only [List.map_toArray, List.map_cons, List.map_nil]); first | done | rfl | (simp only [List.length_drop, List.length_take]; rfl)) ?_
  with_reducible refine (cr9_Check.calls k t199 t200 _ _ t201 a0_0 _ _ l0_1 t204 _ ?side1 ?side2 ?side3 ?side4 A5.out).mono ?_
  (case side1 => repeat (first | exact (Kd.R_reads' HO203.out).2.2 | (with_reducible refine Kd.C_alloc ?_ _) | (with_reducible refine Kd.C_drewN ?_ _) | (with_reducible refine Kd.C_drew ?_)));(case side2 => exact (Kd.R_reads' HO203.out).2.1);(case side3 => exact kc_ HR0_1.out);(case side4 => exact HC0_1.out)
  rintro e w30 ⟨rfl, hb⟩
  refine ⟨_, rfl, ?_⟩;have n0_ := Ai0.mk (Kd.R_below (kr_ HO203.out) hb);have n1_ := Ai0.mk (kb1 (g := gb198) (o := .cells #[.int .i64 a0_0, .slice A0_1 l0_1.length c0_1] 24 (0, 0)) (kk_ BK198.out) hb);have n2_ := Ai0.mk (bt1 bl_ hb);clear HO203;clear BK198;clear HB;have HO203 := n0_;have BK198 := n1_;have HB := n2_;clear n0_ n1_ n2_;(try clear hb);(try clear hb2);(try clear hk);(try clear hi);refine hK.out _ _ ⟨(kc1 BK198.out 0).trans rfl, (kc1 BK198.out 1).trans rfl⟩ (fun hHeld => ?_);clear hK K;refine norm_ (a' := ?_) ?_ ?_;rotate_left
  ·show Act.put _ (some 11) _ = _;simp only [Act.put, l01_, l02_, l03_, i64_w, i32_w]
   rfl
  refine pure_ (i := 3) (N := some 7) (v := ?_) (a' := ?_) #[true, true, true, true] rfl rfl (by kernel_rfl) (fun _ _ _ h => h) (Or.inl ⟨by rfl, ?_⟩) ?_ ?_;rotate_left
  ·intro w';go_simp
   with_reducible rfl
  rotate_left
  ·simp only [Act.put, l01_, l02_, l03_, i64_w, i32_w]
   rfl
  refine done_ (by kernel_rfl) ?_
  try go_wp2
  go_ret
  exact ⟨by first | rfl | (simp [eW0, eW1] <;> rfl) | (simp [*, eW0, eW1] <;> rfl), bl_⟩
def message_Decide.l0 : Nat → List Int → List Int → Int → Int → Option (List Int)
 | 0, _, _, _, _ => none
 | k + 1, x3, x9, x10, x11 => if x11 < x10 then (if 0 ≤ x11 then (if x11 < (x9.length : Int) then (if (rd x9 x11) < 0 then (if x11 < (x3.length : Int) then (message_Decide.l0 k (x3.set (x11 : Int).toNat 1) x9 x10 (wrap64 (x11 + 1))) else (none)) else (message_Decide.l0 k x3 x9 x10 (wrap64 (x11 + 1)))) else (none)) else (none)) else (some x3)
def message_Decide.f (k : Nat) (l0 : List Int) : Option (List Int) := if 0 ≤ (l0.length : Int) then (if ((l0.length : Int) : Int).toNat ≤ 35184372088832 then (message_Decide.l0 k (List.replicate ((l0.length : Int) : Int).toNat 0) l0 (l0.length : Int) 0) else (none)) else (none)
theorem message_Decide.mono_l : ∀ k, (∀ y0 y1 y2 y3, LeO (message_Decide.l0 k y0 y1 y2 y3) (message_Decide.l0 (k + 1) y0 y1 y2 y3))
 | 0 => fun _ _ _ _ r h => by simp [message_Decide.l0] at h
 | k + 1 => by
  have ih0 := message_Decide.mono_l k
  ·intro y0 y1 y2 y3;unfold message_Decide.l0
   repeat' first
   | (with_reducible exact ih0 _ _ _ _)
   | (with_reducible exact LeO.refl _)
   | (with_reducible exact LeO.none _)
   | (with_reducible refine LeO.ite ?_ ?_)
   | (with_reducible refine LeO.bind ?_ (fun _ => ?_))
   | exact ih0 _ _ _ _
   | exact LeO.none _
   | refine LeO.ite ?_ ?_
   | refine LeO.bind ?_ (fun _ => ?_)
theorem message_Decide.mono : ∀ a0 k, LeO (message_Decide.f k a0) (message_Decide.f (k + 1) a0) := by
 intro a0 k;have ih0 := message_Decide.mono_l k;unfold message_Decide.f
 repeat' first
   | (with_reducible exact ih0 _ _ _ _)
   | (with_reducible exact LeO.refl _)
   | (with_reducible exact LeO.none _)
   | (with_reducible refine LeO.ite ?_ ?_)
   | (with_reducible refine LeO.bind ?_ (fun _ => ?_))
   | exact ih0 _ _ _ _
   | exact LeO.none _
   | refine LeO.ite ?_ ?_
   | refine LeO.bind ?_ (fun _ => ?_)
set_option maxHeartbeats 8000000 in
set_option maxRecDepth 100000 in
theorem message_Decide.calls (k : Nat) (A0 : Option Addr) (c0 : Nat) (l0 : List Int) (r : List Int) (w : World) (hr0 : Kd.C (Kd.int .i64) w A0 l0.length l0) (hc0 : l0.length ≤ c0) (h : message_Decide.f k l0 = some r) :
  Calls Try.prog 41 #[.slice A0 l0.length c0] w fun e w' => ∃ v0_ : Value, e = .returned (v0_) ∧ Kd.R (Kd.int .i64) 3 w' w.heap.size (fun _ => True) v0_ r ∧ Below w.heap.size w w' := by
 have HR0 := Ai0.mk hr0;have HC0 := Ai0.mk hc0;clear hr0 hc0;have HB := Ai0.mk (Below.refl w.heap.size w);have H : (if 0 ≤ (l0.length : Int) then (if ((l0.length : Int) : Int).toNat ≤ 35184372088832 then (message_Decide.l0 k (List.replicate ((l0.length : Int) : Int).toNat 0) l0 (l0.length : Int) 0) else (none)) else (none)) = some r := h;clear h;by_cases c2 : 0 ≤ (l0.length : Int)
 ·rw [if_pos c2] at H;have c2b0 := eq_true c2;have c2b1 : decide (0 ≤ (l0.length : Int)) = true := decide_eq_true c2;clear c2;by_cases c3 : ((l0.length : Int) : Int).toNat ≤ 35184372088832
  ·rw [if_pos c3] at H;have c3b0 := eq_true c3;have c3b1 : decide (((l0.length : Int) : Int).toNat ≤ 35184372088832) = true := decide_eq_true c3;clear c3;obtain ⟨y249, hy249⟩ : ∃ y_ : List Int, y_ = (List.replicate ((l0.length : Int) : Int).toNat 0) := ⟨_, rfl⟩
   replace H : (message_Decide.l0 k y249 l0 (l0.length : Int) 0) = some r := by first | (rw [hy249]; with_reducible exact H) | (have H2_ := (Option.bind_some _ _).symm.trans H; rw [hy249]; with_reducible exact H2_) | (have H2_ := (Option.bind_some _ _).symm.trans H; with_reducible exact H2_) | with_reducible exact H | (rw [hy249]; exact H) | exact H
   have Ny249 := Ai0.mk hy249;clear hy249;have H' := Ai0.mk H;clear H;go_enter Try.func41, Try.ntmps41
   go_wp2_with (first | ((with_reducible refine gate_dst (N := 8) rfl ?_); refine Kd.R_make (Kd.int .i64) _ 3 rfl (N := 8) rfl 25 _ _ rfl (l0.length : Int) rfl rfl Try.underlying25 (.int .i64 0) 8 info3 rfl (by decide) (by omega) 0 (ok := fun _ => True) (okp := fun _ => True) rfl (fun _ hk => hk) trivial od_ (Nat.le_trans (Nat.mul_le_mul_right _ (od_ : (l0.length : Int).toNat ≤ 35184372088832)) (by omega)) (Below.refl _ _) (Nat.le_refl _) ?_; intro v250 w4 ho5 hb hg_ hnew_; clear hg_ hnew_; (first | rw [← Ny249.out] at ho5 | (simp only [Int.reduceToNat] at ho5; rw [← Ny249.out] at ho5)); have n0_ := Ai0.mk (Kd.R_lower ho5 (bz1 bl_)); have n1_ := Ai0.mk (bt1 bl_ hb); clear HB; have HO251 := n0_; have HB := n1_; clear n0_ n1_; clear hb ho5))
   go_loopg [11] k (fun kq v11 w' => ∃ (x3_1 : List Int) (x11_1 : Int), v11 = .int .i64 x11_1 ∧ Ai0 (message_Decide.l0 kq x3_1 l0 (l0.length : Int) x11_1 = some r) ∧ Ai0 (kq ≤ k) ∧ Ai0 (Kd.R (Kd.int .i64) 3 w' w.heap.size (fun _ => True) v250 x3_1) ∧ Ai0 (Below w.heap.size w w'))
   case atStart => exact ⟨(y249), (0), rf_, H', ⟨Nat.le_refl _⟩, ⟨kr_ HO251.out⟩, ⟨bl_⟩⟩
   case round =>
    clear H'
    try clear c2
    try clear c2b0
    try clear c2b1
    try clear p2
    try clear c3
    try clear c3b0
    try clear c3b1
    try clear c4
    obtain ⟨x3_1, x11_1, rfl, HA, HK1, HO_3, HB⟩ := hrel
    cases gk with
    | zero => exact absurd HA.out (by simp [message_Decide.l0])
    | succ k1 =>
     have H := HA.out;clear HA;simp only [message_Decide.l0] at H;by_cases c6 : x11_1 < (l0.length : Int)
     ·rw [if_pos c6] at H;have c6b0 : decide (x11_1 < (l0.length : Int)) = true := decide_eq_true c6;clear c6;by_cases c7 : 0 ≤ x11_1
      ·rw [if_pos c7] at H;have c7b0 : decide (0 ≤ x11_1) = true := decide_eq_true c7;clear c7;by_cases c8 : x11_1 < (l0.length : Int)
       ·rw [if_pos c8] at H;have c8b0 : decide (x11_1 < (l0.length : Int)) = true := decide_eq_true c8;clear c8;by_cases c9 : (rd l0 x11_1) < 0
        ·rw [if_pos c9] at H;have c9b0 : decide ((rd l0 x11_1) < 0) = true := decide_eq_true c9;clear c9;by_cases c10 : x11_1 < (x3_1.length : Int)
         ·rw [if_pos c10] at H;have c10b0 : decide (x11_1 < (x3_1.length : Int)) = true := decide_eq_true c10;clear c10;(obtain ⟨y253, hy253⟩ : ∃ y_ : List Int, y_ = (x3_1.set (x11_1 : Int).toNat 1) := ⟨_, rfl⟩);(replace H : (message_Decide.l0 k1 y253 l0 (l0.length : Int) (wrap64 (x11_1 + 1))) = some r := by first | (rw [hy253]; with_reducible exact H) | (have H2_ := (Option.bind_some _ _).symm.trans H; rw [hy253]; with_reducible exact H2_) | (have H2_ := (Option.bind_some _ _).symm.trans H; with_reducible exact H2_) | with_reducible exact H | (rw [hy253]; exact H) | exact H);have Ny253 := Ai0.mk hy253;clear hy253;have H' := Ai0.mk H;clear H;have p252 : 0 ≤ (x11_1 : Int) := od_;have q252 : x11_1 < (l0.length : Int) := od_;obtain ⟨ad252, e252, hx252_0⟩ := Kd.at_int HR0.out x11_1 p252 q252;cases e252;replace hx252_0 := (HB.out.cell (World.block_lt_of_cell? w _ hx252_0)).trans hx252_0;replace p252 := eq_true p252;replace q252 := eq_true q252;have p11 : 0 ≤ (x11_1 : Int) := od_;have q11 : (x11_1 : Int) < ((x3_1.length : Int) : Int) := od_;obtain ⟨go11, co11, eo11, gb11, gl11, cl11, HG11⟩ := Kd.R_form HO_3.out (by omega);(first | cases eo11 | (injection eo11 with ea_ en_ ec_; (first | subst ea_ | (injection ea_ with ea_; subst ea_)); subst ec_; clear en_));have GB11 := Ai0.mk gb11;have GG11 := Ai0.mk HG11;clear gb11 gl11 HG11;obtain ⟨hx11_0, hf11_0⟩ := Kd.R_celln 0 HO_3.out (x11_1 : Int) p11 q11;replace p11 := eq_true p11;replace q11 := eq_true q11;have HP12 := Kd.R_putg HO_3.out (x11_1 : Int) 1
          go_wp2_with (first | ((with_reducible refine gate_store (t := 3) (p := 20) rfl ?_); refine store_event (t := 3) (p := 20) (v := ?vo_w13) (w1 := (wr.setCell ⟨go11, (x11_1 : Int).toNat, none⟩ (.int .i64 1))) ?hg ?ho ?hn ?hr ?_; (case ho => rfl); (case hg => rfl); (case hn => rfl); (case hr => first | (go_simp; done) | (go_simp; rfl)); intro w13 hw; have hg : wr.grownBy w13 (some go11) := (by rw [hw]; exact HP12.2); have hp_ : Kd.R (Kd.int .i64) 3 w13 w.heap.size (fun _ => True) (.slice (some ⟨go11, 0, none⟩) x3_1.length co11) y253 := (by rw [hw, Ny253.out]; exact HP12.1); clear HP12; have n0_ := Ai0.mk (hp_); have n1_ := Ai0.mk ((by rw [hw]; exact bs1 (HB.out) GB11.out : Below w.heap.size w w13)); clear HO_3; clear HB; have HO_3 := n0_; have HB := n1_; clear n0_ n1_; clear hg hw hp_))
          go_roundg k1
          case measure => have := HK1.out; omega
          case rel => exact ⟨(y253), (wrap64 (x11_1 + 1)), rf_, H', ⟨by have := HK1.out; omega⟩, ⟨kr_ HO_3.out⟩, ⟨bl_⟩⟩
         ·rw [if_neg c10] at H;exact absurd H (by simp)
        ·rw [if_neg c9] at H;have c9b0 : decide ((rd l0 x11_1) < 0) = false := decide_eq_false c9;clear c9;have H' := Ai0.mk H;clear H;have p252 : 0 ≤ (x11_1 : Int) := od_;have q252 : x11_1 < (l0.length : Int) := od_;obtain ⟨ad252, e252, hx252_0⟩ := Kd.at_int HR0.out x11_1 p252 q252;cases e252;replace hx252_0 := (HB.out.cell (World.block_lt_of_cell? w _ hx252_0)).trans hx252_0;replace p252 := eq_true p252;replace q252 := eq_true q252
         go_wp2
         go_roundg k1
         case measure => have := HK1.out; omega
         case rel => exact ⟨(x3_1), (wrap64 (x11_1 + 1)), rf_, H', ⟨by have := HK1.out; omega⟩, ⟨kr_ HO_3.out⟩, ⟨bl_⟩⟩
       ·rw [if_neg c8] at H;exact absurd H (by simp)
      ·rw [if_neg c7] at H;exact absurd H (by simp)
     ·rw [if_neg c6] at H;have c6b0 : decide (x11_1 < (l0.length : Int)) = false := decide_eq_false c6;clear c6;obtain rfl := Option.some.inj H
      go_wp2
      go_ret
      exact ⟨_, by first | rfl | (simp [eW0, eW1] <;> rfl) | (simp [*, eW0, eW1] <;> rfl), by (with_reducible repeat (first | apply Kd.Ra1 | apply Kd.Rn1 | apply Kd.Rd1)); exact HO_3.out, bl_⟩
  ·rw [if_neg c3] at H;exact absurd H (by simp)
 ·rw [if_neg c2] at H;exact absurd H (by simp)
def crM_Decide.l0 : Nat → List Int → List Int → Int → Option (List Int)
 | 0, _, _, _ => none
 | k + 1, x0, x3, x4 => if x4 < (x0.length : Int) then (if 0 ≤ x4 then (if (rd x0 x4) < 0 then (if x4 < (x3.length : Int) then (crM_Decide.l0 k x0 (x3.set (x4 : Int).toNat 1) (wrap64 (x4 + 1))) else (none)) else (crM_Decide.l0 k x0 x3 (wrap64 (x4 + 1)))) else (none)) else (some x3)
def crM_Decide.f (k : Nat) (l0 : List Int) : Option (List Int) := if 0 ≤ (l0.length : Int) then (if ((l0.length : Int) : Int).toNat ≤ 35184372088832 then (crM_Decide.l0 k l0 (List.replicate ((l0.length : Int) : Int).toNat 0) 0) else (none)) else (none)
theorem crM_Decide.mono_l : ∀ k, (∀ y0 y1 y2, LeO (crM_Decide.l0 k y0 y1 y2) (crM_Decide.l0 (k + 1) y0 y1 y2))
 | 0 => fun _ _ _ r h => by simp [crM_Decide.l0] at h
 | k + 1 => by
  have ih0 := crM_Decide.mono_l k
  ·intro y0 y1 y2;unfold crM_Decide.l0
   repeat' first
   | (with_reducible exact ih0 _ _ _)
   | (with_reducible exact LeO.refl _)
   | (with_reducible exact LeO.none _)
   | (with_reducible refine LeO.ite ?_ ?_)
   | (with_reducible refine LeO.bind ?_ (fun _ => ?_))
   | exact ih0 _ _ _
   | exact LeO.none _
   | refine LeO.ite ?_ ?_
   | refine LeO.bind ?_ (fun _ => ?_)
theorem crM_Decide.mono : ∀ a0 k, LeO (crM_Decide.f k a0) (crM_Decide.f (k + 1) a0) := by
 intro a0 k;have ih0 := crM_Decide.mono_l k;unfold crM_Decide.f
 repeat' first
   | (with_reducible exact ih0 _ _ _)
   | (with_reducible exact LeO.refl _)
   | (with_reducible exact LeO.none _)
   | (with_reducible refine LeO.ite ?_ ?_)
   | (with_reducible refine LeO.bind ?_ (fun _ => ?_))
   | exact ih0 _ _ _
   | exact LeO.none _
   | refine LeO.ite ?_ ?_
   | refine LeO.bind ?_ (fun _ => ?_)
set_option maxHeartbeats 8000000 in
set_option maxRecDepth 100000 in
theorem crM_Decide.calls (k : Nat) (A0 : Option Addr) (c0 : Nat) (l0 : List Int) (r : List Int) (w : World) (hr0 : Kd.C (Kd.int .i64) w A0 l0.length l0) (hc0 : l0.length ≤ c0) (h : crM_Decide.f k l0 = some r) :
  Calls Try.prog 20 #[.slice A0 l0.length c0] w fun e w' => ∃ v0_ : Value, e = .returned (v0_) ∧ Kd.R (Kd.int .i64) 3 w' w.heap.size (fun _ => True) v0_ r ∧ Below w.heap.size w w' := by
 have HR0 := Ai0.mk hr0;have HC0 := Ai0.mk hc0;clear hr0 hc0;have HB := Ai0.mk (Below.refl w.heap.size w);have H : (if 0 ≤ (l0.length : Int) then (if ((l0.length : Int) : Int).toNat ≤ 35184372088832 then (crM_Decide.l0 k l0 (List.replicate ((l0.length : Int) : Int).toNat 0) 0) else (none)) else (none)) = some r := h;clear h;by_cases c2 : 0 ≤ (l0.length : Int)
 ·rw [if_pos c2] at H;have c2b0 := eq_true c2;have c2b1 : decide (0 ≤ (l0.length : Int)) = true := decide_eq_true c2;clear c2;by_cases c3 : ((l0.length : Int) : Int).toNat ≤ 35184372088832
  ·rw [if_pos c3] at H;have c3b0 := eq_true c3;have c3b1 : decide (((l0.length : Int) : Int).toNat ≤ 35184372088832) = true := decide_eq_true c3;clear c3;obtain ⟨y256, hy256⟩ : ∃ y_ : List Int, y_ = (List.replicate ((l0.length : Int) : Int).toNat 0) := ⟨_, rfl⟩
   replace H : (crM_Decide.l0 k l0 y256 0) = some r := by first | (rw [hy256]; with_reducible exact H) | (have H2_ := (Option.bind_some _ _).symm.trans H; rw [hy256]; with_reducible exact H2_) | (have H2_ := (Option.bind_some _ _).symm.trans H; with_reducible exact H2_) | with_reducible exact H | (rw [hy256]; exact H) | exact H
   have Ny256 := Ai0.mk hy256;clear hy256;have H' := Ai0.mk H;clear H;go_enter Try.func20, Try.ntmps20
   go_wp2_with (first | ((with_reducible refine gate_dst (N := 7) rfl ?_); refine Kd.R_make (Kd.int .i64) _ 3 rfl (N := 7) rfl 25 _ _ rfl (l0.length : Int) rfl rfl Try.underlying25 (.int .i64 0) 8 info3 rfl (by decide) (by omega) 0 (ok := fun _ => True) (okp := fun _ => True) rfl (fun _ hk => hk) trivial od_ (Nat.le_trans (Nat.mul_le_mul_right _ (od_ : (l0.length : Int).toNat ≤ 35184372088832)) (by omega)) (Below.refl _ _) (Nat.le_refl _) ?_; intro v257 w4 ho5 hb hg_ hnew_; clear hg_ hnew_; (first | rw [← Ny256.out] at ho5 | (simp only [Int.reduceToNat] at ho5; rw [← Ny256.out] at ho5)); have n0_ := Ai0.mk (Kd.R_lower ho5 (bz1 bl_)); have n1_ := Ai0.mk (bt1 bl_ hb); clear HB; have HO258 := n0_; have HB := n1_; clear n0_ n1_; clear hb ho5))
   go_loopg [4] k (fun kq v4 w' => ∃ (x3_1 : List Int) (x4_1 : Int), v4 = .int .i64 x4_1 ∧ Ai0 (crM_Decide.l0 kq l0 x3_1 x4_1 = some r) ∧ Ai0 (kq ≤ k) ∧ Ai0 (Kd.R (Kd.int .i64) 3 w' w.heap.size (fun _ => True) v257 x3_1) ∧ Ai0 (Below w.heap.size w w'))
   case atStart => exact ⟨(y256), (0), rf_, H', ⟨Nat.le_refl _⟩, ⟨kr_ HO258.out⟩, ⟨bl_⟩⟩
   case round =>
    clear H'
    try clear c2
    try clear c2b0
    try clear c2b1
    try clear p2
    try clear c3
    try clear c3b0
    try clear c3b1
    obtain ⟨x3_1, x4_1, rfl, HA, HK1, HO_3, HB⟩ := hrel
    cases gk with
    | zero => exact absurd HA.out (by simp [crM_Decide.l0])
    | succ k1 =>
     have H := HA.out;clear HA;simp only [crM_Decide.l0] at H;by_cases c6 : x4_1 < (l0.length : Int)
     ·rw [if_pos c6] at H;have c6b0 : decide (x4_1 < (l0.length : Int)) = true := decide_eq_true c6;clear c6;by_cases c7 : 0 ≤ x4_1
      ·rw [if_pos c7] at H;have c7b0 : decide (0 ≤ x4_1) = true := decide_eq_true c7;clear c7;by_cases c8 : (rd l0 x4_1) < 0
       ·rw [if_pos c8] at H;have c8b0 : decide ((rd l0 x4_1) < 0) = true := decide_eq_true c8;clear c8;by_cases c9 : x4_1 < (x3_1.length : Int)
        ·rw [if_pos c9] at H;have c9b0 : decide (x4_1 < (x3_1.length : Int)) = true := decide_eq_true c9;clear c9;(obtain ⟨y260, hy260⟩ : ∃ y_ : List Int, y_ = (x3_1.set (x4_1 : Int).toNat 1) := ⟨_, rfl⟩);(replace H : (crM_Decide.l0 k1 l0 y260 (wrap64 (x4_1 + 1))) = some r := by first | (rw [hy260]; with_reducible exact H) | (have H2_ := (Option.bind_some _ _).symm.trans H; rw [hy260]; with_reducible exact H2_) | (have H2_ := (Option.bind_some _ _).symm.trans H; with_reducible exact H2_) | with_reducible exact H | (rw [hy260]; exact H) | exact H);have Ny260 := Ai0.mk hy260;clear hy260;have H' := Ai0.mk H;clear H;have p259 : 0 ≤ (x4_1 : Int) := od_;have q259 : x4_1 < (l0.length : Int) := od_;obtain ⟨ad259, e259, hx259_0⟩ := Kd.at_int HR0.out x4_1 p259 q259;cases e259;replace hx259_0 := (HB.out.cell (World.block_lt_of_cell? w _ hx259_0)).trans hx259_0;replace p259 := eq_true p259;replace q259 := eq_true q259;have p10 : 0 ≤ (x4_1 : Int) := od_;have q10 : (x4_1 : Int) < ((x3_1.length : Int) : Int) := od_;obtain ⟨go10, co10, eo10, gb10, gl10, cl10, HG10⟩ := Kd.R_form HO_3.out (by omega);(first | cases eo10 | (injection eo10 with ea_ en_ ec_; (first | subst ea_ | (injection ea_ with ea_; subst ea_)); subst ec_; clear en_));have GB10 := Ai0.mk gb10;have GG10 := Ai0.mk HG10;clear gb10 gl10 HG10;obtain ⟨hx10_0, hf10_0⟩ := Kd.R_celln 0 HO_3.out (x4_1 : Int) p10 q10;replace p10 := eq_true p10;replace q10 := eq_true q10;have HP11 := Kd.R_putg HO_3.out (x4_1 : Int) 1
         go_wp2_with (first | ((with_reducible refine gate_store (t := 3) (p := 21) rfl ?_); refine store_event (t := 3) (p := 21) (v := ?vo_w12) (w1 := (wr.setCell ⟨go10, (x4_1 : Int).toNat, none⟩ (.int .i64 1))) ?hg ?ho ?hn ?hr ?_; (case ho => rfl); (case hg => rfl); (case hn => rfl); (case hr => first | (go_simp; done) | (go_simp; rfl)); intro w12 hw; have hg : wr.grownBy w12 (some go10) := (by rw [hw]; exact HP11.2); have hp_ : Kd.R (Kd.int .i64) 3 w12 w.heap.size (fun _ => True) (.slice (some ⟨go10, 0, none⟩) x3_1.length co10) y260 := (by rw [hw, Ny260.out]; exact HP11.1); clear HP11; have n0_ := Ai0.mk (hp_); have n1_ := Ai0.mk ((by rw [hw]; exact bs1 (HB.out) GB10.out : Below w.heap.size w w12)); clear HO_3; clear HB; have HO_3 := n0_; have HB := n1_; clear n0_ n1_; clear hg hw hp_))
         go_roundg k1
         case measure => have := HK1.out; omega
         case rel => exact ⟨(y260), (wrap64 (x4_1 + 1)), rf_, H', ⟨by have := HK1.out; omega⟩, ⟨kr_ HO_3.out⟩, ⟨bl_⟩⟩
        ·rw [if_neg c9] at H;exact absurd H (by simp)
       ·rw [if_neg c8] at H;have c8b0 : decide ((rd l0 x4_1) < 0) = false := decide_eq_false c8;clear c8;have H' := Ai0.mk H;clear H;have p259 : 0 ≤ (x4_1 : Int) := od_;have q259 : x4_1 < (l0.length : Int) := od_;obtain ⟨ad259, e259, hx259_0⟩ := Kd.at_int HR0.out x4_1 p259 q259;cases e259;replace hx259_0 := (HB.out.cell (World.block_lt_of_cell? w _ hx259_0)).trans hx259_0;replace p259 := eq_true p259;replace q259 := eq_true q259
        go_wp2
        go_roundg k1
        case measure => have := HK1.out; omega
        case rel => exact ⟨(x3_1), (wrap64 (x4_1 + 1)), rf_, H', ⟨by have := HK1.out; omega⟩, ⟨kr_ HO_3.out⟩, ⟨bl_⟩⟩
      ·rw [if_neg c7] at H;exact absurd H (by simp)
     ·rw [if_neg c6] at H;have c6b0 : decide (x4_1 < (l0.length : Int)) = false := decide_eq_false c6;clear c6;obtain rfl := Option.some.inj H
      go_wp2
      go_ret
      exact ⟨_, by first | rfl | (simp [eW0, eW1] <;> rfl) | (simp [*, eW0, eW1] <;> rfl), by (with_reducible repeat (first | apply Kd.Ra1 | apply Kd.Rn1 | apply Kd.Rd1)); exact HO_3.out, bl_⟩
  ·rw [if_neg c3] at H;exact absurd H (by simp)
 ·rw [if_neg c2] at H;exact absurd H (by simp)
mutual
def crM_round.l0 : Nat → List Int → List (List Int) → List (List Int) → Int → Int → List (List Int) → Option ((List (List Int)))
 | 0, _, _, _, _, _, _ => none
 | k + 1, x1, x2, x7, x8, x612000, x612001 => if x8 < (x612001.length : Int) then (if 0 ≤ x612000 then (if (x612000 : Int).toNat ≤ 35184372088832 then (crM_round.l1 k x1 x2 x7 x8 (List.replicate (x612000 : Int).toNat 0) 0 x612000 x612001) else (none)) else (none)) else (some x7)
def crM_round.l1 : Nat → List Int → List (List Int) → List (List Int) → Int → List Int → Int → Int → List (List Int) → Option ((List (List Int)))
 | 0, _, _, _, _, _, _, _, _ => none
 | k + 1, x1, x2, x7, x8, x9, x10, x612000, x612001 => if x10 < x612000 then (if 0 ≤ x8 then (if x8 < (x612001.length : Int) then (if 0 ≤ x10 then (if x10 < ((rd_L1 x612001 x8).length : Int) then (if (rd (rd_L1 x612001 x8) x10) = 1 then (if x10 < (x9.length : Int) then (crM_round.l2 k x1 x2 x7 x8 (x9.set (x10 : Int).toNat 1099511627776) x10 0 x612000 x612001) else (none)) else (crM_round.l1 k x1 x2 x7 x8 x9 (wrap64 (x10 + 1)) x612000 x612001)) else (none)) else (none)) else (none)) else (none)) else (if x7.length < 5864062014805 then (crM_round.l0 k x1 x2 (x7 ++ [x9]) (wrap64 (x8 + 1)) x612000 x612001) else (none))
def crM_round.l2 : Nat → List Int → List (List Int) → List (List Int) → Int → List Int → Int → Int → Int → List (List Int) → Option ((List (List Int)))
 | 0, _, _, _, _, _, _, _, _, _ => none
 | k + 1, x1, x2, x7, x8, x9, x10, x11, x612000, x612001 => if x11 < x612000 then (if x11 = x10 then (crM_round.j3 k x1 x2 x7 x8 x9 x10 x11 false x612000 x612001) else (if 0 ≤ x8 then (if x8 < (x612001.length : Int) then (if 0 ≤ x11 then (if x11 < ((rd_L1 x612001 x8).length : Int) then (crM_round.j3 k x1 x2 x7 x8 x9 x10 x11 ((rd (rd_L1 x612001 x8) x11) == 1) x612000 x612001) else (none)) else (none)) else (none)) else (none))) else (crM_round.l1 k x1 x2 x7 x8 x9 (wrap64 (x10 + 1)) x612000 x612001)
def crM_round.j3 : Nat → List Int → List (List Int) → List (List Int) → Int → List Int → Int → Int → Bool → Int → List (List Int) → Option ((List (List Int)))
 | 0, _, _, _, _, _, _, _, _, _, _ => none
 | k + 1, x1, x2, x7, x8, x9, x10, x11, x61, x612000, x612001 => if x61 = true then ((crM_into.f k x612000 x612001 x1 x2 x11 x8).bind fun t623 => ((crM_sum.f k t623).bind fun t626 => (if 0 ≤ x10 then (if x10 < (x9.length : Int) then (if ((decide (t626 < 0)) != (decide ((rd x9 x10) < 0))) = true then (crM_round.l2 k x1 x2 x7 x8 (x9.set (x10 : Int).toNat (wrap64 (-(mn (mx t626 (wrap64 (-t626))) (mx (rd x9 x10) (wrap64 (-(rd x9 x10)))))))) x10 (wrap64 (x11 + 1)) x612000 x612001) else (crM_round.l2 k x1 x2 x7 x8 (x9.set (x10 : Int).toNat (mn (mx t626 (wrap64 (-t626))) (mx (rd x9 x10) (wrap64 (-(rd x9 x10)))))) x10 (wrap64 (x11 + 1)) x612000 x612001)) else (none)) else (none)))) else (crM_round.l2 k x1 x2 x7 x8 x9 x10 (wrap64 (x11 + 1)) x612000 x612001)
end
def crM_round.f (k : Nat) (a0_0 : Int) (l0_1 : List (List Int)) (l1 : List Int) (l2 : List (List Int)) : Option ((List (List Int))) := crM_round.l0 k l1 l2 ([] : List (List Int)) 0 a0_0 l0_1
theorem crM_round.mono_l : ∀ k, (∀ y0 y1 y2 y3 y4 y5, LeO (crM_round.l0 k y0 y1 y2 y3 y4 y5) (crM_round.l0 (k + 1) y0 y1 y2 y3 y4 y5)) ∧ (∀ y0 y1 y2 y3 y4 y5 y6 y7, LeO (crM_round.l1 k y0 y1 y2 y3 y4 y5 y6 y7) (crM_round.l1 (k + 1) y0 y1 y2 y3 y4 y5 y6 y7)) ∧ (∀ y0 y1 y2 y3 y4 y5 y6 y7 y8, LeO (crM_round.l2 k y0 y1 y2 y3 y4 y5 y6 y7 y8) (crM_round.l2 (k + 1) y0 y1 y2 y3 y4 y5 y6 y7 y8)) ∧ (∀ y0 y1 y2 y3 y4 y5 y6 y7 y8 y9, LeO (crM_round.j3 k y0 y1 y2 y3 y4 y5 y6 y7 y8 y9) (crM_round.j3 (k + 1) y0 y1 y2 y3 y4 y5 y6 y7 y8 y9))
 | 0 => ⟨fun _ _ _ _ _ _ r h => by simp [crM_round.l0] at h, fun _ _ _ _ _ _ _ _ r h => by simp [crM_round.l1] at h, fun _ _ _ _ _ _ _ _ _ r h => by simp [crM_round.l2] at h, fun _ _ _ _ _ _ _ _ _ _ r h => by simp [crM_round.j3] at h⟩
 | k + 1 => by
  obtain ⟨ih0, ih1, ih2, ih3⟩ := crM_round.mono_l k;refine ⟨?_, ?_, ?_, ?_⟩
  ·intro y0 y1 y2 y3 y4 y5;unfold crM_round.l0
   repeat' first
   | (with_reducible exact ih0 _ _ _ _ _ _)
   | (with_reducible exact ih1 _ _ _ _ _ _ _ _)
   | (with_reducible exact ih2 _ _ _ _ _ _ _ _ _)
   | (with_reducible exact ih3 _ _ _ _ _ _ _ _ _ _)
   | (with_reducible exact crM_into.mono _ _ _ _ _ _ _)
   | (with_reducible exact crM_sum.mono _ _)
   | (with_reducible exact LeO.refl _)
   | (with_reducible exact LeO.none _)
   | (with_reducible refine LeO.ite ?_ ?_)
   | (with_reducible refine LeO.bind ?_ (fun _ => ?_))
   | exact ih0 _ _ _ _ _ _
   | exact ih1 _ _ _ _ _ _ _ _
   | exact ih2 _ _ _ _ _ _ _ _ _
   | exact ih3 _ _ _ _ _ _ _ _ _ _
   | exact crM_into.mono _ _ _ _ _ _ _
   | exact crM_sum.mono _ _
   | exact LeO.none _
   | refine LeO.ite ?_ ?_
   | refine LeO.bind ?_ (fun _ => ?_)
  ·intro y0 y1 y2 y3 y4 y5 y6 y7;unfold crM_round.l1
   repeat' first
   | (with_reducible exact ih0 _ _ _ _ _ _)
   | (with_reducible exact ih1 _ _ _ _ _ _ _ _)
   | (with_reducible exact ih2 _ _ _ _ _ _ _ _ _)
   | (with_reducible exact ih3 _ _ _ _ _ _ _ _ _ _)
   | (with_reducible exact crM_into.mono _ _ _ _ _ _ _)
   | (with_reducible exact crM_sum.mono _ _)
   | (with_reducible exact LeO.refl _)
   | (with_reducible exact LeO.none _)
   | (with_reducible refine LeO.ite ?_ ?_)
   | (with_reducible refine LeO.bind ?_ (fun _ => ?_))
   | exact ih0 _ _ _ _ _ _
   | exact ih1 _ _ _ _ _ _ _ _
   | exact ih2 _ _ _ _ _ _ _ _ _
   | exact ih3 _ _ _ _ _ _ _ _ _ _
   | exact crM_into.mono _ _ _ _ _ _ _
   | exact crM_sum.mono _ _
   | exact LeO.none _
   | refine LeO.ite ?_ ?_
   | refine LeO.bind ?_ (fun _ => ?_)
  ·intro y0 y1 y2 y3 y4 y5 y6 y7 y8;unfold crM_round.l2
   repeat' first
   | (with_reducible exact ih0 _ _ _ _ _ _)
   | (with_reducible exact ih1 _ _ _ _ _ _ _ _)
   | (with_reducible exact ih2 _ _ _ _ _ _ _ _ _)
   | (with_reducible exact ih3 _ _ _ _ _ _ _ _ _ _)
   | (with_reducible exact crM_into.mono _ _ _ _ _ _ _)
   | (with_reducible exact crM_sum.mono _ _)
   | (with_reducible exact LeO.refl _)
   | (with_reducible exact LeO.none _)
   | (with_reducible refine LeO.ite ?_ ?_)
   | (with_reducible refine LeO.bind ?_ (fun _ => ?_))
   | exact ih0 _ _ _ _ _ _
   | exact ih1 _ _ _ _ _ _ _ _
   | exact ih2 _ _ _ _ _ _ _ _ _
   | exact ih3 _ _ _ _ _ _ _ _ _ _
   | exact crM_into.mono _ _ _ _ _ _ _
   | exact crM_sum.mono _ _
   | exact LeO.none _
   | refine LeO.ite ?_ ?_
   | refine LeO.bind ?_ (fun _ => ?_)
  ·intro y0 y1 y2 y3 y4 y5 y6 y7 y8 y9;unfold crM_round.j3
   repeat' first
   | (with_reducible exact ih0 _ _ _ _ _ _)
   | (with_reducible exact ih1 _ _ _ _ _ _ _ _)
   | (with_reducible exact ih2 _ _ _ _ _ _ _ _ _)
   | (with_reducible exact ih3 _ _ _ _ _ _ _ _ _ _)
   | (with_reducible exact crM_into.mono _ _ _ _ _ _ _)
   | (with_reducible exact crM_sum.mono _ _)
   | (with_reducible exact LeO.refl _)
   | (with_reducible exact LeO.none _)
   | (with_reducible refine LeO.ite ?_ ?_)
   | (with_reducible refine LeO.bind ?_ (fun _ => ?_))
   | exact ih0 _ _ _ _ _ _
   | exact ih1 _ _ _ _ _ _ _ _
   | exact ih2 _ _ _ _ _ _ _ _ _
   | exact ih3 _ _ _ _ _ _ _ _ _ _
   | exact crM_into.mono _ _ _ _ _ _ _
   | exact crM_sum.mono _ _
   | exact LeO.none _
   | refine LeO.ite ?_ ?_
   | refine LeO.bind ?_ (fun _ => ?_)
theorem crM_round.mono : ∀ a0 a1 a2 a3 k, LeO (crM_round.f k a0 a1 a2 a3) (crM_round.f (k + 1) a0 a1 a2 a3) := by
 intro a0 a1 a2 a3 k;obtain ⟨ih0, ih1, ih2, ih3⟩ := crM_round.mono_l k;unfold crM_round.f
 repeat' first
   | (with_reducible exact ih0 _ _ _ _ _ _)
   | (with_reducible exact ih1 _ _ _ _ _ _ _ _)
   | (with_reducible exact ih2 _ _ _ _ _ _ _ _ _)
   | (with_reducible exact ih3 _ _ _ _ _ _ _ _ _ _)
   | (with_reducible exact crM_into.mono _ _ _ _ _ _ _)
   | (with_reducible exact crM_sum.mono _ _)
   | (with_reducible exact LeO.refl _)
   | (with_reducible exact LeO.none _)
   | (with_reducible refine LeO.ite ?_ ?_)
   | (with_reducible refine LeO.bind ?_ (fun _ => ?_))
   | exact ih0 _ _ _ _ _ _
   | exact ih1 _ _ _ _ _ _ _ _
   | exact ih2 _ _ _ _ _ _ _ _ _
   | exact ih3 _ _ _ _ _ _ _ _ _ _
   | exact crM_into.mono _ _ _ _ _ _ _
   | exact crM_sum.mono _ _
   | exact LeO.none _
   | refine LeO.ite ?_ ?_
   | refine LeO.bind ?_ (fun _ => ?_)
set_option maxHeartbeats 8000000 in
set_option maxRecDepth 100000 in
theorem crM_round.calls (k : Nat) (a0_0 : Int) (A0_1 : Option Addr) (c0_1 : Nat) (l0_1 : List (List Int)) (A1 : Option Addr) (c1 : Nat) (l1 : List Int) (A2 : Option Addr) (c2 : Nat) (l2 : List (List Int)) (r : List (List Int)) (w : World) (hr0_1 : Kd.C (Kd.slice 3 (Kd.int .i64)) w A0_1 l0_1.length l0_1) (hc0_1 : l0_1.length ≤ c0_1) (hr1 : Kd.C (Kd.int .i64) w A1 l1.length l1) (hc1 : l1.length ≤ c1) (hr2 : Kd.C (Kd.slice 3 (Kd.int .i64)) w A2 l2.length l2) (hc2 : l2.length ≤ c2) (h : crM_round.f k a0_0 l0_1 l1 l2 = some r) :
  Calls Try.prog 64 #[.agg #[.int .i64 a0_0, .slice A0_1 l0_1.length c0_1], .slice A1 l1.length c1, .slice A2 l2.length c2] w fun e w' => ∃ v0_ : Value, e = .returned (v0_) ∧ Kd.S (Kd.slice 3 (Kd.int .i64)) 25 w' w.heap.size (fun _ => True) v0_ r ∧ Below w.heap.size w w' := by
 have hu24 := Try.underlying24;have HR0_1 := Ai0.mk hr0_1;have HC0_1 := Ai0.mk hc0_1;clear hr0_1 hc0_1;have HR1 := Ai0.mk hr1;have HC1 := Ai0.mk hc1;clear hr1 hc1;have HR2 := Ai0.mk hr2;have HC2 := Ai0.mk hc2;clear hr2 hc2;have HB := Ai0.mk (Below.refl w.heap.size w);have H : (crM_round.l0 k l1 l2 ([] : List (List Int)) 0 a0_0 l0_1) = some r := h;clear h;have H' := Ai0.mk H;clear H;go_enter Try.func64, Try.ntmps64
 go_wp2_with (first | ((with_reducible refine gate_dst (N := 3) rfl ?_); refine box_event ?hg (N := 3) ?hd (cs := #[.int .i64 a0_0, .slice A0_1 l0_1.length c0_1]) (t := 24) ?hr ?_; (case hd => rfl); (case hg => rfl); (case hr => first | (go_simp; done) | (go_simp; rfl)); intro gb611 hg w4 hbox hb; have n0_ := Ai0.mk (bt1 bl_ hb); have n1_ := Ai0.mk (hbox); have n2_ := Ai0.mk ((by rw [hg]; exact (bz1 bl_) : w.heap.size ≤ gb611)); have n3_ := Ai0.mk ((by rw [hg]; exact (bz1 bl_) : w.heap.size ≤ gb611)); clear HB; have HB := n0_; have BK611 := n1_; have GW611 := n2_; have GE611 := n3_; clear n0_ n1_ n2_ n3_; clear hb hbox hg))
 repeat (go_quiet (first | ((with_reducible refine gate_dst (N := 3) rfl ?_); refine box_event ?hg (N := 3) ?hd (cs := #[.int .i64 a0_0, .slice A0_1 l0_1.length c0_1]) (t := 24) ?hr ?_; (case hd => rfl); (case hg => rfl); (case hr => first | (go_simp; done) | (go_simp; rfl)); intro gb611 hg w4 hbox hb; have n0_ := Ai0.mk (bt1 bl_ hb); have n1_ := Ai0.mk (hbox); have n2_ := Ai0.mk ((by rw [hg]; exact (bz1 bl_) : w.heap.size ≤ gb611)); have n3_ := Ai0.mk ((by rw [hg]; exact (bz1 bl_) : w.heap.size ≤ gb611)); clear HB; have HB := n0_; have BK611 := n1_; have GW611 := n2_; have GE611 := n3_; clear n0_ n1_ n2_ n3_; clear hb hbox hg)); try go_wp2_with (first | ((with_reducible refine gate_dst (N := 3) rfl ?_); refine box_event ?hg (N := 3) ?hd (cs := #[.int .i64 a0_0, .slice A0_1 l0_1.length c0_1]) (t := 24) ?hr ?_; (case hd => rfl); (case hg => rfl); (case hr => first | (go_simp; done) | (go_simp; rfl)); intro gb611 hg w4 hbox hb; have n0_ := Ai0.mk (bt1 bl_ hb); have n1_ := Ai0.mk (hbox); have n2_ := Ai0.mk ((by rw [hg]; exact (bz1 bl_) : w.heap.size ≤ gb611)); have n3_ := Ai0.mk ((by rw [hg]; exact (bz1 bl_) : w.heap.size ≤ gb611)); clear HB; have HB := n0_; have BK611 := n1_; have GW611 := n2_; have GE611 := n3_; clear n0_ n1_ n2_ n3_; clear hb hbox hg)))
 go_loopg [7, 8] k (fun kq v7 v8 w' => ∃ (x7_1 : List (List Int)) (x8_1 : Int), v8 = .int .i64 x8_1 ∧ Ai0 (crM_round.l0 kq l1 l2 x7_1 x8_1 a0_0 l0_1 = some r) ∧ Ai0 (kq ≤ k) ∧ Ai0 (Kd.S (Kd.slice 3 (Kd.int .i64)) 25 w' w.heap.size (fun _ => True) v7 x7_1) ∧ Ai0 (w'.heap[gb611]? = some (.cells #[.int .i64 a0_0, (.slice A0_1 l0_1.length c0_1)] 24 (0, 0))) ∧ Ai0 (Below w.heap.size w w'))
 case atStart => exact ⟨(([] : List (List Int))), (0), rf_, H', ⟨Nat.le_refl _⟩, ⟨by first | exact Kd.S_nil _ _ _ _ _ | exact Kd.N_nil _ _ _ _ _ | exact Kd.V_nil _ _ _ _ _ | exact Kd.Q_nil _ _ _ _ _ | exact Kd.R_nil _ _ _ _ _⟩, ⟨kk_ BK611.out⟩, ⟨bl_⟩⟩
 case round =>
  clear H'
  try clear c1
  try clear c2
  try clear p2
  obtain ⟨x7_1, x8_1, rfl, HA, HK1, HO_7, BK611, HB⟩ := hrel
  cases gk with
  | zero => exact absurd HA.out (by simp [crM_round.l0])
  | succ k1 =>
   have H := HA.out;clear HA;simp only [crM_round.l0] at H;by_cases c5 : x8_1 < (l0_1.length : Int)
   ·rw [if_pos c5] at H;have c5b0 : decide (x8_1 < (l0_1.length : Int)) = true := decide_eq_true c5;clear c5;by_cases c6 : 0 ≤ a0_0
    ·rw [if_pos c6] at H;have c6b0 := eq_true c6;have c6b1 : decide (0 ≤ a0_0) = true := decide_eq_true c6;clear c6;by_cases c7 : (a0_0 : Int).toNat ≤ 35184372088832
     ·rw [if_pos c7] at H;have c7b0 := eq_true c7;have c7b1 : decide ((a0_0 : Int).toNat ≤ 35184372088832) = true := decide_eq_true c7;clear c7;(obtain ⟨y612, hy612⟩ : ∃ y_ : List Int, y_ = (List.replicate (a0_0 : Int).toNat 0) := ⟨_, rfl⟩);(replace H : (crM_round.l1 k1 l1 l2 x7_1 x8_1 y612 0 a0_0 l0_1) = some r := by first | (rw [hy612]; with_reducible exact H) | (have H2_ := (Option.bind_some _ _).symm.trans H; rw [hy612]; with_reducible exact H2_) | (have H2_ := (Option.bind_some _ _).symm.trans H; with_reducible exact H2_) | with_reducible exact H | (rw [hy612]; exact H) | exact H);have Ny612 := Ai0.mk hy612;clear hy612;have H' := Ai0.mk H;clear H;have hcz8_0 : wr.cell? ⟨gb611, 0, none⟩ = some (.int .i64 a0_0) := (kc1 BK611.out 0).trans rfl;have hcz8_1 : wr.cell? ⟨gb611, 1, none⟩ = some (.slice A0_1 l0_1.length c0_1) := (kc1 BK611.out 1).trans rfl;have hfz8_0 := kf1 BK611.out 0;have hfz8_1 := kf1 BK611.out 1
      go_wp2_with (first | ((with_reducible refine gate_dst (N := 23) rfl ?_); refine Kd.R_make (Kd.int .i64) _ 3 rfl (N := 23) rfl 25 _ _ rfl a0_0 rfl rfl Try.underlying25 (.int .i64 0) 8 info3 rfl (by decide) (by omega) 0 (ok := fun _ => True) (okp := fun _ => True) rfl (fun _ hk => hk) trivial od_ (Nat.le_trans (Nat.mul_le_mul_right _ (od_ : a0_0.toNat ≤ 35184372088832)) (by omega)) (Below.refl _ _) (Nat.le_refl _) ?_; intro v613 w9 ho10 hb hg_ hnew_; clear hg_ hnew_; (first | rw [← Ny612.out] at ho10 | (simp only [Int.reduceToNat] at ho10; rw [← Ny612.out] at ho10)); have n0_ := Ai0.mk (Kd.S_elder' (ks_ HO_7.out) (Kd.R_base ho10) hb); have n1_ := Ai0.mk (Kd.R_lower ho10 (bz1 bl_)); have n2_ := Ai0.mk (kb1 (g := gb611) (o := .cells #[.int .i64 a0_0, .slice A0_1 l0_1.length c0_1] 24 (0, 0)) (kk_ BK611.out) hb); have n3_ := Ai0.mk (bt1 bl_ hb); clear HO_7; clear BK611; clear HB; have HO_7 := n0_; have HO614 := n1_; have BK611 := n2_; have HB := n3_; clear n0_ n1_ n2_ n3_; clear hb ho10))
      repeat (go_quiet (first | ((with_reducible refine gate_dst (N := 23) rfl ?_); refine Kd.R_make (Kd.int .i64) _ 3 rfl (N := 23) rfl 25 _ _ rfl a0_0 rfl rfl Try.underlying25 (.int .i64 0) 8 info3 rfl (by decide) (by omega) 0 (ok := fun _ => True) (okp := fun _ => True) rfl (fun _ hk => hk) trivial od_ (Nat.le_trans (Nat.mul_le_mul_right _ (od_ : a0_0.toNat ≤ 35184372088832)) (by omega)) (Below.refl _ _) (Nat.le_refl _) ?_; intro v613 w9 ho10 hb hg_ hnew_; clear hg_ hnew_; (first | rw [← Ny612.out] at ho10 | (simp only [Int.reduceToNat] at ho10; rw [← Ny612.out] at ho10)); have n0_ := Ai0.mk (Kd.S_elder' (ks_ HO_7.out) (Kd.R_base ho10) hb); have n1_ := Ai0.mk (Kd.R_lower ho10 (bz1 bl_)); have n2_ := Ai0.mk (kb1 (g := gb611) (o := .cells #[.int .i64 a0_0, .slice A0_1 l0_1.length c0_1] 24 (0, 0)) (kk_ BK611.out) hb); have n3_ := Ai0.mk (bt1 bl_ hb); clear HO_7; clear BK611; clear HB; have HO_7 := n0_; have HO614 := n1_; have BK611 := n2_; have HB := n3_; clear n0_ n1_ n2_ n3_; clear hb ho10)); try go_wp2_with (first | ((with_reducible refine gate_dst (N := 23) rfl ?_); refine Kd.R_make (Kd.int .i64) _ 3 rfl (N := 23) rfl 25 _ _ rfl a0_0 rfl rfl Try.underlying25 (.int .i64 0) 8 info3 rfl (by decide) (by omega) 0 (ok := fun _ => True) (okp := fun _ => True) rfl (fun _ hk => hk) trivial od_ (Nat.le_trans (Nat.mul_le_mul_right _ (od_ : a0_0.toNat ≤ 35184372088832)) (by omega)) (Below.refl _ _) (Nat.le_refl _) ?_; intro v613 w9 ho10 hb hg_ hnew_; clear hg_ hnew_; (first | rw [← Ny612.out] at ho10 | (simp only [Int.reduceToNat] at ho10; rw [← Ny612.out] at ho10)); have n0_ := Ai0.mk (Kd.S_elder' (ks_ HO_7.out) (Kd.R_base ho10) hb); have n1_ := Ai0.mk (Kd.R_lower ho10 (bz1 bl_)); have n2_ := Ai0.mk (kb1 (g := gb611) (o := .cells #[.int .i64 a0_0, .slice A0_1 l0_1.length c0_1] 24 (0, 0)) (kk_ BK611.out) hb); have n3_ := Ai0.mk (bt1 bl_ hb); clear HO_7; clear BK611; clear HB; have HO_7 := n0_; have HO614 := n1_; have BK611 := n2_; have HB := n3_; clear n0_ n1_ n2_ n3_; clear hb ho10)))
      go_loopg [10] k1 (fun kq v10 w' => ∃ (x9_2 : List Int) (x10_2 : Int), v10 = .int .i64 x10_2 ∧ Ai0 (crM_round.l1 kq l1 l2 x7_1 x8_1 x9_2 x10_2 a0_0 l0_1 = some r) ∧ Ai0 (kq ≤ k1) ∧ Ai0 (Kd.S (Kd.slice 3 (Kd.int .i64)) 25 w' w.heap.size (fun k_ => some k_ ≠ (v613 : Value).ownBlock) u7 x7_1) ∧ Ai0 (Kd.R (Kd.int .i64) 3 w' w.heap.size (fun _ => True) v613 x9_2) ∧ Ai0 (w'.heap[gb611]? = some (.cells #[.int .i64 a0_0, (.slice A0_1 l0_1.length c0_1)] 24 (0, 0))) ∧ Ai0 (Below w.heap.size w w'))
      case atStart => exact ⟨(y612), (0), rf_, H', ⟨Nat.le_refl _⟩, ⟨by (with_reducible repeat (first | apply Kd.S_alloc | apply Kd.S_drewN | apply Kd.S_drew)); exact Kd.S_mono HO_7.out (fun _ hk => hk.2)⟩, ⟨kr_ HO614.out⟩, ⟨kk_ BK611.out⟩, ⟨bl_⟩⟩
      case round =>
       clear H'
       try clear c1
       try clear c2
       try clear p2
       try clear c5
       try clear c5b0
       try clear c6
       try clear c6b0
       try clear c6b1
       try clear c7
       try clear c7b0
       try clear c7b1
       try clear hcz8_0
       try clear hcz8_1
       try clear hfz8_0
       try clear hfz8_1
       try clear p2
       obtain ⟨x9_2, x10_2, rfl, HA, HK2, HO_7, HO_9, BK611, HB⟩ := hrel
       cases gk with
       | zero => exact absurd HA.out (by simp [crM_round.l1])
       | succ k2 =>
        have H := HA.out;clear HA;simp only [crM_round.l1] at H;by_cases c11 : x10_2 < a0_0
        ·rw [if_pos c11] at H;have c11b0 : decide (x10_2 < a0_0) = true := decide_eq_true c11;clear c11;by_cases c12 : 0 ≤ x8_1
         ·rw [if_pos c12] at H;have c12b0 : decide (0 ≤ x8_1) = true := decide_eq_true c12;clear c12;by_cases c13 : x8_1 < (l0_1.length : Int)
          ·rw [if_pos c13] at H;have c13b0 : decide (x8_1 < (l0_1.length : Int)) = true := decide_eq_true c13;clear c13;by_cases c14 : 0 ≤ x10_2
           ·rw [if_pos c14] at H;have c14b0 : decide (0 ≤ x10_2) = true := decide_eq_true c14;clear c14;by_cases c15 : x10_2 < ((rd_L1 l0_1 x8_1).length : Int)
            ·rw [if_pos c15] at H;have c15b0 : decide (x10_2 < ((rd_L1 l0_1 x8_1).length : Int)) = true := decide_eq_true c15;clear c15;by_cases c16 : (rd (rd_L1 l0_1 x8_1) x10_2) = 1
             ·rw [if_pos c16] at H;have c16b0 : ((rd (rd_L1 l0_1 x8_1) x10_2) == 1) = true := beq_iff_eq.mpr c16;have c16b1 : ((rd (rd_L1 l0_1 x8_1) x10_2) != 1) = false := bne_eq_false_iff_eq.mpr c16;clear c16;by_cases c17 : x10_2 < (x9_2.length : Int)
              ·rw [if_pos c17] at H;have c17b0 : decide (x10_2 < (x9_2.length : Int)) = true := decide_eq_true c17;clear c17;(obtain ⟨y620, hy620⟩ : ∃ y_ : List Int, y_ = (x9_2.set (x10_2 : Int).toNat 1099511627776) := ⟨_, rfl⟩);(replace H : (crM_round.l2 k2 l1 l2 x7_1 x8_1 y620 x10_2 0 a0_0 l0_1) = some r := by first | (rw [hy620]; with_reducible exact H) | (have H2_ := (Option.bind_some _ _).symm.trans H; rw [hy620]; with_reducible exact H2_) | (have H2_ := (Option.bind_some _ _).symm.trans H; with_reducible exact H2_) | with_reducible exact H | (rw [hy620]; exact H) | exact H);have Ny620 := Ai0.mk hy620;clear hy620;have H' := Ai0.mk H;clear H;have hcz19_0 : wr.cell? ⟨gb611, 0, none⟩ = some (.int .i64 a0_0) := (kc1 BK611.out 0).trans rfl;have hcz19_1 : wr.cell? ⟨gb611, 1, none⟩ = some (.slice A0_1 l0_1.length c0_1) := (kc1 BK611.out 1).trans rfl;have hfz19_0 := kf1 BK611.out 0;have hfz19_1 := kf1 BK611.out 1;have p618 : 0 ≤ (x8_1 : Int) := od_;have q618 : x8_1 < (l0_1.length : Int) := od_;obtain ⟨ad618, A618_0, c618_0, e618, hx618_0, hl618_0, hi618_0⟩ := at_L1 HR0_1.out x8_1 p618 q618;cases e618;replace hx618_0 := (HB.out.cell (World.block_lt_of_cell? w _ hx618_0)).trans hx618_0;have HR618_0 := Ai0.mk hi618_0;have HC618_0 := Ai0.mk hl618_0;clear hi618_0 hl618_0;replace p618 := eq_true p618;replace q618 := eq_true q618;have p619 : 0 ≤ (x10_2 : Int) := od_;have q619 : x10_2 < ((rd_L1 l0_1 x8_1).length : Int) := od_;obtain ⟨ad619, e619, hx619_0⟩ := Kd.at_int HR618_0.out x10_2 p619 q619;cases e619;replace hx619_0 := (HB.out.cell (World.block_lt_of_cell? w _ hx619_0)).trans hx619_0;replace p619 := eq_true p619;replace q619 := eq_true q619;have p18 : 0 ≤ (x10_2 : Int) := od_;have q18 : (x10_2 : Int) < ((x9_2.length : Int) : Int) := od_;obtain ⟨go18, co18, eo18, gb18, gl18, cl18, HG18⟩ := Kd.R_form HO_9.out (by omega);(first | cases eo18 | (injection eo18 with ea_ en_ ec_; (first | subst ea_ | (injection ea_ with ea_; subst ea_)); subst ec_; clear en_));have GB18 := Ai0.mk gb18;have GG18 := Ai0.mk HG18;clear gb18 gl18 HG18;obtain ⟨hx18_0, hf18_0⟩ := Kd.R_celln 0 HO_9.out (x10_2 : Int) p18 q18;replace p18 := eq_true p18;replace q18 := eq_true q18;have HP20 := Kd.R_putg HO_9.out (x10_2 : Int) 1099511627776
               go_wp2_with (first | ((with_reducible refine gate_store (t := 3) (p := 41) rfl ?_); (try (rw [drewN_self wr]; generalize hq_ : World.drewN wr _ = wr; have n0_ := Ai0.mk (Kd.S_at hq_ HO_7.out); have n1_ := Ai0.mk (Kd.R_at hq_ HO_9.out); have n2_ := Ai0.mk (blk_at hq_ BK611.out); have n3_ := Ai0.mk (below_at hq_ HB.out); clear hq_ HO_7 HO_9 BK611 HB; have HO_7 := n0_; have HO_9 := n1_; have BK611 := n2_; have HB := n3_; clear n0_ n1_ n2_ n3_; (try (have HP20 := Kd.R_putg HO_9.out (x10_2 : Int) 1099511627776)))); refine store_event (t := 3) (p := 41) (v := ?vo_w21) (w1 := (wr.setCell ⟨go18, (x10_2 : Int).toNat, none⟩ (.int .i64 1099511627776))) ?hg ?ho ?hn ?hr ?_; (case ho => rfl); (case hg => rfl); (case hn => rfl); (case hr => first | (go_simp; done) | (go_simp; rfl)); intro w21 hw; have hg : wr.grownBy w21 (some go18) := (by rw [hw]; exact HP20.2); have hp_ : Kd.R (Kd.int .i64) 3 w21 w.heap.size (fun _ => True) (.slice (some ⟨go18, 0, none⟩) x9_2.length co18) y620 := (by rw [hw, Ny620.out]; exact HP20.1); clear HP20; have n0_ := Ai0.mk (Kd.S_after (v := (.slice (some ⟨go18, 0, none⟩) x9_2.length co18)) (v1 := (.slice (some ⟨go18, 0, none⟩) x9_2.length co18)) (ok := (fun _ => True)) (by (with_reducible repeat (first | apply Kd.S_alloc | apply Kd.S_drewN | apply Kd.S_drew)); exact Kd.S_mono HO_7.out (fun _ hk => ⟨trivial, hk⟩)) hg (.inl rfl)); have n1_ := Ai0.mk (hp_); have n2_ := Ai0.mk (blk_grown (g := gb611) (o := .cells #[.int .i64 a0_0, .slice (some ad618) l0_1.length c0_1] 24 (0, 0)) (kk_ BK611.out) hg (Kd.R_ne HO_9.out BK611.out (by decide))); have n3_ := Ai0.mk ((by rw [hw]; exact bs1 (HB.out) GB18.out : Below w.heap.size w w21)); clear HO_7; clear HO_9; clear BK611; clear HB; have HO_7 := n0_; have HO_9 := n1_; have BK611 := n2_; have HB := n3_; clear n0_ n1_ n2_ n3_; clear hg hw hp_))
               repeat (go_quiet (first | ((with_reducible refine gate_store (t := 3) (p := 41) rfl ?_); (try (rw [drewN_self wr]; generalize hq_ : World.drewN wr _ = wr; have n0_ := Ai0.mk (Kd.S_at hq_ HO_7.out); have n1_ := Ai0.mk (Kd.R_at hq_ HO_9.out); have n2_ := Ai0.mk (blk_at hq_ BK611.out); have n3_ := Ai0.mk (below_at hq_ HB.out); clear hq_ HO_7 HO_9 BK611 HB; have HO_7 := n0_; have HO_9 := n1_; have BK611 := n2_; have HB := n3_; clear n0_ n1_ n2_ n3_; (try (have HP20 := Kd.R_putg HO_9.out (x10_2 : Int) 1099511627776)))); refine store_event (t := 3) (p := 41) (v := ?vo_w21) (w1 := (wr.setCell ⟨go18, (x10_2 : Int).toNat, none⟩ (.int .i64 1099511627776))) ?hg ?ho ?hn ?hr ?_; (case ho => rfl); (case hg => rfl); (case hn => rfl); (case hr => first | (go_simp; done) | (go_simp; rfl)); intro w21 hw; have hg : wr.grownBy w21 (some go18) := (by rw [hw]; exact HP20.2); have hp_ : Kd.R (Kd.int .i64) 3 w21 w.heap.size (fun _ => True) (.slice (some ⟨go18, 0, none⟩) x9_2.length co18) y620 := (by rw [hw, Ny620.out]; exact HP20.1); clear HP20; have n0_ := Ai0.mk (Kd.S_after (v := (.slice (some ⟨go18, 0, none⟩) x9_2.length co18)) (v1 := (.slice (some ⟨go18, 0, none⟩) x9_2.length co18)) (ok := (fun _ => True)) (by (with_reducible repeat (first | apply Kd.S_alloc | apply Kd.S_drewN | apply Kd.S_drew)); exact Kd.S_mono HO_7.out (fun _ hk => ⟨trivial, hk⟩)) hg (.inl rfl)); have n1_ := Ai0.mk (hp_); have n2_ := Ai0.mk (blk_grown (g := gb611) (o := .cells #[.int .i64 a0_0, .slice (some ad618) l0_1.length c0_1] 24 (0, 0)) (kk_ BK611.out) hg (Kd.R_ne HO_9.out BK611.out (by decide))); have n3_ := Ai0.mk ((by rw [hw]; exact bs1 (HB.out) GB18.out : Below w.heap.size w w21)); clear HO_7; clear HO_9; clear BK611; clear HB; have HO_7 := n0_; have HO_9 := n1_; have BK611 := n2_; have HB := n3_; clear n0_ n1_ n2_ n3_; clear hg hw hp_)); try go_wp2_with (first | ((with_reducible refine gate_store (t := 3) (p := 41) rfl ?_); (try (rw [drewN_self wr]; generalize hq_ : World.drewN wr _ = wr; have n0_ := Ai0.mk (Kd.S_at hq_ HO_7.out); have n1_ := Ai0.mk (Kd.R_at hq_ HO_9.out); have n2_ := Ai0.mk (blk_at hq_ BK611.out); have n3_ := Ai0.mk (below_at hq_ HB.out); clear hq_ HO_7 HO_9 BK611 HB; have HO_7 := n0_; have HO_9 := n1_; have BK611 := n2_; have HB := n3_; clear n0_ n1_ n2_ n3_; (try (have HP20 := Kd.R_putg HO_9.out (x10_2 : Int) 1099511627776)))); refine store_event (t := 3) (p := 41) (v := ?vo_w21) (w1 := (wr.setCell ⟨go18, (x10_2 : Int).toNat, none⟩ (.int .i64 1099511627776))) ?hg ?ho ?hn ?hr ?_; (case ho => rfl); (case hg => rfl); (case hn => rfl); (case hr => first | (go_simp; done) | (go_simp; rfl)); intro w21 hw; have hg : wr.grownBy w21 (some go18) := (by rw [hw]; exact HP20.2); have hp_ : Kd.R (Kd.int .i64) 3 w21 w.heap.size (fun _ => True) (.slice (some ⟨go18, 0, none⟩) x9_2.length co18) y620 := (by rw [hw, Ny620.out]; exact HP20.1); clear HP20; have n0_ := Ai0.mk (Kd.S_after (v := (.slice (some ⟨go18, 0, none⟩) x9_2.length co18)) (v1 := (.slice (some ⟨go18, 0, none⟩) x9_2.length co18)) (ok := (fun _ => True)) (by (with_reducible repeat (first | apply Kd.S_alloc | apply Kd.S_drewN | apply Kd.S_drew)); exact Kd.S_mono HO_7.out (fun _ hk => ⟨trivial, hk⟩)) hg (.inl rfl)); have n1_ := Ai0.mk (hp_); have n2_ := Ai0.mk (blk_grown (g := gb611) (o := .cells #[.int .i64 a0_0, .slice (some ad618) l0_1.length c0_1] 24 (0, 0)) (kk_ BK611.out) hg (Kd.R_ne HO_9.out BK611.out (by decide))); have n3_ := Ai0.mk ((by rw [hw]; exact bs1 (HB.out) GB18.out : Below w.heap.size w w21)); clear HO_7; clear HO_9; clear BK611; clear HB; have HO_7 := n0_; have HO_9 := n1_; have BK611 := n2_; have HB := n3_; clear n0_ n1_ n2_ n3_; clear hg hw hp_)))
               go_loopg [11] k2 (fun kq v11 w' => ∃ (x9_3 : List Int) (x11_3 : Int), v11 = .int .i64 x11_3 ∧ Ai0 (crM_round.l2 kq l1 l2 x7_1 x8_1 x9_3 x10_2 x11_3 a0_0 l0_1 = some r) ∧ Ai0 (kq ≤ k2) ∧ Ai0 (Kd.S (Kd.slice 3 (Kd.int .i64)) 25 w' w.heap.size (fun k_ => some k_ ≠ ((.slice (some ⟨go18, 0, none⟩) x9_2.length co18) : Value).ownBlock) u7 x7_1) ∧ Ai0 (Kd.R (Kd.int .i64) 3 w' w.heap.size (fun _ => True) (.slice (some ⟨go18, 0, none⟩) x9_2.length co18) x9_3) ∧ Ai0 (w'.heap[gb611]? = some (.cells #[.int .i64 a0_0, (.slice (some ad618) l0_1.length c0_1)] 24 (0, 0))) ∧ Ai0 (Below w.heap.size w w'))
               case atStart => exact ⟨(y620), (0), rf_, H', ⟨Nat.le_refl _⟩, ⟨by (with_reducible repeat (first | apply Kd.S_alloc | apply Kd.S_drewN | apply Kd.S_drew)); exact Kd.S_mono HO_7.out (fun _ hk => hk.2)⟩, ⟨kr_ HO_9.out⟩, ⟨kk_ BK611.out⟩, ⟨bl_⟩⟩
               case round =>
                clear H'
                try clear c1
                try clear p1
                try clear q1
                try clear hx1
                try clear c2
                try clear p2
                try clear c5
                try clear c5b0
                try clear c6
                try clear c6b0
                try clear c6b1
                try clear p6
                try clear q6
                try clear hx6
                try clear c7
                try clear c7b0
                try clear c7b1
                try clear c11
                try clear c11b0
                try clear c12
                try clear c12b0
                try clear c13
                try clear c13b0
                try clear c14
                try clear c14b0
                try clear c15
                try clear c15b0
                try clear c16
                try clear c16b0
                try clear c16b1
                try clear c17
                try clear c17b0
                try clear p18
                try clear q18
                try clear hx18
                try clear hf18
                try clear hcz19_0
                try clear hcz19_1
                try clear hcz8_0
                try clear hcz8_1
                try clear hfz19_0
                try clear hfz19_1
                try clear hfz8_0
                try clear hfz8_1
                try clear hx18_0
                try clear hx618_0
                try clear hx619_0
                try clear p18
                try clear p2
                try clear p618
                try clear p619
                try clear q18
                try clear q618
                try clear q619
                obtain ⟨x9_3, x11_3, rfl, HA, HK3, HO_7, HO_9, BK611, HB⟩ := hrel;have hl9_3 := (Kd.R_reads' HO_9.out).1;rw [hl9_3] at HO_9;(try simp only [hl9_3]);(try simp only [hl9_3] at BK611);(try simp only [hl9_3] at HO_7)
                cases gk with
                | zero => exact absurd HA.out (by simp [crM_round.l2])
                | succ k3 =>
                 have H := HA.out;clear HA;simp only [crM_round.l2] at H;by_cases c22 : x11_3 < a0_0
                 ·rw [if_pos c22] at H;have c22b0 : decide (x11_3 < a0_0) = true := decide_eq_true c22;clear c22;have HC23 := Ai0.mk H;clear H;have hcz24_0 : wr.cell? ⟨gb611, 0, none⟩ = some (.int .i64 a0_0) := (kc1 BK611.out 0).trans rfl;have hcz24_1 : wr.cell? ⟨gb611, 1, none⟩ = some (.slice (some ad618) l0_1.length c0_1) := (kc1 BK611.out 1).trans rfl;have hfz24_0 := kf1 BK611.out 0;have hfz24_1 := kf1 BK611.out 1
                  go_upto_region 14 with (fail)
                  repeat (go_quiet (fail); go_upto_region 14 with (fail))
                  go_cut [61] (fun v61 wc => ∃ (kq : Nat) (x61_22 : Bool), v61 = .bool x61_22 ∧ Ai0 (crM_round.j3 kq l1 l2 x7_1 x8_1 x9_3 x10_2 x11_3 x61_22 a0_0 l0_1 = some r) ∧ Ai0 (kq ≤ k3) ∧ Ai0 (Kd.S (Kd.slice 3 (Kd.int .i64)) 25 wc w.heap.size (fun k_ => some k_ ≠ ((.slice (some ⟨go18, 0, none⟩) x9_3.length co18) : Value).ownBlock) u7 x7_1) ∧ Ai0 (Kd.R (Kd.int .i64) 3 wc w.heap.size (fun _ => True) (.slice (some ⟨go18, 0, none⟩) x9_3.length co18) x9_3) ∧ Ai0 (wc.heap[gb611]? = some (.cells #[.int .i64 a0_0, (.slice (some ad618) l0_1.length c0_1)] 24 (0, 0))) ∧ Ai0 (Below w.heap.size w wc))
                  case first =>
                   have H := HC23.out;clear HC23;by_cases c25 : x11_3 = x10_2
                   ·rw [if_pos c25] at H;have c25b0 : (x11_3 == x10_2) = true := beq_iff_eq.mpr c25;have c25b1 : (x11_3 != x10_2) = false := bne_eq_false_iff_eq.mpr c25;clear c25;(first | rw [c25b0] | (simp only [i64_w, i32_w]; rw [c25b0]) | skip);have H' := Ai0.mk H;clear H
                    go_wp2
                    repeat (go_quiet (fail); try go_wp2)
                    go_meet
                    case rel => exact ⟨_, (false), rf_, H', ⟨by have := HK1.out; have := HK2.out; have := HK3.out; first | omega | exact Nat.le_refl _⟩, ⟨by (try simp only [hl9_3]); (with_reducible repeat (first | apply Kd.S_alloc | apply Kd.S_drewN | apply Kd.S_drew)); exact HO_7.out⟩, ⟨by (try simp only [hl9_3]); (with_reducible repeat (first | apply Kd.Ra1 | apply Kd.Rn1 | apply Kd.Rd1)); exact HO_9.out⟩, ⟨by (try simp only [hl9_3]); (with_reducible repeat (first | refine kn1 ?_ _ | refine kd1 ?_ | refine ka1 ?_ _)); exact BK611.out⟩, ⟨bl_⟩⟩
                   ·rw [if_neg c25] at H;have c25b0 : (x11_3 == x10_2) = false := beq_eq_false_iff_ne.mpr c25;have c25b1 : (x11_3 != x10_2) = true := bne_iff_ne.mpr c25;(first | rw [c25b0] | (simp only [i64_w, i32_w]; rw [c25b0]) | skip);by_cases c26 : 0 ≤ x8_1
                    ·rw [if_pos c26] at H;have c26b0 : decide (0 ≤ x8_1) = true := decide_eq_true c26;clear c26;by_cases c27 : x8_1 < (l0_1.length : Int)
                     ·rw [if_pos c27] at H;have c27b0 : decide (x8_1 < (l0_1.length : Int)) = true := decide_eq_true c27;(try (have c27b0h0 := c27b0; simp only [hl9_3] at c27b0h0));clear c27;by_cases c28 : 0 ≤ x11_3
                      ·rw [if_pos c28] at H;have c28b0 : decide (0 ≤ x11_3) = true := decide_eq_true c28;clear c28;by_cases c29 : x11_3 < ((rd_L1 l0_1 x8_1).length : Int)
                       ·rw [if_pos c29] at H;have c29b0 : decide (x11_3 < ((rd_L1 l0_1 x8_1).length : Int)) = true := decide_eq_true c29;(try (have c29b0h0 := c29b0; simp only [hl9_3] at c29b0h0));clear c29;have H' := Ai0.mk H;clear H;have hcz30_0 : wr.cell? ⟨gb611, 0, none⟩ = some (.int .i64 a0_0) := (kc1 BK611.out 0).trans rfl;have hcz30_1 : wr.cell? ⟨gb611, 1, none⟩ = some (.slice (some ad618) l0_1.length c0_1) := (kc1 BK611.out 1).trans rfl;have hfz30_0 := kf1 BK611.out 0;have hfz30_1 := kf1 BK611.out 1;have p621 : 0 ≤ (x8_1 : Int) := od_;have q621 : x8_1 < (l0_1.length : Int) := od_;obtain ⟨ad621, A621_0, c621_0, e621, hx621_0, hl621_0, hi621_0⟩ := at_L1 HR0_1.out x8_1 p621 q621;obtain rfl : ad618 = ad621 := (by injection e621);replace hx621_0 := (HB.out.cell (World.block_lt_of_cell? w _ hx621_0)).trans hx621_0;have HR621_0 := Ai0.mk hi621_0;have HC621_0 := Ai0.mk hl621_0;clear hi621_0 hl621_0;replace p621 := eq_true p621;replace q621 := eq_true q621;have p622 : 0 ≤ (x11_3 : Int) := od_;have q622 : x11_3 < ((rd_L1 l0_1 x8_1).length : Int) := od_;obtain ⟨ad622, e622, hx622_0⟩ := Kd.at_int HR621_0.out x11_3 p622 q622;cases e622;replace hx622_0 := (HB.out.cell (World.block_lt_of_cell? w _ hx622_0)).trans hx622_0;replace p622 := eq_true p622;replace q622 := eq_true q622
                        go_wp2
                        repeat (go_quiet (fail); try go_wp2)
                        go_meet
                        case rel => exact ⟨_, (((rd (rd_L1 l0_1 x8_1) x11_3) == 1)), rf_, H', ⟨by have := HK1.out; have := HK2.out; have := HK3.out; first | omega | exact Nat.le_refl _⟩, ⟨by (try simp only [hl9_3]); (with_reducible repeat (first | apply Kd.S_alloc | apply Kd.S_drewN | apply Kd.S_drew)); exact HO_7.out⟩, ⟨by (try simp only [hl9_3]); (with_reducible repeat (first | apply Kd.Ra1 | apply Kd.Rn1 | apply Kd.Rd1)); exact HO_9.out⟩, ⟨by (try simp only [hl9_3]); (with_reducible repeat (first | refine kn1 ?_ _ | refine kd1 ?_ | refine ka1 ?_ _)); exact BK611.out⟩, ⟨bl_⟩⟩
                       ·rw [if_neg c29] at H;exact absurd H (by simp)
                      ·rw [if_neg c28] at H;exact absurd H (by simp)
                     ·rw [if_neg c27] at H;exact absurd H (by simp)
                    ·rw [if_neg c26] at H;exact absurd H (by simp)
                  case rest =>
                   clear HC23
                   try clear c1
                   try clear p1
                   try clear q1
                   try clear hx1
                   try clear c2
                   try clear p2
                   try clear c5
                   try clear c5b0
                   try clear c6
                   try clear c6b0
                   try clear c6b1
                   try clear p6
                   try clear q6
                   try clear hx6
                   try clear c7
                   try clear c7b0
                   try clear c7b1
                   try clear c11
                   try clear c11b0
                   try clear c12
                   try clear c12b0
                   try clear c13
                   try clear c13b0
                   try clear c14
                   try clear c14b0
                   try clear c15
                   try clear c15b0
                   try clear c16
                   try clear c16b0
                   try clear c16b1
                   try clear c17
                   try clear c17b0
                   try clear p18
                   try clear q18
                   try clear hx18
                   try clear hf18
                   try clear c22
                   try clear c22b0
                   try clear c25
                   try clear c25b0
                   try clear c25b1
                   try clear c26
                   try clear c26b0
                   try clear c27
                   try clear c27b0
                   try clear c28
                   try clear c28b0
                   try clear c29
                   try clear c29b0
                   try clear hcz19_0
                   try clear hcz19_1
                   try clear hcz24_0
                   try clear hcz24_1
                   try clear hcz30_0
                   try clear hcz30_1
                   try clear hcz8_0
                   try clear hcz8_1
                   try clear hfz19_0
                   try clear hfz19_1
                   try clear hfz24_0
                   try clear hfz24_1
                   try clear hfz30_0
                   try clear hfz30_1
                   try clear hfz8_0
                   try clear hfz8_1
                   try clear hx18_0
                   try clear hx618_0
                   try clear hx619_0
                   try clear hx621_0
                   try clear hx622_0
                   try clear p1
                   try clear p18
                   try clear p2
                   try clear p6
                   try clear p618
                   try clear p619
                   try clear p621
                   try clear p622
                   try clear q1
                   try clear q18
                   try clear q6
                   try clear q618
                   try clear q619
                   try clear q621
                   try clear q622
                   obtain ⟨kq, x61_22, rfl, HA, HJ22, HO_7, HO_9, BK611, HB⟩ := hcut
                   cases kq with
                   | zero => exact absurd HA.out (by simp [crM_round.j3])
                   | succ kj22 =>
                    have H := HA.out;clear HA;simp only [crM_round.j3] at H;by_cases c31 : x61_22 = true
                    ·subst c31;(have H1 : ((crM_into.f kj22 a0_0 l0_1 l1 l2 x11_3 x8_1).bind fun t623 => ((crM_sum.f kj22 t623).bind fun t626 => (if 0 ≤ x10_2 then (if x10_2 < (x9_3.length : Int) then (if ((decide (t626 < 0)) != (decide ((rd x9_3 x10_2) < 0))) = true then (crM_round.l2 kj22 l1 l2 x7_1 x8_1 (x9_3.set (x10_2 : Int).toNat (wrap64 (-(mn (mx t626 (wrap64 (-t626))) (mx (rd x9_3 x10_2) (wrap64 (-(rd x9_3 x10_2)))))))) x10_2 (wrap64 (x11_3 + 1)) a0_0 l0_1) else (crM_round.l2 kj22 l1 l2 x7_1 x8_1 (x9_3.set (x10_2 : Int).toNat (mn (mx t626 (wrap64 (-t626))) (mx (rd x9_3 x10_2) (wrap64 (-(rd x9_3 x10_2)))))) x10_2 (wrap64 (x11_3 + 1)) a0_0 l0_1)) else (none)) else (none)))) = some r := by rw [if_pos rfl] at H; exact H);clear H;have H := H1;clear H1;replace H := Option.bind_eq_some_iff.mp H;obtain ⟨t623, A320, H⟩ := H;replace H : ((crM_sum.f kj22 t623).bind fun t626 => (if 0 ≤ x10_2 then (if x10_2 < (x9_3.length : Int) then (if ((decide (t626 < 0)) != (decide ((rd x9_3 x10_2) < 0))) = true then (crM_round.l2 kj22 l1 l2 x7_1 x8_1 (x9_3.set (x10_2 : Int).toNat (wrap64 (-(mn (mx t626 (wrap64 (-t626))) (mx (rd x9_3 x10_2) (wrap64 (-(rd x9_3 x10_2)))))))) x10_2 (wrap64 (x11_3 + 1)) a0_0 l0_1) else (crM_round.l2 kj22 l1 l2 x7_1 x8_1 (x9_3.set (x10_2 : Int).toNat (mn (mx t626 (wrap64 (-t626))) (mx (rd x9_3 x10_2) (wrap64 (-(rd x9_3 x10_2)))))) x10_2 (wrap64 (x11_3 + 1)) a0_0 l0_1)) else (none)) else (none))) = some r := H;have A32 := Ai0.mk A320;clear A320;replace H := Option.bind_eq_some_iff.mp H;obtain ⟨t626, A330, H⟩ := H;replace H : (if 0 ≤ x10_2 then (if x10_2 < (x9_3.length : Int) then (if ((decide (t626 < 0)) != (decide ((rd x9_3 x10_2) < 0))) = true then (crM_round.l2 kj22 l1 l2 x7_1 x8_1 (x9_3.set (x10_2 : Int).toNat (wrap64 (-(mn (mx t626 (wrap64 (-t626))) (mx (rd x9_3 x10_2) (wrap64 (-(rd x9_3 x10_2)))))))) x10_2 (wrap64 (x11_3 + 1)) a0_0 l0_1) else (crM_round.l2 kj22 l1 l2 x7_1 x8_1 (x9_3.set (x10_2 : Int).toNat (mn (mx t626 (wrap64 (-t626))) (mx (rd x9_3 x10_2) (wrap64 (-(rd x9_3 x10_2)))))) x10_2 (wrap64 (x11_3 + 1)) a0_0 l0_1)) else (none)) else (none)) = some r := H;have A33 := Ai0.mk A330;clear A330;(obtain ⟨ji34, hji34⟩ : ∃ j_ : Int, (mx t626 (wrap64 (-t626))) = j_ := ⟨_, rfl⟩);(replace H : (if 0 ≤ x10_2 then (if x10_2 < (x9_3.length : Int) then (if ((decide (t626 < 0)) != (decide ((rd x9_3 x10_2) < 0))) = true then (crM_round.l2 kj22 l1 l2 x7_1 x8_1 (x9_3.set (x10_2 : Int).toNat (wrap64 (-(mn (ji34) (mx (rd x9_3 x10_2) (wrap64 (-(rd x9_3 x10_2)))))))) x10_2 (wrap64 (x11_3 + 1)) a0_0 l0_1) else (crM_round.l2 kj22 l1 l2 x7_1 x8_1 (x9_3.set (x10_2 : Int).toNat (mn (ji34) (mx (rd x9_3 x10_2) (wrap64 (-(rd x9_3 x10_2)))))) x10_2 (wrap64 (x11_3 + 1)) a0_0 l0_1)) else (none)) else (none)) = some r := by first | (rw [hji34] at H; exact H) | (simp only [hji34] at H ⊢; exact H));(try rw [hji34] at A32);(try rw [hji34] at A33);have hji34_ : (if t626 < (wrap64 (-t626)) then (wrap64 (-t626)) else t626) = ji34 := hji34;by_cases c35 : 0 ≤ x10_2
                     ·rw [if_pos c35] at H;have c35b0 : decide (0 ≤ x10_2) = true := decide_eq_true c35;clear c35;by_cases c36 : x10_2 < (x9_3.length : Int)
                      ·rw [if_pos c36] at H;have c36b0 : decide (x10_2 < (x9_3.length : Int)) = true := decide_eq_true c36;(try (have c36b0h0 := c36b0; simp only [hl9_3] at c36b0h0));clear c36;(obtain ⟨ji37, hji37⟩ : ∃ j_ : Int, (mx (rd x9_3 x10_2) (wrap64 (-(rd x9_3 x10_2)))) = j_ := ⟨_, rfl⟩);(replace H : (if ((decide (t626 < 0)) != (decide ((rd x9_3 x10_2) < 0))) = true then (crM_round.l2 kj22 l1 l2 x7_1 x8_1 (x9_3.set (x10_2 : Int).toNat (wrap64 (-(mn (ji34) (ji37))))) x10_2 (wrap64 (x11_3 + 1)) a0_0 l0_1) else (crM_round.l2 kj22 l1 l2 x7_1 x8_1 (x9_3.set (x10_2 : Int).toNat (mn (ji34) (ji37))) x10_2 (wrap64 (x11_3 + 1)) a0_0 l0_1)) = some r := by first | (rw [hji37] at H; exact H) | (simp only [hji37] at H ⊢; exact H));(try rw [hji37] at A32);(try rw [hji37] at A33);have hji37_ : (if (rd x9_3 x10_2) < (wrap64 (-(rd x9_3 x10_2))) then (wrap64 (-(rd x9_3 x10_2))) else (rd x9_3 x10_2)) = ji37 := hji37;(obtain ⟨ji38, hji38⟩ : ∃ j_ : Int, (mn (ji34) (ji37)) = j_ := ⟨_, rfl⟩);(replace H : (if ((decide (t626 < 0)) != (decide ((rd x9_3 x10_2) < 0))) = true then (crM_round.l2 kj22 l1 l2 x7_1 x8_1 (x9_3.set (x10_2 : Int).toNat (wrap64 (-(ji38)))) x10_2 (wrap64 (x11_3 + 1)) a0_0 l0_1) else (crM_round.l2 kj22 l1 l2 x7_1 x8_1 (x9_3.set (x10_2 : Int).toNat (ji38)) x10_2 (wrap64 (x11_3 + 1)) a0_0 l0_1)) = some r := by first | (rw [hji38] at H; exact H) | (simp only [hji38] at H ⊢; exact H));(try rw [hji38] at A32);(try rw [hji38] at A33);have hji38_ : (if (ji37) < (ji34) then (ji37) else (ji34)) = ji38 := hji38;by_cases c39 : ((decide (t626 < 0)) != (decide ((rd x9_3 x10_2) < 0))) = true
                       ·rw [if_pos c39] at H;have c39b0 : ((decide (t626 < 0)) != (decide ((rd x9_3 x10_2) < 0))) = true := c39;(try (have c39b1 : decide ((decide (t626 < 0)) = (decide ((rd x9_3 x10_2) < 0))) = false := by simpa using c39));(try (have c39b2 : ((decide (t626 < 0)) == (decide ((rd x9_3 x10_2) < 0))) = false := by simpa using c39));(try (have c39b3 : ¬ ((decide (t626 < 0)) = (decide ((rd x9_3 x10_2) < 0))) := by simpa using c39));clear c39;(obtain ⟨y630, hy630⟩ : ∃ y_ : List Int, y_ = (x9_3.set (x10_2 : Int).toNat (wrap64 (-(ji38)))) := ⟨_, rfl⟩);(replace H : (crM_round.l2 kj22 l1 l2 x7_1 x8_1 y630 x10_2 (wrap64 (x11_3 + 1)) a0_0 l0_1) = some r := by first | (rw [hy630]; with_reducible exact H) | (have H2_ := (Option.bind_some _ _).symm.trans H; rw [hy630]; with_reducible exact H2_) | (have H2_ := (Option.bind_some _ _).symm.trans H; with_reducible exact H2_) | with_reducible exact H | (rw [hy630]; exact H) | exact H);have Ny630 := Ai0.mk hy630;clear hy630;have H' := Ai0.mk H;clear H;have hcz41_0 : wc.cell? ⟨gb611, 0, none⟩ = some (.int .i64 a0_0) := (kc1 BK611.out 0).trans rfl;have hcz41_1 : wc.cell? ⟨gb611, 1, none⟩ = some (.slice (some ad618) l0_1.length c0_1) := (kc1 BK611.out 1).trans rfl;have hfz41_0 := kf1 BK611.out 0;have hfz41_1 := kf1 BK611.out 1
                        go_wp2_with (first | (go_at_call 66; (with_reducible refine (crM_into.calls kj22 a0_0 _ _ l0_1 _ _ l1 _ _ l2 x11_3 x8_1 t623 _ ?side1 ?side2 ?side3 ?side4 ?side5 ?side6 A32.out).mono ?_); (case side1 => exact kc_ HR0_1.out); (case side2 => exact HC0_1.out); (case side3 => exact kc_ HR1.out); (case side4 => exact HC1.out); (case side5 => exact kc_ HR2.out); (case side6 => exact HC2.out); rintro e w42 ⟨v624, rfl, ho0, hb⟩; have n0_ := Ai0.mk (Kd.S_elder' (ks_ HO_7.out) (Kd.R_base ho0) hb); have n1_ := Ai0.mk (Kd.R_elder' (kr_ HO_9.out) (Kd.R_base ho0) hb); have n2_ := Ai0.mk (Kd.R_lower (Kd.R_new' ho0 (Kd.R_lt (kr_ HO_9.out))) (bz1 bl_)); have n3_ := Ai0.mk (kb1 (g := gb611) (o := .cells #[.int .i64 a0_0, .slice (some ad618) l0_1.length c0_1] 24 (0, 0)) (kk_ BK611.out) hb); have n4_ := Ai0.mk (bt1 bl_ hb); clear HO_7; clear HO_9; clear BK611; clear HB; have HO_7 := n0_; have HO_9 := n1_; have HO625 := n2_; have BK611 := n3_; have HB := n4_; clear n0_ n1_ n2_ n3_ n4_; (try clear hb); (try clear hb2); (try clear hk); (try clear hi); (try clear ho0); obtain ⟨Ao43, co43, eo43⟩ := Kd.R_slice HO625.out; subst eo43) | (go_at_call 65; (with_reducible refine (crM_sum.calls kj22 _ _ t623 t626 _ ?side1 ?side2 A33.out).mono ?_); (case side1 => repeat (first | exact (Kd.R_reads' HO625.out).2.2 | (with_reducible refine Kd.C_alloc ?_ _) | (with_reducible refine Kd.C_drewN ?_ _) | (with_reducible refine Kd.C_drew ?_))); (case side2 => exact (Kd.R_reads' HO625.out).2.1); rintro e w44 ⟨rfl, hb⟩; have n0_ := Ai0.mk (Kd.S_below (ks_ HO_7.out) hb); have n1_ := Ai0.mk (Kd.R_below (kr_ HO_9.out) hb); have n2_ := Ai0.mk (Kd.R_below (kr_ HO625.out) hb); have n3_ := Ai0.mk (kb1 (g := gb611) (o := .cells #[.int .i64 a0_0, .slice (some ad618) l0_1.length c0_1] 24 (0, 0)) (kk_ BK611.out) hb); have n4_ := Ai0.mk (bt1 bl_ hb); clear HO_7; clear HO_9; clear HO625; clear BK611; clear HB; have HO_7 := n0_; have HO_9 := n1_; have HO625 := n2_; have BK611 := n3_; have HB := n4_; clear n0_ n1_ n2_ n3_ n4_; (try clear hb); (try clear hb2); (try clear hk); (try clear hi); have p627 : 0 ≤ (x10_2 : Int) := od_; have q627 : x10_2 < (x9_3.length : Int) := od_; obtain ⟨ad627, e627, hx627_0⟩ := Kd.at_int (Kd.R_reads' HO_9.out).2.2 x10_2 p627 q627; obtain rfl : (⟨go18, 0, none⟩ : Addr) = ad627 := (by injection e627); (first | simp only [add_plain] at hx627_0 | simp only [add_at] at hx627_0 | simp only [Addr.add, Nat.zero_add] at hx627_0 | skip); replace p627 := eq_true p627; replace q627 := eq_true q627; have p628 : 0 ≤ (x10_2 : Int) := od_; have q628 : x10_2 < (x9_3.length : Int) := od_; obtain ⟨ad628, e628, hx628_0⟩ := Kd.at_int (Kd.R_reads' HO_9.out).2.2 x10_2 p628 q628; obtain rfl : (⟨go18, 0, none⟩ : Addr) = ad628 := (by injection e628); (first | simp only [add_plain] at hx628_0 | simp only [add_at] at hx628_0 | simp only [Addr.add, Nat.zero_add] at hx628_0 | skip); replace p628 := eq_true p628; replace q628 := eq_true q628; have p629 : 0 ≤ (x10_2 : Int) := od_; have q629 : x10_2 < (x9_3.length : Int) := od_; obtain ⟨ad629, e629, hx629_0⟩ := Kd.at_int (Kd.R_reads' HO_9.out).2.2 x10_2 p629 q629; obtain rfl : (⟨go18, 0, none⟩ : Addr) = ad629 := (by injection e629); (first | simp only [add_plain] at hx629_0 | simp only [add_at] at hx629_0 | simp only [Addr.add, Nat.zero_add] at hx629_0 | skip); replace p629 := eq_true p629; replace q629 := eq_true q629; have p40 : 0 ≤ (x10_2 : Int) := od_; have q40 : (x10_2 : Int) < ((x9_3.length : Int) : Int) := od_; obtain ⟨hx40_0, hf40_0⟩ := Kd.R_celln 0 HO_9.out (x10_2 : Int) p40 q40; replace p40 := eq_true p40; replace q40 := eq_true q40; have n_ := Ai0.mk (Kd.R_mono (ok' := (fun k_ => some k_ ≠ (.slice Ao43 t623.length co43 : Value).ownBlock)) HO_9.out (fun k_ hk => hk.2)); clear HO_9; have HO_9 := n_; clear n_; obtain ⟨hy45_, hz45_⟩ := Kd.R_celln 0 HO_9.out (x10_2 : Int) od_ od_; have HP45 := Kd.R_putg HO_9.out (x10_2 : Int) (wrap64 (-(ji38)))) | ((with_reducible refine gate_store (t := 3) (p := 97) rfl ?_); (try (rw [drewN_self w44]; generalize hq_ : World.drewN w44 _ = w44; have n0_ := Ai0.mk (Kd.S_at hq_ HO_7.out); have n1_ := Ai0.mk (Kd.R_at hq_ HO_9.out); have n2_ := Ai0.mk (Kd.R_at hq_ HO625.out); have n3_ := Ai0.mk (blk_at hq_ BK611.out); have n4_ := Ai0.mk (below_at hq_ HB.out); clear hq_ HO_7 HO_9 HO625 BK611 HB; have HO_7 := n0_; have HO_9 := n1_; have HO625 := n2_; have BK611 := n3_; have HB := n4_; clear n0_ n1_ n2_ n3_ n4_; (try (have n_ := Ai0.mk (Kd.R_mono (ok' := (fun k_ => some k_ ≠ (.slice Ao43 t623.length co43 : Value).ownBlock)) HO_9.out (fun k_ hk => hk.2)); clear HO_9; have HO_9 := n_; clear n_)); (try (obtain ⟨hy45_, hz45_⟩ := Kd.R_celln 0 HO_9.out (x10_2 : Int) od_ od_)); (try (have HP45 := Kd.R_putg HO_9.out (x10_2 : Int) (wrap64 (-(ji38))))))); refine store_event (t := 3) (p := 97) (v := ?vo_w46) (w1 := (w44.setCell ⟨go18, (x10_2 : Int).toNat, none⟩ (.int .i64 (wrap64 (-(ji38)))))) ?hg ?ho ?hn ?hr ?_; (case ho => rfl); (case hg => rfl); (case hn => rfl); (case hr => first | (go_simp; done) | (go_simp; rfl)); intro w46 hw; have hg : w44.grownBy w46 (some go18) := (by rw [hw]; exact HP45.2); have hp_ : Kd.R (Kd.int .i64) 3 w46 w.heap.size (fun k_ => some k_ ≠ (.slice Ao43 t623.length co43 : Value).ownBlock) (.slice (some ⟨go18, 0, none⟩) x9_3.length co18) y630 := (by rw [hw, Ny630.out]; exact HP45.1); clear HP45; have n0_ := Ai0.mk (Kd.S_after (v := (.slice (some ⟨go18, 0, none⟩) x9_3.length co18)) (v1 := (.slice (some ⟨go18, 0, none⟩) x9_3.length co18)) (ok := (fun k_ => some k_ ≠ (.slice Ao43 t623.length co43 : Value).ownBlock)) (by (with_reducible repeat (first | apply Kd.S_alloc | apply Kd.S_drewN | apply Kd.S_drew)); exact Kd.S_mono HO_7.out (fun _ hk => ⟨hk.2, hk.1⟩)) hg (.inl rfl)); have n1_ := Ai0.mk (hp_); have n2_ := Ai0.mk (blk_grown (g := gb611) (o := .cells #[.int .i64 a0_0, .slice (some ad618) l0_1.length c0_1] 24 (0, 0)) (kk_ BK611.out) hg (Kd.R_ne HO_9.out BK611.out (by decide))); have n3_ := Ai0.mk (Kd.R_after (v := (.slice (some ⟨go18, 0, none⟩) x9_3.length co18)) (v1 := (.slice (some ⟨go18, 0, none⟩) x9_3.length co18)) (ok := (fun _ => True)) (kr_ HO625.out) hg (.inl rfl)); have n4_ := Ai0.mk ((by rw [hw]; exact bs1 (HB.out) GB18.out : Below w.heap.size w w46)); clear HO_7; clear HO_9; clear BK611; clear HO625; clear HB; have HO_7 := n0_; have HO_9 := n1_; have BK611 := n2_; have HO625 := n3_; have HB := n4_; clear n0_ n1_ n2_ n3_ n4_; clear hg hw hp_))
                        repeat (go_quiet (first | (go_at_call 66; (with_reducible refine (crM_into.calls kj22 a0_0 _ _ l0_1 _ _ l1 _ _ l2 x11_3 x8_1 t623 _ ?side1 ?side2 ?side3 ?side4 ?side5 ?side6 A32.out).mono ?_); (case side1 => exact kc_ HR0_1.out); (case side2 => exact HC0_1.out); (case side3 => exact kc_ HR1.out); (case side4 => exact HC1.out); (case side5 => exact kc_ HR2.out); (case side6 => exact HC2.out); rintro e w42 ⟨v624, rfl, ho0, hb⟩; have n0_ := Ai0.mk (Kd.S_elder' (ks_ HO_7.out) (Kd.R_base ho0) hb); have n1_ := Ai0.mk (Kd.R_elder' (kr_ HO_9.out) (Kd.R_base ho0) hb); have n2_ := Ai0.mk (Kd.R_lower (Kd.R_new' ho0 (Kd.R_lt (kr_ HO_9.out))) (bz1 bl_)); have n3_ := Ai0.mk (kb1 (g := gb611) (o := .cells #[.int .i64 a0_0, .slice (some ad618) l0_1.length c0_1] 24 (0, 0)) (kk_ BK611.out) hb); have n4_ := Ai0.mk (bt1 bl_ hb); clear HO_7; clear HO_9; clear BK611; clear HB; have HO_7 := n0_; have HO_9 := n1_; have HO625 := n2_; have BK611 := n3_; have HB := n4_; clear n0_ n1_ n2_ n3_ n4_; (try clear hb); (try clear hb2); (try clear hk); (try clear hi); (try clear ho0); obtain ⟨Ao43, co43, eo43⟩ := Kd.R_slice HO625.out; subst eo43) | (go_at_call 65; (with_reducible refine (crM_sum.calls kj22 _ _ t623 t626 _ ?side1 ?side2 A33.out).mono ?_); (case side1 => repeat (first | exact (Kd.R_reads' HO625.out).2.2 | (with_reducible refine Kd.C_alloc ?_ _) | (with_reducible refine Kd.C_drewN ?_ _) | (with_reducible refine Kd.C_drew ?_))); (case side2 => exact (Kd.R_reads' HO625.out).2.1); rintro e w44 ⟨rfl, hb⟩; have n0_ := Ai0.mk (Kd.S_below (ks_ HO_7.out) hb); have n1_ := Ai0.mk (Kd.R_below (kr_ HO_9.out) hb); have n2_ := Ai0.mk (Kd.R_below (kr_ HO625.out) hb); have n3_ := Ai0.mk (kb1 (g := gb611) (o := .cells #[.int .i64 a0_0, .slice (some ad618) l0_1.length c0_1] 24 (0, 0)) (kk_ BK611.out) hb); have n4_ := Ai0.mk (bt1 bl_ hb); clear HO_7; clear HO_9; clear HO625; clear BK611; clear HB; have HO_7 := n0_; have HO_9 := n1_; have HO625 := n2_; have BK611 := n3_; have HB := n4_; clear n0_ n1_ n2_ n3_ n4_; (try clear hb); (try clear hb2); (try clear hk); (try clear hi); have p627 : 0 ≤ (x10_2 : Int) := od_; have q627 : x10_2 < (x9_3.length : Int) := od_; obtain ⟨ad627, e627, hx627_0⟩ := Kd.at_int (Kd.R_reads' HO_9.out).2.2 x10_2 p627 q627; obtain rfl : (⟨go18, 0, none⟩ : Addr) = ad627 := (by injection e627); (first | simp only [add_plain] at hx627_0 | simp only [add_at] at hx627_0 | simp only [Addr.add, Nat.zero_add] at hx627_0 | skip); replace p627 := eq_true p627; replace q627 := eq_true q627; have p628 : 0 ≤ (x10_2 : Int) := od_; have q628 : x10_2 < (x9_3.length : Int) := od_; obtain ⟨ad628, e628, hx628_0⟩ := Kd.at_int (Kd.R_reads' HO_9.out).2.2 x10_2 p628 q628; obtain rfl : (⟨go18, 0, none⟩ : Addr) = ad628 := (by injection e628); (first | simp only [add_plain] at hx628_0 | simp only [add_at] at hx628_0 | simp only [Addr.add, Nat.zero_add] at hx628_0 | skip); replace p628 := eq_true p628; replace q628 := eq_true q628; have p629 : 0 ≤ (x10_2 : Int) := od_; have q629 : x10_2 < (x9_3.length : Int) := od_; obtain ⟨ad629, e629, hx629_0⟩ := Kd.at_int (Kd.R_reads' HO_9.out).2.2 x10_2 p629 q629; obtain rfl : (⟨go18, 0, none⟩ : Addr) = ad629 := (by injection e629); (first | simp only [add_plain] at hx629_0 | simp only [add_at] at hx629_0 | simp only [Addr.add, Nat.zero_add] at hx629_0 | skip); replace p629 := eq_true p629; replace q629 := eq_true q629; have p40 : 0 ≤ (x10_2 : Int) := od_; have q40 : (x10_2 : Int) < ((x9_3.length : Int) : Int) := od_; obtain ⟨hx40_0, hf40_0⟩ := Kd.R_celln 0 HO_9.out (x10_2 : Int) p40 q40; replace p40 := eq_true p40; replace q40 := eq_true q40; have n_ := Ai0.mk (Kd.R_mono (ok' := (fun k_ => some k_ ≠ (.slice Ao43 t623.length co43 : Value).ownBlock)) HO_9.out (fun k_ hk => hk.2)); clear HO_9; have HO_9 := n_; clear n_; obtain ⟨hy45_, hz45_⟩ := Kd.R_celln 0 HO_9.out (x10_2 : Int) od_ od_; have HP45 := Kd.R_putg HO_9.out (x10_2 : Int) (wrap64 (-(ji38)))) | ((with_reducible refine gate_store (t := 3) (p := 97) rfl ?_); (try (rw [drewN_self w44]; generalize hq_ : World.drewN w44 _ = w44; have n0_ := Ai0.mk (Kd.S_at hq_ HO_7.out); have n1_ := Ai0.mk (Kd.R_at hq_ HO_9.out); have n2_ := Ai0.mk (Kd.R_at hq_ HO625.out); have n3_ := Ai0.mk (blk_at hq_ BK611.out); have n4_ := Ai0.mk (below_at hq_ HB.out); clear hq_ HO_7 HO_9 HO625 BK611 HB; have HO_7 := n0_; have HO_9 := n1_; have HO625 := n2_; have BK611 := n3_; have HB := n4_; clear n0_ n1_ n2_ n3_ n4_; (try (have n_ := Ai0.mk (Kd.R_mono (ok' := (fun k_ => some k_ ≠ (.slice Ao43 t623.length co43 : Value).ownBlock)) HO_9.out (fun k_ hk => hk.2)); clear HO_9; have HO_9 := n_; clear n_)); (try (obtain ⟨hy45_, hz45_⟩ := Kd.R_celln 0 HO_9.out (x10_2 : Int) od_ od_)); (try (have HP45 := Kd.R_putg HO_9.out (x10_2 : Int) (wrap64 (-(ji38))))))); refine store_event (t := 3) (p := 97) (v := ?vo_w46) (w1 := (w44.setCell ⟨go18, (x10_2 : Int).toNat, none⟩ (.int .i64 (wrap64 (-(ji38)))))) ?hg ?ho ?hn ?hr ?_; (case ho => rfl); (case hg => rfl); (case hn => rfl); (case hr => first | (go_simp; done) | (go_simp; rfl)); intro w46 hw; have hg : w44.grownBy w46 (some go18) := (by rw [hw]; exact HP45.2); have hp_ : Kd.R (Kd.int .i64) 3 w46 w.heap.size (fun k_ => some k_ ≠ (.slice Ao43 t623.length co43 : Value).ownBlock) (.slice (some ⟨go18, 0, none⟩) x9_3.length co18) y630 := (by rw [hw, Ny630.out]; exact HP45.1); clear HP45; have n0_ := Ai0.mk (Kd.S_after (v := (.slice (some ⟨go18, 0, none⟩) x9_3.length co18)) (v1 := (.slice (some ⟨go18, 0, none⟩) x9_3.length co18)) (ok := (fun k_ => some k_ ≠ (.slice Ao43 t623.length co43 : Value).ownBlock)) (by (with_reducible repeat (first | apply Kd.S_alloc | apply Kd.S_drewN | apply Kd.S_drew)); exact Kd.S_mono HO_7.out (fun _ hk => ⟨hk.2, hk.1⟩)) hg (.inl rfl)); have n1_ := Ai0.mk (hp_); have n2_ := Ai0.mk (blk_grown (g := gb611) (o := .cells #[.int .i64 a0_0, .slice (some ad618) l0_1.length c0_1] 24 (0, 0)) (kk_ BK611.out) hg (Kd.R_ne HO_9.out BK611.out (by decide))); have n3_ := Ai0.mk (Kd.R_after (v := (.slice (some ⟨go18, 0, none⟩) x9_3.length co18)) (v1 := (.slice (some ⟨go18, 0, none⟩) x9_3.length co18)) (ok := (fun _ => True)) (kr_ HO625.out) hg (.inl rfl)); have n4_ := Ai0.mk ((by rw [hw]; exact bs1 (HB.out) GB18.out : Below w.heap.size w w46)); clear HO_7; clear HO_9; clear BK611; clear HO625; clear HB; have HO_7 := n0_; have HO_9 := n1_; have BK611 := n2_; have HO625 := n3_; have HB := n4_; clear n0_ n1_ n2_ n3_ n4_; clear hg hw hp_)); try go_wp2_with (first | (go_at_call 66; (with_reducible refine (crM_into.calls kj22 a0_0 _ _ l0_1 _ _ l1 _ _ l2 x11_3 x8_1 t623 _ ?side1 ?side2 ?side3 ?side4 ?side5 ?side6 A32.out).mono ?_); (case side1 => exact kc_ HR0_1.out); (case side2 => exact HC0_1.out); (case side3 => exact kc_ HR1.out); (case side4 => exact HC1.out); (case side5 => exact kc_ HR2.out); (case side6 => exact HC2.out); rintro e w42 ⟨v624, rfl, ho0, hb⟩; have n0_ := Ai0.mk (Kd.S_elder' (ks_ HO_7.out) (Kd.R_base ho0) hb); have n1_ := Ai0.mk (Kd.R_elder' (kr_ HO_9.out) (Kd.R_base ho0) hb); have n2_ := Ai0.mk (Kd.R_lower (Kd.R_new' ho0 (Kd.R_lt (kr_ HO_9.out))) (bz1 bl_)); have n3_ := Ai0.mk (kb1 (g := gb611) (o := .cells #[.int .i64 a0_0, .slice (some ad618) l0_1.length c0_1] 24 (0, 0)) (kk_ BK611.out) hb); have n4_ := Ai0.mk (bt1 bl_ hb); clear HO_7; clear HO_9; clear BK611; clear HB; have HO_7 := n0_; have HO_9 := n1_; have HO625 := n2_; have BK611 := n3_; have HB := n4_; clear n0_ n1_ n2_ n3_ n4_; (try clear hb); (try clear hb2); (try clear hk); (try clear hi); (try clear ho0); obtain ⟨Ao43, co43, eo43⟩ := Kd.R_slice HO625.out; subst eo43) | (go_at_call 65; (with_reducible refine (crM_sum.calls kj22 _ _ t623 t626 _ ?side1 ?side2 A33.out).mono ?_); (case side1 => repeat (first | exact (Kd.R_reads' HO625.out).2.2 | (with_reducible refine Kd.C_alloc ?_ _) | (with_reducible refine Kd.C_drewN ?_ _) | (with_reducible refine Kd.C_drew ?_))); (case side2 => exact (Kd.R_reads' HO625.out).2.1); rintro e w44 ⟨rfl, hb⟩; have n0_ := Ai0.mk (Kd.S_below (ks_ HO_7.out) hb); have n1_ := Ai0.mk (Kd.R_below (kr_ HO_9.out) hb); have n2_ := Ai0.mk (Kd.R_below (kr_ HO625.out) hb); have n3_ := Ai0.mk (kb1 (g := gb611) (o := .cells #[.int .i64 a0_0, .slice (some ad618) l0_1.length c0_1] 24 (0, 0)) (kk_ BK611.out) hb); have n4_ := Ai0.mk (bt1 bl_ hb); clear HO_7; clear HO_9; clear HO625; clear BK611; clear HB; have HO_7 := n0_; have HO_9 := n1_; have HO625 := n2_; have BK611 := n3_; have HB := n4_; clear n0_ n1_ n2_ n3_ n4_; (try clear hb); (try clear hb2); (try clear hk); (try clear hi); have p627 : 0 ≤ (x10_2 : Int) := od_; have q627 : x10_2 < (x9_3.length : Int) := od_; obtain ⟨ad627, e627, hx627_0⟩ := Kd.at_int (Kd.R_reads' HO_9.out).2.2 x10_2 p627 q627; obtain rfl : (⟨go18, 0, none⟩ : Addr) = ad627 := (by injection e627); (first | simp only [add_plain] at hx627_0 | simp only [add_at] at hx627_0 | simp only [Addr.add, Nat.zero_add] at hx627_0 | skip); replace p627 := eq_true p627; replace q627 := eq_true q627; have p628 : 0 ≤ (x10_2 : Int) := od_; have q628 : x10_2 < (x9_3.length : Int) := od_; obtain ⟨ad628, e628, hx628_0⟩ := Kd.at_int (Kd.R_reads' HO_9.out).2.2 x10_2 p628 q628; obtain rfl : (⟨go18, 0, none⟩ : Addr) = ad628 := (by injection e628); (first | simp only [add_plain] at hx628_0 | simp only [add_at] at hx628_0 | simp only [Addr.add, Nat.zero_add] at hx628_0 | skip); replace p628 := eq_true p628; replace q628 := eq_true q628; have p629 : 0 ≤ (x10_2 : Int) := od_; have q629 : x10_2 < (x9_3.length : Int) := od_; obtain ⟨ad629, e629, hx629_0⟩ := Kd.at_int (Kd.R_reads' HO_9.out).2.2 x10_2 p629 q629; obtain rfl : (⟨go18, 0, none⟩ : Addr) = ad629 := (by injection e629); (first | simp only [add_plain] at hx629_0 | simp only [add_at] at hx629_0 | simp only [Addr.add, Nat.zero_add] at hx629_0 | skip); replace p629 := eq_true p629; replace q629 := eq_true q629; have p40 : 0 ≤ (x10_2 : Int) := od_; have q40 : (x10_2 : Int) < ((x9_3.length : Int) : Int) := od_; obtain ⟨hx40_0, hf40_0⟩ := Kd.R_celln 0 HO_9.out (x10_2 : Int) p40 q40; replace p40 := eq_true p40; replace q40 := eq_true q40; have n_ := Ai0.mk (Kd.R_mono (ok' := (fun k_ => some k_ ≠ (.slice Ao43 t623.length co43 : Value).ownBlock)) HO_9.out (fun k_ hk => hk.2)); clear HO_9; have HO_9 := n_; clear n_; obtain ⟨hy45_, hz45_⟩ := Kd.R_celln 0 HO_9.out (x10_2 : Int) od_ od_; have HP45 := Kd.R_putg HO_9.out (x10_2 : Int) (wrap64 (-(ji38)))) | ((with_reducible refine gate_store (t := 3) (p := 97) rfl ?_); (try (rw [drewN_self w44]; generalize hq_ : World.drewN w44 _ = w44; have n0_ := Ai0.mk (Kd.S_at hq_ HO_7.out); have n1_ := Ai0.mk (Kd.R_at hq_ HO_9.out); have n2_ := Ai0.mk (Kd.R_at hq_ HO625.out); have n3_ := Ai0.mk (blk_at hq_ BK611.out); have n4_ := Ai0.mk (below_at hq_ HB.out); clear hq_ HO_7 HO_9 HO625 BK611 HB; have HO_7 := n0_; have HO_9 := n1_; have HO625 := n2_; have BK611 := n3_; have HB := n4_; clear n0_ n1_ n2_ n3_ n4_; (try (have n_ := Ai0.mk (Kd.R_mono (ok' := (fun k_ => some k_ ≠ (.slice Ao43 t623.length co43 : Value).ownBlock)) HO_9.out (fun k_ hk => hk.2)); clear HO_9; have HO_9 := n_; clear n_)); (try (obtain ⟨hy45_, hz45_⟩ := Kd.R_celln 0 HO_9.out (x10_2 : Int) od_ od_)); (try (have HP45 := Kd.R_putg HO_9.out (x10_2 : Int) (wrap64 (-(ji38))))))); refine store_event (t := 3) (p := 97) (v := ?vo_w46) (w1 := (w44.setCell ⟨go18, (x10_2 : Int).toNat, none⟩ (.int .i64 (wrap64 (-(ji38)))))) ?hg ?ho ?hn ?hr ?_; (case ho => rfl); (case hg => rfl); (case hn => rfl); (case hr => first | (go_simp; done) | (go_simp; rfl)); intro w46 hw; have hg : w44.grownBy w46 (some go18) := (by rw [hw]; exact HP45.2); have hp_ : Kd.R (Kd.int .i64) 3 w46 w.heap.size (fun k_ => some k_ ≠ (.slice Ao43 t623.length co43 : Value).ownBlock) (.slice (some ⟨go18, 0, none⟩) x9_3.length co18) y630 := (by rw [hw, Ny630.out]; exact HP45.1); clear HP45; have n0_ := Ai0.mk (Kd.S_after (v := (.slice (some ⟨go18, 0, none⟩) x9_3.length co18)) (v1 := (.slice (some ⟨go18, 0, none⟩) x9_3.length co18)) (ok := (fun k_ => some k_ ≠ (.slice Ao43 t623.length co43 : Value).ownBlock)) (by (with_reducible repeat (first | apply Kd.S_alloc | apply Kd.S_drewN | apply Kd.S_drew)); exact Kd.S_mono HO_7.out (fun _ hk => ⟨hk.2, hk.1⟩)) hg (.inl rfl)); have n1_ := Ai0.mk (hp_); have n2_ := Ai0.mk (blk_grown (g := gb611) (o := .cells #[.int .i64 a0_0, .slice (some ad618) l0_1.length c0_1] 24 (0, 0)) (kk_ BK611.out) hg (Kd.R_ne HO_9.out BK611.out (by decide))); have n3_ := Ai0.mk (Kd.R_after (v := (.slice (some ⟨go18, 0, none⟩) x9_3.length co18)) (v1 := (.slice (some ⟨go18, 0, none⟩) x9_3.length co18)) (ok := (fun _ => True)) (kr_ HO625.out) hg (.inl rfl)); have n4_ := Ai0.mk ((by rw [hw]; exact bs1 (HB.out) GB18.out : Below w.heap.size w w46)); clear HO_7; clear HO_9; clear BK611; clear HO625; clear HB; have HO_7 := n0_; have HO_9 := n1_; have BK611 := n2_; have HO625 := n3_; have HB := n4_; clear n0_ n1_ n2_ n3_ n4_; clear hg hw hp_)))
                        (try simp only [← hl9_3])
                        go_roundg kj22
                        case measure => have := HK1.out; have := HK2.out; have := HK3.out; have := HJ22.out; omega
                        case rel => exact ⟨(y630), (wrap64 (x11_3 + 1)), rf_, H', ⟨by have := HK1.out; have := HK2.out; have := HK3.out; have := HJ22.out; omega⟩, ⟨by (try simp only [hl9_3]); (with_reducible repeat (first | apply Kd.S_alloc | apply Kd.S_drewN | apply Kd.S_drew)); exact Kd.S_mono HO_7.out (fun _ hk => hk.2)⟩, ⟨by (try simp only [hl9_3]); (with_reducible repeat (first | apply Kd.Ra1 | apply Kd.Rn1 | apply Kd.Rd1)); exact Kd.R_mono HO_9.out (fun _ hk => trivial)⟩, ⟨by (try simp only [hl9_3]); (with_reducible repeat (first | refine kn1 ?_ _ | refine kd1 ?_ | refine ka1 ?_ _)); exact BK611.out⟩, ⟨bl_⟩⟩
                       ·rw [if_neg c39] at H;(have c39b0 : ((decide (t626 < 0)) != (decide ((rd x9_3 x10_2) < 0))) = false := by simpa using c39);(try (have c39b1 : decide ((decide (t626 < 0)) = (decide ((rd x9_3 x10_2) < 0))) = true := by simpa using c39));(try (have c39b2 : ((decide (t626 < 0)) == (decide ((rd x9_3 x10_2) < 0))) = true := by simpa using c39));clear c39;(obtain ⟨y631, hy631⟩ : ∃ y_ : List Int, y_ = (x9_3.set (x10_2 : Int).toNat (ji38)) := ⟨_, rfl⟩);(replace H : (crM_round.l2 kj22 l1 l2 x7_1 x8_1 y631 x10_2 (wrap64 (x11_3 + 1)) a0_0 l0_1) = some r := by first | (rw [hy631]; with_reducible exact H) | (have H2_ := (Option.bind_some _ _).symm.trans H; rw [hy631]; with_reducible exact H2_) | (have H2_ := (Option.bind_some _ _).symm.trans H; with_reducible exact H2_) | with_reducible exact H | (rw [hy631]; exact H) | exact H);have Ny631 := Ai0.mk hy631;clear hy631;have H' := Ai0.mk H;clear H;have hcz48_0 : wc.cell? ⟨gb611, 0, none⟩ = some (.int .i64 a0_0) := (kc1 BK611.out 0).trans rfl;have hcz48_1 : wc.cell? ⟨gb611, 1, none⟩ = some (.slice (some ad618) l0_1.length c0_1) := (kc1 BK611.out 1).trans rfl;have hfz48_0 := kf1 BK611.out 0;have hfz48_1 := kf1 BK611.out 1
                        go_wp2_with (first | (go_at_call 66; (with_reducible refine (crM_into.calls kj22 a0_0 _ _ l0_1 _ _ l1 _ _ l2 x11_3 x8_1 t623 _ ?side1 ?side2 ?side3 ?side4 ?side5 ?side6 A32.out).mono ?_); (case side1 => exact kc_ HR0_1.out); (case side2 => exact HC0_1.out); (case side3 => exact kc_ HR1.out); (case side4 => exact HC1.out); (case side5 => exact kc_ HR2.out); (case side6 => exact HC2.out); rintro e w49 ⟨v624, rfl, ho0, hb⟩; have n0_ := Ai0.mk (Kd.S_elder' (ks_ HO_7.out) (Kd.R_base ho0) hb); have n1_ := Ai0.mk (Kd.R_elder' (kr_ HO_9.out) (Kd.R_base ho0) hb); have n2_ := Ai0.mk (Kd.R_lower (Kd.R_new' ho0 (Kd.R_lt (kr_ HO_9.out))) (bz1 bl_)); have n3_ := Ai0.mk (kb1 (g := gb611) (o := .cells #[.int .i64 a0_0, .slice (some ad618) l0_1.length c0_1] 24 (0, 0)) (kk_ BK611.out) hb); have n4_ := Ai0.mk (bt1 bl_ hb); clear HO_7; clear HO_9; clear BK611; clear HB; have HO_7 := n0_; have HO_9 := n1_; have HO625 := n2_; have BK611 := n3_; have HB := n4_; clear n0_ n1_ n2_ n3_ n4_; (try clear hb); (try clear hb2); (try clear hk); (try clear hi); (try clear ho0); obtain ⟨Ao50, co50, eo50⟩ := Kd.R_slice HO625.out; subst eo50) | (go_at_call 65; (with_reducible refine (crM_sum.calls kj22 _ _ t623 t626 _ ?side1 ?side2 A33.out).mono ?_); (case side1 => repeat (first | exact (Kd.R_reads' HO625.out).2.2 | (with_reducible refine Kd.C_alloc ?_ _) | (with_reducible refine Kd.C_drewN ?_ _) | (with_reducible refine Kd.C_drew ?_))); (case side2 => exact (Kd.R_reads' HO625.out).2.1); rintro e w51 ⟨rfl, hb⟩; have n0_ := Ai0.mk (Kd.S_below (ks_ HO_7.out) hb); have n1_ := Ai0.mk (Kd.R_below (kr_ HO_9.out) hb); have n2_ := Ai0.mk (Kd.R_below (kr_ HO625.out) hb); have n3_ := Ai0.mk (kb1 (g := gb611) (o := .cells #[.int .i64 a0_0, .slice (some ad618) l0_1.length c0_1] 24 (0, 0)) (kk_ BK611.out) hb); have n4_ := Ai0.mk (bt1 bl_ hb); clear HO_7; clear HO_9; clear HO625; clear BK611; clear HB; have HO_7 := n0_; have HO_9 := n1_; have HO625 := n2_; have BK611 := n3_; have HB := n4_; clear n0_ n1_ n2_ n3_ n4_; (try clear hb); (try clear hb2); (try clear hk); (try clear hi); have p627 : 0 ≤ (x10_2 : Int) := od_; have q627 : x10_2 < (x9_3.length : Int) := od_; obtain ⟨ad627, e627, hx627_0⟩ := Kd.at_int (Kd.R_reads' HO_9.out).2.2 x10_2 p627 q627; obtain rfl : (⟨go18, 0, none⟩ : Addr) = ad627 := (by injection e627); (first | simp only [add_plain] at hx627_0 | simp only [add_at] at hx627_0 | simp only [Addr.add, Nat.zero_add] at hx627_0 | skip); replace p627 := eq_true p627; replace q627 := eq_true q627; have p628 : 0 ≤ (x10_2 : Int) := od_; have q628 : x10_2 < (x9_3.length : Int) := od_; obtain ⟨ad628, e628, hx628_0⟩ := Kd.at_int (Kd.R_reads' HO_9.out).2.2 x10_2 p628 q628; obtain rfl : (⟨go18, 0, none⟩ : Addr) = ad628 := (by injection e628); (first | simp only [add_plain] at hx628_0 | simp only [add_at] at hx628_0 | simp only [Addr.add, Nat.zero_add] at hx628_0 | skip); replace p628 := eq_true p628; replace q628 := eq_true q628; have p629 : 0 ≤ (x10_2 : Int) := od_; have q629 : x10_2 < (x9_3.length : Int) := od_; obtain ⟨ad629, e629, hx629_0⟩ := Kd.at_int (Kd.R_reads' HO_9.out).2.2 x10_2 p629 q629; obtain rfl : (⟨go18, 0, none⟩ : Addr) = ad629 := (by injection e629); (first | simp only [add_plain] at hx629_0 | simp only [add_at] at hx629_0 | simp only [Addr.add, Nat.zero_add] at hx629_0 | skip); replace p629 := eq_true p629; replace q629 := eq_true q629; have p47 : 0 ≤ (x10_2 : Int) := od_; have q47 : (x10_2 : Int) < ((x9_3.length : Int) : Int) := od_; obtain ⟨hx47_0, hf47_0⟩ := Kd.R_celln 0 HO_9.out (x10_2 : Int) p47 q47; replace p47 := eq_true p47; replace q47 := eq_true q47; have n_ := Ai0.mk (Kd.R_mono (ok' := (fun k_ => some k_ ≠ (.slice Ao50 t623.length co50 : Value).ownBlock)) HO_9.out (fun k_ hk => hk.2)); clear HO_9; have HO_9 := n_; clear n_; obtain ⟨hy52_, hz52_⟩ := Kd.R_celln 0 HO_9.out (x10_2 : Int) od_ od_; have HP52 := Kd.R_putg HO_9.out (x10_2 : Int) ji38) | ((with_reducible refine gate_store (t := 3) (p := 97) rfl ?_); (try (rw [drewN_self w51]; generalize hq_ : World.drewN w51 _ = w51; have n0_ := Ai0.mk (Kd.S_at hq_ HO_7.out); have n1_ := Ai0.mk (Kd.R_at hq_ HO_9.out); have n2_ := Ai0.mk (Kd.R_at hq_ HO625.out); have n3_ := Ai0.mk (blk_at hq_ BK611.out); have n4_ := Ai0.mk (below_at hq_ HB.out); clear hq_ HO_7 HO_9 HO625 BK611 HB; have HO_7 := n0_; have HO_9 := n1_; have HO625 := n2_; have BK611 := n3_; have HB := n4_; clear n0_ n1_ n2_ n3_ n4_; (try (have n_ := Ai0.mk (Kd.R_mono (ok' := (fun k_ => some k_ ≠ (.slice Ao50 t623.length co50 : Value).ownBlock)) HO_9.out (fun k_ hk => hk.2)); clear HO_9; have HO_9 := n_; clear n_)); (try (obtain ⟨hy52_, hz52_⟩ := Kd.R_celln 0 HO_9.out (x10_2 : Int) od_ od_)); (try (have HP52 := Kd.R_putg HO_9.out (x10_2 : Int) ji38)))); refine store_event (t := 3) (p := 97) (v := ?vo_w53) (w1 := (w51.setCell ⟨go18, (x10_2 : Int).toNat, none⟩ (.int .i64 ji38))) ?hg ?ho ?hn ?hr ?_; (case ho => rfl); (case hg => rfl); (case hn => rfl); (case hr => first | (go_simp; done) | (go_simp; rfl)); intro w53 hw; have hg : w51.grownBy w53 (some go18) := (by rw [hw]; exact HP52.2); have hp_ : Kd.R (Kd.int .i64) 3 w53 w.heap.size (fun k_ => some k_ ≠ (.slice Ao50 t623.length co50 : Value).ownBlock) (.slice (some ⟨go18, 0, none⟩) x9_3.length co18) y631 := (by rw [hw, Ny631.out]; exact HP52.1); clear HP52; have n0_ := Ai0.mk (Kd.S_after (v := (.slice (some ⟨go18, 0, none⟩) x9_3.length co18)) (v1 := (.slice (some ⟨go18, 0, none⟩) x9_3.length co18)) (ok := (fun k_ => some k_ ≠ (.slice Ao50 t623.length co50 : Value).ownBlock)) (by (with_reducible repeat (first | apply Kd.S_alloc | apply Kd.S_drewN | apply Kd.S_drew)); exact Kd.S_mono HO_7.out (fun _ hk => ⟨hk.2, hk.1⟩)) hg (.inl rfl)); have n1_ := Ai0.mk (hp_); have n2_ := Ai0.mk (blk_grown (g := gb611) (o := .cells #[.int .i64 a0_0, .slice (some ad618) l0_1.length c0_1] 24 (0, 0)) (kk_ BK611.out) hg (Kd.R_ne HO_9.out BK611.out (by decide))); have n3_ := Ai0.mk (Kd.R_after (v := (.slice (some ⟨go18, 0, none⟩) x9_3.length co18)) (v1 := (.slice (some ⟨go18, 0, none⟩) x9_3.length co18)) (ok := (fun _ => True)) (kr_ HO625.out) hg (.inl rfl)); have n4_ := Ai0.mk ((by rw [hw]; exact bs1 (HB.out) GB18.out : Below w.heap.size w w53)); clear HO_7; clear HO_9; clear BK611; clear HO625; clear HB; have HO_7 := n0_; have HO_9 := n1_; have BK611 := n2_; have HO625 := n3_; have HB := n4_; clear n0_ n1_ n2_ n3_ n4_; clear hg hw hp_))
                        repeat (go_quiet (first | (go_at_call 66; (with_reducible refine (crM_into.calls kj22 a0_0 _ _ l0_1 _ _ l1 _ _ l2 x11_3 x8_1 t623 _ ?side1 ?side2 ?side3 ?side4 ?side5 ?side6 A32.out).mono ?_); (case side1 => exact kc_ HR0_1.out); (case side2 => exact HC0_1.out); (case side3 => exact kc_ HR1.out); (case side4 => exact HC1.out); (case side5 => exact kc_ HR2.out); (case side6 => exact HC2.out); rintro e w49 ⟨v624, rfl, ho0, hb⟩; have n0_ := Ai0.mk (Kd.S_elder' (ks_ HO_7.out) (Kd.R_base ho0) hb); have n1_ := Ai0.mk (Kd.R_elder' (kr_ HO_9.out) (Kd.R_base ho0) hb); have n2_ := Ai0.mk (Kd.R_lower (Kd.R_new' ho0 (Kd.R_lt (kr_ HO_9.out))) (bz1 bl_)); have n3_ := Ai0.mk (kb1 (g := gb611) (o := .cells #[.int .i64 a0_0, .slice (some ad618) l0_1.length c0_1] 24 (0, 0)) (kk_ BK611.out) hb); have n4_ := Ai0.mk (bt1 bl_ hb); clear HO_7; clear HO_9; clear BK611; clear HB; have HO_7 := n0_; have HO_9 := n1_; have HO625 := n2_; have BK611 := n3_; have HB := n4_; clear n0_ n1_ n2_ n3_ n4_; (try clear hb); (try clear hb2); (try clear hk); (try clear hi); (try clear ho0); obtain ⟨Ao50, co50, eo50⟩ := Kd.R_slice HO625.out; subst eo50) | (go_at_call 65; (with_reducible refine (crM_sum.calls kj22 _ _ t623 t626 _ ?side1 ?side2 A33.out).mono ?_); (case side1 => repeat (first | exact (Kd.R_reads' HO625.out).2.2 | (with_reducible refine Kd.C_alloc ?_ _) | (with_reducible refine Kd.C_drewN ?_ _) | (with_reducible refine Kd.C_drew ?_))); (case side2 => exact (Kd.R_reads' HO625.out).2.1); rintro e w51 ⟨rfl, hb⟩; have n0_ := Ai0.mk (Kd.S_below (ks_ HO_7.out) hb); have n1_ := Ai0.mk (Kd.R_below (kr_ HO_9.out) hb); have n2_ := Ai0.mk (Kd.R_below (kr_ HO625.out) hb); have n3_ := Ai0.mk (kb1 (g := gb611) (o := .cells #[.int .i64 a0_0, .slice (some ad618) l0_1.length c0_1] 24 (0, 0)) (kk_ BK611.out) hb); have n4_ := Ai0.mk (bt1 bl_ hb); clear HO_7; clear HO_9; clear HO625; clear BK611; clear HB; have HO_7 := n0_; have HO_9 := n1_; have HO625 := n2_; have BK611 := n3_; have HB := n4_; clear n0_ n1_ n2_ n3_ n4_; (try clear hb); (try clear hb2); (try clear hk); (try clear hi); have p627 : 0 ≤ (x10_2 : Int) := od_; have q627 : x10_2 < (x9_3.length : Int) := od_; obtain ⟨ad627, e627, hx627_0⟩ := Kd.at_int (Kd.R_reads' HO_9.out).2.2 x10_2 p627 q627; obtain rfl : (⟨go18, 0, none⟩ : Addr) = ad627 := (by injection e627); (first | simp only [add_plain] at hx627_0 | simp only [add_at] at hx627_0 | simp only [Addr.add, Nat.zero_add] at hx627_0 | skip); replace p627 := eq_true p627; replace q627 := eq_true q627; have p628 : 0 ≤ (x10_2 : Int) := od_; have q628 : x10_2 < (x9_3.length : Int) := od_; obtain ⟨ad628, e628, hx628_0⟩ := Kd.at_int (Kd.R_reads' HO_9.out).2.2 x10_2 p628 q628; obtain rfl : (⟨go18, 0, none⟩ : Addr) = ad628 := (by injection e628); (first | simp only [add_plain] at hx628_0 | simp only [add_at] at hx628_0 | simp only [Addr.add, Nat.zero_add] at hx628_0 | skip); replace p628 := eq_true p628; replace q628 := eq_true q628; have p629 : 0 ≤ (x10_2 : Int) := od_; have q629 : x10_2 < (x9_3.length : Int) := od_; obtain ⟨ad629, e629, hx629_0⟩ := Kd.at_int (Kd.R_reads' HO_9.out).2.2 x10_2 p629 q629; obtain rfl : (⟨go18, 0, none⟩ : Addr) = ad629 := (by injection e629); (first | simp only [add_plain] at hx629_0 | simp only [add_at] at hx629_0 | simp only [Addr.add, Nat.zero_add] at hx629_0 | skip); replace p629 := eq_true p629; replace q629 := eq_true q629; have p47 : 0 ≤ (x10_2 : Int) := od_; have q47 : (x10_2 : Int) < ((x9_3.length : Int) : Int) := od_; obtain ⟨hx47_0, hf47_0⟩ := Kd.R_celln 0 HO_9.out (x10_2 : Int) p47 q47; replace p47 := eq_true p47; replace q47 := eq_true q47; have n_ := Ai0.mk (Kd.R_mono (ok' := (fun k_ => some k_ ≠ (.slice Ao50 t623.length co50 : Value).ownBlock)) HO_9.out (fun k_ hk => hk.2)); clear HO_9; have HO_9 := n_; clear n_; obtain ⟨hy52_, hz52_⟩ := Kd.R_celln 0 HO_9.out (x10_2 : Int) od_ od_; have HP52 := Kd.R_putg HO_9.out (x10_2 : Int) ji38) | ((with_reducible refine gate_store (t := 3) (p := 97) rfl ?_); (try (rw [drewN_self w51]; generalize hq_ : World.drewN w51 _ = w51; have n0_ := Ai0.mk (Kd.S_at hq_ HO_7.out); have n1_ := Ai0.mk (Kd.R_at hq_ HO_9.out); have n2_ := Ai0.mk (Kd.R_at hq_ HO625.out); have n3_ := Ai0.mk (blk_at hq_ BK611.out); have n4_ := Ai0.mk (below_at hq_ HB.out); clear hq_ HO_7 HO_9 HO625 BK611 HB; have HO_7 := n0_; have HO_9 := n1_; have HO625 := n2_; have BK611 := n3_; have HB := n4_; clear n0_ n1_ n2_ n3_ n4_; (try (have n_ := Ai0.mk (Kd.R_mono (ok' := (fun k_ => some k_ ≠ (.slice Ao50 t623.length co50 : Value).ownBlock)) HO_9.out (fun k_ hk => hk.2)); clear HO_9; have HO_9 := n_; clear n_)); (try (obtain ⟨hy52_, hz52_⟩ := Kd.R_celln 0 HO_9.out (x10_2 : Int) od_ od_)); (try (have HP52 := Kd.R_putg HO_9.out (x10_2 : Int) ji38)))); refine store_event (t := 3) (p := 97) (v := ?vo_w53) (w1 := (w51.setCell ⟨go18, (x10_2 : Int).toNat, none⟩ (.int .i64 ji38))) ?hg ?ho ?hn ?hr ?_; (case ho => rfl); (case hg => rfl); (case hn => rfl); (case hr => first | (go_simp; done) | (go_simp; rfl)); intro w53 hw; have hg : w51.grownBy w53 (some go18) := (by rw [hw]; exact HP52.2); have hp_ : Kd.R (Kd.int .i64) 3 w53 w.heap.size (fun k_ => some k_ ≠ (.slice Ao50 t623.length co50 : Value).ownBlock) (.slice (some ⟨go18, 0, none⟩) x9_3.length co18) y631 := (by rw [hw, Ny631.out]; exact HP52.1); clear HP52; have n0_ := Ai0.mk (Kd.S_after (v := (.slice (some ⟨go18, 0, none⟩) x9_3.length co18)) (v1 := (.slice (some ⟨go18, 0, none⟩) x9_3.length co18)) (ok := (fun k_ => some k_ ≠ (.slice Ao50 t623.length co50 : Value).ownBlock)) (by (with_reducible repeat (first | apply Kd.S_alloc | apply Kd.S_drewN | apply Kd.S_drew)); exact Kd.S_mono HO_7.out (fun _ hk => ⟨hk.2, hk.1⟩)) hg (.inl rfl)); have n1_ := Ai0.mk (hp_); have n2_ := Ai0.mk (blk_grown (g := gb611) (o := .cells #[.int .i64 a0_0, .slice (some ad618) l0_1.length c0_1] 24 (0, 0)) (kk_ BK611.out) hg (Kd.R_ne HO_9.out BK611.out (by decide))); have n3_ := Ai0.mk (Kd.R_after (v := (.slice (some ⟨go18, 0, none⟩) x9_3.length co18)) (v1 := (.slice (some ⟨go18, 0, none⟩) x9_3.length co18)) (ok := (fun _ => True)) (kr_ HO625.out) hg (.inl rfl)); have n4_ := Ai0.mk ((by rw [hw]; exact bs1 (HB.out) GB18.out : Below w.heap.size w w53)); clear HO_7; clear HO_9; clear BK611; clear HO625; clear HB; have HO_7 := n0_; have HO_9 := n1_; have BK611 := n2_; have HO625 := n3_; have HB := n4_; clear n0_ n1_ n2_ n3_ n4_; clear hg hw hp_)); try go_wp2_with (first | (go_at_call 66; (with_reducible refine (crM_into.calls kj22 a0_0 _ _ l0_1 _ _ l1 _ _ l2 x11_3 x8_1 t623 _ ?side1 ?side2 ?side3 ?side4 ?side5 ?side6 A32.out).mono ?_); (case side1 => exact kc_ HR0_1.out); (case side2 => exact HC0_1.out); (case side3 => exact kc_ HR1.out); (case side4 => exact HC1.out); (case side5 => exact kc_ HR2.out); (case side6 => exact HC2.out); rintro e w49 ⟨v624, rfl, ho0, hb⟩; have n0_ := Ai0.mk (Kd.S_elder' (ks_ HO_7.out) (Kd.R_base ho0) hb); have n1_ := Ai0.mk (Kd.R_elder' (kr_ HO_9.out) (Kd.R_base ho0) hb); have n2_ := Ai0.mk (Kd.R_lower (Kd.R_new' ho0 (Kd.R_lt (kr_ HO_9.out))) (bz1 bl_)); have n3_ := Ai0.mk (kb1 (g := gb611) (o := .cells #[.int .i64 a0_0, .slice (some ad618) l0_1.length c0_1] 24 (0, 0)) (kk_ BK611.out) hb); have n4_ := Ai0.mk (bt1 bl_ hb); clear HO_7; clear HO_9; clear BK611; clear HB; have HO_7 := n0_; have HO_9 := n1_; have HO625 := n2_; have BK611 := n3_; have HB := n4_; clear n0_ n1_ n2_ n3_ n4_; (try clear hb); (try clear hb2); (try clear hk); (try clear hi); (try clear ho0); obtain ⟨Ao50, co50, eo50⟩ := Kd.R_slice HO625.out; subst eo50) | (go_at_call 65; (with_reducible refine (crM_sum.calls kj22 _ _ t623 t626 _ ?side1 ?side2 A33.out).mono ?_); (case side1 => repeat (first | exact (Kd.R_reads' HO625.out).2.2 | (with_reducible refine Kd.C_alloc ?_ _) | (with_reducible refine Kd.C_drewN ?_ _) | (with_reducible refine Kd.C_drew ?_))); (case side2 => exact (Kd.R_reads' HO625.out).2.1); rintro e w51 ⟨rfl, hb⟩; have n0_ := Ai0.mk (Kd.S_below (ks_ HO_7.out) hb); have n1_ := Ai0.mk (Kd.R_below (kr_ HO_9.out) hb); have n2_ := Ai0.mk (Kd.R_below (kr_ HO625.out) hb); have n3_ := Ai0.mk (kb1 (g := gb611) (o := .cells #[.int .i64 a0_0, .slice (some ad618) l0_1.length c0_1] 24 (0, 0)) (kk_ BK611.out) hb); have n4_ := Ai0.mk (bt1 bl_ hb); clear HO_7; clear HO_9; clear HO625; clear BK611; clear HB; have HO_7 := n0_; have HO_9 := n1_; have HO625 := n2_; have BK611 := n3_; have HB := n4_; clear n0_ n1_ n2_ n3_ n4_; (try clear hb); (try clear hb2); (try clear hk); (try clear hi); have p627 : 0 ≤ (x10_2 : Int) := od_; have q627 : x10_2 < (x9_3.length : Int) := od_; obtain ⟨ad627, e627, hx627_0⟩ := Kd.at_int (Kd.R_reads' HO_9.out).2.2 x10_2 p627 q627; obtain rfl : (⟨go18, 0, none⟩ : Addr) = ad627 := (by injection e627); (first | simp only [add_plain] at hx627_0 | simp only [add_at] at hx627_0 | simp only [Addr.add, Nat.zero_add] at hx627_0 | skip); replace p627 := eq_true p627; replace q627 := eq_true q627; have p628 : 0 ≤ (x10_2 : Int) := od_; have q628 : x10_2 < (x9_3.length : Int) := od_; obtain ⟨ad628, e628, hx628_0⟩ := Kd.at_int (Kd.R_reads' HO_9.out).2.2 x10_2 p628 q628; obtain rfl : (⟨go18, 0, none⟩ : Addr) = ad628 := (by injection e628); (first | simp only [add_plain] at hx628_0 | simp only [add_at] at hx628_0 | simp only [Addr.add, Nat.zero_add] at hx628_0 | skip); replace p628 := eq_true p628; replace q628 := eq_true q628; have p629 : 0 ≤ (x10_2 : Int) := od_; have q629 : x10_2 < (x9_3.length : Int) := od_; obtain ⟨ad629, e629, hx629_0⟩ := Kd.at_int (Kd.R_reads' HO_9.out).2.2 x10_2 p629 q629; obtain rfl : (⟨go18, 0, none⟩ : Addr) = ad629 := (by injection e629); (first | simp only [add_plain] at hx629_0 | simp only [add_at] at hx629_0 | simp only [Addr.add, Nat.zero_add] at hx629_0 | skip); replace p629 := eq_true p629; replace q629 := eq_true q629; have p47 : 0 ≤ (x10_2 : Int) := od_; have q47 : (x10_2 : Int) < ((x9_3.length : Int) : Int) := od_; obtain ⟨hx47_0, hf47_0⟩ := Kd.R_celln 0 HO_9.out (x10_2 : Int) p47 q47; replace p47 := eq_true p47; replace q47 := eq_true q47; have n_ := Ai0.mk (Kd.R_mono (ok' := (fun k_ => some k_ ≠ (.slice Ao50 t623.length co50 : Value).ownBlock)) HO_9.out (fun k_ hk => hk.2)); clear HO_9; have HO_9 := n_; clear n_; obtain ⟨hy52_, hz52_⟩ := Kd.R_celln 0 HO_9.out (x10_2 : Int) od_ od_; have HP52 := Kd.R_putg HO_9.out (x10_2 : Int) ji38) | ((with_reducible refine gate_store (t := 3) (p := 97) rfl ?_); (try (rw [drewN_self w51]; generalize hq_ : World.drewN w51 _ = w51; have n0_ := Ai0.mk (Kd.S_at hq_ HO_7.out); have n1_ := Ai0.mk (Kd.R_at hq_ HO_9.out); have n2_ := Ai0.mk (Kd.R_at hq_ HO625.out); have n3_ := Ai0.mk (blk_at hq_ BK611.out); have n4_ := Ai0.mk (below_at hq_ HB.out); clear hq_ HO_7 HO_9 HO625 BK611 HB; have HO_7 := n0_; have HO_9 := n1_; have HO625 := n2_; have BK611 := n3_; have HB := n4_; clear n0_ n1_ n2_ n3_ n4_; (try (have n_ := Ai0.mk (Kd.R_mono (ok' := (fun k_ => some k_ ≠ (.slice Ao50 t623.length co50 : Value).ownBlock)) HO_9.out (fun k_ hk => hk.2)); clear HO_9; have HO_9 := n_; clear n_)); (try (obtain ⟨hy52_, hz52_⟩ := Kd.R_celln 0 HO_9.out (x10_2 : Int) od_ od_)); (try (have HP52 := Kd.R_putg HO_9.out (x10_2 : Int) ji38)))); refine store_event (t := 3) (p := 97) (v := ?vo_w53) (w1 := (w51.setCell ⟨go18, (x10_2 : Int).toNat, none⟩ (.int .i64 ji38))) ?hg ?ho ?hn ?hr ?_; (case ho => rfl); (case hg => rfl); (case hn => rfl); (case hr => first | (go_simp; done) | (go_simp; rfl)); intro w53 hw; have hg : w51.grownBy w53 (some go18) := (by rw [hw]; exact HP52.2); have hp_ : Kd.R (Kd.int .i64) 3 w53 w.heap.size (fun k_ => some k_ ≠ (.slice Ao50 t623.length co50 : Value).ownBlock) (.slice (some ⟨go18, 0, none⟩) x9_3.length co18) y631 := (by rw [hw, Ny631.out]; exact HP52.1); clear HP52; have n0_ := Ai0.mk (Kd.S_after (v := (.slice (some ⟨go18, 0, none⟩) x9_3.length co18)) (v1 := (.slice (some ⟨go18, 0, none⟩) x9_3.length co18)) (ok := (fun k_ => some k_ ≠ (.slice Ao50 t623.length co50 : Value).ownBlock)) (by (with_reducible repeat (first | apply Kd.S_alloc | apply Kd.S_drewN | apply Kd.S_drew)); exact Kd.S_mono HO_7.out (fun _ hk => ⟨hk.2, hk.1⟩)) hg (.inl rfl)); have n1_ := Ai0.mk (hp_); have n2_ := Ai0.mk (blk_grown (g := gb611) (o := .cells #[.int .i64 a0_0, .slice (some ad618) l0_1.length c0_1] 24 (0, 0)) (kk_ BK611.out) hg (Kd.R_ne HO_9.out BK611.out (by decide))); have n3_ := Ai0.mk (Kd.R_after (v := (.slice (some ⟨go18, 0, none⟩) x9_3.length co18)) (v1 := (.slice (some ⟨go18, 0, none⟩) x9_3.length co18)) (ok := (fun _ => True)) (kr_ HO625.out) hg (.inl rfl)); have n4_ := Ai0.mk ((by rw [hw]; exact bs1 (HB.out) GB18.out : Below w.heap.size w w53)); clear HO_7; clear HO_9; clear BK611; clear HO625; clear HB; have HO_7 := n0_; have HO_9 := n1_; have BK611 := n2_; have HO625 := n3_; have HB := n4_; clear n0_ n1_ n2_ n3_ n4_; clear hg hw hp_)))
                        (try simp only [← hl9_3])
                        go_roundg kj22
                        case measure => have := HK1.out; have := HK2.out; have := HK3.out; have := HJ22.out; omega
                        case rel => exact ⟨(y631), (wrap64 (x11_3 + 1)), rf_, H', ⟨by have := HK1.out; have := HK2.out; have := HK3.out; have := HJ22.out; omega⟩, ⟨by (try simp only [hl9_3]); (with_reducible repeat (first | apply Kd.S_alloc | apply Kd.S_drewN | apply Kd.S_drew)); exact Kd.S_mono HO_7.out (fun _ hk => hk.2)⟩, ⟨by (try simp only [hl9_3]); (with_reducible repeat (first | apply Kd.Ra1 | apply Kd.Rn1 | apply Kd.Rd1)); exact Kd.R_mono HO_9.out (fun _ hk => trivial)⟩, ⟨by (try simp only [hl9_3]); (with_reducible repeat (first | refine kn1 ?_ _ | refine kd1 ?_ | refine ka1 ?_ _)); exact BK611.out⟩, ⟨bl_⟩⟩
                      ·rw [if_neg c36] at H;exact absurd H (by simp)
                     ·rw [if_neg c35] at H;exact absurd H (by simp)
                    ·replace c31 := Bool.eq_false_iff.mpr c31;subst c31;(have H1 : (crM_round.l2 kj22 l1 l2 x7_1 x8_1 x9_3 x10_2 (wrap64 (x11_3 + 1)) a0_0 l0_1) = some r := by rw [if_neg (show ¬ (false = true) by decide)] at H; exact H);clear H;have H := H1;clear H1;have H' := Ai0.mk H;clear H
                     go_wp2
                     repeat (go_quiet (fail); try go_wp2)
                     (try simp only [← hl9_3])
                     go_roundg kj22
                     case measure => have := HK1.out; have := HK2.out; have := HK3.out; have := HJ22.out; omega
                     case rel => exact ⟨(x9_3), (wrap64 (x11_3 + 1)), rf_, H', ⟨by have := HK1.out; have := HK2.out; have := HK3.out; have := HJ22.out; omega⟩, ⟨by (try simp only [hl9_3]); (with_reducible repeat (first | apply Kd.S_alloc | apply Kd.S_drewN | apply Kd.S_drew)); exact HO_7.out⟩, ⟨by (try simp only [hl9_3]); (with_reducible repeat (first | apply Kd.Ra1 | apply Kd.Rn1 | apply Kd.Rd1)); exact HO_9.out⟩, ⟨by (try simp only [hl9_3]); (with_reducible repeat (first | refine kn1 ?_ _ | refine kd1 ?_ | refine ka1 ?_ _)); exact BK611.out⟩, ⟨bl_⟩⟩
                 ·rw [if_neg c22] at H;have c22b0 : decide (x11_3 < a0_0) = false := decide_eq_false c22;clear c22;have H' := Ai0.mk H;clear H;have hcz54_0 : wr.cell? ⟨gb611, 0, none⟩ = some (.int .i64 a0_0) := (kc1 BK611.out 0).trans rfl;have hcz54_1 : wr.cell? ⟨gb611, 1, none⟩ = some (.slice (some ad618) l0_1.length c0_1) := (kc1 BK611.out 1).trans rfl;have hfz54_0 := kf1 BK611.out 0;have hfz54_1 := kf1 BK611.out 1
                  go_wp2
                  repeat (go_quiet (fail); try go_wp2)
                  (try simp only [← hl9_3])
                  go_roundg k3
                  case measure => have := HK1.out; have := HK2.out; have := HK3.out; omega
                  case rel => exact ⟨(x9_3), (wrap64 (x10_2 + 1)), rf_, H', ⟨by have := HK1.out; have := HK2.out; have := HK3.out; omega⟩, ⟨by (try simp only [hl9_3]); (with_reducible repeat (first | apply Kd.S_alloc | apply Kd.S_drewN | apply Kd.S_drew)); exact HO_7.out⟩, ⟨by (try simp only [hl9_3]); (with_reducible repeat (first | apply Kd.Ra1 | apply Kd.Rn1 | apply Kd.Rd1)); exact HO_9.out⟩, ⟨by (try simp only [hl9_3]); (with_reducible repeat (first | refine kn1 ?_ _ | refine kd1 ?_ | refine ka1 ?_ _)); exact BK611.out⟩, ⟨bl_⟩⟩
              ·rw [if_neg c17] at H;exact absurd H (by simp)
             ·rw [if_neg c16] at H;have c16b0 : ((rd (rd_L1 l0_1 x8_1) x10_2) == 1) = false := beq_eq_false_iff_ne.mpr c16;have c16b1 : ((rd (rd_L1 l0_1 x8_1) x10_2) != 1) = true := bne_iff_ne.mpr c16;have H' := Ai0.mk H;clear H;have hcz55_0 : wr.cell? ⟨gb611, 0, none⟩ = some (.int .i64 a0_0) := (kc1 BK611.out 0).trans rfl;have hcz55_1 : wr.cell? ⟨gb611, 1, none⟩ = some (.slice A0_1 l0_1.length c0_1) := (kc1 BK611.out 1).trans rfl;have hfz55_0 := kf1 BK611.out 0;have hfz55_1 := kf1 BK611.out 1;have p618 : 0 ≤ (x8_1 : Int) := od_;have q618 : x8_1 < (l0_1.length : Int) := od_;obtain ⟨ad618, A618_0, c618_0, e618, hx618_0, hl618_0, hi618_0⟩ := at_L1 HR0_1.out x8_1 p618 q618;cases e618;replace hx618_0 := (HB.out.cell (World.block_lt_of_cell? w _ hx618_0)).trans hx618_0;have HR618_0 := Ai0.mk hi618_0;have HC618_0 := Ai0.mk hl618_0;clear hi618_0 hl618_0;replace p618 := eq_true p618;replace q618 := eq_true q618;have p619 : 0 ≤ (x10_2 : Int) := od_;have q619 : x10_2 < ((rd_L1 l0_1 x8_1).length : Int) := od_;obtain ⟨ad619, e619, hx619_0⟩ := Kd.at_int HR618_0.out x10_2 p619 q619;cases e619;replace hx619_0 := (HB.out.cell (World.block_lt_of_cell? w _ hx619_0)).trans hx619_0;replace p619 := eq_true p619;replace q619 := eq_true q619
              go_wp2
              repeat (go_quiet (fail); try go_wp2)
              go_roundg k2
              case measure => have := HK1.out; have := HK2.out; omega
              case rel => exact ⟨(x9_2), (wrap64 (x10_2 + 1)), rf_, H', ⟨by have := HK1.out; have := HK2.out; omega⟩, ⟨ks_ HO_7.out⟩, ⟨kr_ HO_9.out⟩, ⟨kk_ BK611.out⟩, ⟨bl_⟩⟩
            ·rw [if_neg c15] at H;exact absurd H (by simp)
           ·rw [if_neg c14] at H;exact absurd H (by simp)
          ·rw [if_neg c13] at H;exact absurd H (by simp)
         ·rw [if_neg c12] at H;exact absurd H (by simp)
        ·rw [if_neg c11] at H;have c11b0 : decide (x10_2 < a0_0) = false := decide_eq_false c11;clear c11;by_cases c56 : x7_1.length < 5864062014805
         ·rw [if_pos c56] at H;have LMc56 := Ai0.mk c56;clear c56;(obtain ⟨y615, hy615⟩ : ∃ y_ : List (List Int), y_ = (x7_1 ++ [x9_2]) := ⟨_, rfl⟩);(replace H : (crM_round.l0 k2 l1 l2 y615 (wrap64 (x8_1 + 1)) a0_0 l0_1) = some r := by first | (rw [hy615]; with_reducible exact H) | (have H2_ := (Option.bind_some _ _).symm.trans H; rw [hy615]; with_reducible exact H2_) | (have H2_ := (Option.bind_some _ _).symm.trans H; with_reducible exact H2_) | with_reducible exact H | (rw [hy615]; exact H) | exact H);have Ny615 := Ai0.mk hy615;clear hy615;have H' := Ai0.mk H;clear H;have hcz57_0 : wr.cell? ⟨gb611, 0, none⟩ = some (.int .i64 a0_0) := (kc1 BK611.out 0).trans rfl;have hcz57_1 : wr.cell? ⟨gb611, 1, none⟩ = some (.slice A0_1 l0_1.length c0_1) := (kc1 BK611.out 1).trans rfl;have hfz57_0 := kf1 BK611.out 0;have hfz57_1 := kf1 BK611.out 1;obtain ⟨Ao59, co59, eo59⟩ := Kd.R_slice HO_9.out;subst eo59
          go_wp2_with (first | ((with_reducible refine gate_builtin (b := .append) (xs := #[.tmp 98, .tmp 100]) rfl ?_); at_builtin; refine Kd.S_append (Kd.slice 3 (Kd.int .i64)) (w0 := w) w.heap.size rfl (.tmp 98) (.tmp 100) 22 25 (.slice none 0 0) 24 rfl Try.underlying22 info25 rfl (by decide) (by omega) u7 x7_1 x9_2 [.slice Ao59 x9_2.length co59] (fun _ => True) (fun k_ => some k_ = (.slice Ao59 x9_2.length co59 : Value).ownBlock) rfl rfl ?aP (fun k_ hk_ => ((Kd.R_mono (ok' := fun k_ => ((fun _ => True)) k_ ∧ some k_ ≠ (u7 : Value).ownBlock) (Kd.R_apart' (HO_9.out) (Kd.S_typed HO_7.out) (by decide)) (fun k_ hk => ⟨trivial, hk.2⟩))).1 k_ hk_.symm) ?aF ?aO ?aB ?aS ?aL ?_; (case aP => exact Kd.M_row (Kd.R_mono (Kd.R_tight rfl (Kd.R_mono (ok' := fun k_ => ((fun _ => True)) k_ ∧ some k_ ≠ (u7 : Value).ownBlock) (Kd.R_apart' (HO_9.out) (Kd.S_typed HO_7.out) (by decide)) (fun k_ hk => ⟨trivial, hk.2⟩))) (fun _ h_ => h_))); (case aB => exact bl_); (case aF => exact (fun _ _ => trivial)); (case aO => exact (by (with_reducible repeat (first | apply Kd.S_alloc | apply Kd.S_drewN | apply Kd.S_drew)); exact Kd.S_mono HO_7.out (fun k_ hk => ⟨trivial, fun e_ => hk e_⟩))); (case aS => exact (bz1 bl_)); (case aL => have := LMc56.out; omega); intro v616 w58 ho hb hg hat; rw [← Ny615.out] at ho; have n0_ := Ai0.mk (blk_grown (g := gb611) (o := .cells #[.int .i64 a0_0, .slice A0_1 l0_1.length c0_1] 24 (0, 0)) (kk_ BK611.out) hg (Kd.S_ne HO_7.out BK611.out (by decide))); have n1_ := Ai0.mk (hb); have n2_ := Ai0.mk (ho); clear BK611; clear HB; clear HO_7; clear HO_9; have BK611 := n0_; have HB := n1_; have HO617 := n2_; clear n0_ n1_ n2_; clear ho hb hg hat))
          repeat (go_quiet (first | ((with_reducible refine gate_builtin (b := .append) (xs := #[.tmp 98, .tmp 100]) rfl ?_); at_builtin; refine Kd.S_append (Kd.slice 3 (Kd.int .i64)) (w0 := w) w.heap.size rfl (.tmp 98) (.tmp 100) 22 25 (.slice none 0 0) 24 rfl Try.underlying22 info25 rfl (by decide) (by omega) u7 x7_1 x9_2 [.slice Ao59 x9_2.length co59] (fun _ => True) (fun k_ => some k_ = (.slice Ao59 x9_2.length co59 : Value).ownBlock) rfl rfl ?aP (fun k_ hk_ => ((Kd.R_mono (ok' := fun k_ => ((fun _ => True)) k_ ∧ some k_ ≠ (u7 : Value).ownBlock) (Kd.R_apart' (HO_9.out) (Kd.S_typed HO_7.out) (by decide)) (fun k_ hk => ⟨trivial, hk.2⟩))).1 k_ hk_.symm) ?aF ?aO ?aB ?aS ?aL ?_; (case aP => exact Kd.M_row (Kd.R_mono (Kd.R_tight rfl (Kd.R_mono (ok' := fun k_ => ((fun _ => True)) k_ ∧ some k_ ≠ (u7 : Value).ownBlock) (Kd.R_apart' (HO_9.out) (Kd.S_typed HO_7.out) (by decide)) (fun k_ hk => ⟨trivial, hk.2⟩))) (fun _ h_ => h_))); (case aB => exact bl_); (case aF => exact (fun _ _ => trivial)); (case aO => exact (by (with_reducible repeat (first | apply Kd.S_alloc | apply Kd.S_drewN | apply Kd.S_drew)); exact Kd.S_mono HO_7.out (fun k_ hk => ⟨trivial, fun e_ => hk e_⟩))); (case aS => exact (bz1 bl_)); (case aL => have := LMc56.out; omega); intro v616 w58 ho hb hg hat; rw [← Ny615.out] at ho; have n0_ := Ai0.mk (blk_grown (g := gb611) (o := .cells #[.int .i64 a0_0, .slice A0_1 l0_1.length c0_1] 24 (0, 0)) (kk_ BK611.out) hg (Kd.S_ne HO_7.out BK611.out (by decide))); have n1_ := Ai0.mk (hb); have n2_ := Ai0.mk (ho); clear BK611; clear HB; clear HO_7; clear HO_9; have BK611 := n0_; have HB := n1_; have HO617 := n2_; clear n0_ n1_ n2_; clear ho hb hg hat)); try go_wp2_with (first | ((with_reducible refine gate_builtin (b := .append) (xs := #[.tmp 98, .tmp 100]) rfl ?_); at_builtin; refine Kd.S_append (Kd.slice 3 (Kd.int .i64)) (w0 := w) w.heap.size rfl (.tmp 98) (.tmp 100) 22 25 (.slice none 0 0) 24 rfl Try.underlying22 info25 rfl (by decide) (by omega) u7 x7_1 x9_2 [.slice Ao59 x9_2.length co59] (fun _ => True) (fun k_ => some k_ = (.slice Ao59 x9_2.length co59 : Value).ownBlock) rfl rfl ?aP (fun k_ hk_ => ((Kd.R_mono (ok' := fun k_ => ((fun _ => True)) k_ ∧ some k_ ≠ (u7 : Value).ownBlock) (Kd.R_apart' (HO_9.out) (Kd.S_typed HO_7.out) (by decide)) (fun k_ hk => ⟨trivial, hk.2⟩))).1 k_ hk_.symm) ?aF ?aO ?aB ?aS ?aL ?_; (case aP => exact Kd.M_row (Kd.R_mono (Kd.R_tight rfl (Kd.R_mono (ok' := fun k_ => ((fun _ => True)) k_ ∧ some k_ ≠ (u7 : Value).ownBlock) (Kd.R_apart' (HO_9.out) (Kd.S_typed HO_7.out) (by decide)) (fun k_ hk => ⟨trivial, hk.2⟩))) (fun _ h_ => h_))); (case aB => exact bl_); (case aF => exact (fun _ _ => trivial)); (case aO => exact (by (with_reducible repeat (first | apply Kd.S_alloc | apply Kd.S_drewN | apply Kd.S_drew)); exact Kd.S_mono HO_7.out (fun k_ hk => ⟨trivial, fun e_ => hk e_⟩))); (case aS => exact (bz1 bl_)); (case aL => have := LMc56.out; omega); intro v616 w58 ho hb hg hat; rw [← Ny615.out] at ho; have n0_ := Ai0.mk (blk_grown (g := gb611) (o := .cells #[.int .i64 a0_0, .slice A0_1 l0_1.length c0_1] 24 (0, 0)) (kk_ BK611.out) hg (Kd.S_ne HO_7.out BK611.out (by decide))); have n1_ := Ai0.mk (hb); have n2_ := Ai0.mk (ho); clear BK611; clear HB; clear HO_7; clear HO_9; have BK611 := n0_; have HB := n1_; have HO617 := n2_; clear n0_ n1_ n2_; clear ho hb hg hat)))
          go_roundg k2
          case measure => have := HK1.out; have := HK2.out; omega
          case rel => exact ⟨(y615), (wrap64 (x8_1 + 1)), rf_, H', ⟨by have := HK1.out; have := HK2.out; omega⟩, ⟨ks_ HO617.out⟩, ⟨kk_ BK611.out⟩, ⟨bl_⟩⟩
         ·rw [if_neg c56] at H;exact absurd H (by simp)
     ·rw [if_neg c7] at H;exact absurd H (by simp)
    ·rw [if_neg c6] at H;exact absurd H (by simp)
   ·rw [if_neg c5] at H;have c5b0 : decide (x8_1 < (l0_1.length : Int)) = false := decide_eq_false c5;clear c5;obtain rfl := Option.some.inj H;have hcz60_0 : wr.cell? ⟨gb611, 0, none⟩ = some (.int .i64 a0_0) := (kc1 BK611.out 0).trans rfl;have hcz60_1 : wr.cell? ⟨gb611, 1, none⟩ = some (.slice A0_1 l0_1.length c0_1) := (kc1 BK611.out 1).trans rfl;have hfz60_0 := kf1 BK611.out 0;have hfz60_1 := kf1 BK611.out 1
    go_wp2
    repeat (go_quiet (fail); try go_wp2)
    go_ret
    exact ⟨_, by first | rfl | (simp [eW0, eW1] <;> rfl) | (simp [*, eW0, eW1] <;> rfl), by (with_reducible repeat (first | apply Kd.S_alloc | apply Kd.S_drewN | apply Kd.S_drew)); exact HO_7.out, bl_⟩
mutual
def crM_Beliefs.l0 : Nat → List Int → Int → List (List Int) → Int → Int → List (List Int) → Option (List Int)
 | 0, _, _, _, _, _, _ => none
 | k + 1, x1, x2, x7, x8, x633000, x633001 => if x8 < (x633001.length : Int) then (if 0 ≤ x633000 then (if (x633000 : Int).toNat ≤ 35184372088832 then (if x7.length < 5864062014805 then (crM_Beliefs.l0 k x1 x2 (x7 ++ [(List.replicate (x633000 : Int).toNat 0)]) (wrap64 (x8 + 1)) x633000 x633001) else (none)) else (none)) else (none)) else (crM_Beliefs.l1 k x1 x2 x7 0 x633000 x633001)
def crM_Beliefs.l1 : Nat → List Int → Int → List (List Int) → Int → Int → List (List Int) → Option (List Int)
 | 0, _, _, _, _, _, _ => none
 | k + 1, x1, x2, x7, x9, x633000, x633001 => if x9 < x2 then ((crM_round.f k x633000 x633001 x1 x7).bind fun t639 => (crM_Beliefs.l1 k x1 x2 t639 (wrap64 (x9 + 1)) x633000 x633001)) else (crM_Beliefs.l2 k x1 x7 ([] : List Int) 0 x633000 x633001)
def crM_Beliefs.l2 : Nat → List Int → List (List Int) → List Int → Int → Int → List (List Int) → Option (List Int)
 | 0, _, _, _, _, _, _ => none
 | k + 1, x1, x7, x10, x11, x633000, x633001 => if x11 < x633000 then ((crM_into.f k x633000 x633001 x1 x7 x11 (-1)).bind fun t642 => ((crM_sum.f k t642).bind fun t645 => (if x10.length < 17592186044416 then (crM_Beliefs.l2 k x1 x7 (x10 ++ [t645]) (wrap64 (x11 + 1)) x633000 x633001) else (none)))) else (some x10)
end
def crM_Beliefs.f (k : Nat) (a0_0 : Int) (l0_1 : List (List Int)) (l1 : List Int) (a2 : Int) : Option (List Int) := crM_Beliefs.l0 k l1 a2 ([] : List (List Int)) 0 a0_0 l0_1
theorem crM_Beliefs.mono_l : ∀ k, (∀ y0 y1 y2 y3 y4 y5, LeO (crM_Beliefs.l0 k y0 y1 y2 y3 y4 y5) (crM_Beliefs.l0 (k + 1) y0 y1 y2 y3 y4 y5)) ∧ (∀ y0 y1 y2 y3 y4 y5, LeO (crM_Beliefs.l1 k y0 y1 y2 y3 y4 y5) (crM_Beliefs.l1 (k + 1) y0 y1 y2 y3 y4 y5)) ∧ (∀ y0 y1 y2 y3 y4 y5, LeO (crM_Beliefs.l2 k y0 y1 y2 y3 y4 y5) (crM_Beliefs.l2 (k + 1) y0 y1 y2 y3 y4 y5))
 | 0 => ⟨fun _ _ _ _ _ _ r h => by simp [crM_Beliefs.l0] at h, fun _ _ _ _ _ _ r h => by simp [crM_Beliefs.l1] at h, fun _ _ _ _ _ _ r h => by simp [crM_Beliefs.l2] at h⟩
 | k + 1 => by
  obtain ⟨ih0, ih1, ih2⟩ := crM_Beliefs.mono_l k;refine ⟨?_, ?_, ?_⟩
  ·intro y0 y1 y2 y3 y4 y5;unfold crM_Beliefs.l0
   repeat' first
   | (with_reducible exact ih0 _ _ _ _ _ _)
   | (with_reducible exact ih1 _ _ _ _ _ _)
   | (with_reducible exact ih2 _ _ _ _ _ _)
   | (with_reducible exact crM_into.mono _ _ _ _ _ _ _)
   | (with_reducible exact crM_round.mono _ _ _ _ _)
   | (with_reducible exact crM_sum.mono _ _)
   | (with_reducible exact LeO.refl _)
   | (with_reducible exact LeO.none _)
   | (with_reducible refine LeO.ite ?_ ?_)
   | (with_reducible refine LeO.bind ?_ (fun _ => ?_))
   | exact ih0 _ _ _ _ _ _
   | exact ih1 _ _ _ _ _ _
   | exact ih2 _ _ _ _ _ _
   | exact crM_into.mono _ _ _ _ _ _ _
   | exact crM_round.mono _ _ _ _ _
   | exact crM_sum.mono _ _
   | exact LeO.none _
   | refine LeO.ite ?_ ?_
   | refine LeO.bind ?_ (fun _ => ?_)
  ·intro y0 y1 y2 y3 y4 y5;unfold crM_Beliefs.l1
   repeat' first
   | (with_reducible exact ih0 _ _ _ _ _ _)
   | (with_reducible exact ih1 _ _ _ _ _ _)
   | (with_reducible exact ih2 _ _ _ _ _ _)
   | (with_reducible exact crM_into.mono _ _ _ _ _ _ _)
   | (with_reducible exact crM_round.mono _ _ _ _ _)
   | (with_reducible exact crM_sum.mono _ _)
   | (with_reducible exact LeO.refl _)
   | (with_reducible exact LeO.none _)
   | (with_reducible refine LeO.ite ?_ ?_)
   | (with_reducible refine LeO.bind ?_ (fun _ => ?_))
   | exact ih0 _ _ _ _ _ _
   | exact ih1 _ _ _ _ _ _
   | exact ih2 _ _ _ _ _ _
   | exact crM_into.mono _ _ _ _ _ _ _
   | exact crM_round.mono _ _ _ _ _
   | exact crM_sum.mono _ _
   | exact LeO.none _
   | refine LeO.ite ?_ ?_
   | refine LeO.bind ?_ (fun _ => ?_)
  ·intro y0 y1 y2 y3 y4 y5;unfold crM_Beliefs.l2
   repeat' first
   | (with_reducible exact ih0 _ _ _ _ _ _)
   | (with_reducible exact ih1 _ _ _ _ _ _)
   | (with_reducible exact ih2 _ _ _ _ _ _)
   | (with_reducible exact crM_into.mono _ _ _ _ _ _ _)
   | (with_reducible exact crM_round.mono _ _ _ _ _)
   | (with_reducible exact crM_sum.mono _ _)
   | (with_reducible exact LeO.refl _)
   | (with_reducible exact LeO.none _)
   | (with_reducible refine LeO.ite ?_ ?_)
   | (with_reducible refine LeO.bind ?_ (fun _ => ?_))
   | exact ih0 _ _ _ _ _ _
   | exact ih1 _ _ _ _ _ _
   | exact ih2 _ _ _ _ _ _
   | exact crM_into.mono _ _ _ _ _ _ _
   | exact crM_round.mono _ _ _ _ _
   | exact crM_sum.mono _ _
   | exact LeO.none _
   | refine LeO.ite ?_ ?_
   | refine LeO.bind ?_ (fun _ => ?_)
theorem crM_Beliefs.mono : ∀ a0 a1 a2 a3 k, LeO (crM_Beliefs.f k a0 a1 a2 a3) (crM_Beliefs.f (k + 1) a0 a1 a2 a3) := by
 intro a0 a1 a2 a3 k;obtain ⟨ih0, ih1, ih2⟩ := crM_Beliefs.mono_l k;unfold crM_Beliefs.f
 repeat' first
   | (with_reducible exact ih0 _ _ _ _ _ _)
   | (with_reducible exact ih1 _ _ _ _ _ _)
   | (with_reducible exact ih2 _ _ _ _ _ _)
   | (with_reducible exact crM_into.mono _ _ _ _ _ _ _)
   | (with_reducible exact crM_round.mono _ _ _ _ _)
   | (with_reducible exact crM_sum.mono _ _)
   | (with_reducible exact LeO.refl _)
   | (with_reducible exact LeO.none _)
   | (with_reducible refine LeO.ite ?_ ?_)
   | (with_reducible refine LeO.bind ?_ (fun _ => ?_))
   | exact ih0 _ _ _ _ _ _
   | exact ih1 _ _ _ _ _ _
   | exact ih2 _ _ _ _ _ _
   | exact crM_into.mono _ _ _ _ _ _ _
   | exact crM_round.mono _ _ _ _ _
   | exact crM_sum.mono _ _
   | exact LeO.none _
   | refine LeO.ite ?_ ?_
   | refine LeO.bind ?_ (fun _ => ?_)
set_option maxHeartbeats 8000000 in
set_option maxRecDepth 100000 in
theorem crM_Beliefs.calls (k : Nat) (a0_0 : Int) (A0_1 : Option Addr) (c0_1 : Nat) (l0_1 : List (List Int)) (A1 : Option Addr) (c1 : Nat) (l1 : List Int) (a2 : Int) (r : List Int) (w : World) (hr0_1 : Kd.C (Kd.slice 3 (Kd.int .i64)) w A0_1 l0_1.length l0_1) (hc0_1 : l0_1.length ≤ c0_1) (hr1 : Kd.C (Kd.int .i64) w A1 l1.length l1) (hc1 : l1.length ≤ c1) (h : crM_Beliefs.f k a0_0 l0_1 l1 a2 = some r) :
  Calls Try.prog 40 #[.agg #[.int .i64 a0_0, .slice A0_1 l0_1.length c0_1], .slice A1 l1.length c1, .int .i64 a2] w fun e w' => ∃ v0_ : Value, e = .returned (v0_) ∧ Kd.R (Kd.int .i64) 3 w' w.heap.size (fun _ => True) v0_ r ∧ Below w.heap.size w w' := by
 have hu24 := Try.underlying24;have HR0_1 := Ai0.mk hr0_1;have HC0_1 := Ai0.mk hc0_1;clear hr0_1 hc0_1;have HR1 := Ai0.mk hr1;have HC1 := Ai0.mk hc1;clear hr1 hc1;have HB := Ai0.mk (Below.refl w.heap.size w);have H : (crM_Beliefs.l0 k l1 a2 ([] : List (List Int)) 0 a0_0 l0_1) = some r := h;clear h;have H' := Ai0.mk H;clear H;go_enter Try.func40, Try.ntmps40
 go_wp2_with (first | ((with_reducible refine gate_dst (N := 3) rfl ?_); refine box_event ?hg (N := 3) ?hd (cs := #[.int .i64 a0_0, .slice A0_1 l0_1.length c0_1]) (t := 24) ?hr ?_; (case hd => rfl); (case hg => rfl); (case hr => first | (go_simp; done) | (go_simp; rfl)); intro gb632 hg w4 hbox hb; have n0_ := Ai0.mk (bt1 bl_ hb); have n1_ := Ai0.mk (hbox); have n2_ := Ai0.mk ((by rw [hg]; exact (bz1 bl_) : w.heap.size ≤ gb632)); have n3_ := Ai0.mk ((by rw [hg]; exact (bz1 bl_) : w.heap.size ≤ gb632)); clear HB; have HB := n0_; have BK632 := n1_; have GW632 := n2_; have GE632 := n3_; clear n0_ n1_ n2_ n3_; clear hb hbox hg))
 go_loopg [7, 8] k (fun kq v7 v8 w' => ∃ (x7_1 : List (List Int)) (x8_1 : Int), v8 = .int .i64 x8_1 ∧ Ai0 (crM_Beliefs.l0 kq l1 a2 x7_1 x8_1 a0_0 l0_1 = some r) ∧ Ai0 (kq ≤ k) ∧ Ai0 (Kd.S (Kd.slice 3 (Kd.int .i64)) 25 w' w.heap.size (fun _ => True) v7 x7_1) ∧ Ai0 (w'.heap[gb632]? = some (.cells #[.int .i64 a0_0, (.slice A0_1 l0_1.length c0_1)] 24 (0, 0))) ∧ Ai0 (Below w.heap.size w w'))
 case atStart => exact ⟨(([] : List (List Int))), (0), rf_, H', ⟨Nat.le_refl _⟩, ⟨by first | exact Kd.S_nil _ _ _ _ _ | exact Kd.N_nil _ _ _ _ _ | exact Kd.V_nil _ _ _ _ _ | exact Kd.Q_nil _ _ _ _ _ | exact Kd.R_nil _ _ _ _ _⟩, ⟨kk_ BK632.out⟩, ⟨bl_⟩⟩
 case round =>
  clear H'
  try clear c1
  try clear p2
  try clear c4
  obtain ⟨x7_1, x8_1, rfl, HA, HK1, HO_7, BK632, HB⟩ := hrel
  cases gk with
  | zero => exact absurd HA.out (by simp [crM_Beliefs.l0])
  | succ k1 =>
   have H := HA.out;clear HA;simp only [crM_Beliefs.l0] at H;by_cases c5 : x8_1 < (l0_1.length : Int)
   ·rw [if_pos c5] at H;have c5b0 : decide (x8_1 < (l0_1.length : Int)) = true := decide_eq_true c5;clear c5;by_cases c6 : 0 ≤ a0_0
    ·rw [if_pos c6] at H;have c6b0 := eq_true c6;have c6b1 : decide (0 ≤ a0_0) = true := decide_eq_true c6;clear c6;by_cases c7 : (a0_0 : Int).toNat ≤ 35184372088832
     ·rw [if_pos c7] at H;have c7b0 := eq_true c7;have c7b1 : decide ((a0_0 : Int).toNat ≤ 35184372088832) = true := decide_eq_true c7;clear c7;(obtain ⟨y633, hy633⟩ : ∃ y_ : List Int, y_ = (List.replicate (a0_0 : Int).toNat 0) := ⟨_, rfl⟩);(replace H : (if x7_1.length < 5864062014805 then (crM_Beliefs.l0 k1 l1 a2 (x7_1 ++ [y633]) (wrap64 (x8_1 + 1)) a0_0 l0_1) else (none)) = some r := by first | (rw [hy633]; with_reducible exact H) | (have H2_ := (Option.bind_some _ _).symm.trans H; rw [hy633]; with_reducible exact H2_) | (have H2_ := (Option.bind_some _ _).symm.trans H; with_reducible exact H2_) | with_reducible exact H | (rw [hy633]; exact H) | exact H);have Ny633 := Ai0.mk hy633;clear hy633;by_cases c8 : x7_1.length < 5864062014805
      ·rw [if_pos c8] at H;have LMc8 := Ai0.mk c8;clear c8;(obtain ⟨y636, hy636⟩ : ∃ y_ : List (List Int), y_ = (x7_1 ++ [y633]) := ⟨_, rfl⟩);(replace H : (crM_Beliefs.l0 k1 l1 a2 y636 (wrap64 (x8_1 + 1)) a0_0 l0_1) = some r := by first | (rw [hy636]; with_reducible exact H) | (have H2_ := (Option.bind_some _ _).symm.trans H; rw [hy636]; with_reducible exact H2_) | (have H2_ := (Option.bind_some _ _).symm.trans H; with_reducible exact H2_) | with_reducible exact H | (rw [hy636]; exact H) | exact H);have Ny636 := Ai0.mk hy636;clear hy636;have H' := Ai0.mk H;clear H;have hcz9_0 : wr.cell? ⟨gb632, 0, none⟩ = some (.int .i64 a0_0) := (kc1 BK632.out 0).trans rfl;have hcz9_1 : wr.cell? ⟨gb632, 1, none⟩ = some (.slice A0_1 l0_1.length c0_1) := (kc1 BK632.out 1).trans rfl;have hfz9_0 := kf1 BK632.out 0;have hfz9_1 := kf1 BK632.out 1
       go_wp2_with (first | ((with_reducible refine gate_dst (N := 22) rfl ?_); refine Kd.R_make (Kd.int .i64) _ 3 rfl (N := 22) rfl 25 _ _ rfl a0_0 rfl rfl Try.underlying25 (.int .i64 0) 8 info3 rfl (by decide) (by omega) 0 (ok := fun _ => True) (okp := fun _ => True) rfl (fun _ hk => hk) trivial od_ (Nat.le_trans (Nat.mul_le_mul_right _ (od_ : a0_0.toNat ≤ 35184372088832)) (by omega)) (Below.refl _ _) (Nat.le_refl _) ?_; intro v634 w10 ho11 hb hg_ hnew_; clear hg_ hnew_; (first | rw [← Ny633.out] at ho11 | (simp only [Int.reduceToNat] at ho11; rw [← Ny633.out] at ho11)); have n0_ := Ai0.mk (Kd.S_elder' (ks_ HO_7.out) (Kd.R_base ho11) hb); have n1_ := Ai0.mk (Kd.R_lower ho11 (bz1 bl_)); have n2_ := Ai0.mk (kb1 (g := gb632) (o := .cells #[.int .i64 a0_0, .slice A0_1 l0_1.length c0_1] 24 (0, 0)) (kk_ BK632.out) hb); have n3_ := Ai0.mk (bt1 bl_ hb); clear HO_7; clear BK632; clear HB; have HO_7 := n0_; have HO635 := n1_; have BK632 := n2_; have HB := n3_; clear n0_ n1_ n2_ n3_; clear hb ho11; obtain ⟨Ao13, co13, eo13⟩ := Kd.R_slice HO635.out; subst eo13) | ((with_reducible refine gate_builtin (b := .append) (xs := #[.tmp 19, .tmp 23]) rfl ?_); at_builtin; refine Kd.S_append (Kd.slice 3 (Kd.int .i64)) (w0 := w) w.heap.size rfl (.tmp 19) (.tmp 23) 22 25 (.slice none 0 0) 24 rfl Try.underlying22 info25 rfl (by decide) (by omega) u7 x7_1 y633 [.slice Ao13 y633.length co13] (fun _ => True) (fun k_ => some k_ = (.slice Ao13 y633.length co13 : Value).ownBlock) rfl rfl ?aP (fun k_ hk_ => ((Kd.R_mono (ok' := fun k_ => ((fun _ => True)) k_ ∧ some k_ ≠ (u7 : Value).ownBlock) (Kd.R_apart' (HO635.out) (Kd.S_typed HO_7.out) (by decide)) (fun k_ hk => ⟨trivial, hk.2⟩))).1 k_ hk_.symm) ?aF ?aO ?aB ?aS ?aL ?_; (case aP => exact Kd.M_row (Kd.R_mono (Kd.R_tight rfl (Kd.R_mono (ok' := fun k_ => ((fun _ => True)) k_ ∧ some k_ ≠ (u7 : Value).ownBlock) (Kd.R_apart' (HO635.out) (Kd.S_typed HO_7.out) (by decide)) (fun k_ hk => ⟨trivial, hk.2⟩))) (fun _ h_ => h_))); (case aB => exact bl_); (case aF => exact (fun _ _ => trivial)); (case aO => exact (by (with_reducible repeat (first | apply Kd.S_alloc | apply Kd.S_drewN | apply Kd.S_drew)); exact Kd.S_mono HO_7.out (fun k_ hk => ⟨trivial, fun e_ => hk.2 e_⟩))); (case aS => exact (bz1 bl_)); (case aL => have := LMc8.out; omega); intro v637 w12 ho hb hg hat; rw [← Ny636.out] at ho; have n0_ := Ai0.mk (blk_grown (g := gb632) (o := .cells #[.int .i64 a0_0, .slice A0_1 l0_1.length c0_1] 24 (0, 0)) (kk_ BK632.out) hg (Kd.S_ne HO_7.out BK632.out (by decide))); have n1_ := Ai0.mk (hb); have n2_ := Ai0.mk (ho); clear BK632; clear HB; clear HO_7; clear HO635; have BK632 := n0_; have HB := n1_; have HO638 := n2_; clear n0_ n1_ n2_; clear ho hb hg hat))
       go_roundg k1
       case measure => have := HK1.out; omega
       case rel => exact ⟨(y636), (wrap64 (x8_1 + 1)), rf_, H', ⟨by have := HK1.out; omega⟩, ⟨ks_ HO638.out⟩, ⟨kk_ BK632.out⟩, ⟨bl_⟩⟩
      ·rw [if_neg c8] at H;exact absurd H (by simp)
     ·rw [if_neg c7] at H;exact absurd H (by simp)
    ·rw [if_neg c6] at H;exact absurd H (by simp)
   ·rw [if_neg c5] at H;have c5b0 : decide (x8_1 < (l0_1.length : Int)) = false := decide_eq_false c5;clear c5;have H' := Ai0.mk H;clear H;have hcz14_0 : wr.cell? ⟨gb632, 0, none⟩ = some (.int .i64 a0_0) := (kc1 BK632.out 0).trans rfl;have hcz14_1 : wr.cell? ⟨gb632, 1, none⟩ = some (.slice A0_1 l0_1.length c0_1) := (kc1 BK632.out 1).trans rfl;have hfz14_0 := kf1 BK632.out 0;have hfz14_1 := kf1 BK632.out 1
    go_wp2
    go_loopg [7, 9] k1 (fun kq v7 v9 w' => ∃ (x7_2 : List (List Int)) (x9_2 : Int), v9 = .int .i64 x9_2 ∧ Ai0 (crM_Beliefs.l1 kq l1 a2 x7_2 x9_2 a0_0 l0_1 = some r) ∧ Ai0 (kq ≤ k1) ∧ Ai0 (Kd.S (Kd.slice 3 (Kd.int .i64)) 25 w' w.heap.size (fun _ => True) v7 x7_2) ∧ Ai0 (w'.heap[gb632]? = some (.cells #[.int .i64 a0_0, (.slice A0_1 l0_1.length c0_1)] 24 (0, 0))) ∧ Ai0 (Below w.heap.size w w'))
    case atStart => exact ⟨(x7_1), (0), rf_, H', ⟨Nat.le_refl _⟩, ⟨ks_ HO_7.out⟩, ⟨kk_ BK632.out⟩, ⟨bl_⟩⟩
    case round =>
     clear H'
     try clear c1
     try clear p2
     try clear c4
     try clear c5
     try clear c5b0
     try clear c6
     try clear c6b0
     try clear c6b1
     try clear p6
     try clear c7
     try clear c7b0
     try clear c7b1
     try clear c8
     try clear hcz14_0
     try clear hcz14_1
     try clear hcz9_0
     try clear hcz9_1
     try clear hfz14_0
     try clear hfz14_1
     try clear hfz9_0
     try clear hfz9_1
     try clear p2
     obtain ⟨x7_2, x9_2, rfl, HA, HK2, HO_7, BK632, HB⟩ := hrel
     cases gk with
     | zero => exact absurd HA.out (by simp [crM_Beliefs.l1])
     | succ k2 =>
      have H := HA.out;clear HA;simp only [crM_Beliefs.l1] at H;by_cases c15 : x9_2 < a2
      ·rw [if_pos c15] at H;have c15b0 : decide (x9_2 < a2) = true := decide_eq_true c15;clear c15;replace H := Option.bind_eq_some_iff.mp H;obtain ⟨t639, A160, H⟩ := H;replace H : (crM_Beliefs.l1 k2 l1 a2 t639 (wrap64 (x9_2 + 1)) a0_0 l0_1) = some r := H;have A16 := Ai0.mk A160;clear A160;have H' := Ai0.mk H;clear H;have hcz17_0 : wr.cell? ⟨gb632, 0, none⟩ = some (.int .i64 a0_0) := (kc1 BK632.out 0).trans rfl;have hcz17_1 : wr.cell? ⟨gb632, 1, none⟩ = some (.slice A0_1 l0_1.length c0_1) := (kc1 BK632.out 1).trans rfl;have hfz17_0 := kf1 BK632.out 0;have hfz17_1 := kf1 BK632.out 1;obtain ⟨Ao18, co18, eo18⟩ := Kd.S_slice HO_7.out;subst eo18
       go_wp2_with (first | ((with_reducible refine gate_callee (f := 64) rfl ?_); refine goesL_ (some 33) rfl rfl Try.func64 (by kernel_rfl) rfl #[.agg #[.int .i64 a0_0, .slice A0_1 l0_1.length c0_1], .slice A1 l1.length c1, .slice Ao18 x7_2.length co18] rfl (by (try simp only [List.map_toArray, List.map_cons, List.map_nil]); first | done | rfl | (simp only [List.length_drop, List.length_take]; rfl)) ?_; (with_reducible refine (crM_round.calls k2 a0_0 _ _ l0_1 _ _ l1 _ _ x7_2 t639 _ ?side1 ?side2 ?side3 ?side4 ?side5 ?side6 A16.out).mono ?_); (case side1 => exact kc_ HR0_1.out); (case side2 => exact HC0_1.out); (case side3 => exact kc_ HR1.out); (case side4 => exact HC1.out); (case side5 => repeat (first | exact (Kd.S_reads' HO_7.out).2.2 | (with_reducible refine Kd.C_alloc ?_ _) | (with_reducible refine Kd.C_drewN ?_ _) | (with_reducible refine Kd.C_drew ?_))); (case side6 => exact (Kd.S_reads' HO_7.out).2.1); rintro e w19 ⟨v640, rfl, ho0, hb⟩; refine ⟨_, rfl, ?_⟩; have n0_ := Ai0.mk (Kd.S_elder' (ks_ HO_7.out) (Kd.S_base ho0) hb); have n1_ := Ai0.mk (Kd.S_lower (Kd.S_new' ho0 (Kd.S_lt (ks_ HO_7.out))) (bz1 bl_)); have n2_ := Ai0.mk (kb1 (g := gb632) (o := .cells #[.int .i64 a0_0, .slice A0_1 l0_1.length c0_1] 24 (0, 0)) (kk_ BK632.out) hb); have n3_ := Ai0.mk (bt1 bl_ hb); clear HO_7; clear BK632; clear HB; have HO_7 := n0_; have HO641 := n1_; have BK632 := n2_; have HB := n3_; clear n0_ n1_ n2_ n3_; (try clear hb); (try clear hb2); (try clear hk); (try clear hi); (try clear ho0)))
       go_roundg k2
       case measure => have := HK1.out; have := HK2.out; omega
       case rel => exact ⟨(t639), (wrap64 (x9_2 + 1)), rf_, H', ⟨by have := HK1.out; have := HK2.out; omega⟩, ⟨by (with_reducible repeat (first | apply Kd.S_alloc | apply Kd.S_drewN | apply Kd.S_drew)); exact Kd.S_mono HO641.out (fun _ hk => trivial)⟩, ⟨kk_ BK632.out⟩, ⟨bl_⟩⟩
      ·rw [if_neg c15] at H;have c15b0 : decide (x9_2 < a2) = false := decide_eq_false c15;clear c15;have H' := Ai0.mk H;clear H
       go_wp2
       go_loopg [10, 11] k2 (fun kq v10 v11 w' => ∃ (x10_3 : List Int) (x11_3 : Int), v11 = .int .i64 x11_3 ∧ Ai0 (crM_Beliefs.l2 kq l1 x7_2 x10_3 x11_3 a0_0 l0_1 = some r) ∧ Ai0 (kq ≤ k2) ∧ Ai0 (Kd.S (Kd.slice 3 (Kd.int .i64)) 25 w' w.heap.size (fun k_ => some k_ ≠ (v10 : Value).ownBlock) u7 x7_2) ∧ Ai0 (Kd.R (Kd.int .i64) 3 w' w.heap.size (fun _ => True) v10 x10_3) ∧ Ai0 (w'.heap[gb632]? = some (.cells #[.int .i64 a0_0, (.slice A0_1 l0_1.length c0_1)] 24 (0, 0))) ∧ Ai0 (Below w.heap.size w w'))
       case atStart => exact ⟨(([] : List Int)), (0), rf_, H', ⟨Nat.le_refl _⟩, ⟨by (with_reducible repeat (first | apply Kd.S_alloc | apply Kd.S_drewN | apply Kd.S_drew)); exact Kd.S_mono HO_7.out (fun _ hk => (by simp [Value.ownBlock]))⟩, ⟨by first | exact Kd.R_nil _ _ _ _ _ | exact Kd.N_nil _ _ _ _ _ | exact Kd.V_nil _ _ _ _ _ | exact Kd.Q_nil _ _ _ _ _ | exact Kd.S_nil _ _ _ _ _⟩, ⟨kk_ BK632.out⟩, ⟨bl_⟩⟩
       case round =>
        clear H'
        try clear c1
        try clear p2
        try clear c4
        try clear c5
        try clear c5b0
        try clear c6
        try clear c6b0
        try clear c6b1
        try clear p6
        try clear c7
        try clear c7b0
        try clear c7b1
        try clear c8
        try clear c15
        try clear c15b0
        try clear hcz14_0
        try clear hcz14_1
        try clear hcz17_0
        try clear hcz17_1
        try clear hcz9_0
        try clear hcz9_1
        try clear hfz14_0
        try clear hfz14_1
        try clear hfz17_0
        try clear hfz17_1
        try clear hfz9_0
        try clear hfz9_1
        try clear p2
        try clear p6
        obtain ⟨x10_3, x11_3, rfl, HA, HK3, HO_7, HO_10, BK632, HB⟩ := hrel
        cases gk with
        | zero => exact absurd HA.out (by simp [crM_Beliefs.l2])
        | succ k3 =>
         have H := HA.out;clear HA;simp only [crM_Beliefs.l2] at H;by_cases c20 : x11_3 < a0_0
         ·rw [if_pos c20] at H;have c20b0 : decide (x11_3 < a0_0) = true := decide_eq_true c20;clear c20;replace H := Option.bind_eq_some_iff.mp H;obtain ⟨t642, A210, H⟩ := H;replace H : ((crM_sum.f k3 t642).bind fun t645 => (if x10_3.length < 17592186044416 then (crM_Beliefs.l2 k3 l1 x7_2 (x10_3 ++ [t645]) (wrap64 (x11_3 + 1)) a0_0 l0_1) else (none))) = some r := H;have A21 := Ai0.mk A210;clear A210;replace H := Option.bind_eq_some_iff.mp H;obtain ⟨t645, A220, H⟩ := H;replace H : (if x10_3.length < 17592186044416 then (crM_Beliefs.l2 k3 l1 x7_2 (x10_3 ++ [t645]) (wrap64 (x11_3 + 1)) a0_0 l0_1) else (none)) = some r := H;have A22 := Ai0.mk A220;clear A220;by_cases c23 : x10_3.length < 17592186044416
          ·rw [if_pos c23] at H;have LMc23 := Ai0.mk c23;clear c23;(obtain ⟨y646, hy646⟩ : ∃ y_ : List Int, y_ = (x10_3 ++ [t645]) := ⟨_, rfl⟩);(replace H : (crM_Beliefs.l2 k3 l1 x7_2 y646 (wrap64 (x11_3 + 1)) a0_0 l0_1) = some r := by first | (rw [hy646]; with_reducible exact H) | (have H2_ := (Option.bind_some _ _).symm.trans H; rw [hy646]; with_reducible exact H2_) | (have H2_ := (Option.bind_some _ _).symm.trans H; with_reducible exact H2_) | with_reducible exact H | (rw [hy646]; exact H) | exact H);have Ny646 := Ai0.mk hy646;clear hy646;have H' := Ai0.mk H;clear H;have hcz24_0 : wr.cell? ⟨gb632, 0, none⟩ = some (.int .i64 a0_0) := (kc1 BK632.out 0).trans rfl;have hcz24_1 : wr.cell? ⟨gb632, 1, none⟩ = some (.slice A0_1 l0_1.length c0_1) := (kc1 BK632.out 1).trans rfl;have hfz24_0 := kf1 BK632.out 0;have hfz24_1 := kf1 BK632.out 1;obtain ⟨Ao25, co25, eo25⟩ := Kd.S_slice HO_7.out;subst eo25
           go_wp2_with (first | ((with_reducible refine gate_callee (f := 66) rfl ?_); refine goesL_ (some 45) rfl rfl Try.func66 (by kernel_rfl) rfl #[.agg #[.int .i64 a0_0, .slice A0_1 l0_1.length c0_1], .slice A1 l1.length c1, .slice Ao25 x7_2.length co25, .int .i64 x11_3, .int .i64 (-1)] rfl (by (try simp only [List.map_toArray, List.map_cons, List.map_nil]); first | done | rfl | (simp only [List.length_drop, List.length_take]; rfl)) ?_; (with_reducible refine (crM_into.calls k3 a0_0 _ _ l0_1 _ _ l1 _ _ x7_2 x11_3 (-1) t642 _ ?side1 ?side2 ?side3 ?side4 ?side5 ?side6 A21.out).mono ?_); (case side1 => exact kc_ HR0_1.out); (case side2 => exact HC0_1.out); (case side3 => exact kc_ HR1.out); (case side4 => exact HC1.out); (case side5 => repeat (first | exact (Kd.S_reads' HO_7.out).2.2 | (with_reducible refine Kd.C_alloc ?_ _) | (with_reducible refine Kd.C_drewN ?_ _) | (with_reducible refine Kd.C_drew ?_))); (case side6 => exact (Kd.S_reads' HO_7.out).2.1); rintro e w26 ⟨v643, rfl, ho0, hb⟩; refine ⟨_, rfl, ?_⟩; have n0_ := Ai0.mk (Kd.S_elder' (ks_ HO_7.out) (Kd.R_base ho0) hb); have n1_ := Ai0.mk (Kd.R_elder' (kr_ HO_10.out) (Kd.R_base ho0) hb); have n2_ := Ai0.mk (Kd.R_lower (Kd.R_new' ho0 (Kd.R_lt (kr_ HO_10.out))) (bz1 bl_)); have n3_ := Ai0.mk (kb1 (g := gb632) (o := .cells #[.int .i64 a0_0, .slice A0_1 l0_1.length c0_1] 24 (0, 0)) (kk_ BK632.out) hb); have n4_ := Ai0.mk (bt1 bl_ hb); clear HO_7; clear HO_10; clear BK632; clear HB; have HO_7 := n0_; have HO_10 := n1_; have HO644 := n2_; have BK632 := n3_; have HB := n4_; clear n0_ n1_ n2_ n3_ n4_; (try clear hb); (try clear hb2); (try clear hk); (try clear hi); (try clear ho0); obtain ⟨Ao27, co27, eo27⟩ := Kd.R_slice HO644.out; subst eo27) | ((with_reducible refine gate_callee (f := 65) rfl ?_); refine goesL_ (some 46) rfl rfl Try.func65 (by kernel_rfl) rfl #[.slice Ao27 t642.length co27] rfl (by (try simp only [List.map_toArray, List.map_cons, List.map_nil]); first | done | rfl | (simp only [List.length_drop, List.length_take]; rfl)) ?_; (with_reducible refine (crM_sum.calls k3 _ _ t642 t645 _ ?side1 ?side2 A22.out).mono ?_); (case side1 => repeat (first | exact (Kd.R_reads' HO644.out).2.2 | (with_reducible refine Kd.C_alloc ?_ _) | (with_reducible refine Kd.C_drewN ?_ _) | (with_reducible refine Kd.C_drew ?_))); (case side2 => exact (Kd.R_reads' HO644.out).2.1); rintro e w28 ⟨rfl, hb⟩; refine ⟨_, rfl, ?_⟩; have n0_ := Ai0.mk (Kd.S_below (ks_ HO_7.out) hb); have n1_ := Ai0.mk (Kd.R_below (kr_ HO_10.out) hb); have n2_ := Ai0.mk (Kd.R_below (kr_ HO644.out) hb); have n3_ := Ai0.mk (kb1 (g := gb632) (o := .cells #[.int .i64 a0_0, .slice A0_1 l0_1.length c0_1] 24 (0, 0)) (kk_ BK632.out) hb); have n4_ := Ai0.mk (bt1 bl_ hb); clear HO_7; clear HO_10; clear HO644; clear BK632; clear HB; have HO_7 := n0_; have HO_10 := n1_; have HO644 := n2_; have BK632 := n3_; have HB := n4_; clear n0_ n1_ n2_ n3_ n4_; (try clear hb); (try clear hb2); (try clear hk); (try clear hi)) | ((with_reducible refine gate_builtin (b := .append) (xs := #[.tmp 40, .tmp 47]) rfl ?_); at_builtin; refine Kd.R_append (Kd.int .i64) (w0 := w) w.heap.size rfl (.tmp 40) (.tmp 47) 25 3 (.int .i64 0) 8 rfl Try.underlying25 info3 rfl (by decide) (by omega) u10 x10_3 t645 [.int .i64 t645] (fun k_ => some k_ ≠ (.slice Ao27 t642.length co27 : Value).ownBlock) (fun _ => False) rfl rfl ?aP (fun _ hk => hk.elim) ?aF ?aO ?aB ?aS ?aL ?_; (case aP => exact rfl); (case aB => exact bl_); (case aF => exact (fun k_ hk => Kd.fresh' (Kd.R_lt (kr_ HO644.out)) k_ hk)); (case aO => exact (by (with_reducible repeat (first | apply Kd.Ra1 | apply Kd.Rn1 | apply Kd.Rd1)); exact Kd.R_mono HO_10.out (fun _ hk => hk.2))); (case aS => exact (bz1 bl_)); (case aL => have := LMc23.out; omega); intro v647 w29 ho hb hg hat; rw [← Ny646.out] at ho; have n0_ := Ai0.mk (Kd.S_after (ok := (fun k_ => some k_ ≠ (.slice Ao27 t642.length co27 : Value).ownBlock)) (by (with_reducible repeat (first | apply Kd.S_alloc | apply Kd.S_drewN | apply Kd.S_drew)); exact Kd.S_mono HO_7.out (fun _ hk => ⟨hk.2, hk.1⟩)) hg hat); have n1_ := Ai0.mk (blk_grown (g := gb632) (o := .cells #[.int .i64 a0_0, .slice A0_1 l0_1.length c0_1] 24 (0, 0)) (kk_ BK632.out) hg (Kd.R_ne HO_10.out BK632.out (by decide))); have n2_ := Ai0.mk (Kd.R_after (ok := (fun _ => True)) (kr_ HO644.out) hg hat); have n3_ := Ai0.mk (hb); have n4_ := Ai0.mk (ho); clear HO_7; clear BK632; clear HO644; clear HB; clear HO_10; have HO_7 := n0_; have BK632 := n1_; have HO644 := n2_; have HB := n3_; have HO648 := n4_; clear n0_ n1_ n2_ n3_ n4_; clear ho hb hg hat))
           go_roundg k3
           case measure => have := HK1.out; have := HK2.out; have := HK3.out; omega
           case rel => exact ⟨(y646), (wrap64 (x11_3 + 1)), rf_, H', ⟨by have := HK1.out; have := HK2.out; have := HK3.out; omega⟩, ⟨by (with_reducible repeat (first | apply Kd.S_alloc | apply Kd.S_drewN | apply Kd.S_drew)); exact Kd.S_mono HO_7.out (fun _ hk => hk.2)⟩, ⟨by (with_reducible repeat (first | apply Kd.Ra1 | apply Kd.Rn1 | apply Kd.Rd1)); exact Kd.R_mono HO648.out (fun _ hk => trivial)⟩, ⟨kk_ BK632.out⟩, ⟨bl_⟩⟩
          ·rw [if_neg c23] at H;exact absurd H (by simp)
         ·rw [if_neg c20] at H;have c20b0 : decide (x11_3 < a0_0) = false := decide_eq_false c20;clear c20;obtain rfl := Option.some.inj H;have hcz30_0 : wr.cell? ⟨gb632, 0, none⟩ = some (.int .i64 a0_0) := (kc1 BK632.out 0).trans rfl;have hcz30_1 : wr.cell? ⟨gb632, 1, none⟩ = some (.slice A0_1 l0_1.length c0_1) := (kc1 BK632.out 1).trans rfl;have hfz30_0 := kf1 BK632.out 0;have hfz30_1 := kf1 BK632.out 1
          go_wp2
          go_ret
          exact ⟨_, by first | rfl | (simp [eW0, eW1] <;> rfl) | (simp [*, eW0, eW1] <;> rfl), by (with_reducible repeat (first | apply Kd.Ra1 | apply Kd.Rn1 | apply Kd.Rd1)); exact HO_10.out, bl_⟩
end Go.Proofs.Ytmclalniilkjiaa.Q
/- The printed Beliefs and the document's Beliefs answer alike, the errors too; Decide. No condition on the arguments. -/
namespace Go.Proofs.Ytmclalniilkjiaa.Be
open Go.RowKit Go.Proofs.Ytmclalniilkjiaa.Q Go.Proofs.YtmclalniilkjiaaW.PrintWords Go.Proofs.YtmclalniilkjiaaW.PrintLast Go.Proofs.YtmclalniilkjiaaW.PrintMore Go.Proofs.Ytmclalniilkjiaa.Ba Go.Proofs.Ytmclalniilkjiaa.Ck Go.Proofs.Ytmclalniilkjiaa.Gr Go.Proofs.Ytmclalniilkjiaa.Un Go.Proofs.Ytmclalniilkjiaa.Fl Go.Proofs.Ytmclalniilkjiaa.Ms Go.Proofs.Ytmclalniilkjiaa.Rv Go.Proofs.Ytmclalniilkjiaa.Rp

theorem LL_up {α : Type} (n i : Nat) (f : Nat → α) (z : α) : (LL n (fun t => if t < i then f t else z)).set i (f i) = LL n (fun t => if t < i + 1 then f t else z) := by
 rw [LL_set]
 refine LL_congr _ _ _ (fun t _ => ?_)
 by_cases e : t = i
 ·subst e; rw [if_pos rfl, if_pos (by omega : t < t + 1)]
 ·rw [if_neg e]
  by_cases h2 : t < i
  ·rw [if_pos h2, if_pos (by omega : t < i + 1)]
  ·rw [if_neg h2, if_neg (by omega : ¬ t < i + 1)]
theorem LL_keep {α : Type} (n i : Nat) (f : Nat → α) (z : α) (h : f i = z) : LL n (fun t => if t < i then f t else z) = LL n (fun t => if t < i + 1 then f t else z) := by
 refine LL_congr _ _ _ (fun t _ => ?_)
 by_cases e : t = i
 ·subst e; rw [if_neg (by omega : ¬ t < t), if_pos (by omega : t < t + 1), h]
 ·by_cases h2 : t < i
  ·rw [if_pos h2, if_pos (by omega : t < i + 1)]
  ·rw [if_neg h2, if_neg (by omega : ¬ t < i + 1)]
def ib (l : List Int) : Bool := l.all (fun x => decide (-1048576 ≤ x ∧ x ≤ 1048576))
def rg (n : Int) : Int := if n < 0 then 6 else if n > 256 then 6 else 0
def ie (l : List Int) (n : Int) : Int := if ib l = true then rg n else 6
def iv (c : Int) (inp : List Int) (n : Int) : Int := if (inp.length : Int) = c then ie inp n else 4
def args (c : Int) (rows : List (List Int)) (inp : List Int) (n : Int) : Int := if chk c rows = 0 then iv c inp n else chk c rows
theorem ie_cons (x : Int) (l : List Int) (n : Int) : ie (x :: l) n = if x < -1048576 then 6 else if x > 1048576 then 6 else ie l n := by
 unfold ie ib
 rw [List.all_cons]
 by_cases h1 : x < -1048576
 ·rw [if_pos h1, decide_eq_false (by omega)]; rfl
 ·rw [if_neg h1]
  by_cases h2 : x > 1048576
  ·rw [if_pos h2, decide_eq_false (by omega)]; rfl
  ·rw [if_neg h2, decide_eq_true (by omega)]; rfl
theorem inputs_l0 (l : List Int) (n : Int) (hl : l.length ≤ 256) : ∀ d i : Nat, i + d = l.length → Ev (fun k => message_inputs.l0 k n l (l.length : Int) (i : Int)) (ie (l.drop i) n)
 | 0, i, h => by
  rw [List.drop_eq_nil_of_le (by omega)]
  refine Ev.step (f := fun _ => some (rg n)) (fun k => ?_) (Ev.now _)
  simp only [message_inputs.l0]
  rw [if_neg (by omega)]
  unfold rg
  split
  ·rfl
  ·split <;> rfl
 | d + 1, i, h => by
  have ih := inputs_l0 l n hl d (i + 1) (by omega)
  rw [drop_cons l 0 i (by omega), ie_cons, ← rd_nat]
  by_cases h1 : rd l (i : Int) < -1048576
  ·rw [if_pos h1]
   refine Ev.step (f := fun _ => some 6) (fun k => ?_) (Ev.now _)
   simp only [message_inputs.l0]
   rw [if_pos (by omega), if_pos (by omega), if_pos (by omega), if_pos h1]
  ·rw [if_neg h1]
   by_cases h2 : rd l (i : Int) > 1048576
   ·rw [if_pos h2]
    refine Ev.step (f := fun _ => some 6) (fun k => ?_) (Ev.now _)
    simp only [message_inputs.l0]
    rw [if_pos (by omega), if_pos (by omega), if_pos (by omega), if_neg h1, if_pos h2]
   ·rw [if_neg h2]
    refine Ev.step (fun k => ?_) ih
    simp only [message_inputs.l0]
    rw [if_pos (by omega), if_pos (by omega), if_pos (by omega), if_neg h1, if_neg h2, w64_id (by omega) (by omega)]
    rfl
theorem inputs_ev (c : Int) (hc : c ≤ 256) (rows : List (List Int)) (l : List Int) (n : Int) : Ev (fun k => message_inputs.f k c rows l n) (iv c l n) := by
 unfold message_inputs.f iv
 by_cases h : (l.length : Int) = c
 ·rw [if_pos h]; exact Ev.congr (fun k => if_pos h) (inputs_l0 l n (by omega) l.length 0 (by omega))
 ·rw [if_neg h]; exact Ev.congr (fun k => if_neg h) (Ev.now _)
theorem rargs_l0 (l : List Int) (n : Int) (hl : l.length ≤ 256) : ∀ d i : Nat, i + d = l.length → Ev (fun k => crM_Args.l0 k l n (i : Int)) (ie (l.drop i) n)
 | 0, i, h => by
  rw [List.drop_eq_nil_of_le (by omega)]
  refine Ev.step (f := fun _ => some (rg n)) (fun k => ?_) (Ev.now _)
  simp only [crM_Args.l0]
  rw [if_neg (by omega)]
  unfold rg
  split
  ·rfl
  ·split <;> rfl
 | d + 1, i, h => by
  have ih := rargs_l0 l n hl d (i + 1) (by omega)
  rw [drop_cons l 0 i (by omega), ie_cons, ← rd_nat]
  by_cases h1 : rd l (i : Int) < -1048576
  ·rw [if_pos h1]
   refine Ev.step (f := fun _ => some 6) (fun k => ?_) (Ev.now _)
   simp only [crM_Args.l0]
   rw [if_pos (by omega), if_pos (by omega), if_pos h1]
  ·rw [if_neg h1]
   by_cases h2 : rd l (i : Int) > 1048576
   ·rw [if_pos h2]
    refine Ev.step (f := fun _ => some 6) (fun k => ?_) (Ev.now _)
    simp only [crM_Args.l0]
    rw [if_pos (by omega), if_pos (by omega), if_neg h1, if_pos h2]
   ·rw [if_neg h2]
    refine Ev.step (fun k => ?_) ih
    simp only [crM_Args.l0]
    rw [if_pos (by omega), if_pos (by omega), if_neg h1, if_neg h2, w64_id (by omega) (by omega)]
    rfl
theorem args_ev (c : Int) (rows : List (List Int)) (l : List Int) (n : Int) : Ev (fun k => crM_Args.f k c rows l n) (args c rows l n) := by
 unfold crM_Args.f args
 refine Ev.congr (f := fun k => (cr9_Check.f k 2 1 [] c rows).bind fun t204 => (if t204 = 0 then (if (l.length : Int) = c then (crM_Args.l0 k l n 0) else (some 4)) else (some t204))) (fun k => rfl) ((rCheck_ev c rows).bind ?_)
 by_cases h : chk c rows = 0
 ·rw [if_pos h]
  refine Ev.congr (fun k => if_pos h) ?_
  have hk := chk_ok h
  unfold iv
  by_cases h2 : (l.length : Int) = c
  ·rw [if_pos h2]; exact Ev.congr (fun k => if_pos h2) (rargs_l0 l n (by omega) l.length 0 (by omega))
  ·rw [if_neg h2]; exact Ev.congr (fun k => if_neg h2) (Ev.now _)
 ·rw [if_neg h]; exact Ev.congr (fun k => if_neg h) (Ev.now _)
/-- What a matrix and inputs without fault look like. -/
structure OkI (c : Int) (rows : List (List Int)) (inp : List Int) (C : Nat) : Prop where
 k : chk c rows = 0
 c : c = (C : Int)
 hC : C ≤ 256
 hr : rows.length ≤ 256
 hrl : ∀ j, j < rows.length → (rows.getD j []).length = C
 hrow : ∀ j, j < rows.length → okb (rows.getD j []) = true
 hlen : inp.length = C
 hI : Bi inp
theorem ib_at {l : List Int} (h : ib l = true) : Bi l := by
 intro i
 by_cases hi : i.toNat < l.length
 ·have := List.all_eq_true.1 h _ (getD_mem l 0 i.toNat hi)
  exact of_decide_eq_true this
 ·unfold rd
  rw [List.getD_eq_getElem?_getD, List.getElem?_eq_none (by omega)]
  simp
theorem args_ok {c : Int} {rows : List (List Int)} {inp : List Int} {n : Int} (h : args c rows inp n = 0) : ∃ C : Nat, OkI c rows inp C ∧ ∃ R : Nat, n = (R : Int) ∧ R ≤ 256 := by
 unfold args at h
 split at h
 ·next hk =>
  obtain ⟨h0, h1, h2, h3, h4⟩ := chk_ok hk
  unfold iv at h
  split at h
  ·next hl =>
   unfold ie at h
   split at h
   ·next hb =>
    refine ⟨c.toNat, ⟨hk, by omega, by omega, h2, fun j hj => by have := h3 j hj; omega, h4, by omega, ib_at hb⟩, n.toNat, ?_⟩
    unfold rg at h
    split at h
    ·omega
    ·split at h <;> omega
   ·omega
  ·omega
 ·next hk => exact absurd h hk
section
variable {c : Int} {rows : List (List Int)} {inp : List Int} {C : Nat}
theorem build_I (h : OkI c rows inp C) : Ev (fun k => message_build.f k c rows) (checks rows C rows.length, at_ rows C rows.length, 0) := by
 have := build_ok h.k
 rwa [show c.toNat = C by have := h.c; omega] at this
theorem iv_0 (ok : OkI c rows inp C) {n : Int} (h : args c rows inp n = 0) : iv c inp n = 0 := by
 unfold args at h
 rwa [if_pos ok.k] at h
/-! the document's side -/
theorem rround_l2 (ok : OkI c rows inp C) {F : Nat → Nat → Int} (hB : Bd F) {r : List (List Int)} (x7 : List (List Int)) (j : Nat) (hj : j < rows.length) (base : List Int) (hbl : base.length = C) (i : Nat) (hi : i < C)
  (ih : Ev (fun k => crM_round.l1 k inp (fr rows C F) x7 (j : Int) (base.set i (nxF rows C inp F j i)) ((i + 1 : Nat) : Int) c rows) r) : ∀ d n : Nat, n + d = C →
  Ev (fun k => crM_round.l2 k inp (fr rows C F) x7 (j : Int) (base.set i (rv (fun k => smv rows inp F (j : Int) k) (bit rows j) i n)) (i : Int) (n : Int) c rows) r
 | 0, n, h => by
  obtain rfl : n = C := by omega
  have hc := ok.c
  have hC := ok.hC
  refine Ev.step (fun k => ?_) ih
  simp only [crM_round.l2]
  rw [if_neg (by omega), w64_id (by omega) (by omega)]
  rfl
 | d + 1, n, h => by
  have hc := ok.c
  have hC := ok.hC
  have hrj := ok.hrl j hj
  have ih2 := rround_l2 ok hB x7 j hj base hbl i hi ih d (n + 1) (by omega)
  have hsl : ∀ v, (base.set i v).length = C := fun v => by rw [List.length_set]; exact hbl
  have hno : ∀ (v : Int), rv (fun k => smv rows inp F (j : Int) k) (bit rows j) i (n + 1) = v → Ev (fun k => crM_round.j3 k inp (fr rows C F) x7 (j : Int) (base.set i v) (i : Int) (n : Int) false c rows) r := by
   intro v hv
   rw [hv] at ih2
   refine Ev.step (fun k => ?_) ih2
   simp only [crM_round.j3]
   rw [if_neg Bool.false_ne_true, w64_id (by omega) (by omega)]
   rfl
  by_cases h1 : n = i
  ·refine Ev.step (fun k => ?_) (hno (rv (fun k => smv rows inp F (j : Int) k) (bit rows j) i n) (by simp only [rv]; rw [if_pos h1]))
   simp only [crM_round.l2]
   rw [if_pos (by omega), if_pos (by omega)]
  ·have hl2 : ∀ k, crM_round.l2 (k + 1) inp (fr rows C F) x7 (j : Int) (base.set i (rv (fun k => smv rows inp F (j : Int) k) (bit rows j) i n)) (i : Int) (n : Int) c rows = crM_round.j3 k inp (fr rows C F) x7 (j : Int) (base.set i (rv (fun k => smv rows inp F (j : Int) k) (bit rows j) i n)) (i : Int) (n : Int) (rd (rows.getD j []) (n : Int) == 1) c rows := by
    intro k
    simp only [crM_round.l2]
    rw [if_pos (by omega), if_neg (by omega), if_pos (by omega), if_pos (by omega), if_pos (by omega), rd_L1_nat, if_pos (by omega)]
   by_cases hb : rd (rows.getD j []) (n : Int) = 1
   ·have hb2 : bit rows j n = true := decide_eq_true hb
    have e1 : rv (fun k => smv rows inp F (j : Int) k) (bit rows j) i (n + 1) = comb (smv rows inp F (j : Int) n) (rv (fun k => smv rows inp F (j : Int) k) (bit rows j) i n) := by simp only [rv]; rw [if_neg h1, if_pos hb2]
    rw [e1] at ih2
    have hvb := rv_bound (fun k => smv rows inp F (j : Int) k) (bit rows j) i n
    have hub := smv_bound rows inp F (j : Int) n
    generalize hvv : rv (fun k => smv rows inp F (j : Int) k) (bit rows j) i n = v at ih2 hvb hl2 ⊢
    generalize huu : smv rows inp F (j : Int) n = u at ih2 hub
    have hrd : rd (base.set i v) (i : Int) = v := by rw [rd_nat, List.getD_eq_getElem?_getD, List.getElem?_set_self (by omega)]; rfl
    have hsum := rsum_ev rows inp F (j : Int) n ok.hr hB ok.hI
    rw [huu] at hsum
    have hmn : 0 ≤ mn (mx u (-u)) (mx v (-v)) ∧ mn (mx u (-u)) (mx v (-v)) ≤ 1099511627776 := by rw [mx_abs, mx_abs]; unfold mn; split <;> split <;> split <;> omega
    refine Ev.step (fun k => hl2 k) ?_
    rw [show (rd (rows.getD j []) (n : Int) == 1) = true from beq_iff_eq.2 hb]
    refine Ev.step (f := fun k => (crM_into.f k c rows inp (fr rows C F) (n : Int) (j : Int)).bind fun t623 => ((crM_sum.f k t623).bind fun t626 => (if 0 ≤ (i : Int) then (if (i : Int) < ((base.set i v).length : Int) then (if ((decide (t626 < 0)) != (decide (v < 0))) = true then (crM_round.l2 k inp (fr rows C F) x7 (j : Int) ((base.set i v).set i (wrap64 (-(mn (mx t626 (wrap64 (-t626))) (mx v (wrap64 (-v))))))) (i : Int) ((n + 1 : Nat) : Int) c rows) else (crM_round.l2 k inp (fr rows C F) x7 (j : Int) ((base.set i v).set i (mn (mx t626 (wrap64 (-t626))) (mx v (wrap64 (-v))))) (i : Int) ((n + 1 : Nat) : Int) c rows)) else (none)) else (none)))) (fun k => ?_) ?_
    ·simp only [crM_round.j3]
     rw [if_pos trivial, hrd, Int.toNat_natCast, w64_id (n := (n : Int) + 1) (by omega) (by omega)]
     rfl
    refine (into_ev rows inp F (j : Int) n C ok.hr c (by omega) ok.hlen ok.hrl).bind (hsum.bind (Ev.congr (fun k => if_pos (by omega)) (Ev.congr (fun k => if_pos (by rw [hsl]; omega)) ?_)))
    refine Ev.congr (fun k => ?_) ih2
    rw [List.set_set, List.set_set, w64_id (n := -u) (by omega) (by omega), w64_id (n := -v) (by omega) (by omega), w64_id (n := -(mn (mx u (-u)) (mx v (-v)))) (by omega) (by omega)]
    unfold comb
    split <;> rfl
   ·have hb2 : ¬ bit rows j n = true := by unfold bit; rw [decide_eq_false hb]; decide
    refine Ev.step (fun k => hl2 k) ?_
    rw [show (rd (rows.getD j []) (n : Int) == 1) = false from beq_eq_false_iff_ne.2 hb]
    exact hno _ (by simp only [rv]; rw [if_neg h1, if_neg hb2])
theorem rround_l1 (ok : OkI c rows inp C) {F : Nat → Nat → Int} (hB : Bd F) {r : List (List Int)} (x7 : List (List Int)) (hx7 : x7.length ≤ 256) (j : Nat) (hj : j < rows.length)
  (ih : Ev (fun k => crM_round.l0 k inp (fr rows C F) (x7 ++ [LL C (fun t => if bit rows j t = true then nxF rows C inp F j t else 0)]) ((j + 1 : Nat) : Int) c rows) r) : ∀ d i : Nat, i + d = C →
  Ev (fun k => crM_round.l1 k inp (fr rows C F) x7 (j : Int) (LL C (fun t => if t < i then (if bit rows j t = true then nxF rows C inp F j t else 0) else 0)) (i : Int) c rows) r
 | 0, i, h => by
  obtain rfl : i = C := by omega
  have hc := ok.c
  have hr := ok.hr
  refine Ev.step (fun k => ?_) ih
  simp only [crM_round.l1]
  rw [if_neg (by omega), if_pos (by omega), w64_id (by omega) (by omega)]
  rw [show LL i (fun t => if t < i then (if bit rows j t = true then nxF rows i inp F j t else 0) else 0) = LL i (fun t => if bit rows j t = true then nxF rows i inp F j t else 0) from LL_congr _ _ _ (fun t ht => if_pos ht)]
  rfl
 | d + 1, i, h => by
  have hc := ok.c
  have hC := ok.hC
  have hrj := ok.hrl j hj
  have ih2 := rround_l1 ok hB x7 hx7 j hj ih d (i + 1) (by omega)
  have hll : (LL C (fun t => if t < i then (if bit rows j t = true then nxF rows C inp F j t else 0) else 0)).length = C := LL_length _ _
  by_cases hb : rd (rows.getD j []) (i : Int) = 1
  ·have hb2 : bit rows j i = true := decide_eq_true hb
   have e1 : (LL C (fun t => if t < i then (if bit rows j t = true then nxF rows C inp F j t else 0) else 0)).set i (nxF rows C inp F j i) = LL C (fun t => if t < i + 1 then (if bit rows j t = true then nxF rows C inp F j t else 0) else 0) := by
    have := LL_up C i (fun t => if bit rows j t = true then nxF rows C inp F j t else 0) 0
    rwa [if_pos hb2] at this
   rw [← e1] at ih2
   have h3 := rround_l2 ok hB x7 j hj _ hll i (by omega) ih2 C 0 (by omega)
   refine Ev.step (fun k => ?_) h3
   simp only [crM_round.l1]
   rw [if_pos (by omega), if_pos (by omega), if_pos (by omega), if_pos (by omega), rd_L1_nat, if_pos (by omega), if_pos hb, if_pos (by omega), Int.toNat_natCast]
   rfl
  ·have hb2 : ¬ bit rows j i = true := by unfold bit; rw [decide_eq_false hb]; decide
   have e1 : LL C (fun t => if t < i then (if bit rows j t = true then nxF rows C inp F j t else 0) else 0) = LL C (fun t => if t < i + 1 then (if bit rows j t = true then nxF rows C inp F j t else 0) else 0) := LL_keep _ i (fun t => if bit rows j t = true then nxF rows C inp F j t else 0) 0 (if_neg hb2)
   rw [← e1] at ih2
   refine Ev.step (fun k => ?_) ih2
   simp only [crM_round.l1]
   rw [if_pos (by omega), if_pos (by omega), if_pos (by omega), if_pos (by omega), rd_L1_nat, if_pos (by omega), if_neg hb, w64_id (by omega) (by omega)]
   rfl
theorem rround_l0 (ok : OkI c rows inp C) {F : Nat → Nat → Int} (hB : Bd F) : ∀ d j : Nat, j + d = rows.length →
  Ev (fun k => crM_round.l0 k inp (fr rows C F) (LL j (fun j => LL C (fun t => if bit rows j t = true then nxF rows C inp F j t else 0))) (j : Int) c rows) (fr rows C (nxF rows C inp F))
 | 0, j, h => by
  obtain rfl : j = rows.length := by omega
  refine Ev.step (f := fun _ => some _) (fun k => ?_) (Ev.now _)
  simp only [crM_round.l0]
  rw [if_neg (by omega)]
  rfl
 | d + 1, j, h => by
  have hc := ok.c
  have hC := ok.hC
  have hr := ok.hr
  have ih := rround_l0 ok hB d (j + 1) (by omega)
  rw [LL_succ] at ih
  have h1 := rround_l1 ok hB _ (by rw [LL_length]; omega) j (by omega) ih C 0 (by omega)
  have e : LL C (fun t => if t < 0 then (if bit rows j t = true then nxF rows C inp F j t else 0) else 0) = List.replicate c.toNat 0 := by
   rw [show c.toNat = C by omega, LL_rep]; exact LL_congr _ _ _ (fun t _ => if_neg (by omega))
  rw [e] at h1
  refine Ev.step (fun k => ?_) h1
  simp only [crM_round.l0]
  rw [if_pos (by omega), if_pos (by omega), if_pos (by omega)]
  rfl
theorem rround_ev (ok : OkI c rows inp C) {F : Nat → Nat → Int} (hB : Bd F) : Ev (fun k => crM_round.f k c rows inp (fr rows C F)) (fr rows C (nxF rows C inp F)) :=
 rround_l0 ok hB rows.length 0 (by omega)
theorem rbel_l2 (ok : OkI c rows inp C) {F : Nat → Nat → Int} (hB : Bd F) : ∀ d p : Nat, p + d = C →
  Ev (fun k => crM_Beliefs.l2 k inp (fr rows C F) (LL p (fun t => smv rows inp F (-1) t)) (p : Int) c rows) (LL C (fun t => smv rows inp F (-1) t))
 | 0, p, h => by
  obtain rfl : p = C := by omega
  have hc := ok.c
  refine Ev.step (f := fun _ => some _) (fun k => ?_) (Ev.now _)
  simp only [crM_Beliefs.l2]
  rw [if_neg (by omega)]
 | d + 1, p, h => by
  have hc := ok.c
  have hC := ok.hC
  have ih := rbel_l2 ok hB d (p + 1) (by omega)
  rw [LL_succ] at ih
  have hll : (LL p (fun t => smv rows inp F (-1) t)).length = p := LL_length _ _
  refine Ev.step (f := fun k => (crM_into.f k c rows inp (fr rows C F) (p : Int) (-1)).bind fun t642 => ((crM_sum.f k t642).bind fun t645 => (if (LL p (fun t => smv rows inp F (-1) t)).length < 17592186044416 then (crM_Beliefs.l2 k inp (fr rows C F) (LL p (fun t => smv rows inp F (-1) t) ++ [t645]) ((p + 1 : Nat) : Int) c rows) else (none)))) (fun k => ?_) ((into_ev rows inp F (-1) p C ok.hr c (by omega) ok.hlen ok.hrl).bind ((rsum_ev rows inp F (-1) p ok.hr hB ok.hI).bind (Ev.congr (fun k => if_pos (by omega)) ih)))
  simp only [crM_Beliefs.l2]
  rw [if_pos (by omega), w64_id (by omega) (by omega)]
  rfl
theorem rbel_l1 (ok : OkI c rows inp C) (R : Nat) (hR : R ≤ 256) : ∀ d r : Nat, r + d = R →
  Ev (fun k => crM_Beliefs.l1 k inp (R : Int) (fr rows C (msF rows C inp r)) (r : Int) c rows) (bel rows C inp R)
 | 0, r, h => by
  obtain rfl : r = R := by omega
  refine Ev.step (fun k => ?_) (rbel_l2 ok (msF_bd rows C inp r) C 0 (by omega))
  simp only [crM_Beliefs.l1]
  rw [if_neg (by omega)]
  rfl
 | d + 1, r, h => by
  have ih := rbel_l1 ok R hR d (r + 1) (by omega)
  refine Ev.step (f := fun k => (crM_round.f k c rows inp (fr rows C (msF rows C inp r))).bind fun t639 => (crM_Beliefs.l1 k inp (R : Int) t639 ((r + 1 : Nat) : Int) c rows)) (fun k => ?_) ((rround_ev ok (msF_bd _ _ _ _)).bind ih)
  simp only [crM_Beliefs.l1]
  rw [if_pos (by omega), w64_id (by omega) (by omega)]
  rfl
theorem rbel_l0 (ok : OkI c rows inp C) (R : Nat) (hR : R ≤ 256) : ∀ d j : Nat, j + d = rows.length →
  Ev (fun k => crM_Beliefs.l0 k inp (R : Int) (LL j (fun j => LL C (fun i => if bit rows j i = true then 0 else 0))) (j : Int) c rows) (bel rows C inp R)
 | 0, j, h => by
  obtain rfl : j = rows.length := by omega
  refine Ev.step (fun k => ?_) (rbel_l1 ok R hR R 0 (by omega))
  simp only [crM_Beliefs.l0]
  rw [if_neg (by omega)]
  rfl
 | d + 1, j, h => by
  have hc := ok.c
  have hC := ok.hC
  have hr := ok.hr
  have ih := rbel_l0 ok R hR d (j + 1) (by omega)
  rw [LL_succ] at ih
  have e : List.replicate c.toNat 0 = LL C (fun i => if bit rows j i = true then (0 : Int) else 0) := by
   rw [show c.toNat = C by omega, LL_rep]; exact LL_congr _ _ _ (fun t _ => by split <;> rfl)
  have hll : (LL j (fun j => LL C (fun i => if bit rows j i = true then (0 : Int) else 0))).length = j := LL_length _ _
  refine Ev.step (fun k => ?_) ih
  simp only [crM_Beliefs.l0]
  rw [if_pos (by omega), if_pos (by omega), if_pos (by omega), if_pos (by omega), e, w64_id (by omega) (by omega)]
  rfl
theorem rBeliefs_ok (ok : OkI c rows inp C) (R : Nat) (hR : R ≤ 256) : Ev (fun k => crM_Beliefs.f k c rows inp (R : Int)) (bel rows C inp R) :=
 rbel_l0 ok R hR rows.length 0 (by omega)
end
/-- The decisions. -/
def dec (l : List Int) : List Int := LL l.length (fun i => if rd l (i : Int) < 0 then 1 else 0)
section
variable (l : List Int) (hl : l.length ≤ 256)
include hl
theorem dec_l0 : ∀ d i : Nat, i + d = l.length → Ev (fun k => message_Decide.l0 k (LL l.length (fun t => if t < i then (if rd l (t : Int) < 0 then 1 else 0) else 0)) l (l.length : Int) (i : Int)) (dec l)
 | 0, i, h => by
  obtain rfl : i = l.length := by omega
  refine Ev.step (f := fun _ => some _) (fun k => ?_) (Ev.now _)
  simp only [message_Decide.l0]
  rw [if_neg (by omega)]
  exact congrArg some (LL_congr _ _ _ (fun t ht => if_pos ht))
 | d + 1, i, h => by
  have ih := dec_l0 d (i + 1) (by omega)
  have hll : (LL l.length (fun t => if t < i then (if rd l (t : Int) < 0 then (1 : Int) else 0) else 0)).length = l.length := LL_length _ _
  by_cases h1 : rd l (i : Int) < 0
  ·have e1 : (LL l.length (fun t => if t < i then (if rd l (t : Int) < 0 then (1 : Int) else 0) else 0)).set i 1 = LL l.length (fun t => if t < i + 1 then (if rd l (t : Int) < 0 then 1 else 0) else 0) := by
    have := LL_up l.length i (fun t => if rd l (t : Int) < 0 then (1 : Int) else 0) 0
    rwa [if_pos h1] at this
   rw [← e1] at ih
   refine Ev.step (fun k => ?_) ih
   simp only [message_Decide.l0]
   rw [if_pos (by omega), if_pos (by omega), if_pos (by omega), if_pos h1, if_pos (by omega), w64_id (by omega) (by omega), Int.toNat_natCast]
   rfl
  ·have e1 : LL l.length (fun t => if t < i then (if rd l (t : Int) < 0 then (1 : Int) else 0) else 0) = LL l.length (fun t => if t < i + 1 then (if rd l (t : Int) < 0 then 1 else 0) else 0) := LL_keep _ i (fun t => if rd l (t : Int) < 0 then (1 : Int) else 0) 0 (if_neg h1)
   rw [← e1] at ih
   refine Ev.step (fun k => ?_) ih
   simp only [message_Decide.l0]
   rw [if_pos (by omega), if_pos (by omega), if_pos (by omega), if_neg h1, w64_id (by omega) (by omega)]
   rfl
theorem rdec_l0 : ∀ d i : Nat, i + d = l.length → Ev (fun k => crM_Decide.l0 k l (LL l.length (fun t => if t < i then (if rd l (t : Int) < 0 then 1 else 0) else 0)) (i : Int)) (dec l)
 | 0, i, h => by
  obtain rfl : i = l.length := by omega
  refine Ev.step (f := fun _ => some _) (fun k => ?_) (Ev.now _)
  simp only [crM_Decide.l0]
  rw [if_neg (by omega)]
  exact congrArg some (LL_congr _ _ _ (fun t ht => if_pos ht))
 | d + 1, i, h => by
  have ih := rdec_l0 d (i + 1) (by omega)
  have hll : (LL l.length (fun t => if t < i then (if rd l (t : Int) < 0 then (1 : Int) else 0) else 0)).length = l.length := LL_length _ _
  by_cases h1 : rd l (i : Int) < 0
  ·have e1 : (LL l.length (fun t => if t < i then (if rd l (t : Int) < 0 then (1 : Int) else 0) else 0)).set i 1 = LL l.length (fun t => if t < i + 1 then (if rd l (t : Int) < 0 then 1 else 0) else 0) := by
    have := LL_up l.length i (fun t => if rd l (t : Int) < 0 then (1 : Int) else 0) 0
    rwa [if_pos h1] at this
   rw [← e1] at ih
   refine Ev.step (fun k => ?_) ih
   simp only [crM_Decide.l0]
   rw [if_pos (by omega), if_pos (by omega), if_pos h1, if_pos (by omega), w64_id (by omega) (by omega), Int.toNat_natCast]
   rfl
  ·have e1 : LL l.length (fun t => if t < i then (if rd l (t : Int) < 0 then (1 : Int) else 0) else 0) = LL l.length (fun t => if t < i + 1 then (if rd l (t : Int) < 0 then 1 else 0) else 0) := LL_keep _ i (fun t => if rd l (t : Int) < 0 then (1 : Int) else 0) 0 (if_neg h1)
   rw [← e1] at ih
   refine Ev.step (fun k => ?_) ih
   simp only [crM_Decide.l0]
   rw [if_pos (by omega), if_pos (by omega), if_neg h1, w64_id (by omega) (by omega)]
   rfl
theorem Decide_ev : Ev (fun k => message_Decide.f k l) (dec l) := by
 have h := dec_l0 l hl l.length 0 (by omega)
 have e : LL l.length (fun t => if t < 0 then (if rd l (t : Int) < 0 then (1 : Int) else 0) else 0) = List.replicate l.length 0 := by rw [LL_rep]; exact LL_congr _ _ _ (fun t _ => if_neg (by omega))
 rw [e] at h
 refine Ev.congr (fun k => ?_) h
 unfold message_Decide.f
 rw [if_pos (by omega), if_pos (by omega), Int.toNat_natCast]
 rfl
theorem rDecide_ev : Ev (fun k => crM_Decide.f k l) (dec l) := by
 have h := rdec_l0 l hl l.length 0 (by omega)
 have e : LL l.length (fun t => if t < 0 then (if rd l (t : Int) < 0 then (1 : Int) else 0) else 0) = List.replicate l.length 0 := by rw [LL_rep]; exact LL_congr _ _ _ (fun t _ => if_neg (by omega))
 rw [e] at h
 refine Ev.congr (fun k => ?_) h
 unfold crM_Decide.f
 rw [if_pos (by omega), if_pos (by omega), Int.toNat_natCast]
 rfl
end
end Go.Proofs.Ytmclalniilkjiaa.Be
namespace Go.Proofs.Ytmclalniilkjiaa.Q
open Go.RowKit Go.Proofs.YtmclalniilkjiaaW.PrintWords Go.Proofs.YtmclalniilkjiaaW.PrintLast Go.Proofs.YtmclalniilkjiaaW.PrintMore
open List renaming setIfInBounds_toArray → l01_, set_cons_zero → l02_, set_cons_succ → l03_
attribute [local go_sem] max2_int min2_int max_two min_two max_three min_three max_four min_four
set_option linter.unusedVariables false
set_option linter.unusedSimpArgs false
def message_MinSum.l0 : Nat → List Int → Int → List (List Int) → Int → List (List Int) → List (List (S77)) → Option (List Int × Int × Int)
 | 0, _, _, _, _, _, _ => none
 | k + 1, x1, x2, x11, x12, x656000, x656001 => (mg_beliefs.f k x656000 x656001 x1 x11).bind fun t660 => ((message_Decide.f k t660).bind fun t663 => ((mg_unsatisfied.f k x656000 x656001 t663).bind fun t666 => (if (t666.length : Int) = 0 then (some (t663, x12, 0)) else (if x12 = x2 then (some (([] : List Int), 0, 12)) else ((mg_round.f k x656000 x656001 x1 x11).bind fun t669 => (message_MinSum.l0 k x1 x2 t669 (wrap64 (x12 + 1)) x656000 x656001))))))
def message_MinSum.f (k : Nat) (a0_0 : Int) (l0_1 : List (List Int)) (l1 : List Int) (a2 : Int) : Option (List Int × Int × Int) := (message_build.f k a0_0 l0_1).bind fun bt648 => (if bt648.2.2 = 0 then ((message_inputs.f k a0_0 l0_1 l1 a2).bind fun t656 => (if t656 = 0 then ((mg_messages.f k bt648.1 bt648.2.1).bind fun t657 => (message_MinSum.l0 k l1 a2 t657 0 bt648.1 bt648.2.1)) else (some (([] : List Int), 0, t656)))) else (some (([] : List Int), 0, bt648.2.2)))
theorem message_MinSum.mono_l : ∀ k, (∀ y0 y1 y2 y3 y4 y5, LeO (message_MinSum.l0 k y0 y1 y2 y3 y4 y5) (message_MinSum.l0 (k + 1) y0 y1 y2 y3 y4 y5))
 | 0 => fun _ _ _ _ _ _ r h => by simp [message_MinSum.l0] at h
 | k + 1 => by
  have ih0 := message_MinSum.mono_l k
  ·intro y0 y1 y2 y3 y4 y5;unfold message_MinSum.l0
   repeat' first
   | (with_reducible exact ih0 _ _ _ _ _ _)
   | (with_reducible exact message_Decide.mono _ _)
   | (with_reducible exact message_build.mono _ _ _)
   | (with_reducible exact mg_beliefs.mono _ _ _ _ _)
   | (with_reducible exact mg_messages.mono _ _ _)
   | (with_reducible exact mg_round.mono _ _ _ _ _)
   | (with_reducible exact mg_unsatisfied.mono _ _ _ _)
   | (with_reducible exact message_inputs.mono _ _ _ _ _)
   | (with_reducible exact LeO.refl _)
   | (with_reducible exact LeO.none _)
   | (with_reducible refine LeO.ite ?_ ?_)
   | (with_reducible refine LeO.bind ?_ (fun _ => ?_))
   | exact ih0 _ _ _ _ _ _
   | exact message_Decide.mono _ _
   | exact message_build.mono _ _ _
   | exact mg_beliefs.mono _ _ _ _ _
   | exact mg_messages.mono _ _ _
   | exact mg_round.mono _ _ _ _ _
   | exact mg_unsatisfied.mono _ _ _ _
   | exact message_inputs.mono _ _ _ _ _
   | exact LeO.none _
   | refine LeO.ite ?_ ?_
   | refine LeO.bind ?_ (fun _ => ?_)
theorem message_MinSum.mono : ∀ a0 a1 a2 a3 k, LeO (message_MinSum.f k a0 a1 a2 a3) (message_MinSum.f (k + 1) a0 a1 a2 a3) := by
 intro a0 a1 a2 a3 k;have ih0 := message_MinSum.mono_l k;unfold message_MinSum.f
 repeat' first
   | (with_reducible exact ih0 _ _ _ _ _ _)
   | (with_reducible exact message_Decide.mono _ _)
   | (with_reducible exact message_build.mono _ _ _)
   | (with_reducible exact mg_beliefs.mono _ _ _ _ _)
   | (with_reducible exact mg_messages.mono _ _ _)
   | (with_reducible exact mg_round.mono _ _ _ _ _)
   | (with_reducible exact mg_unsatisfied.mono _ _ _ _)
   | (with_reducible exact message_inputs.mono _ _ _ _ _)
   | (with_reducible exact LeO.refl _)
   | (with_reducible exact LeO.none _)
   | (with_reducible refine LeO.ite ?_ ?_)
   | (with_reducible refine LeO.bind ?_ (fun _ => ?_))
   | exact ih0 _ _ _ _ _ _
   | exact message_Decide.mono _ _
   | exact message_build.mono _ _ _
   | exact mg_beliefs.mono _ _ _ _ _
   | exact mg_messages.mono _ _ _
   | exact mg_round.mono _ _ _ _ _
   | exact mg_unsatisfied.mono _ _ _ _
   | exact message_inputs.mono _ _ _ _ _
   | exact LeO.none _
   | refine LeO.ite ?_ ?_
   | refine LeO.bind ?_ (fun _ => ?_)
set_option maxHeartbeats 8000000 in
set_option maxRecDepth 100000 in
theorem message_MinSum.calls (k : Nat) (a0_0 : Int) (A0_1 : Option Addr) (c0_1 : Nat) (l0_1 : List (List Int)) (A1 : Option Addr) (c1 : Nat) (l1 : List Int) (a2 : Int) (r1 : List Int) (r2 : Int) (r3 : Int) (w : World) (hr0_1 : Kd.C (Kd.slice 3 (Kd.int .i64)) w A0_1 l0_1.length l0_1) (hc0_1 : l0_1.length ≤ c0_1) (hr1 : Kd.C (Kd.int .i64) w A1 l1.length l1) (hc1 : l1.length ≤ c1) (h : message_MinSum.f k a0_0 l0_1 l1 a2 = some (r1, r2, r3)) :
  Calls Try.prog 19 #[.agg #[.int .i64 a0_0, .slice A0_1 l0_1.length c0_1], .slice A1 l1.length c1, .int .i64 a2] w fun e w' => ∃ v0_ : Value, e = .returned (.tuple #[v0_, .int .i64 r2, .int .i64 r3]) ∧ Kd.R (Kd.int .i64) 3 w' w.heap.size (fun _ => True) v0_ r1 ∧ Below w.heap.size w w' := by
 have hu24 := Try.underlying24;have hu73 := Try.underlying73;have HR0_1 := Ai0.mk hr0_1;have HC0_1 := Ai0.mk hc0_1;clear hr0_1 hc0_1;have HR1 := Ai0.mk hr1;have HC1 := Ai0.mk hc1;clear hr1 hc1;have HB := Ai0.mk (Below.refl w.heap.size w);have H : ((message_build.f k a0_0 l0_1).bind fun bt648 => (if bt648.2.2 = 0 then ((message_inputs.f k a0_0 l0_1 l1 a2).bind fun t656 => (if t656 = 0 then ((mg_messages.f k bt648.1 bt648.2.1).bind fun t657 => (message_MinSum.l0 k l1 a2 t657 0 bt648.1 bt648.2.1)) else (some (([] : List Int), 0, t656)))) else (some (([] : List Int), 0, bt648.2.2)))) = some (r1, r2, r3) := h;clear h;replace H := Option.bind_eq_some_iff.mp H;obtain ⟨⟨t648, t651, t654⟩, A40, H⟩ := H;replace H : (if t654 = 0 then ((message_inputs.f k a0_0 l0_1 l1 a2).bind fun t656 => (if t656 = 0 then ((mg_messages.f k t648 t651).bind fun t657 => (message_MinSum.l0 k l1 a2 t657 0 t648 t651)) else (some (([] : List Int), 0, t656)))) else (some (([] : List Int), 0, t654))) = some (r1, r2, r3) := H;have A4 := Ai0.mk A40;clear A40;by_cases c5 : t654 = 0
 ·rw [if_pos c5] at H;have c5b0 : (t654 == 0) = true := beq_iff_eq.mpr c5;have c5b1 : (t654 != 0) = false := bne_eq_false_iff_eq.mpr c5;clear c5;replace H := Option.bind_eq_some_iff.mp H;obtain ⟨t656, A60, H⟩ := H;replace H : (if t656 = 0 then ((mg_messages.f k t648 t651).bind fun t657 => (message_MinSum.l0 k l1 a2 t657 0 t648 t651)) else (some (([] : List Int), 0, t656))) = some (r1, r2, r3) := H;have A6 := Ai0.mk A60;clear A60;by_cases c7 : t656 = 0
  ·rw [if_pos c7] at H;have c7b0 : (t656 == 0) = true := beq_iff_eq.mpr c7;have c7b1 : (t656 != 0) = false := bne_eq_false_iff_eq.mpr c7;clear c7;replace H := Option.bind_eq_some_iff.mp H;obtain ⟨t657, A80, H⟩ := H;replace H : (message_MinSum.l0 k l1 a2 t657 0 t648 t651) = some (r1, r2, r3) := H;have A8 := Ai0.mk A80;clear A80;have H' := Ai0.mk H;clear H;go_enter Try.func19, Try.ntmps19
   go_wp2_with (first | ((with_reducible refine gate_dst (N := 3) rfl ?_); refine box_event ?hg (N := 3) ?hd (cs := #[.int .i64 a0_0, .slice A0_1 l0_1.length c0_1]) (t := 24) ?hr ?_; (case hd => rfl); (case hg => rfl); (case hr => first | (go_simp; done) | (go_simp; rfl)); intro gb647 hg w9 hbox hb; have n0_ := Ai0.mk (bt1 bl_ hb); have n1_ := Ai0.mk (hbox); have n2_ := Ai0.mk ((by rw [hg]; exact (bz1 bl_) : w.heap.size ≤ gb647)); have n3_ := Ai0.mk ((by rw [hg]; exact (bz1 bl_) : w.heap.size ≤ gb647)); clear HB; have HB := n0_; have BK647 := n1_; have GW647 := n2_; have GE647 := n3_; clear n0_ n1_ n2_ n3_; clear hb hbox hg; have hcz10_0 : w9.cell? ⟨gb647, 0, none⟩ = some (.int .i64 a0_0) := (kc1 BK647.out 0).trans rfl; have hcz10_1 : w9.cell? ⟨gb647, 1, none⟩ = some (.slice A0_1 l0_1.length c0_1) := (kc1 BK647.out 1).trans rfl; have hfz10_0 := kf1 BK647.out 0; have hfz10_1 := kf1 BK647.out 1) | ((with_reducible refine gate_callee (f := 44) rfl ?_); refine goesL_ (some 15) rfl rfl Try.func44 (by kernel_rfl) rfl #[.agg #[.int .i64 a0_0, .slice A0_1 l0_1.length c0_1]] rfl (by (try simp only [List.map_toArray, List.map_cons, List.map_nil]); first | done | rfl | (simp only [List.length_drop, List.length_take]; rfl)) ?_; (with_reducible refine (message_build.calls k a0_0 _ _ l0_1 t648 t651 t654 _ ?side1 ?side2 A4.out).mono ?_); (case side1 => exact kc_ HR0_1.out); (case side2 => exact HC0_1.out); rintro e w11 ⟨gg_, rfl, hb, hbu_⟩; obtain ⟨gb655, v649, v652, rfl, hge_, hbk_, ho0, ho1⟩ := Built.ok hbu_ (beq_iff_eq.mp c5b0); refine ⟨_, rfl, ?_⟩; have BK655 := Ai0.mk hbk_; have GE655 := Ai0.mk (Nat.le_trans (bz1 bl_) hge_); have GW655 := GE655; have NB647_655 := Ai0.mk (Nat.ne_of_lt (Nat.lt_of_lt_of_le (blk_lt (g := gb647) (o := .cells #[.int .i64 a0_0, .slice A0_1 l0_1.length c0_1] 24 (0, 0)) (kk_ BK647.out)) hge_)); have NB655_647 := Ai0.mk (Ne.symm NB647_655.out); clear hbk_ hge_ hbu_; have n0_ := Ai0.mk (Kd.S_lower ho0 (bz1 bl_)); have n1_ := Ai0.mk (Kd.S_lower ho1 (bz1 bl_)); have n2_ := Ai0.mk (kb1 (g := gb647) (o := .cells #[.int .i64 a0_0, .slice A0_1 l0_1.length c0_1] 24 (0, 0)) (kk_ BK647.out) hb); have n3_ := Ai0.mk (bt1 bl_ hb); clear BK647; clear HB; have HO650 := n0_; have HO653 := n1_; have BK647 := n2_; have HB := n3_; clear n0_ n1_ n2_ n3_; (try clear hb); (try clear hb2); (try clear hk); (try clear hi); (try clear ho0); (try clear ho1); obtain ⟨Ao12, co12, eo12⟩ := Kd.S_slice HO653.out; subst eo12; obtain ⟨Ao13, co13, eo13⟩ := Kd.S_slice HO650.out; subst eo13; have hnb15 := NB647_655.out; have hnc15 := NB655_647.out; have hcz16_0 : w11.cell? ⟨gb647, 0, none⟩ = some (.int .i64 a0_0) := (kc1 BK647.out 0).trans rfl; have hcz16_1 : w11.cell? ⟨gb647, 1, none⟩ = some (.slice A0_1 l0_1.length c0_1) := (kc1 BK647.out 1).trans rfl; have hfz16_0 := kf1 BK647.out 0; have hfz16_1 := kf1 BK647.out 1) | ((with_reducible refine gate_callee (f := 45) rfl ?_); refine goesL_ (some 24) rfl rfl Try.func45 (by kernel_rfl) rfl #[.agg #[.int .i64 a0_0, .slice A0_1 l0_1.length c0_1], .slice A1 l1.length c1, .int .i64 a2] rfl (by (try simp only [List.map_toArray, List.map_cons, List.map_nil]); first | done | rfl | (simp only [List.length_drop, List.length_take]; rfl)) ?_; (with_reducible refine (message_inputs.calls k a0_0 _ _ l0_1 _ _ l1 a2 t656 _ ?side1 ?side2 ?side3 ?side4 A6.out).mono ?_); (case side1 => exact kc_ HR0_1.out); (case side2 => exact HC0_1.out); (case side3 => exact kc_ HR1.out); (case side4 => exact HC1.out); rintro e w17 ⟨rfl, hb⟩; refine ⟨_, rfl, ?_⟩; have n0_ := Ai0.mk (Kd.S_below (ks_ HO650.out) hb); have n1_ := Ai0.mk (Kd.S_below (ks_ HO653.out) hb); have n2_ := Ai0.mk (kb1 (g := gb647) (o := .cells #[.int .i64 a0_0, .slice A0_1 l0_1.length c0_1] 24 (0, 0)) (kk_ BK647.out) hb); have n3_ := Ai0.mk (kb1 (g := gb655) (o := .cells #[.slice Ao13 t648.length co13, .slice Ao12 t651.length co12] 73 (0, 0)) (kk_ BK655.out) hb); have n4_ := Ai0.mk (bt1 bl_ hb); clear HO650; clear HO653; clear BK647; clear BK655; clear HB; have HO650 := n0_; have HO653 := n1_; have BK647 := n2_; have BK655 := n3_; have HB := n4_; clear n0_ n1_ n2_ n3_ n4_; (try clear hb); (try clear hb2); (try clear hk); (try clear hi); have hcz18_0 : w17.cell? ⟨gb655, 0, none⟩ = some (.slice Ao13 t648.length co13) := (kc1 BK655.out 0).trans rfl; have hcz18_1 : w17.cell? ⟨gb655, 1, none⟩ = some (.slice Ao12 t651.length co12) := (kc1 BK655.out 1).trans rfl; have hfz18_0 := kf1 BK655.out 0; have hfz18_1 := kf1 BK655.out 1) | ((with_reducible refine gate_callee (f := 46) rfl ?_); refine goesL_ (some 29) rfl rfl Try.func46 (by kernel_rfl) rfl #[.pointer (some ⟨gb655, 0, none⟩)] rfl (by (try simp only [List.map_toArray, List.map_cons, List.map_nil]); first | done | rfl | (simp only [List.length_drop, List.length_take]; rfl)) ?_; (with_reducible refine (mg_messages.calls k Ao13 co13 t648 Ao12 co12 t651 t657 gb655 _ ?side1 ?side2 ?side3 ?side4 ?sideG A8.out).mono ?_); (case sideG => (with_reducible repeat (first | refine kn1 ?_ _ | refine kd1 ?_ | refine ka1 ?_ _)); exact BK655.out); (case side1 => repeat (first | exact (Kd.S_reads' HO650.out).2.2 | (with_reducible refine Kd.C_alloc ?_ _) | (with_reducible refine Kd.C_drewN ?_ _) | (with_reducible refine Kd.C_drew ?_))); (case side2 => exact (Kd.S_reads' HO650.out).2.1); (case side3 => repeat (first | exact (Kd.S_reads' HO653.out).2.2 | (with_reducible refine Kd.C_alloc ?_ _) | (with_reducible refine Kd.C_drewN ?_ _) | (with_reducible refine Kd.C_drew ?_))); (case side4 => exact (Kd.S_reads' HO653.out).2.1); rintro e w19 ⟨v658, rfl, ho0, hb⟩; refine ⟨_, rfl, ?_⟩; have n0_ := Ai0.mk (Kd.S_elder' (ks_ HO650.out) (Kd.S_base ho0) hb); have n1_ := Ai0.mk (Kd.S_below (ks_ HO653.out) hb); have n2_ := Ai0.mk (Kd.S_lower (Kd.S_new' ho0 (Kd.S_lt (ks_ HO650.out))) (bz1 bl_)); have n3_ := Ai0.mk (kb1 (g := gb647) (o := .cells #[.int .i64 a0_0, .slice A0_1 l0_1.length c0_1] 24 (0, 0)) (kk_ BK647.out) hb); have n4_ := Ai0.mk (kb1 (g := gb655) (o := .cells #[.slice Ao13 t648.length co13, .slice Ao12 t651.length co12] 73 (0, 0)) (kk_ BK655.out) hb); have n5_ := Ai0.mk (bt1 bl_ hb); clear HO650; clear HO653; clear BK647; clear BK655; clear HB; have HO650 := n0_; have HO653 := n1_; have HO659 := n2_; have BK647 := n3_; have BK655 := n4_; have HB := n5_; clear n0_ n1_ n2_ n3_ n4_ n5_; (try clear hb); (try clear hb2); (try clear hk); (try clear hi); (try clear ho0)))
   go_loopg [11, 12] k (fun kq v11 v12 w' => ∃ (x11_1 : List (List Int)) (x12_1 : Int), v12 = .int .i64 x12_1 ∧ Ai0 (message_MinSum.l0 kq l1 a2 x11_1 x12_1 t648 t651 = some (r1, r2, r3)) ∧ Ai0 (kq ≤ k) ∧ Ai0 (Kd.S (Kd.slice 3 (Kd.int .i64)) 25 w' w.heap.size (fun k_ => some k_ ≠ ((.slice Ao13 t648.length co13) : Value).ownBlock) v11 x11_1) ∧ Ai0 (Kd.S (Kd.slice 3 (Kd.int .i64)) 25 w' w.heap.size (fun k_ => some k_ ≠ (v11 : Value).ownBlock) (.slice Ao13 t648.length co13) t648) ∧ Ai0 (Kd.S (Kd.slice 77 k77) 75 w' w.heap.size (fun _ => True) (.slice Ao12 t651.length co12) t651) ∧ Ai0 (w'.heap[gb647]? = some (.cells #[.int .i64 a0_0, (.slice A0_1 l0_1.length c0_1)] 24 (0, 0))) ∧ Ai0 (w'.heap[gb655]? = some (.cells #[(.slice Ao13 t648.length co13), (.slice Ao12 t651.length co12)] 73 (0, 0))) ∧ Ai0 (Below w.heap.size w w'))
   case atStart => exact ⟨(t657), (0), rf_, H', ⟨Nat.le_refl _⟩, ⟨by (with_reducible repeat (first | apply Kd.S_alloc | apply Kd.S_drewN | apply Kd.S_drew)); exact Kd.S_mono HO659.out (fun _ hk => hk.2)⟩, ⟨by (with_reducible repeat (first | apply Kd.S_alloc | apply Kd.S_drewN | apply Kd.S_drew)); exact Kd.S_mono HO650.out (fun _ hk => hk.2)⟩, ⟨ks_ HO653.out⟩, ⟨kk_ BK647.out⟩, ⟨kk_ BK655.out⟩, ⟨bl_⟩⟩
   case round =>
    clear H'
    try clear c1
    try clear p2
    try clear c4
    try clear c5
    try clear c5b0
    try clear c5b1
    try clear c7
    try clear c7b0
    try clear c7b1
    try clear c15
    try clear c19
    try clear hcz10_0
    try clear hcz10_1
    try clear hcz16_0
    try clear hcz16_1
    try clear hcz18_0
    try clear hcz18_1
    try clear hfz10_0
    try clear hfz10_1
    try clear hfz16_0
    try clear hfz16_1
    try clear hfz18_0
    try clear hfz18_1
    obtain ⟨x11_1, x12_1, rfl, HA, HK1, HO_11, HO_656000, HO_656001, BK647, BK655, HB⟩ := hrel
    cases gk with
    | zero => exact absurd HA.out (by simp [message_MinSum.l0])
    | succ k1 =>
     have H := HA.out;clear HA;simp only [message_MinSum.l0] at H;replace H := Option.bind_eq_some_iff.mp H;obtain ⟨t660, A200, H⟩ := H;replace H : ((message_Decide.f k1 t660).bind fun t663 => ((mg_unsatisfied.f k1 t648 t651 t663).bind fun t666 => (if (t666.length : Int) = 0 then (some (t663, x12_1, 0)) else (if x12_1 = a2 then (some (([] : List Int), 0, 12)) else ((mg_round.f k1 t648 t651 l1 x11_1).bind fun t669 => (message_MinSum.l0 k1 l1 a2 t669 (wrap64 (x12_1 + 1)) t648 t651)))))) = some (r1, r2, r3) := H;have A20 := Ai0.mk A200;clear A200;replace H := Option.bind_eq_some_iff.mp H;obtain ⟨t663, A210, H⟩ := H;replace H : ((mg_unsatisfied.f k1 t648 t651 t663).bind fun t666 => (if (t666.length : Int) = 0 then (some (t663, x12_1, 0)) else (if x12_1 = a2 then (some (([] : List Int), 0, 12)) else ((mg_round.f k1 t648 t651 l1 x11_1).bind fun t669 => (message_MinSum.l0 k1 l1 a2 t669 (wrap64 (x12_1 + 1)) t648 t651))))) = some (r1, r2, r3) := H;have A21 := Ai0.mk A210;clear A210;replace H := Option.bind_eq_some_iff.mp H;obtain ⟨t666, A220, H⟩ := H;replace H : (if (t666.length : Int) = 0 then (some (t663, x12_1, 0)) else (if x12_1 = a2 then (some (([] : List Int), 0, 12)) else ((mg_round.f k1 t648 t651 l1 x11_1).bind fun t669 => (message_MinSum.l0 k1 l1 a2 t669 (wrap64 (x12_1 + 1)) t648 t651)))) = some (r1, r2, r3) := H;have A22 := Ai0.mk A220;clear A220;by_cases c23 : (t666.length : Int) = 0
     ·rw [if_pos c23] at H;have c23b0 : ((t666.length : Int) == 0) = true := beq_iff_eq.mpr c23;have c23b1 : ((t666.length : Int) != 0) = false := bne_eq_false_iff_eq.mpr c23;clear c23;simp only [Option.some.injEq, Prod.mk.injEq] at H;obtain ⟨rfl, rfl, rfl⟩ := H;have hnb24 := NB655_647.out;have hnc24 := NB647_655.out;have hcz25_0 : wr.cell? ⟨gb655, 0, none⟩ = some (.slice Ao13 t648.length co13) := (kc1 BK655.out 0).trans rfl;have hcz25_1 : wr.cell? ⟨gb655, 1, none⟩ = some (.slice Ao12 t651.length co12) := (kc1 BK655.out 1).trans rfl;have hfz25_0 := kf1 BK655.out 0;have hfz25_1 := kf1 BK655.out 1;obtain ⟨Ao26, co26, eo26⟩ := Kd.S_slice HO_11.out;subst eo26
      go_wp2_with (first | ((with_reducible refine gate_callee (f := 48) rfl ?_); refine goesL_ (some 35) rfl rfl Try.func48 (by kernel_rfl) rfl #[.pointer (some ⟨gb655, 0, none⟩), .slice A1 l1.length c1, .slice Ao26 x11_1.length co26] rfl (by (try simp only [List.map_toArray, List.map_cons, List.map_nil]); first | done | rfl | (simp only [List.length_drop, List.length_take]; rfl)) ?_; (with_reducible refine (mg_beliefs.calls k1 Ao13 co13 t648 Ao12 co12 t651 _ _ l1 _ _ x11_1 t660 gb655 _ ?side1 ?side2 ?side3 ?side4 ?side5 ?side6 ?side7 ?side8 ?sideG A20.out).mono ?_); (case sideG => (with_reducible repeat (first | refine kn1 ?_ _ | refine kd1 ?_ | refine ka1 ?_ _)); exact BK655.out); (case side1 => repeat (first | exact (Kd.S_reads' HO_656000.out).2.2 | (with_reducible refine Kd.C_alloc ?_ _) | (with_reducible refine Kd.C_drewN ?_ _) | (with_reducible refine Kd.C_drew ?_))); (case side2 => exact (Kd.S_reads' HO_656000.out).2.1); (case side3 => repeat (first | exact (Kd.S_reads' HO_656001.out).2.2 | (with_reducible refine Kd.C_alloc ?_ _) | (with_reducible refine Kd.C_drewN ?_ _) | (with_reducible refine Kd.C_drew ?_))); (case side4 => exact (Kd.S_reads' HO_656001.out).2.1); (case side5 => exact kc_ HR1.out); (case side6 => exact HC1.out); (case side7 => repeat (first | exact (Kd.S_reads' HO_11.out).2.2 | (with_reducible refine Kd.C_alloc ?_ _) | (with_reducible refine Kd.C_drewN ?_ _) | (with_reducible refine Kd.C_drew ?_))); (case side8 => exact (Kd.S_reads' HO_11.out).2.1); rintro e w27 ⟨v661, rfl, ho0, hb⟩; refine ⟨_, rfl, ?_⟩; have n0_ := Ai0.mk (Kd.S_elder' (ks_ HO_11.out) (Kd.R_base ho0) hb); have n1_ := Ai0.mk (Kd.S_elder' (ks_ HO_656000.out) (Kd.R_base ho0) hb); have n2_ := Ai0.mk (Kd.S_below (ks_ HO_656001.out) hb); have n3_ := Ai0.mk (Kd.R_lower ho0 (bz1 bl_)); have n4_ := Ai0.mk (kb1 (g := gb647) (o := .cells #[.int .i64 a0_0, .slice A0_1 l0_1.length c0_1] 24 (0, 0)) (kk_ BK647.out) hb); have n5_ := Ai0.mk (kb1 (g := gb655) (o := .cells #[.slice Ao13 t648.length co13, .slice Ao12 t651.length co12] 73 (0, 0)) (kk_ BK655.out) hb); have n6_ := Ai0.mk (bt1 bl_ hb); clear HO_11; clear HO_656000; clear HO_656001; clear BK647; clear BK655; clear HB; have HO_11 := n0_; have HO_656000 := n1_; have HO_656001 := n2_; have HO662 := n3_; have BK647 := n4_; have BK655 := n5_; have HB := n6_; clear n0_ n1_ n2_ n3_ n4_ n5_ n6_; (try clear hb); (try clear hb2); (try clear hk); (try clear hi); (try clear ho0); obtain ⟨Ao28, co28, eo28⟩ := Kd.R_slice HO662.out; subst eo28) | ((with_reducible refine gate_callee (f := 41) rfl ?_); refine goesL_ (some 36) rfl rfl Try.func41 (by kernel_rfl) rfl #[.slice Ao28 t660.length co28] rfl (by (try simp only [List.map_toArray, List.map_cons, List.map_nil]); first | done | rfl | (simp only [List.length_drop, List.length_take]; rfl)) ?_; (with_reducible refine (message_Decide.calls k1 _ _ t660 t663 _ ?side1 ?side2 A21.out).mono ?_); (case side1 => repeat (first | exact (Kd.R_reads' HO662.out).2.2 | (with_reducible refine Kd.C_alloc ?_ _) | (with_reducible refine Kd.C_drewN ?_ _) | (with_reducible refine Kd.C_drew ?_))); (case side2 => exact (Kd.R_reads' HO662.out).2.1); rintro e w29 ⟨v664, rfl, ho0, hb⟩; refine ⟨_, rfl, ?_⟩; have n0_ := Ai0.mk (Kd.S_elder' (ks_ HO_11.out) (Kd.R_base ho0) hb); have n1_ := Ai0.mk (Kd.S_elder' (ks_ HO_656000.out) (Kd.R_base ho0) hb); have n2_ := Ai0.mk (Kd.S_below (ks_ HO_656001.out) hb); have n3_ := Ai0.mk (Kd.R_elder' (kr_ HO662.out) (Kd.R_base ho0) hb); have n4_ := Ai0.mk (Kd.R_lower (Kd.R_new' ho0 (Kd.R_lt (kr_ HO662.out))) (bz1 bl_)); have n5_ := Ai0.mk (kb1 (g := gb647) (o := .cells #[.int .i64 a0_0, .slice A0_1 l0_1.length c0_1] 24 (0, 0)) (kk_ BK647.out) hb); have n6_ := Ai0.mk (kb1 (g := gb655) (o := .cells #[.slice Ao13 t648.length co13, .slice Ao12 t651.length co12] 73 (0, 0)) (kk_ BK655.out) hb); have n7_ := Ai0.mk (bt1 bl_ hb); clear HO_11; clear HO_656000; clear HO_656001; clear HO662; clear BK647; clear BK655; clear HB; have HO_11 := n0_; have HO_656000 := n1_; have HO_656001 := n2_; have HO662 := n3_; have HO665 := n4_; have BK647 := n5_; have BK655 := n6_; have HB := n7_; clear n0_ n1_ n2_ n3_ n4_ n5_ n6_ n7_; (try clear hb); (try clear hb2); (try clear hk); (try clear hi); (try clear ho0); have hcz30_0 : w29.cell? ⟨gb655, 0, none⟩ = some (.slice Ao13 t648.length co13) := (kc1 BK655.out 0).trans rfl; have hcz30_1 : w29.cell? ⟨gb655, 1, none⟩ = some (.slice Ao12 t651.length co12) := (kc1 BK655.out 1).trans rfl; have hfz30_0 := kf1 BK655.out 0; have hfz30_1 := kf1 BK655.out 1; obtain ⟨Ao31, co31, eo31⟩ := Kd.R_slice HO665.out; subst eo31) | ((with_reducible refine gate_callee (f := 49) rfl ?_); refine goesL_ (some 39) rfl rfl Try.func49 (by kernel_rfl) rfl #[.pointer (some ⟨gb655, 0, none⟩), .slice Ao31 t663.length co31] rfl (by (try simp only [List.map_toArray, List.map_cons, List.map_nil]); first | done | rfl | (simp only [List.length_drop, List.length_take]; rfl)) ?_; (with_reducible refine (mg_unsatisfied.calls k1 Ao13 co13 t648 Ao12 co12 t651 _ _ t663 t666 gb655 _ ?side1 ?side2 ?side3 ?side4 ?side5 ?side6 ?sideG A22.out).mono ?_); (case sideG => (with_reducible repeat (first | refine kn1 ?_ _ | refine kd1 ?_ | refine ka1 ?_ _)); exact BK655.out); (case side1 => repeat (first | exact (Kd.S_reads' HO_656000.out).2.2 | (with_reducible refine Kd.C_alloc ?_ _) | (with_reducible refine Kd.C_drewN ?_ _) | (with_reducible refine Kd.C_drew ?_))); (case side2 => exact (Kd.S_reads' HO_656000.out).2.1); (case side3 => repeat (first | exact (Kd.S_reads' HO_656001.out).2.2 | (with_reducible refine Kd.C_alloc ?_ _) | (with_reducible refine Kd.C_drewN ?_ _) | (with_reducible refine Kd.C_drew ?_))); (case side4 => exact (Kd.S_reads' HO_656001.out).2.1); (case side5 => repeat (first | exact (Kd.R_reads' HO665.out).2.2 | (with_reducible refine Kd.C_alloc ?_ _) | (with_reducible refine Kd.C_drewN ?_ _) | (with_reducible refine Kd.C_drew ?_))); (case side6 => exact (Kd.R_reads' HO665.out).2.1); rintro e w32 ⟨v667, rfl, ho0, hb⟩; refine ⟨_, rfl, ?_⟩; have n0_ := Ai0.mk (Kd.S_elder' (ks_ HO_11.out) (Kd.R_base ho0) hb); have n1_ := Ai0.mk (Kd.S_elder' (ks_ HO_656000.out) (Kd.R_base ho0) hb); have n2_ := Ai0.mk (Kd.S_below (ks_ HO_656001.out) hb); have n3_ := Ai0.mk (Kd.R_elder' (kr_ HO662.out) (Kd.R_base ho0) hb); have n4_ := Ai0.mk (Kd.R_elder' (kr_ HO665.out) (Kd.R_base ho0) hb); have n5_ := Ai0.mk (Kd.R_lower (Kd.R_new' (Kd.R_new' ho0 (Kd.R_lt (kr_ HO662.out))) (Kd.R_lt (kr_ HO665.out))) (bz1 bl_)); have n6_ := Ai0.mk (kb1 (g := gb647) (o := .cells #[.int .i64 a0_0, .slice A0_1 l0_1.length c0_1] 24 (0, 0)) (kk_ BK647.out) hb); have n7_ := Ai0.mk (kb1 (g := gb655) (o := .cells #[.slice Ao13 t648.length co13, .slice Ao12 t651.length co12] 73 (0, 0)) (kk_ BK655.out) hb); have n8_ := Ai0.mk (bt1 bl_ hb); clear HO_11; clear HO_656000; clear HO_656001; clear HO662; clear HO665; clear BK647; clear BK655; clear HB; have HO_11 := n0_; have HO_656000 := n1_; have HO_656001 := n2_; have HO662 := n3_; have HO665 := n4_; have HO668 := n5_; have BK647 := n6_; have BK655 := n7_; have HB := n8_; clear n0_ n1_ n2_ n3_ n4_ n5_ n6_ n7_ n8_; (try clear hb); (try clear hb2); (try clear hk); (try clear hi); (try clear ho0); obtain ⟨Ao33, co33, eo33⟩ := Kd.R_slice HO668.out; subst eo33))
      go_ret3
      exact ⟨_, by first | rfl | (simp [eW0, eW1] <;> rfl) | (simp [*, eW0, eW1] <;> rfl), by (with_reducible repeat (first | apply Kd.Ra1 | apply Kd.Rn1 | apply Kd.Rd1)); exact Kd.R_mono HO665.out (fun _ hk => trivial), bl_⟩
     ·rw [if_neg c23] at H;have c23b0 : ((t666.length : Int) == 0) = false := beq_eq_false_iff_ne.mpr c23;have c23b1 : ((t666.length : Int) != 0) = true := bne_iff_ne.mpr c23;(have c23b2 : ¬ (t666 = []) := fun h_ => c23 (by rw [h_]; rfl));by_cases c34 : x12_1 = a2
      ·rw [if_pos c34] at H;have c34b0 : (x12_1 == a2) = true := beq_iff_eq.mpr c34;have c34b1 : (x12_1 != a2) = false := bne_eq_false_iff_eq.mpr c34;clear c34;simp only [Option.some.injEq, Prod.mk.injEq] at H;obtain ⟨rfl, rfl, rfl⟩ := H;have hnb35 := NB655_647.out;have hnc35 := NB647_655.out;have hcz36_0 : wr.cell? ⟨gb655, 0, none⟩ = some (.slice Ao13 t648.length co13) := (kc1 BK655.out 0).trans rfl;have hcz36_1 : wr.cell? ⟨gb655, 1, none⟩ = some (.slice Ao12 t651.length co12) := (kc1 BK655.out 1).trans rfl;have hfz36_0 := kf1 BK655.out 0;have hfz36_1 := kf1 BK655.out 1;obtain ⟨Ao37, co37, eo37⟩ := Kd.S_slice HO_11.out;subst eo37
       go_wp2_with (first | ((with_reducible refine gate_callee (f := 48) rfl ?_); refine goesL_ (some 35) rfl rfl Try.func48 (by kernel_rfl) rfl #[.pointer (some ⟨gb655, 0, none⟩), .slice A1 l1.length c1, .slice Ao37 x11_1.length co37] rfl (by (try simp only [List.map_toArray, List.map_cons, List.map_nil]); first | done | rfl | (simp only [List.length_drop, List.length_take]; rfl)) ?_; (with_reducible refine (mg_beliefs.calls k1 Ao13 co13 t648 Ao12 co12 t651 _ _ l1 _ _ x11_1 t660 gb655 _ ?side1 ?side2 ?side3 ?side4 ?side5 ?side6 ?side7 ?side8 ?sideG A20.out).mono ?_); (case sideG => (with_reducible repeat (first | refine kn1 ?_ _ | refine kd1 ?_ | refine ka1 ?_ _)); exact BK655.out); (case side1 => repeat (first | exact (Kd.S_reads' HO_656000.out).2.2 | (with_reducible refine Kd.C_alloc ?_ _) | (with_reducible refine Kd.C_drewN ?_ _) | (with_reducible refine Kd.C_drew ?_))); (case side2 => exact (Kd.S_reads' HO_656000.out).2.1); (case side3 => repeat (first | exact (Kd.S_reads' HO_656001.out).2.2 | (with_reducible refine Kd.C_alloc ?_ _) | (with_reducible refine Kd.C_drewN ?_ _) | (with_reducible refine Kd.C_drew ?_))); (case side4 => exact (Kd.S_reads' HO_656001.out).2.1); (case side5 => exact kc_ HR1.out); (case side6 => exact HC1.out); (case side7 => repeat (first | exact (Kd.S_reads' HO_11.out).2.2 | (with_reducible refine Kd.C_alloc ?_ _) | (with_reducible refine Kd.C_drewN ?_ _) | (with_reducible refine Kd.C_drew ?_))); (case side8 => exact (Kd.S_reads' HO_11.out).2.1); rintro e w38 ⟨v661, rfl, ho0, hb⟩; refine ⟨_, rfl, ?_⟩; have n0_ := Ai0.mk (Kd.S_elder' (ks_ HO_11.out) (Kd.R_base ho0) hb); have n1_ := Ai0.mk (Kd.S_elder' (ks_ HO_656000.out) (Kd.R_base ho0) hb); have n2_ := Ai0.mk (Kd.S_below (ks_ HO_656001.out) hb); have n3_ := Ai0.mk (Kd.R_lower ho0 (bz1 bl_)); have n4_ := Ai0.mk (kb1 (g := gb647) (o := .cells #[.int .i64 a0_0, .slice A0_1 l0_1.length c0_1] 24 (0, 0)) (kk_ BK647.out) hb); have n5_ := Ai0.mk (kb1 (g := gb655) (o := .cells #[.slice Ao13 t648.length co13, .slice Ao12 t651.length co12] 73 (0, 0)) (kk_ BK655.out) hb); have n6_ := Ai0.mk (bt1 bl_ hb); clear HO_11; clear HO_656000; clear HO_656001; clear BK647; clear BK655; clear HB; have HO_11 := n0_; have HO_656000 := n1_; have HO_656001 := n2_; have HO662 := n3_; have BK647 := n4_; have BK655 := n5_; have HB := n6_; clear n0_ n1_ n2_ n3_ n4_ n5_ n6_; (try clear hb); (try clear hb2); (try clear hk); (try clear hi); (try clear ho0); obtain ⟨Ao39, co39, eo39⟩ := Kd.R_slice HO662.out; subst eo39) | ((with_reducible refine gate_callee (f := 41) rfl ?_); refine goesL_ (some 36) rfl rfl Try.func41 (by kernel_rfl) rfl #[.slice Ao39 t660.length co39] rfl (by (try simp only [List.map_toArray, List.map_cons, List.map_nil]); first | done | rfl | (simp only [List.length_drop, List.length_take]; rfl)) ?_; (with_reducible refine (message_Decide.calls k1 _ _ t660 t663 _ ?side1 ?side2 A21.out).mono ?_); (case side1 => repeat (first | exact (Kd.R_reads' HO662.out).2.2 | (with_reducible refine Kd.C_alloc ?_ _) | (with_reducible refine Kd.C_drewN ?_ _) | (with_reducible refine Kd.C_drew ?_))); (case side2 => exact (Kd.R_reads' HO662.out).2.1); rintro e w40 ⟨v664, rfl, ho0, hb⟩; refine ⟨_, rfl, ?_⟩; have n0_ := Ai0.mk (Kd.S_elder' (ks_ HO_11.out) (Kd.R_base ho0) hb); have n1_ := Ai0.mk (Kd.S_elder' (ks_ HO_656000.out) (Kd.R_base ho0) hb); have n2_ := Ai0.mk (Kd.S_below (ks_ HO_656001.out) hb); have n3_ := Ai0.mk (Kd.R_elder' (kr_ HO662.out) (Kd.R_base ho0) hb); have n4_ := Ai0.mk (Kd.R_lower (Kd.R_new' ho0 (Kd.R_lt (kr_ HO662.out))) (bz1 bl_)); have n5_ := Ai0.mk (kb1 (g := gb647) (o := .cells #[.int .i64 a0_0, .slice A0_1 l0_1.length c0_1] 24 (0, 0)) (kk_ BK647.out) hb); have n6_ := Ai0.mk (kb1 (g := gb655) (o := .cells #[.slice Ao13 t648.length co13, .slice Ao12 t651.length co12] 73 (0, 0)) (kk_ BK655.out) hb); have n7_ := Ai0.mk (bt1 bl_ hb); clear HO_11; clear HO_656000; clear HO_656001; clear HO662; clear BK647; clear BK655; clear HB; have HO_11 := n0_; have HO_656000 := n1_; have HO_656001 := n2_; have HO662 := n3_; have HO665 := n4_; have BK647 := n5_; have BK655 := n6_; have HB := n7_; clear n0_ n1_ n2_ n3_ n4_ n5_ n6_ n7_; (try clear hb); (try clear hb2); (try clear hk); (try clear hi); (try clear ho0); have hcz41_0 : w40.cell? ⟨gb655, 0, none⟩ = some (.slice Ao13 t648.length co13) := (kc1 BK655.out 0).trans rfl; have hcz41_1 : w40.cell? ⟨gb655, 1, none⟩ = some (.slice Ao12 t651.length co12) := (kc1 BK655.out 1).trans rfl; have hfz41_0 := kf1 BK655.out 0; have hfz41_1 := kf1 BK655.out 1; obtain ⟨Ao42, co42, eo42⟩ := Kd.R_slice HO665.out; subst eo42) | ((with_reducible refine gate_callee (f := 49) rfl ?_); refine goesL_ (some 39) rfl rfl Try.func49 (by kernel_rfl) rfl #[.pointer (some ⟨gb655, 0, none⟩), .slice Ao42 t663.length co42] rfl (by (try simp only [List.map_toArray, List.map_cons, List.map_nil]); first | done | rfl | (simp only [List.length_drop, List.length_take]; rfl)) ?_; (with_reducible refine (mg_unsatisfied.calls k1 Ao13 co13 t648 Ao12 co12 t651 _ _ t663 t666 gb655 _ ?side1 ?side2 ?side3 ?side4 ?side5 ?side6 ?sideG A22.out).mono ?_); (case sideG => (with_reducible repeat (first | refine kn1 ?_ _ | refine kd1 ?_ | refine ka1 ?_ _)); exact BK655.out); (case side1 => repeat (first | exact (Kd.S_reads' HO_656000.out).2.2 | (with_reducible refine Kd.C_alloc ?_ _) | (with_reducible refine Kd.C_drewN ?_ _) | (with_reducible refine Kd.C_drew ?_))); (case side2 => exact (Kd.S_reads' HO_656000.out).2.1); (case side3 => repeat (first | exact (Kd.S_reads' HO_656001.out).2.2 | (with_reducible refine Kd.C_alloc ?_ _) | (with_reducible refine Kd.C_drewN ?_ _) | (with_reducible refine Kd.C_drew ?_))); (case side4 => exact (Kd.S_reads' HO_656001.out).2.1); (case side5 => repeat (first | exact (Kd.R_reads' HO665.out).2.2 | (with_reducible refine Kd.C_alloc ?_ _) | (with_reducible refine Kd.C_drewN ?_ _) | (with_reducible refine Kd.C_drew ?_))); (case side6 => exact (Kd.R_reads' HO665.out).2.1); rintro e w43 ⟨v667, rfl, ho0, hb⟩; refine ⟨_, rfl, ?_⟩; have n0_ := Ai0.mk (Kd.S_elder' (ks_ HO_11.out) (Kd.R_base ho0) hb); have n1_ := Ai0.mk (Kd.S_elder' (ks_ HO_656000.out) (Kd.R_base ho0) hb); have n2_ := Ai0.mk (Kd.S_below (ks_ HO_656001.out) hb); have n3_ := Ai0.mk (Kd.R_elder' (kr_ HO662.out) (Kd.R_base ho0) hb); have n4_ := Ai0.mk (Kd.R_elder' (kr_ HO665.out) (Kd.R_base ho0) hb); have n5_ := Ai0.mk (Kd.R_lower (Kd.R_new' (Kd.R_new' ho0 (Kd.R_lt (kr_ HO662.out))) (Kd.R_lt (kr_ HO665.out))) (bz1 bl_)); have n6_ := Ai0.mk (kb1 (g := gb647) (o := .cells #[.int .i64 a0_0, .slice A0_1 l0_1.length c0_1] 24 (0, 0)) (kk_ BK647.out) hb); have n7_ := Ai0.mk (kb1 (g := gb655) (o := .cells #[.slice Ao13 t648.length co13, .slice Ao12 t651.length co12] 73 (0, 0)) (kk_ BK655.out) hb); have n8_ := Ai0.mk (bt1 bl_ hb); clear HO_11; clear HO_656000; clear HO_656001; clear HO662; clear HO665; clear BK647; clear BK655; clear HB; have HO_11 := n0_; have HO_656000 := n1_; have HO_656001 := n2_; have HO662 := n3_; have HO665 := n4_; have HO668 := n5_; have BK647 := n6_; have BK655 := n7_; have HB := n8_; clear n0_ n1_ n2_ n3_ n4_ n5_ n6_ n7_ n8_; (try clear hb); (try clear hb2); (try clear hk); (try clear hi); (try clear ho0); obtain ⟨Ao44, co44, eo44⟩ := Kd.R_slice HO668.out; subst eo44))
       go_ret3
       exact ⟨_, by first | rfl | (simp [eW0, eW1] <;> rfl) | (simp [*, eW0, eW1] <;> rfl), by first | exact Kd.R_nil _ _ _ _ _ | exact Kd.N_nil _ _ _ _ _ | exact Kd.V_nil _ _ _ _ _ | exact Kd.Q_nil _ _ _ _ _ | exact Kd.S_nil _ _ _ _ _, bl_⟩
      ·rw [if_neg c34] at H;have c34b0 : (x12_1 == a2) = false := beq_eq_false_iff_ne.mpr c34;have c34b1 : (x12_1 != a2) = true := bne_iff_ne.mpr c34;replace H := Option.bind_eq_some_iff.mp H;obtain ⟨t669, A450, H⟩ := H;replace H : (message_MinSum.l0 k1 l1 a2 t669 (wrap64 (x12_1 + 1)) t648 t651) = some (r1, r2, r3) := H;have A45 := Ai0.mk A450;clear A450;have H' := Ai0.mk H;clear H;have hnb46 := NB655_647.out;have hnc46 := NB647_655.out;have hcz47_0 : wr.cell? ⟨gb655, 0, none⟩ = some (.slice Ao13 t648.length co13) := (kc1 BK655.out 0).trans rfl;have hcz47_1 : wr.cell? ⟨gb655, 1, none⟩ = some (.slice Ao12 t651.length co12) := (kc1 BK655.out 1).trans rfl;have hfz47_0 := kf1 BK655.out 0;have hfz47_1 := kf1 BK655.out 1;obtain ⟨Ao48, co48, eo48⟩ := Kd.S_slice HO_11.out;subst eo48
       go_wp2_with (first | ((with_reducible refine gate_callee (f := 48) rfl ?_); refine goesL_ (some 35) rfl rfl Try.func48 (by kernel_rfl) rfl #[.pointer (some ⟨gb655, 0, none⟩), .slice A1 l1.length c1, .slice Ao48 x11_1.length co48] rfl (by (try simp only [List.map_toArray, List.map_cons, List.map_nil]); first | done | rfl | (simp only [List.length_drop, List.length_take]; rfl)) ?_; (with_reducible refine (mg_beliefs.calls k1 Ao13 co13 t648 Ao12 co12 t651 _ _ l1 _ _ x11_1 t660 gb655 _ ?side1 ?side2 ?side3 ?side4 ?side5 ?side6 ?side7 ?side8 ?sideG A20.out).mono ?_); (case sideG => (with_reducible repeat (first | refine kn1 ?_ _ | refine kd1 ?_ | refine ka1 ?_ _)); exact BK655.out); (case side1 => repeat (first | exact (Kd.S_reads' HO_656000.out).2.2 | (with_reducible refine Kd.C_alloc ?_ _) | (with_reducible refine Kd.C_drewN ?_ _) | (with_reducible refine Kd.C_drew ?_))); (case side2 => exact (Kd.S_reads' HO_656000.out).2.1); (case side3 => repeat (first | exact (Kd.S_reads' HO_656001.out).2.2 | (with_reducible refine Kd.C_alloc ?_ _) | (with_reducible refine Kd.C_drewN ?_ _) | (with_reducible refine Kd.C_drew ?_))); (case side4 => exact (Kd.S_reads' HO_656001.out).2.1); (case side5 => exact kc_ HR1.out); (case side6 => exact HC1.out); (case side7 => repeat (first | exact (Kd.S_reads' HO_11.out).2.2 | (with_reducible refine Kd.C_alloc ?_ _) | (with_reducible refine Kd.C_drewN ?_ _) | (with_reducible refine Kd.C_drew ?_))); (case side8 => exact (Kd.S_reads' HO_11.out).2.1); rintro e w49 ⟨v661, rfl, ho0, hb⟩; refine ⟨_, rfl, ?_⟩; have n0_ := Ai0.mk (Kd.S_elder' (ks_ HO_11.out) (Kd.R_base ho0) hb); have n1_ := Ai0.mk (Kd.S_elder' (ks_ HO_656000.out) (Kd.R_base ho0) hb); have n2_ := Ai0.mk (Kd.S_below (ks_ HO_656001.out) hb); have n3_ := Ai0.mk (Kd.R_lower ho0 (bz1 bl_)); have n4_ := Ai0.mk (kb1 (g := gb647) (o := .cells #[.int .i64 a0_0, .slice A0_1 l0_1.length c0_1] 24 (0, 0)) (kk_ BK647.out) hb); have n5_ := Ai0.mk (kb1 (g := gb655) (o := .cells #[.slice Ao13 t648.length co13, .slice Ao12 t651.length co12] 73 (0, 0)) (kk_ BK655.out) hb); have n6_ := Ai0.mk (bt1 bl_ hb); clear HO_11; clear HO_656000; clear HO_656001; clear BK647; clear BK655; clear HB; have HO_11 := n0_; have HO_656000 := n1_; have HO_656001 := n2_; have HO662 := n3_; have BK647 := n4_; have BK655 := n5_; have HB := n6_; clear n0_ n1_ n2_ n3_ n4_ n5_ n6_; (try clear hb); (try clear hb2); (try clear hk); (try clear hi); (try clear ho0); obtain ⟨Ao50, co50, eo50⟩ := Kd.R_slice HO662.out; subst eo50) | ((with_reducible refine gate_callee (f := 41) rfl ?_); refine goesL_ (some 36) rfl rfl Try.func41 (by kernel_rfl) rfl #[.slice Ao50 t660.length co50] rfl (by (try simp only [List.map_toArray, List.map_cons, List.map_nil]); first | done | rfl | (simp only [List.length_drop, List.length_take]; rfl)) ?_; (with_reducible refine (message_Decide.calls k1 _ _ t660 t663 _ ?side1 ?side2 A21.out).mono ?_); (case side1 => repeat (first | exact (Kd.R_reads' HO662.out).2.2 | (with_reducible refine Kd.C_alloc ?_ _) | (with_reducible refine Kd.C_drewN ?_ _) | (with_reducible refine Kd.C_drew ?_))); (case side2 => exact (Kd.R_reads' HO662.out).2.1); rintro e w51 ⟨v664, rfl, ho0, hb⟩; refine ⟨_, rfl, ?_⟩; have n0_ := Ai0.mk (Kd.S_elder' (ks_ HO_11.out) (Kd.R_base ho0) hb); have n1_ := Ai0.mk (Kd.S_elder' (ks_ HO_656000.out) (Kd.R_base ho0) hb); have n2_ := Ai0.mk (Kd.S_below (ks_ HO_656001.out) hb); have n3_ := Ai0.mk (Kd.R_elder' (kr_ HO662.out) (Kd.R_base ho0) hb); have n4_ := Ai0.mk (Kd.R_lower (Kd.R_new' ho0 (Kd.R_lt (kr_ HO662.out))) (bz1 bl_)); have n5_ := Ai0.mk (kb1 (g := gb647) (o := .cells #[.int .i64 a0_0, .slice A0_1 l0_1.length c0_1] 24 (0, 0)) (kk_ BK647.out) hb); have n6_ := Ai0.mk (kb1 (g := gb655) (o := .cells #[.slice Ao13 t648.length co13, .slice Ao12 t651.length co12] 73 (0, 0)) (kk_ BK655.out) hb); have n7_ := Ai0.mk (bt1 bl_ hb); clear HO_11; clear HO_656000; clear HO_656001; clear HO662; clear BK647; clear BK655; clear HB; have HO_11 := n0_; have HO_656000 := n1_; have HO_656001 := n2_; have HO662 := n3_; have HO665 := n4_; have BK647 := n5_; have BK655 := n6_; have HB := n7_; clear n0_ n1_ n2_ n3_ n4_ n5_ n6_ n7_; (try clear hb); (try clear hb2); (try clear hk); (try clear hi); (try clear ho0); have hcz52_0 : w51.cell? ⟨gb655, 0, none⟩ = some (.slice Ao13 t648.length co13) := (kc1 BK655.out 0).trans rfl; have hcz52_1 : w51.cell? ⟨gb655, 1, none⟩ = some (.slice Ao12 t651.length co12) := (kc1 BK655.out 1).trans rfl; have hfz52_0 := kf1 BK655.out 0; have hfz52_1 := kf1 BK655.out 1; obtain ⟨Ao53, co53, eo53⟩ := Kd.R_slice HO665.out; subst eo53) | ((with_reducible refine gate_callee (f := 49) rfl ?_); refine goesL_ (some 39) rfl rfl Try.func49 (by kernel_rfl) rfl #[.pointer (some ⟨gb655, 0, none⟩), .slice Ao53 t663.length co53] rfl (by (try simp only [List.map_toArray, List.map_cons, List.map_nil]); first | done | rfl | (simp only [List.length_drop, List.length_take]; rfl)) ?_; (with_reducible refine (mg_unsatisfied.calls k1 Ao13 co13 t648 Ao12 co12 t651 _ _ t663 t666 gb655 _ ?side1 ?side2 ?side3 ?side4 ?side5 ?side6 ?sideG A22.out).mono ?_); (case sideG => (with_reducible repeat (first | refine kn1 ?_ _ | refine kd1 ?_ | refine ka1 ?_ _)); exact BK655.out); (case side1 => repeat (first | exact (Kd.S_reads' HO_656000.out).2.2 | (with_reducible refine Kd.C_alloc ?_ _) | (with_reducible refine Kd.C_drewN ?_ _) | (with_reducible refine Kd.C_drew ?_))); (case side2 => exact (Kd.S_reads' HO_656000.out).2.1); (case side3 => repeat (first | exact (Kd.S_reads' HO_656001.out).2.2 | (with_reducible refine Kd.C_alloc ?_ _) | (with_reducible refine Kd.C_drewN ?_ _) | (with_reducible refine Kd.C_drew ?_))); (case side4 => exact (Kd.S_reads' HO_656001.out).2.1); (case side5 => repeat (first | exact (Kd.R_reads' HO665.out).2.2 | (with_reducible refine Kd.C_alloc ?_ _) | (with_reducible refine Kd.C_drewN ?_ _) | (with_reducible refine Kd.C_drew ?_))); (case side6 => exact (Kd.R_reads' HO665.out).2.1); rintro e w54 ⟨v667, rfl, ho0, hb⟩; refine ⟨_, rfl, ?_⟩; have n0_ := Ai0.mk (Kd.S_elder' (ks_ HO_11.out) (Kd.R_base ho0) hb); have n1_ := Ai0.mk (Kd.S_elder' (ks_ HO_656000.out) (Kd.R_base ho0) hb); have n2_ := Ai0.mk (Kd.S_below (ks_ HO_656001.out) hb); have n3_ := Ai0.mk (Kd.R_elder' (kr_ HO662.out) (Kd.R_base ho0) hb); have n4_ := Ai0.mk (Kd.R_elder' (kr_ HO665.out) (Kd.R_base ho0) hb); have n5_ := Ai0.mk (Kd.R_lower (Kd.R_new' (Kd.R_new' ho0 (Kd.R_lt (kr_ HO662.out))) (Kd.R_lt (kr_ HO665.out))) (bz1 bl_)); have n6_ := Ai0.mk (kb1 (g := gb647) (o := .cells #[.int .i64 a0_0, .slice A0_1 l0_1.length c0_1] 24 (0, 0)) (kk_ BK647.out) hb); have n7_ := Ai0.mk (kb1 (g := gb655) (o := .cells #[.slice Ao13 t648.length co13, .slice Ao12 t651.length co12] 73 (0, 0)) (kk_ BK655.out) hb); have n8_ := Ai0.mk (bt1 bl_ hb); clear HO_11; clear HO_656000; clear HO_656001; clear HO662; clear HO665; clear BK647; clear BK655; clear HB; have HO_11 := n0_; have HO_656000 := n1_; have HO_656001 := n2_; have HO662 := n3_; have HO665 := n4_; have HO668 := n5_; have BK647 := n6_; have BK655 := n7_; have HB := n8_; clear n0_ n1_ n2_ n3_ n4_ n5_ n6_ n7_ n8_; (try clear hb); (try clear hb2); (try clear hk); (try clear hi); (try clear ho0); obtain ⟨Ao55, co55, eo55⟩ := Kd.R_slice HO668.out; subst eo55; have hcz56_0 : w54.cell? ⟨gb655, 0, none⟩ = some (.slice Ao13 t648.length co13) := (kc1 BK655.out 0).trans rfl; have hcz56_1 : w54.cell? ⟨gb655, 1, none⟩ = some (.slice Ao12 t651.length co12) := (kc1 BK655.out 1).trans rfl; have hfz56_0 := kf1 BK655.out 0; have hfz56_1 := kf1 BK655.out 1) | ((with_reducible refine gate_callee (f := 47) rfl ?_); refine goesL_ (some 50) rfl rfl Try.func47 (by kernel_rfl) rfl #[.pointer (some ⟨gb655, 0, none⟩), .slice A1 l1.length c1, .slice Ao48 x11_1.length co48] rfl (by (try simp only [List.map_toArray, List.map_cons, List.map_nil]); first | done | rfl | (simp only [List.length_drop, List.length_take]; rfl)) ?_; (with_reducible refine (mg_round.calls k1 Ao13 co13 t648 Ao12 co12 t651 _ _ l1 _ _ x11_1 t669 gb655 _ ?side1 ?side2 ?side3 ?side4 ?side5 ?side6 ?side7 ?side8 ?sideG A45.out).mono ?_); (case sideG => (with_reducible repeat (first | refine kn1 ?_ _ | refine kd1 ?_ | refine ka1 ?_ _)); exact BK655.out); (case side1 => repeat (first | exact (Kd.S_reads' HO_656000.out).2.2 | (with_reducible refine Kd.C_alloc ?_ _) | (with_reducible refine Kd.C_drewN ?_ _) | (with_reducible refine Kd.C_drew ?_))); (case side2 => exact (Kd.S_reads' HO_656000.out).2.1); (case side3 => repeat (first | exact (Kd.S_reads' HO_656001.out).2.2 | (with_reducible refine Kd.C_alloc ?_ _) | (with_reducible refine Kd.C_drewN ?_ _) | (with_reducible refine Kd.C_drew ?_))); (case side4 => exact (Kd.S_reads' HO_656001.out).2.1); (case side5 => exact kc_ HR1.out); (case side6 => exact HC1.out); (case side7 => repeat (first | exact (Kd.S_reads' HO_11.out).2.2 | (with_reducible refine Kd.C_alloc ?_ _) | (with_reducible refine Kd.C_drewN ?_ _) | (with_reducible refine Kd.C_drew ?_))); (case side8 => exact (Kd.S_reads' HO_11.out).2.1); rintro e w57 ⟨v670, rfl, ho0, hb⟩; refine ⟨_, rfl, ?_⟩; have n0_ := Ai0.mk (Kd.S_elder' (ks_ HO_11.out) (Kd.S_base ho0) hb); have n1_ := Ai0.mk (Kd.S_elder' (ks_ HO_656000.out) (Kd.S_base ho0) hb); have n2_ := Ai0.mk (Kd.S_below (ks_ HO_656001.out) hb); have n3_ := Ai0.mk (Kd.R_below (kr_ HO662.out) hb); have n4_ := Ai0.mk (Kd.R_below (kr_ HO665.out) hb); have n5_ := Ai0.mk (Kd.R_below (kr_ HO668.out) hb); have n6_ := Ai0.mk (Kd.S_lower (Kd.S_new' (Kd.S_new' (Kd.S_new' (Kd.S_new' (Kd.S_new' ho0 (Kd.S_lt (ks_ HO_11.out))) (Kd.S_lt (ks_ HO_656000.out))) (Kd.R_lt (kr_ HO662.out))) (Kd.R_lt (kr_ HO665.out))) (Kd.R_lt (kr_ HO668.out))) (bz1 bl_)); have n7_ := Ai0.mk (kb1 (g := gb647) (o := .cells #[.int .i64 a0_0, .slice A0_1 l0_1.length c0_1] 24 (0, 0)) (kk_ BK647.out) hb); have n8_ := Ai0.mk (kb1 (g := gb655) (o := .cells #[.slice Ao13 t648.length co13, .slice Ao12 t651.length co12] 73 (0, 0)) (kk_ BK655.out) hb); have n9_ := Ai0.mk (bt1 bl_ hb); clear HO_11; clear HO_656000; clear HO_656001; clear HO662; clear HO665; clear HO668; clear BK647; clear BK655; clear HB; have HO_11 := n0_; have HO_656000 := n1_; have HO_656001 := n2_; have HO662 := n3_; have HO665 := n4_; have HO668 := n5_; have HO671 := n6_; have BK647 := n7_; have BK655 := n8_; have HB := n9_; clear n0_ n1_ n2_ n3_ n4_ n5_ n6_ n7_ n8_ n9_; (try clear hb); (try clear hb2); (try clear hk); (try clear hi); (try clear ho0)))
       go_roundg k1
       case measure => have := HK1.out; omega
       case rel => exact ⟨(t669), (wrap64 (x12_1 + 1)), rf_, H', ⟨by have := HK1.out; omega⟩, ⟨by (with_reducible repeat (first | apply Kd.S_alloc | apply Kd.S_drewN | apply Kd.S_drew)); exact Kd.S_mono HO671.out (fun _ hk => hk.1.1.1.2)⟩, ⟨by (with_reducible repeat (first | apply Kd.S_alloc | apply Kd.S_drewN | apply Kd.S_drew)); exact Kd.S_mono HO_656000.out (fun _ hk => hk.2)⟩, ⟨ks_ HO_656001.out⟩, ⟨kk_ BK647.out⟩, ⟨kk_ BK655.out⟩, ⟨bl_⟩⟩
  ·rw [if_neg c7] at H;have c7b0 : (t656 == 0) = false := beq_eq_false_iff_ne.mpr c7;have c7b1 : (t656 != 0) = true := bne_iff_ne.mpr c7;simp only [Option.some.injEq, Prod.mk.injEq] at H;obtain ⟨rfl, rfl, rfl⟩ := H;go_enter Try.func19, Try.ntmps19
   go_wp2_with (first | ((with_reducible refine gate_dst (N := 3) rfl ?_); refine box_event ?hg (N := 3) ?hd (cs := #[.int .i64 a0_0, .slice A0_1 l0_1.length c0_1]) (t := 24) ?hr ?_; (case hd => rfl); (case hg => rfl); (case hr => first | (go_simp; done) | (go_simp; rfl)); intro gb647 hg w58 hbox hb; have n0_ := Ai0.mk (bt1 bl_ hb); have n1_ := Ai0.mk (hbox); have n2_ := Ai0.mk ((by rw [hg]; exact (bz1 bl_) : w.heap.size ≤ gb647)); have n3_ := Ai0.mk ((by rw [hg]; exact (bz1 bl_) : w.heap.size ≤ gb647)); clear HB; have HB := n0_; have BK647 := n1_; have GW647 := n2_; have GE647 := n3_; clear n0_ n1_ n2_ n3_; clear hb hbox hg; have hcz59_0 : w58.cell? ⟨gb647, 0, none⟩ = some (.int .i64 a0_0) := (kc1 BK647.out 0).trans rfl; have hcz59_1 : w58.cell? ⟨gb647, 1, none⟩ = some (.slice A0_1 l0_1.length c0_1) := (kc1 BK647.out 1).trans rfl; have hfz59_0 := kf1 BK647.out 0; have hfz59_1 := kf1 BK647.out 1) | ((with_reducible refine gate_callee (f := 44) rfl ?_); refine goesL_ (some 15) rfl rfl Try.func44 (by kernel_rfl) rfl #[.agg #[.int .i64 a0_0, .slice A0_1 l0_1.length c0_1]] rfl (by (try simp only [List.map_toArray, List.map_cons, List.map_nil]); first | done | rfl | (simp only [List.length_drop, List.length_take]; rfl)) ?_; (with_reducible refine (message_build.calls k a0_0 _ _ l0_1 t648 t651 t654 _ ?side1 ?side2 A4.out).mono ?_); (case side1 => exact kc_ HR0_1.out); (case side2 => exact HC0_1.out); rintro e w60 ⟨gg_, rfl, hb, hbu_⟩; obtain ⟨gb655, v649, v652, rfl, hge_, hbk_, ho0, ho1⟩ := Built.ok hbu_ (beq_iff_eq.mp c5b0); refine ⟨_, rfl, ?_⟩; have BK655 := Ai0.mk hbk_; have GE655 := Ai0.mk (Nat.le_trans (bz1 bl_) hge_); have GW655 := GE655; have NB647_655 := Ai0.mk (Nat.ne_of_lt (Nat.lt_of_lt_of_le (blk_lt (g := gb647) (o := .cells #[.int .i64 a0_0, .slice A0_1 l0_1.length c0_1] 24 (0, 0)) (kk_ BK647.out)) hge_)); have NB655_647 := Ai0.mk (Ne.symm NB647_655.out); clear hbk_ hge_ hbu_; have n0_ := Ai0.mk (Kd.S_lower ho0 (bz1 bl_)); have n1_ := Ai0.mk (Kd.S_lower ho1 (bz1 bl_)); have n2_ := Ai0.mk (kb1 (g := gb647) (o := .cells #[.int .i64 a0_0, .slice A0_1 l0_1.length c0_1] 24 (0, 0)) (kk_ BK647.out) hb); have n3_ := Ai0.mk (bt1 bl_ hb); clear BK647; clear HB; have HO650 := n0_; have HO653 := n1_; have BK647 := n2_; have HB := n3_; clear n0_ n1_ n2_ n3_; (try clear hb); (try clear hb2); (try clear hk); (try clear hi); (try clear ho0); (try clear ho1); obtain ⟨Ao61, co61, eo61⟩ := Kd.S_slice HO653.out; subst eo61; obtain ⟨Ao62, co62, eo62⟩ := Kd.S_slice HO650.out; subst eo62; have hnb64 := NB647_655.out; have hnc64 := NB655_647.out; have hcz65_0 : w60.cell? ⟨gb647, 0, none⟩ = some (.int .i64 a0_0) := (kc1 BK647.out 0).trans rfl; have hcz65_1 : w60.cell? ⟨gb647, 1, none⟩ = some (.slice A0_1 l0_1.length c0_1) := (kc1 BK647.out 1).trans rfl; have hfz65_0 := kf1 BK647.out 0; have hfz65_1 := kf1 BK647.out 1) | ((with_reducible refine gate_callee (f := 45) rfl ?_); refine goesL_ (some 24) rfl rfl Try.func45 (by kernel_rfl) rfl #[.agg #[.int .i64 a0_0, .slice A0_1 l0_1.length c0_1], .slice A1 l1.length c1, .int .i64 a2] rfl (by (try simp only [List.map_toArray, List.map_cons, List.map_nil]); first | done | rfl | (simp only [List.length_drop, List.length_take]; rfl)) ?_; (with_reducible refine (message_inputs.calls k a0_0 _ _ l0_1 _ _ l1 a2 t656 _ ?side1 ?side2 ?side3 ?side4 A6.out).mono ?_); (case side1 => exact kc_ HR0_1.out); (case side2 => exact HC0_1.out); (case side3 => exact kc_ HR1.out); (case side4 => exact HC1.out); rintro e w66 ⟨rfl, hb⟩; refine ⟨_, rfl, ?_⟩; have n0_ := Ai0.mk (Kd.S_below (ks_ HO650.out) hb); have n1_ := Ai0.mk (Kd.S_below (ks_ HO653.out) hb); have n2_ := Ai0.mk (kb1 (g := gb647) (o := .cells #[.int .i64 a0_0, .slice A0_1 l0_1.length c0_1] 24 (0, 0)) (kk_ BK647.out) hb); have n3_ := Ai0.mk (kb1 (g := gb655) (o := .cells #[.slice Ao62 t648.length co62, .slice Ao61 t651.length co61] 73 (0, 0)) (kk_ BK655.out) hb); have n4_ := Ai0.mk (bt1 bl_ hb); clear HO650; clear HO653; clear BK647; clear BK655; clear HB; have HO650 := n0_; have HO653 := n1_; have BK647 := n2_; have BK655 := n3_; have HB := n4_; clear n0_ n1_ n2_ n3_ n4_; (try clear hb); (try clear hb2); (try clear hk); (try clear hi)))
   go_ret3
   exact ⟨_, by first | rfl | (simp [eW0, eW1] <;> rfl) | (simp [*, eW0, eW1] <;> rfl), by first | exact Kd.R_nil _ _ _ _ _ | exact Kd.N_nil _ _ _ _ _ | exact Kd.V_nil _ _ _ _ _ | exact Kd.Q_nil _ _ _ _ _ | exact Kd.S_nil _ _ _ _ _, bl_⟩
 ·rw [if_neg c5] at H;have c5b0 : (t654 == 0) = false := beq_eq_false_iff_ne.mpr c5;have c5b1 : (t654 != 0) = true := bne_iff_ne.mpr c5;simp only [Option.some.injEq, Prod.mk.injEq] at H;obtain ⟨rfl, rfl, rfl⟩ := H;go_enter Try.func19, Try.ntmps19
  go_wp2_with (first | ((with_reducible refine gate_dst (N := 3) rfl ?_); refine box_event ?hg (N := 3) ?hd (cs := #[.int .i64 a0_0, .slice A0_1 l0_1.length c0_1]) (t := 24) ?hr ?_; (case hd => rfl); (case hg => rfl); (case hr => first | (go_simp; done) | (go_simp; rfl)); intro gb647 hg w67 hbox hb; have n0_ := Ai0.mk (bt1 bl_ hb); have n1_ := Ai0.mk (hbox); have n2_ := Ai0.mk ((by rw [hg]; exact (bz1 bl_) : w.heap.size ≤ gb647)); have n3_ := Ai0.mk ((by rw [hg]; exact (bz1 bl_) : w.heap.size ≤ gb647)); clear HB; have HB := n0_; have BK647 := n1_; have GW647 := n2_; have GE647 := n3_; clear n0_ n1_ n2_ n3_; clear hb hbox hg; have hcz68_0 : w67.cell? ⟨gb647, 0, none⟩ = some (.int .i64 a0_0) := (kc1 BK647.out 0).trans rfl; have hcz68_1 : w67.cell? ⟨gb647, 1, none⟩ = some (.slice A0_1 l0_1.length c0_1) := (kc1 BK647.out 1).trans rfl; have hfz68_0 := kf1 BK647.out 0; have hfz68_1 := kf1 BK647.out 1) | ((with_reducible refine gate_callee (f := 44) rfl ?_); refine goesL_ (some 15) rfl rfl Try.func44 (by kernel_rfl) rfl #[.agg #[.int .i64 a0_0, .slice A0_1 l0_1.length c0_1]] rfl (by (try simp only [List.map_toArray, List.map_cons, List.map_nil]); first | done | rfl | (simp only [List.length_drop, List.length_take]; rfl)) ?_; (with_reducible refine (message_build.calls k a0_0 _ _ l0_1 t648 t651 t654 _ ?side1 ?side2 A4.out).mono ?_); (case side1 => exact kc_ HR0_1.out); (case side2 => exact HC0_1.out); rintro e w69 ⟨gg_, rfl, hb, hbu_⟩; obtain rfl := Built.no hbu_ (beq_eq_false_iff_ne.mp c5b0); clear hbu_; refine ⟨_, rfl, ?_⟩; have n2_ := Ai0.mk (kb1 (g := gb647) (o := .cells #[.int .i64 a0_0, .slice A0_1 l0_1.length c0_1] 24 (0, 0)) (kk_ BK647.out) hb); have n3_ := Ai0.mk (bt1 bl_ hb); clear BK647; clear HB; have BK647 := n2_; have HB := n3_; clear n2_ n3_; (try clear hb); (try clear hb2); (try clear hk); (try clear hi); (try clear ho0); (try clear ho1)))
  go_ret3
  exact ⟨_, by first | rfl | (simp [eW0, eW1] <;> rfl) | (simp [*, eW0, eW1] <;> rfl), by first | exact Kd.R_nil _ _ _ _ _ | exact Kd.N_nil _ _ _ _ _ | exact Kd.V_nil _ _ _ _ _ | exact Kd.Q_nil _ _ _ _ _ | exact Kd.S_nil _ _ _ _ _, bl_⟩
def crM_MinSum.l0 : Nat → List Int → Int → Int → Int → List (List Int) → Option (List Int × Int × Int)
 | 0, _, _, _, _, _ => none
 | k + 1, x1, x2, x9, x673000, x673001 => if x9 ≤ x2 then ((crM_Beliefs.f k x673000 x673001 x1 x9).bind fun t673 => ((crM_Decide.f k t673).bind fun t676 => ((crM_Unsatisfied.f k x673000 x673001 t676).bind fun t679 => (if (t679.length : Int) = 0 then (some (t676, x9, 0)) else (crM_MinSum.l0 k x1 x2 (wrap64 (x9 + 1)) x673000 x673001))))) else (some (([] : List Int), 0, 12))
def crM_MinSum.f (k : Nat) (a0_0 : Int) (l0_1 : List (List Int)) (l1 : List Int) (a2 : Int) : Option (List Int × Int × Int) := crM_MinSum.l0 k l1 a2 0 a0_0 l0_1
theorem crM_MinSum.mono_l : ∀ k, (∀ y0 y1 y2 y3 y4, LeO (crM_MinSum.l0 k y0 y1 y2 y3 y4) (crM_MinSum.l0 (k + 1) y0 y1 y2 y3 y4))
 | 0 => fun _ _ _ _ _ r h => by simp [crM_MinSum.l0] at h
 | k + 1 => by
  have ih0 := crM_MinSum.mono_l k
  ·intro y0 y1 y2 y3 y4;unfold crM_MinSum.l0
   repeat' first
   | (with_reducible exact ih0 _ _ _ _ _)
   | (with_reducible exact crM_Beliefs.mono _ _ _ _ _)
   | (with_reducible exact crM_Decide.mono _ _)
   | (with_reducible exact crM_Unsatisfied.mono _ _ _ _)
   | (with_reducible exact LeO.refl _)
   | (with_reducible exact LeO.none _)
   | (with_reducible refine LeO.ite ?_ ?_)
   | (with_reducible refine LeO.bind ?_ (fun _ => ?_))
   | exact ih0 _ _ _ _ _
   | exact crM_Beliefs.mono _ _ _ _ _
   | exact crM_Decide.mono _ _
   | exact crM_Unsatisfied.mono _ _ _ _
   | exact LeO.none _
   | refine LeO.ite ?_ ?_
   | refine LeO.bind ?_ (fun _ => ?_)
theorem crM_MinSum.mono : ∀ a0 a1 a2 a3 k, LeO (crM_MinSum.f k a0 a1 a2 a3) (crM_MinSum.f (k + 1) a0 a1 a2 a3) := by
 intro a0 a1 a2 a3 k;have ih0 := crM_MinSum.mono_l k;unfold crM_MinSum.f
 repeat' first
   | (with_reducible exact ih0 _ _ _ _ _)
   | (with_reducible exact crM_Beliefs.mono _ _ _ _ _)
   | (with_reducible exact crM_Decide.mono _ _)
   | (with_reducible exact crM_Unsatisfied.mono _ _ _ _)
   | (with_reducible exact LeO.refl _)
   | (with_reducible exact LeO.none _)
   | (with_reducible refine LeO.ite ?_ ?_)
   | (with_reducible refine LeO.bind ?_ (fun _ => ?_))
   | exact ih0 _ _ _ _ _
   | exact crM_Beliefs.mono _ _ _ _ _
   | exact crM_Decide.mono _ _
   | exact crM_Unsatisfied.mono _ _ _ _
   | exact LeO.none _
   | refine LeO.ite ?_ ?_
   | refine LeO.bind ?_ (fun _ => ?_)
set_option maxHeartbeats 8000000 in
set_option maxRecDepth 100000 in
theorem crM_MinSum.calls (k : Nat) (a0_0 : Int) (A0_1 : Option Addr) (c0_1 : Nat) (l0_1 : List (List Int)) (A1 : Option Addr) (c1 : Nat) (l1 : List Int) (a2 : Int) (r1 : List Int) (r2 : Int) (r3 : Int) (w : World) (hr0_1 : Kd.C (Kd.slice 3 (Kd.int .i64)) w A0_1 l0_1.length l0_1) (hc0_1 : l0_1.length ≤ c0_1) (hr1 : Kd.C (Kd.int .i64) w A1 l1.length l1) (hc1 : l1.length ≤ c1) (h : crM_MinSum.f k a0_0 l0_1 l1 a2 = some (r1, r2, r3)) :
  Calls Try.prog 42 #[.agg #[.int .i64 a0_0, .slice A0_1 l0_1.length c0_1], .slice A1 l1.length c1, .int .i64 a2] w fun e w' => ∃ v0_ : Value, e = .returned (.tuple #[v0_, .int .i64 r2, .int .i64 r3]) ∧ Kd.R (Kd.int .i64) 3 w' w.heap.size (fun _ => True) v0_ r1 ∧ Below w.heap.size w w' := by
 have hu24 := Try.underlying24;have HR0_1 := Ai0.mk hr0_1;have HC0_1 := Ai0.mk hc0_1;clear hr0_1 hc0_1;have HR1 := Ai0.mk hr1;have HC1 := Ai0.mk hc1;clear hr1 hc1;have HB := Ai0.mk (Below.refl w.heap.size w);have H : (crM_MinSum.l0 k l1 a2 0 a0_0 l0_1) = some (r1, r2, r3) := h;clear h;have H' := Ai0.mk H;clear H;go_enter Try.func42, Try.ntmps42
 go_wp2_with (first | ((with_reducible refine gate_dst (N := 3) rfl ?_); refine box_event ?hg (N := 3) ?hd (cs := #[.int .i64 a0_0, .slice A0_1 l0_1.length c0_1]) (t := 24) ?hr ?_; (case hd => rfl); (case hg => rfl); (case hr => first | (go_simp; done) | (go_simp; rfl)); intro gb672 hg w4 hbox hb; have n0_ := Ai0.mk (bt1 bl_ hb); have n1_ := Ai0.mk (hbox); have n2_ := Ai0.mk ((by rw [hg]; exact (bz1 bl_) : w.heap.size ≤ gb672)); have n3_ := Ai0.mk ((by rw [hg]; exact (bz1 bl_) : w.heap.size ≤ gb672)); clear HB; have HB := n0_; have BK672 := n1_; have GW672 := n2_; have GE672 := n3_; clear n0_ n1_ n2_ n3_; clear hb hbox hg))
 go_loopg [9] k (fun kq v9 w' => ∃ (x9_1 : Int), v9 = .int .i64 x9_1 ∧ Ai0 (crM_MinSum.l0 kq l1 a2 x9_1 a0_0 l0_1 = some (r1, r2, r3)) ∧ Ai0 (kq ≤ k) ∧ Ai0 (w'.heap[gb672]? = some (.cells #[.int .i64 a0_0, (.slice A0_1 l0_1.length c0_1)] 24 (0, 0))) ∧ Ai0 (Below w.heap.size w w'))
 case atStart => exact ⟨(0), rf_, H', ⟨Nat.le_refl _⟩, ⟨kk_ BK672.out⟩, ⟨bl_⟩⟩
 case round =>
  clear H'
  try clear c1
  try clear p2
  try clear c4
  obtain ⟨x9_1, rfl, HA, HK1, BK672, HB⟩ := hrel
  cases gk with
  | zero => exact absurd HA.out (by simp [crM_MinSum.l0])
  | succ k1 =>
   have H := HA.out;clear HA;simp only [crM_MinSum.l0] at H;by_cases c5 : x9_1 ≤ a2
   ·rw [if_pos c5] at H;have c5b0 : decide (x9_1 ≤ a2) = true := decide_eq_true c5;clear c5;replace H := Option.bind_eq_some_iff.mp H;obtain ⟨t673, A60, H⟩ := H;replace H : ((crM_Decide.f k1 t673).bind fun t676 => ((crM_Unsatisfied.f k1 a0_0 l0_1 t676).bind fun t679 => (if (t679.length : Int) = 0 then (some (t676, x9_1, 0)) else (crM_MinSum.l0 k1 l1 a2 (wrap64 (x9_1 + 1)) a0_0 l0_1)))) = some (r1, r2, r3) := H;have A6 := Ai0.mk A60;clear A60;replace H := Option.bind_eq_some_iff.mp H;obtain ⟨t676, A70, H⟩ := H;replace H : ((crM_Unsatisfied.f k1 a0_0 l0_1 t676).bind fun t679 => (if (t679.length : Int) = 0 then (some (t676, x9_1, 0)) else (crM_MinSum.l0 k1 l1 a2 (wrap64 (x9_1 + 1)) a0_0 l0_1))) = some (r1, r2, r3) := H;have A7 := Ai0.mk A70;clear A70;replace H := Option.bind_eq_some_iff.mp H;obtain ⟨t679, A80, H⟩ := H;replace H : (if (t679.length : Int) = 0 then (some (t676, x9_1, 0)) else (crM_MinSum.l0 k1 l1 a2 (wrap64 (x9_1 + 1)) a0_0 l0_1)) = some (r1, r2, r3) := H;have A8 := Ai0.mk A80;clear A80;by_cases c9 : (t679.length : Int) = 0
    case' pos =>
     rw [if_pos c9] at H;have c9b0 : ((t679.length : Int) == 0) = true := beq_iff_eq.mpr c9;have c9b1 : ((t679.length : Int) != 0) = false := bne_eq_false_iff_eq.mpr c9;clear c9;simp only [Option.some.injEq, Prod.mk.injEq] at H;obtain ⟨rfl, rfl, rfl⟩ := H
    case' neg =>
     rw [if_neg c9] at H;have c9b0 : ((t679.length : Int) == 0) = false := beq_eq_false_iff_ne.mpr c9;have c9b1 : ((t679.length : Int) != 0) = true := bne_iff_ne.mpr c9;(have c9b2 : ¬ (t679 = []) := fun h_ => c9 (by rw [h_]; rfl));have H' := Ai0.mk H;clear H
    all_goals
     have hcz10_0 : wr.cell? ⟨gb672, 0, none⟩ = some (.int .i64 a0_0) := (kc1 BK672.out 0).trans rfl;have hcz10_1 : wr.cell? ⟨gb672, 1, none⟩ = some (.slice A0_1 l0_1.length c0_1) := (kc1 BK672.out 1).trans rfl;have hfz10_0 := kf1 BK672.out 0;have hfz10_1 := kf1 BK672.out 1
     go_wp2_with (first | ((with_reducible refine gate_callee (f := 40) rfl ?_); refine goesL_ (some 19) rfl rfl Try.func40 (by kernel_rfl) rfl #[.agg #[.int .i64 a0_0, .slice A0_1 l0_1.length c0_1], .slice A1 l1.length c1, .int .i64 x9_1] rfl (by (try simp only [List.map_toArray, List.map_cons, List.map_nil]); first | done | rfl | (simp only [List.length_drop, List.length_take]; rfl)) ?_; (with_reducible refine (crM_Beliefs.calls k1 a0_0 _ _ l0_1 _ _ l1 x9_1 t673 _ ?side1 ?side2 ?side3 ?side4 A6.out).mono ?_); (case side1 => exact kc_ HR0_1.out); (case side2 => exact HC0_1.out); (case side3 => exact kc_ HR1.out); (case side4 => exact HC1.out); rintro e w11 ⟨v674, rfl, ho0, hb⟩; refine ⟨_, rfl, ?_⟩; have n0_ := Ai0.mk (Kd.R_lower ho0 (bz1 bl_)); have n1_ := Ai0.mk (kb1 (g := gb672) (o := .cells #[.int .i64 a0_0, .slice A0_1 l0_1.length c0_1] 24 (0, 0)) (kk_ BK672.out) hb); have n2_ := Ai0.mk (bt1 bl_ hb); clear BK672; clear HB; have HO675 := n0_; have BK672 := n1_; have HB := n2_; clear n0_ n1_ n2_; (try clear hb); (try clear hb2); (try clear hk); (try clear hi); (try clear ho0); obtain ⟨Ao12, co12, eo12⟩ := Kd.R_slice HO675.out; subst eo12) | ((with_reducible refine gate_callee (f := 20) rfl ?_); refine goesL_ (some 20) rfl rfl Try.func20 (by kernel_rfl) rfl #[.slice Ao12 t673.length co12] rfl (by (try simp only [List.map_toArray, List.map_cons, List.map_nil]); first | done | rfl | (simp only [List.length_drop, List.length_take]; rfl)) ?_; (with_reducible refine (crM_Decide.calls k1 _ _ t673 t676 _ ?side1 ?side2 A7.out).mono ?_); (case side1 => repeat (first | exact (Kd.R_reads' HO675.out).2.2 | (with_reducible refine Kd.C_alloc ?_ _) | (with_reducible refine Kd.C_drewN ?_ _) | (with_reducible refine Kd.C_drew ?_))); (case side2 => exact (Kd.R_reads' HO675.out).2.1); rintro e w13 ⟨v677, rfl, ho0, hb⟩; refine ⟨_, rfl, ?_⟩; have n0_ := Ai0.mk (Kd.R_elder' (kr_ HO675.out) (Kd.R_base ho0) hb); have n1_ := Ai0.mk (Kd.R_lower (Kd.R_new' ho0 (Kd.R_lt (kr_ HO675.out))) (bz1 bl_)); have n2_ := Ai0.mk (kb1 (g := gb672) (o := .cells #[.int .i64 a0_0, .slice A0_1 l0_1.length c0_1] 24 (0, 0)) (kk_ BK672.out) hb); have n3_ := Ai0.mk (bt1 bl_ hb); clear HO675; clear BK672; clear HB; have HO675 := n0_; have HO678 := n1_; have BK672 := n2_; have HB := n3_; clear n0_ n1_ n2_ n3_; (try clear hb); (try clear hb2); (try clear hk); (try clear hi); (try clear ho0); have hcz14_0 : w13.cell? ⟨gb672, 0, none⟩ = some (.int .i64 a0_0) := (kc1 BK672.out 0).trans rfl; have hcz14_1 : w13.cell? ⟨gb672, 1, none⟩ = some (.slice A0_1 l0_1.length c0_1) := (kc1 BK672.out 1).trans rfl; have hfz14_0 := kf1 BK672.out 0; have hfz14_1 := kf1 BK672.out 1; obtain ⟨Ao15, co15, eo15⟩ := Kd.R_slice HO678.out; subst eo15) | ((with_reducible refine gate_callee (f := 22) rfl ?_); refine goesL_ (some 23) rfl rfl Try.func22 (by kernel_rfl) rfl #[.agg #[.int .i64 a0_0, .slice A0_1 l0_1.length c0_1], .slice Ao15 t676.length co15] rfl (by (try simp only [List.map_toArray, List.map_cons, List.map_nil]); first | done | rfl | (simp only [List.length_drop, List.length_take]; rfl)) ?_; (with_reducible refine (crM_Unsatisfied.calls k1 a0_0 _ _ l0_1 _ _ t676 t679 _ ?side1 ?side2 ?side3 ?side4 A8.out).mono ?_); (case side1 => exact kc_ HR0_1.out); (case side2 => exact HC0_1.out); (case side3 => repeat (first | exact (Kd.R_reads' HO678.out).2.2 | (with_reducible refine Kd.C_alloc ?_ _) | (with_reducible refine Kd.C_drewN ?_ _) | (with_reducible refine Kd.C_drew ?_))); (case side4 => exact (Kd.R_reads' HO678.out).2.1); rintro e w16 ⟨v680, rfl, ho0, hb⟩; refine ⟨_, rfl, ?_⟩; have n0_ := Ai0.mk (Kd.R_elder' (kr_ HO675.out) (Kd.R_base ho0) hb); have n1_ := Ai0.mk (Kd.R_elder' (kr_ HO678.out) (Kd.R_base ho0) hb); have n2_ := Ai0.mk (Kd.R_lower (Kd.R_new' (Kd.R_new' ho0 (Kd.R_lt (kr_ HO675.out))) (Kd.R_lt (kr_ HO678.out))) (bz1 bl_)); have n3_ := Ai0.mk (kb1 (g := gb672) (o := .cells #[.int .i64 a0_0, .slice A0_1 l0_1.length c0_1] 24 (0, 0)) (kk_ BK672.out) hb); have n4_ := Ai0.mk (bt1 bl_ hb); clear HO675; clear HO678; clear BK672; clear HB; have HO675 := n0_; have HO678 := n1_; have HO681 := n2_; have BK672 := n3_; have HB := n4_; clear n0_ n1_ n2_ n3_ n4_; (try clear hb); (try clear hb2); (try clear hk); (try clear hi); (try clear ho0); obtain ⟨Ao17, co17, eo17⟩ := Kd.R_slice HO681.out; subst eo17))
    ·go_roundg k1
     case measure => have := HK1.out; omega
     case rel => exact ⟨(wrap64 (x9_1 + 1)), rf_, H', ⟨by have := HK1.out; omega⟩, ⟨kk_ BK672.out⟩, ⟨bl_⟩⟩
    ·go_ret3
     exact ⟨_, by first | rfl | (simp [eW0, eW1] <;> rfl) | (simp [*, eW0, eW1] <;> rfl), by (with_reducible repeat (first | apply Kd.Ra1 | apply Kd.Rn1 | apply Kd.Rd1)); exact Kd.R_mono HO678.out (fun _ hk => trivial), bl_⟩
   ·rw [if_neg c5] at H;have c5b0 : decide (x9_1 ≤ a2) = false := decide_eq_false c5;clear c5;simp only [Option.some.injEq, Prod.mk.injEq] at H;obtain ⟨rfl, rfl, rfl⟩ := H
    go_wp2
    go_ret3
    exact ⟨_, by first | rfl | (simp [eW0, eW1] <;> rfl) | (simp [*, eW0, eW1] <;> rfl), by first | exact Kd.R_nil _ _ _ _ _ | exact Kd.N_nil _ _ _ _ _ | exact Kd.V_nil _ _ _ _ _ | exact Kd.Q_nil _ _ _ _ _ | exact Kd.S_nil _ _ _ _ _, bl_⟩
end Go.Proofs.Ytmclalniilkjiaa.Q
/- The printed MinSum and the document's MinSum answer alike, the errors too. No condition on the arguments. -/
namespace Go.Proofs.Ytmclalniilkjiaa.Mi
open Go.RowKit Go.Proofs.Ytmclalniilkjiaa.Q Go.Proofs.YtmclalniilkjiaaW.PrintWords Go.Proofs.YtmclalniilkjiaaW.PrintLast Go.Proofs.YtmclalniilkjiaaW.PrintMore Go.Proofs.Ytmclalniilkjiaa.Ba Go.Proofs.Ytmclalniilkjiaa.Ck Go.Proofs.Ytmclalniilkjiaa.Gr Go.Proofs.Ytmclalniilkjiaa.Un Go.Proofs.Ytmclalniilkjiaa.Fl Go.Proofs.Ytmclalniilkjiaa.Ms Go.Proofs.Ytmclalniilkjiaa.Rv Go.Proofs.Ytmclalniilkjiaa.Rp Go.Proofs.Ytmclalniilkjiaa.Be

theorem okb_dec (l : List Int) : okb (dec l) = true := by
 unfold okb
 refine List.all_eq_true.2 (fun x hx => decide_eq_true ?_)
 obtain ⟨i, _, rfl⟩ := List.mem_map.1 hx
 split <;> omega
/-- The first decision from round r on that satisfies all checks, at most d rounds on. -/
def mres (rows : List (List Int)) (C : Nat) (inp : List Int) : Nat → Nat → List Int × Int × Int
 | 0, r => if (uns rows (dec (bel rows C inp r)) C rows.length).length = 0 then (dec (bel rows C inp r), (r : Int), 0) else ([], 0, 12)
 | d + 1, r => if (uns rows (dec (bel rows C inp r)) C rows.length).length = 0 then (dec (bel rows C inp r), (r : Int), 0) else mres rows C inp d (r + 1)
section
variable {c : Int} {rows : List (List Int)} {inp : List Int} {C : Nat}
theorem bel_len (rows : List (List Int)) (C : Nat) (inp : List Int) (r : Nat) : (bel rows C inp r).length = C := LL_length _ _
theorem dec_len (rows : List (List Int)) (C : Nat) (inp : List Int) (r : Nat) : (dec (bel rows C inp r)).length = C := (LL_length _ _).trans (bel_len rows C inp r)
theorem dec_Ok (ok : OkI c rows inp C) (r : Nat) : Ok c rows (dec (bel rows C inp r)) C := ⟨ok.k, ok.c, ok.hC, ok.hr, ok.hrl, ok.hrow, dec_len rows C inp r, okb_dec _⟩
theorem mres_word (rows : List (List Int)) (C : Nat) (inp : List Int) : ∀ d r, (mres rows C inp d r).1.length ≤ C
 | 0, r => by
  simp only [mres]
  split
  ·exact Nat.le_of_eq (dec_len rows C inp r)
  ·exact Nat.zero_le _
 | d + 1, r => by
  simp only [mres]
  split
  ·exact Nat.le_of_eq (dec_len rows C inp r)
  ·exact mres_word rows C inp d (r + 1)
theorem MinSum_l0 (ok : OkI c rows inp C) (R : Nat) (hR : R ≤ 256) : ∀ d r : Nat, r + d = R →
  Ev (fun k => message_MinSum.l0 k inp (R : Int) (dn rows C (msF rows C inp r)) (r : Int) (checks rows C rows.length) (at_ rows C rows.length)) (mres rows C inp d r)
 | d, r, h => by
  have hC := ok.hC
  have hb := beliefs_ev rows C inp _ ok.hr ok.hC ok.hlen (msF_bd rows C inp r) ok.hI
  have hd := Decide_ev (bel rows C inp r) (by rw [bel_len]; exact hC)
  have okd := dec_Ok ok r
  have hu := unsat_ev rows okd.hw C okd.hC okd.hlen okd.hr (at_ rows C rows.length)
  refine Ev.step (f := fun k => (mg_beliefs.f k (checks rows C rows.length) (at_ rows C rows.length) inp (dn rows C (msF rows C inp r))).bind fun t660 => ((message_Decide.f k t660).bind fun t663 => ((mg_unsatisfied.f k (checks rows C rows.length) (at_ rows C rows.length) t663).bind fun t666 => (if (t666.length : Int) = 0 then (some (t663, (r : Int), 0)) else (if (r : Int) = (R : Int) then (some (([] : List Int), 0, 12)) else ((mg_round.f k (checks rows C rows.length) (at_ rows C rows.length) inp (dn rows C (msF rows C inp r))).bind fun t669 => (message_MinSum.l0 k inp (R : Int) t669 (wrap64 ((r : Int) + 1)) (checks rows C rows.length) (at_ rows C rows.length)))))))) (fun k => ?_) (hb.bind (hd.bind (hu.bind ?_)))
  ·simp only [message_MinSum.l0]
  by_cases h0 : (uns rows (dec (bel rows C inp r)) C rows.length).length = 0
  ·have e : mres rows C inp d r = (dec (bel rows C inp r), (r : Int), 0) := by cases d <;> simp only [mres] <;> rw [if_pos h0]
   rw [e]
   exact Ev.congr (fun k => if_pos (by omega)) (Ev.now _)
  ·refine Ev.congr (fun k => if_neg (by omega)) ?_
   cases d with
   | zero =>
    have e : mres rows C inp 0 r = ([], 0, 12) := by simp only [mres]; rw [if_neg h0]
    rw [e]
    exact Ev.congr (fun k => if_pos (by omega)) (Ev.now _)
   | succ d =>
    have ih := MinSum_l0 ok R hR d (r + 1) (by omega)
    have e : mres rows C inp (d + 1) r = mres rows C inp d (r + 1) := by simp only [mres]; rw [if_neg h0]
    rw [e]
    refine Ev.congr (fun k => if_neg (by omega)) ((round_ev rows C inp _ ok.hr ok.hC ok.hlen (msF_bd _ _ _ _) ok.hI).bind ?_)
    rw [w64_id (by omega) (by omega)]
    exact ih
theorem MinSum_ok (ok : OkI c rows inp C) (R : Nat) (hR : R ≤ 256) (h : args c rows inp (R : Int) = 0) : Ev (fun k => message_MinSum.f k c rows inp (R : Int)) (mres rows C inp R 0) := by
 unfold message_MinSum.f
 refine (build_I ok).bind (Ev.congr (fun k => if_pos rfl) ((inputs_ev c (by have := ok.c; have := ok.hC; omega) rows inp R).bind (Ev.congr (fun k => if_pos (iv_0 ok h)) ?_)))
 exact (messages_ev rows C ok.hr ok.hC _).bind (MinSum_l0 ok R hR R 0 (by omega))
theorem MinSum_no {n : Int} (h : args c rows inp n ≠ 0) : Ev (fun k => message_MinSum.f k c rows inp n) ([], 0, args c rows inp n) := by
 unfold message_MinSum.f
 by_cases hk : chk c rows = 0
 ·have e : args c rows inp n = iv c inp n := if_pos hk
  rw [e] at h ⊢
  have hk2 := chk_ok hk
  refine (build_ok hk).bind (Ev.congr (fun k => if_pos rfl) ((inputs_ev c hk2.2.1 rows inp n).bind ?_))
  exact Ev.congr (fun k => if_neg h) (Ev.now _)
 ·have e : args c rows inp n = chk c rows := if_neg hk
  rw [e]
  exact (build_no hk).bind (Ev.congr (fun k => if_neg hk) (Ev.now _))
theorem rMinSum_l0 (ok : OkI c rows inp C) (R : Nat) (hR : R ≤ 256) : ∀ d r : Nat, r + d = R →
  Ev (fun k => crM_MinSum.l0 k inp (R : Int) (r : Int) c rows) (mres rows C inp d r)
 | d, r, h => by
  have hC := ok.hC
  have hb := rBeliefs_ok ok r (by omega)
  have hd := rDecide_ev (bel rows C inp r) (by rw [bel_len]; exact hC)
  have hu := rUnsat_ok (dec_Ok ok r)
  refine Ev.step (f := fun k => (crM_Beliefs.f k c rows inp (r : Int)).bind fun t673 => ((crM_Decide.f k t673).bind fun t676 => ((crM_Unsatisfied.f k c rows t676).bind fun t679 => (if (t679.length : Int) = 0 then (some (t676, (r : Int), 0)) else (crM_MinSum.l0 k inp (R : Int) ((r + 1 : Nat) : Int) c rows))))) (fun k => ?_) (hb.bind (hd.bind (hu.bind ?_)))
  ·simp only [crM_MinSum.l0]
   rw [if_pos (by omega), w64_id (by omega) (by omega)]
   rfl
  by_cases h0 : (uns rows (dec (bel rows C inp r)) C rows.length).length = 0
  ·have e : mres rows C inp d r = (dec (bel rows C inp r), (r : Int), 0) := by cases d <;> simp only [mres] <;> rw [if_pos h0]
   rw [e]
   exact Ev.congr (fun k => if_pos (by omega)) (Ev.now _)
  ·refine Ev.congr (fun k => if_neg (by omega)) ?_
   cases d with
   | zero =>
    have e : mres rows C inp 0 r = ([], 0, 12) := by simp only [mres]; rw [if_neg h0]
    rw [e]
    refine Ev.step (f := fun _ => some _) (fun k => ?_) (Ev.now _)
    simp only [crM_MinSum.l0]
    rw [if_neg (by omega)]
   | succ d =>
    have ih := rMinSum_l0 ok R hR d (r + 1) (by omega)
    have e : mres rows C inp (d + 1) r = mres rows C inp d (r + 1) := by simp only [mres]; rw [if_neg h0]
    rw [e]
    exact ih
theorem rMinSum_ok (ok : OkI c rows inp C) (R : Nat) (hR : R ≤ 256) : Ev (fun k => crM_MinSum.f k c rows inp (R : Int)) (mres rows C inp R 0) :=
 rMinSum_l0 ok R hR R 0 (by omega)
end
end Go.Proofs.Ytmclalniilkjiaa.Mi
namespace Go.Proofs.Ytmclalniilkjiaa.Q
open Go.RowKit Go.Proofs.YtmclalniilkjiaaW.PrintWords Go.Proofs.YtmclalniilkjiaaW.PrintLast Go.Proofs.YtmclalniilkjiaaW.PrintMore
open List renaming setIfInBounds_toArray → l01_, set_cons_zero → l02_, set_cons_succ → l03_
attribute [local go_sem] max2_int min2_int max_two min_two max_three min_three max_four min_four
set_option linter.unusedVariables false
set_option linter.unusedSimpArgs false
mutual
def cr9_Few.j0 : Nat → Int → Bool → Int → List (List Int) → Option (Bool)
 | 0, _, _, _, _ => none
 | k + 1, x1, x16, x424000, x424001 => if x16 = true then (some false) else (cr9_Few.l0 k (wrap64 (x1 - (x424001.length : Int))) 0 x424000 x424001)
def cr9_Few.l0 : Nat → Int → Int → Int → List (List Int) → Option (Bool)
 | 0, _, _, _, _ => none
 | k + 1, x5, x6, x424000, x424001 => if x6 < (x424001.length : Int) then (if 0 ≤ x6 then (if ((rd_L1 x424001 x6).length : Int) > x5 then (some false) else (cr9_Few.l0 k (wrap64 (x5 - ((rd_L1 x424001 x6).length : Int))) (wrap64 (x6 + 1)) x424000 x424001)) else (none)) else (some true)
end
def cr9_Few.f (k : Nat) (a0_0 : Int) (l0_1 : List (List Int)) (a1 : Int) : Option (Bool) := if a0_0 > 260 then (cr9_Few.j0 k a1 true a0_0 l0_1) else (cr9_Few.j0 k a1 (decide ((l0_1.length : Int) > a1)) a0_0 l0_1)
theorem cr9_Few.mono_l : ∀ k, (∀ y0 y1 y2 y3, LeO (cr9_Few.j0 k y0 y1 y2 y3) (cr9_Few.j0 (k + 1) y0 y1 y2 y3)) ∧ (∀ y0 y1 y2 y3, LeO (cr9_Few.l0 k y0 y1 y2 y3) (cr9_Few.l0 (k + 1) y0 y1 y2 y3))
 | 0 => ⟨fun _ _ _ _ r h => by simp [cr9_Few.j0] at h, fun _ _ _ _ r h => by simp [cr9_Few.l0] at h⟩
 | k + 1 => by
  obtain ⟨ih0, ih1⟩ := cr9_Few.mono_l k;refine ⟨?_, ?_⟩
  ·intro y0 y1 y2 y3;unfold cr9_Few.j0
   repeat' first
   | (with_reducible exact ih0 _ _ _ _)
   | (with_reducible exact ih1 _ _ _ _)
   | (with_reducible exact LeO.refl _)
   | (with_reducible exact LeO.none _)
   | (with_reducible refine LeO.ite ?_ ?_)
   | (with_reducible refine LeO.bind ?_ (fun _ => ?_))
   | exact ih0 _ _ _ _
   | exact ih1 _ _ _ _
   | exact LeO.none _
   | refine LeO.ite ?_ ?_
   | refine LeO.bind ?_ (fun _ => ?_)
  ·intro y0 y1 y2 y3;unfold cr9_Few.l0
   repeat' first
   | (with_reducible exact ih0 _ _ _ _)
   | (with_reducible exact ih1 _ _ _ _)
   | (with_reducible exact LeO.refl _)
   | (with_reducible exact LeO.none _)
   | (with_reducible refine LeO.ite ?_ ?_)
   | (with_reducible refine LeO.bind ?_ (fun _ => ?_))
   | exact ih0 _ _ _ _
   | exact ih1 _ _ _ _
   | exact LeO.none _
   | refine LeO.ite ?_ ?_
   | refine LeO.bind ?_ (fun _ => ?_)
theorem cr9_Few.mono : ∀ a0 a1 a2 k, LeO (cr9_Few.f k a0 a1 a2) (cr9_Few.f (k + 1) a0 a1 a2) := by
 intro a0 a1 a2 k;obtain ⟨ih0, ih1⟩ := cr9_Few.mono_l k;unfold cr9_Few.f
 repeat' first
   | (with_reducible exact ih0 _ _ _ _)
   | (with_reducible exact ih1 _ _ _ _)
   | (with_reducible exact LeO.refl _)
   | (with_reducible exact LeO.none _)
   | (with_reducible refine LeO.ite ?_ ?_)
   | (with_reducible refine LeO.bind ?_ (fun _ => ?_))
   | exact ih0 _ _ _ _
   | exact ih1 _ _ _ _
   | exact LeO.none _
   | refine LeO.ite ?_ ?_
   | refine LeO.bind ?_ (fun _ => ?_)
set_option maxHeartbeats 8000000 in
set_option maxRecDepth 100000 in
theorem cr9_Few.calls (k : Nat) (a0_0 : Int) (A0_1 : Option Addr) (c0_1 : Nat) (l0_1 : List (List Int)) (a1 : Int) (r : Bool) (w : World) (hr0_1 : Kd.C (Kd.slice 3 (Kd.int .i64)) w A0_1 l0_1.length l0_1) (hc0_1 : l0_1.length ≤ c0_1) (h : cr9_Few.f k a0_0 l0_1 a1 = some r) :
  Calls Try.prog 28 #[.agg #[.int .i64 a0_0, .slice A0_1 l0_1.length c0_1], .int .i64 a1] w fun e w' => e = .returned (.bool r) ∧ Below w.heap.size w w' := by
 have hu24 := Try.underlying24;have HR0_1 := Ai0.mk hr0_1;have HC0_1 := Ai0.mk hc0_1;clear hr0_1 hc0_1;have HB := Ai0.mk (Below.refl w.heap.size w);have H : (if a0_0 > 260 then (cr9_Few.j0 k a1 true a0_0 l0_1) else (cr9_Few.j0 k a1 (decide ((l0_1.length : Int) > a1)) a0_0 l0_1)) = some r := h;clear h;have HC3 := Ai0.mk H;clear H;go_enter Try.func28, Try.ntmps28
 go_upto_region 1 with (first | ((with_reducible refine gate_dst (N := 2) rfl ?_); (try (refine gate_guard (by rfl) ?_; dsimp only)); refine box_event ?hg (N := 2) ?hd (cs := #[.int .i64 a0_0, .slice A0_1 l0_1.length c0_1]) (t := 24) ?hr ?_; (case hd => rfl); (case hg => rfl); (case hr => first | (go_simp; done) | (go_simp; rfl)); intro gb423 hg w4 hbox hb; have n0_ := Ai0.mk (bt1 bl_ hb); have n1_ := Ai0.mk (hbox); have n2_ := Ai0.mk ((by rw [hg]; exact (bz1 bl_) : w.heap.size ≤ gb423)); have n3_ := Ai0.mk ((by rw [hg]; exact (bz1 bl_) : w.heap.size ≤ gb423)); clear HB; have HB := n0_; have BK423 := n1_; have GW423 := n2_; have GE423 := n3_; clear n0_ n1_ n2_ n3_; clear hb hbox hg))
 (try simp only [Act.put, l01_, l02_, l03_])
 go_cut [16] (fun v16 wc => ∃ (kq : Nat) (x16_2 : Bool), v16 = .bool x16_2 ∧ Ai0 (cr9_Few.j0 kq a1 x16_2 a0_0 l0_1 = some r) ∧ Ai0 (kq ≤ k) ∧ Ai0 (wc.heap[gb423]? = some (.cells #[.int .i64 a0_0, (.slice A0_1 l0_1.length c0_1)] 24 (0, 0))) ∧ Ai0 (Below w.heap.size w wc))
 case first =>
  have H := HC3.out;clear HC3;by_cases c5 : a0_0 > 260
  ·rw [if_pos c5] at H;have c5b0 : decide (260 < a0_0) = true := decide_eq_true c5;clear c5;(first | rw [c5b0] | (simp only [i64_w, i32_w]; rw [c5b0]) | skip);have H' := Ai0.mk H;clear H;have hcz6_0 : w4.cell? ⟨gb423, 0, none⟩ = some (.int .i64 a0_0) := (kc1 BK423.out 0).trans rfl;have hcz6_1 : w4.cell? ⟨gb423, 1, none⟩ = some (.slice A0_1 l0_1.length c0_1) := (kc1 BK423.out 1).trans rfl;have hfz6_0 := kf1 BK423.out 0;have hfz6_1 := kf1 BK423.out 1
   go_wp2
   go_meet
   case rel => exact ⟨_, (true), rf_, H', ⟨by first | omega | exact Nat.le_refl _⟩, ⟨kk_ BK423.out⟩, ⟨bl_⟩⟩
  ·rw [if_neg c5] at H;have c5b0 : decide (260 < a0_0) = false := decide_eq_false c5;clear c5;(first | rw [c5b0] | (simp only [i64_w, i32_w]; rw [c5b0]) | skip);have H' := Ai0.mk H;clear H;have hcz7_0 : w4.cell? ⟨gb423, 0, none⟩ = some (.int .i64 a0_0) := (kc1 BK423.out 0).trans rfl;have hcz7_1 : w4.cell? ⟨gb423, 1, none⟩ = some (.slice A0_1 l0_1.length c0_1) := (kc1 BK423.out 1).trans rfl;have hfz7_0 := kf1 BK423.out 0;have hfz7_1 := kf1 BK423.out 1
   go_wp2
   go_meet
   case rel => exact ⟨_, (decide ((l0_1.length : Int) > a1)), rf_, H', ⟨by first | omega | exact Nat.le_refl _⟩, ⟨kk_ BK423.out⟩, ⟨bl_⟩⟩
 case rest =>
  clear HC3
  try clear c2
  try clear p2
  try clear c5
  try clear c5b0
  try clear hcz6_0
  try clear hcz6_1
  try clear hcz7_0
  try clear hcz7_1
  try clear hfz6_0
  try clear hfz6_1
  try clear hfz7_0
  try clear hfz7_1
  obtain ⟨kq, x16_2, rfl, HA, HJ2, BK423, HB⟩ := hcut
  cases kq with
  | zero => exact absurd HA.out (by simp [cr9_Few.j0])
  | succ kj2 =>
   have H := HA.out;clear HA;simp only [cr9_Few.j0] at H;by_cases c8 : x16_2 = true
   ·subst c8;(have H1 : (some false) = some r := by rw [if_pos rfl] at H; exact H);clear H;have H := H1;clear H1;obtain rfl := Option.some.inj H
    go_wp2
    go_ret
    exact ⟨by first | rfl | (simp [eW0, eW1] <;> rfl) | (simp [*, eW0, eW1] <;> rfl), bl_⟩
   ·replace c8 := Bool.eq_false_iff.mpr c8;subst c8;(have H1 : (cr9_Few.l0 kj2 (wrap64 (a1 - (l0_1.length : Int))) 0 a0_0 l0_1) = some r := by rw [if_neg (show ¬ (false = true) by decide)] at H; exact H);clear H;have H := H1;clear H1;have H' := Ai0.mk H;clear H;have hcz9_0 : wc.cell? ⟨gb423, 0, none⟩ = some (.int .i64 a0_0) := (kc1 BK423.out 0).trans rfl;have hcz9_1 : wc.cell? ⟨gb423, 1, none⟩ = some (.slice A0_1 l0_1.length c0_1) := (kc1 BK423.out 1).trans rfl;have hfz9_0 := kf1 BK423.out 0;have hfz9_1 := kf1 BK423.out 1
    go_wp2
    go_loopg [5, 6] kj2 (fun kq v5 v6 w' => ∃ (x5_2 : Int) (x6_2 : Int), v5 = .int .i64 x5_2 ∧ v6 = .int .i64 x6_2 ∧ Ai0 (cr9_Few.l0 kq x5_2 x6_2 a0_0 l0_1 = some r) ∧ Ai0 (kq ≤ kj2) ∧ Ai0 (w'.heap[gb423]? = some (.cells #[.int .i64 a0_0, (.slice A0_1 l0_1.length c0_1)] 24 (0, 0))) ∧ Ai0 (Below w.heap.size w w'))
    case atStart => exact ⟨(wrap64 (a1 - (l0_1.length : Int))), (0), rf_, rf_, H', ⟨Nat.le_refl _⟩, ⟨kk_ BK423.out⟩, ⟨bl_⟩⟩
    case round =>
     clear H'
     try clear c2
     try clear p2
     try clear c5
     try clear c5b0
     try clear p6
     try clear c8
     try clear hcz6_0
     try clear hcz6_1
     try clear hcz7_0
     try clear hcz7_1
     try clear hcz9_0
     try clear hcz9_1
     try clear hfz6_0
     try clear hfz6_1
     try clear hfz7_0
     try clear hfz7_1
     try clear hfz9_0
     try clear hfz9_1
     try clear p2
     obtain ⟨x5_2, x6_2, rfl, rfl, HA, HK2, BK423, HB⟩ := hrel
     cases gk with
     | zero => exact absurd HA.out (by simp [cr9_Few.l0])
     | succ k2 =>
      have H := HA.out;clear HA;simp only [cr9_Few.l0] at H;by_cases c10 : x6_2 < (l0_1.length : Int)
      ·rw [if_pos c10] at H;have c10b0 : decide (x6_2 < (l0_1.length : Int)) = true := decide_eq_true c10;clear c10;by_cases c11 : 0 ≤ x6_2
       ·rw [if_pos c11] at H;have c11b0 : decide (0 ≤ x6_2) = true := decide_eq_true c11;clear c11;by_cases c12 : ((rd_L1 l0_1 x6_2).length : Int) > x5_2
        ·rw [if_pos c12] at H;have c12b0 : decide (x5_2 < ((rd_L1 l0_1 x6_2).length : Int)) = true := decide_eq_true c12;clear c12;obtain rfl := Option.some.inj H;have hcz13_0 : wr.cell? ⟨gb423, 0, none⟩ = some (.int .i64 a0_0) := (kc1 BK423.out 0).trans rfl;have hcz13_1 : wr.cell? ⟨gb423, 1, none⟩ = some (.slice A0_1 l0_1.length c0_1) := (kc1 BK423.out 1).trans rfl;have hfz13_0 := kf1 BK423.out 0;have hfz13_1 := kf1 BK423.out 1;have p424 : 0 ≤ (x6_2 : Int) := od_;have q424 : x6_2 < (l0_1.length : Int) := od_;obtain ⟨ad424, A424_0, c424_0, e424, hx424_0, hl424_0, hi424_0⟩ := at_L1 HR0_1.out x6_2 p424 q424;cases e424;replace hx424_0 := (HB.out.cell (World.block_lt_of_cell? w _ hx424_0)).trans hx424_0;have HR424_0 := Ai0.mk hi424_0;have HC424_0 := Ai0.mk hl424_0;clear hi424_0 hl424_0;replace p424 := eq_true p424;replace q424 := eq_true q424
         go_wp2
         go_ret
         exact ⟨by first | rfl | (simp [eW0, eW1] <;> rfl) | (simp [*, eW0, eW1] <;> rfl), bl_⟩
        ·rw [if_neg c12] at H;have c12b0 : decide (x5_2 < ((rd_L1 l0_1 x6_2).length : Int)) = false := decide_eq_false c12;clear c12;have H' := Ai0.mk H;clear H;have hcz14_0 : wr.cell? ⟨gb423, 0, none⟩ = some (.int .i64 a0_0) := (kc1 BK423.out 0).trans rfl;have hcz14_1 : wr.cell? ⟨gb423, 1, none⟩ = some (.slice A0_1 l0_1.length c0_1) := (kc1 BK423.out 1).trans rfl;have hfz14_0 := kf1 BK423.out 0;have hfz14_1 := kf1 BK423.out 1;have p424 : 0 ≤ (x6_2 : Int) := od_;have q424 : x6_2 < (l0_1.length : Int) := od_;obtain ⟨ad424, A424_0, c424_0, e424, hx424_0, hl424_0, hi424_0⟩ := at_L1 HR0_1.out x6_2 p424 q424;cases e424;replace hx424_0 := (HB.out.cell (World.block_lt_of_cell? w _ hx424_0)).trans hx424_0;have HR424_0 := Ai0.mk hi424_0;have HC424_0 := Ai0.mk hl424_0;clear hi424_0 hl424_0;replace p424 := eq_true p424;replace q424 := eq_true q424;have p425 : 0 ≤ (x6_2 : Int) := od_;have q425 : x6_2 < (l0_1.length : Int) := od_;obtain ⟨ad425, A425_0, c425_0, e425, hx425_0, hl425_0, hi425_0⟩ := at_L1 HR0_1.out x6_2 p425 q425;obtain rfl : ad424 = ad425 := (by injection e425);replace hx425_0 := (HB.out.cell (World.block_lt_of_cell? w _ hx425_0)).trans hx425_0;have HR425_0 := Ai0.mk hi425_0;have HC425_0 := Ai0.mk hl425_0;clear hi425_0 hl425_0;replace p425 := eq_true p425;replace q425 := eq_true q425;have ea_ := Option.some.inj (hx424_0.symm.trans hx425_0)
         injection ea_ with ea_ en_ ec_
         subst ea_;subst ec_;clear en_
         go_wp2
         go_roundg k2
         case measure => have := HJ2.out; have := HK2.out; omega
         case rel => exact ⟨(wrap64 (x5_2 - ((rd_L1 l0_1 x6_2).length : Int))), (wrap64 (x6_2 + 1)), rf_, rf_, H', ⟨by have := HJ2.out; have := HK2.out; omega⟩, ⟨kk_ BK423.out⟩, ⟨bl_⟩⟩
       ·rw [if_neg c11] at H;exact absurd H (by simp)
      ·rw [if_neg c10] at H;have c10b0 : decide (x6_2 < (l0_1.length : Int)) = false := decide_eq_false c10;clear c10;obtain rfl := Option.some.inj H;have hcz15_0 : wr.cell? ⟨gb423, 0, none⟩ = some (.int .i64 a0_0) := (kc1 BK423.out 0).trans rfl;have hcz15_1 : wr.cell? ⟨gb423, 1, none⟩ = some (.slice A0_1 l0_1.length c0_1) := (kc1 BK423.out 1).trans rfl;have hfz15_0 := kf1 BK423.out 0;have hfz15_1 := kf1 BK423.out 1
       go_wp2
       go_ret
       exact ⟨by first | rfl | (simp [eW0, eW1] <;> rfl) | (simp [*, eW0, eW1] <;> rfl), bl_⟩
end Go.Proofs.Ytmclalniilkjiaa.Q
