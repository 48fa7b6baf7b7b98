-- Joined by pack.py, a program of this work: Qx6 Qx7 Qx8 Qx9 Qx10 Qx11 Qx12 Qx13 Qx14
import Derived.Test.YtmclalniilkjiaaZExact0
namespace Go.Proofs.Ytmclalniilkjiaa.Q
open Go.RowKit Go.Proofs.YtmclalniilkjiaaW.PrintWords Go.Proofs.YtmclalniilkjiaaW.PrintLast Go.Proofs.YtmclalniilkjiaaW.PrintMore
open List renaming setIfInBounds_toArray → l01_, set_cons_zero → l02_, set_cons_succ → l03_
attribute [local go_sem] max2_int min2_int max_two min_two max_three min_three max_four min_four
set_option linter.unusedVariables false
set_option linter.unusedSimpArgs false
mutual
def field_multiply.l0 : Nat → List Int → List Int → List Int → Int → Int → Int → List Int → Option (Int)
 | 0, _, _, _, _, _, _, _ => none
 | k + 1, x7, x8, x9, x10, x111000, x111001, x111002 => if x10 ≥ 0 then (if 0 ≤ (wrap64 (x111001 - 1)) then (if (wrap64 (x111001 - 1)) < (x9.length : Int) then (if (wrap64 (x111001 - 1)) + 1 = (x9.length : Int) then (field_multiply.l1 k x7 x8 ((x9.take 1 ++ x9.take (x9.length - 1)).set (0 : Int).toNat 0) x10 (rd x9 (wrap64 (x111001 - 1))) (x9.length : Int) 0 x111000 x111001 x111002) else (none)) else (none)) else (none)) else ((field_valueOf.f k x9 x111000).bind fun t120 => (some t120))
def field_multiply.l1 : Nat → List Int → List Int → List Int → Int → Int → Int → Int → Int → Int → List Int → Option (Int)
 | 0, _, _, _, _, _, _, _, _, _, _ => none
 | k + 1, x7, x8, x9, x10, x11, x53, x54, x111000, x111001, x111002 => if x54 < x53 then (if x111001 > 1 then (if 0 ≤ x54 then (if x54 < (x111002.length : Int) then (if x54 < (x9.length : Int) then (if 0 ≤ x10 then (if x10 < (x8.length : Int) then (if x54 < (x7.length : Int) then (if x111000 = 0 then (none) else (field_multiply.l1 k x7 x8 (x9.set (x54 : Int).toNat (Int.tmod (wrap64 ((wrap64 ((rd x9 x54) + (wrap64 ((wrap64 (x111000 - x11)) * (rd x111002 x54))))) + (wrap64 ((rd x8 x10) * (rd x7 x54))))) x111000)) x10 x11 x53 (wrap64 (x54 + 1)) x111000 x111001 x111002)) else (none)) else (none)) else (none)) else (none)) else (none)) else (none)) else (if 0 ≤ x54 then (if x54 < (x9.length : Int) then (if 0 ≤ x10 then (if x10 < (x8.length : Int) then (if x54 < (x7.length : Int) then (if x111000 = 0 then (none) else (field_multiply.l1 k x7 x8 (x9.set (x54 : Int).toNat (Int.tmod (wrap64 ((wrap64 ((rd x9 x54) + (wrap64 0))) + (wrap64 ((rd x8 x10) * (rd x7 x54))))) x111000)) x10 x11 x53 (wrap64 (x54 + 1)) x111000 x111001 x111002)) else (none)) else (none)) else (none)) else (none)) else (none))) else (field_multiply.l0 k x7 x8 x9 (wrap64 (x10 - 1)) x111000 x111001 x111002)
end
def field_multiply.f (k : Nat) (a0_0 : Int) (a0_1 : Int) (l0_2 : List Int) (a1 : Int) (a2 : Int) : Option (Int) := (field_digitsOf.f k a1 a0_0 a0_1).bind fun t111 => ((field_digitsOf.f k a2 a0_0 a0_1).bind fun t114 => (if 0 ≤ a0_1 then (if (a0_1 : Int).toNat ≤ 35184372088832 then (field_multiply.l0 k t111 t114 (List.replicate (a0_1 : Int).toNat 0) (wrap64 (a0_1 - 1)) a0_0 a0_1 l0_2) else (none)) else (none)))
theorem field_multiply.mono_l : ∀ k, (∀ y0 y1 y2 y3 y4 y5 y6, LeO (field_multiply.l0 k y0 y1 y2 y3 y4 y5 y6) (field_multiply.l0 (k + 1) y0 y1 y2 y3 y4 y5 y6)) ∧ (∀ y0 y1 y2 y3 y4 y5 y6 y7 y8 y9, LeO (field_multiply.l1 k y0 y1 y2 y3 y4 y5 y6 y7 y8 y9) (field_multiply.l1 (k + 1) y0 y1 y2 y3 y4 y5 y6 y7 y8 y9))
 | 0 => ⟨fun _ _ _ _ _ _ _ r h => by simp [field_multiply.l0] at h, fun _ _ _ _ _ _ _ _ _ _ r h => by simp [field_multiply.l1] at h⟩
 | k + 1 => by
  obtain ⟨ih0, ih1⟩ := field_multiply.mono_l k;refine ⟨?_, ?_⟩
  ·intro y0 y1 y2 y3 y4 y5 y6;unfold field_multiply.l0
   repeat' first
   | (with_reducible exact ih0 _ _ _ _ _ _ _)
   | (with_reducible exact ih1 _ _ _ _ _ _ _ _ _ _)
   | (with_reducible exact field_digitsOf.mono _ _ _ _)
   | (with_reducible exact field_valueOf.mono _ _ _)
   | (with_reducible exact LeO.refl _)
   | (with_reducible exact LeO.none _)
   | (with_reducible refine LeO.ite ?_ ?_)
   | (with_reducible refine LeO.bind ?_ (fun _ => ?_))
   | exact ih0 _ _ _ _ _ _ _
   | exact ih1 _ _ _ _ _ _ _ _ _ _
   | exact field_digitsOf.mono _ _ _ _
   | exact field_valueOf.mono _ _ _
   | exact LeO.none _
   | refine LeO.ite ?_ ?_
   | refine LeO.bind ?_ (fun _ => ?_)
  ·intro y0 y1 y2 y3 y4 y5 y6 y7 y8 y9;unfold field_multiply.l1
   repeat' first
   | (with_reducible exact ih0 _ _ _ _ _ _ _)
   | (with_reducible exact ih1 _ _ _ _ _ _ _ _ _ _)
   | (with_reducible exact field_digitsOf.mono _ _ _ _)
   | (with_reducible exact field_valueOf.mono _ _ _)
   | (with_reducible exact LeO.refl _)
   | (with_reducible exact LeO.none _)
   | (with_reducible refine LeO.ite ?_ ?_)
   | (with_reducible refine LeO.bind ?_ (fun _ => ?_))
   | exact ih0 _ _ _ _ _ _ _
   | exact ih1 _ _ _ _ _ _ _ _ _ _
   | exact field_digitsOf.mono _ _ _ _
   | exact field_valueOf.mono _ _ _
   | exact LeO.none _
   | refine LeO.ite ?_ ?_
   | refine LeO.bind ?_ (fun _ => ?_)
theorem field_multiply.mono : ∀ a0 a1 a2 a3 a4 k, LeO (field_multiply.f k a0 a1 a2 a3 a4) (field_multiply.f (k + 1) a0 a1 a2 a3 a4) := by
 intro a0 a1 a2 a3 a4 k;obtain ⟨ih0, ih1⟩ := field_multiply.mono_l k;unfold field_multiply.f
 repeat' first
   | (with_reducible exact ih0 _ _ _ _ _ _ _)
   | (with_reducible exact ih1 _ _ _ _ _ _ _ _ _ _)
   | (with_reducible exact field_digitsOf.mono _ _ _ _)
   | (with_reducible exact field_valueOf.mono _ _ _)
   | (with_reducible exact LeO.refl _)
   | (with_reducible exact LeO.none _)
   | (with_reducible refine LeO.ite ?_ ?_)
   | (with_reducible refine LeO.bind ?_ (fun _ => ?_))
   | exact ih0 _ _ _ _ _ _ _
   | exact ih1 _ _ _ _ _ _ _ _ _ _
   | exact field_digitsOf.mono _ _ _ _
   | exact field_valueOf.mono _ _ _
   | exact LeO.none _
   | refine LeO.ite ?_ ?_
   | refine LeO.bind ?_ (fun _ => ?_)
def field_multiply.T1 : Bool × List (List Nat × List Nat) := (true, [([], []), ([], []), ([1], [1]), ([], []), ([3], [3]), ([0, 2, 4], [0, 2, 4]), ([], []), ([], []), ([7], [7]), ([], []), ([9], [9]), ([6, 8, 10, 5], [6, 8, 10]), ([5, 11, 0, 1, 2, 3, 4, 5], [5]), ([11, 12, 0, 1, 2, 3, 4, 5, 6, 7, 8, 9, 10, 11, 12], [11])])
def field_multiply.B1 : List Nat := [0, 0, 2, 0, 8, 31, 0, 0, 128, 0, 512, 2047, 4095, 8191]
theorem field_multiply.tab1 : rtab .any (opsOf Try.f94 1) = field_multiply.T1 := by kernel_rfl
theorem field_multiply.bits1 : waitsOk field_multiply.T1.2 field_multiply.B1 = true := by kernel_rfl
def field_multiply.T15 : Bool × List (List Nat × List Nat) := (true, [([], []), ([], []), ([], []), ([], []), ([2, 3], [2, 3]), ([4], [4]), ([], []), ([6], [6]), ([], []), ([7, 8], [7, 8]), ([], []), ([9, 10], [9, 10]), ([5, 11], [5, 11]), ([], []), ([], []), ([13, 14], [13, 14]), ([15], [15]), ([], []), ([], []), ([17, 18], [17, 18]), ([19], [19]), ([16, 20], [16, 20]), ([12, 21], [12, 21]), ([], []), ([23], [23]), ([22, 24], [22, 24]), ([0, 1, 0, 1, 2, 3, 4, 5, 6, 7, 8, 9, 10, 11, 12, 13, 14, 15, 16, 17, 18, 19, 20, 21, 22, 23, 24, 25], [0, 1]), ([26, 25, 0, 1, 2, 3, 4, 5, 6, 7, 8, 9, 10, 11, 12, 13, 14, 15, 16, 17, 18, 19, 20, 21, 22, 23, 24, 25], [25, 26])])
def field_multiply.B15 : List Nat := [0, 0, 0, 0, 12, 28, 0, 64, 0, 448, 0, 1984, 4092, 0, 0, 24576, 57344, 0, 0, 393216, 917504, 2088960, 4194300, 0, 8388608, 33554428, 67108863, 134217727]
theorem field_multiply.tab15 : rtab .any (opsOf Try.f94 15) = field_multiply.T15 := by kernel_rfl
theorem field_multiply.bits15 : waitsOk field_multiply.T15.2 field_multiply.B15 = true := by kernel_rfl
set_option maxHeartbeats 8000000 in
set_option maxRecDepth 100000 in
theorem field_multiply.calls (k : Nat) (a0_0 : Int) (a0_1 : Int) (A0_2 : Option Addr) (c0_2 : Nat) (l0_2 : List Int) (a1 : Int) (a2 : Int) (r : Int) (w : World) (hr0_2 : Kd.C (Kd.int .i64) w A0_2 l0_2.length l0_2) (hc0_2 : l0_2.length ≤ c0_2) (h : field_multiply.f k a0_0 a0_1 l0_2 a1 a2 = some r) :
  Calls Try.prog 94 #[.agg #[.int .i64 a0_0, .int .i64 a0_1, .slice A0_2 l0_2.length c0_2], .int .i64 a1, .int .i64 a2] w fun e w' => e = .returned (.int .i64 r) ∧ Below w.heap.size w w' := by
 have hu44 := Try.underlying44;have HR0_2 := Ai0.mk hr0_2;have HC0_2 := Ai0.mk hc0_2;clear hr0_2 hc0_2;have HB := Ai0.mk (Below.refl w.heap.size w);have H : ((field_digitsOf.f k a1 a0_0 a0_1).bind fun t111 => ((field_digitsOf.f k a2 a0_0 a0_1).bind fun t114 => (if 0 ≤ a0_1 then (if (a0_1 : Int).toNat ≤ 35184372088832 then (field_multiply.l0 k t111 t114 (List.replicate (a0_1 : Int).toNat 0) (wrap64 (a0_1 - 1)) a0_0 a0_1 l0_2) else (none)) else (none)))) = some r := h;clear h;replace H := Option.bind_eq_some_iff.mp H;obtain ⟨t111, A40, H⟩ := H;replace H : ((field_digitsOf.f k a2 a0_0 a0_1).bind fun t114 => (if 0 ≤ a0_1 then (if (a0_1 : Int).toNat ≤ 35184372088832 then (field_multiply.l0 k t111 t114 (List.replicate (a0_1 : Int).toNat 0) (wrap64 (a0_1 - 1)) a0_0 a0_1 l0_2) else (none)) else (none))) = some r := H;have A4 := Ai0.mk A40;clear A40;replace H := Option.bind_eq_some_iff.mp H;obtain ⟨t114, A50, H⟩ := H;replace H : (if 0 ≤ a0_1 then (if (a0_1 : Int).toNat ≤ 35184372088832 then (field_multiply.l0 k t111 t114 (List.replicate (a0_1 : Int).toNat 0) (wrap64 (a0_1 - 1)) a0_0 a0_1 l0_2) else (none)) else (none)) = some r := H;have A5 := Ai0.mk A50;clear A50;by_cases c6 : 0 ≤ a0_1
 ·rw [if_pos c6] at H;have c6b0 := eq_true c6;have c6b1 : decide (0 ≤ a0_1) = true := decide_eq_true c6;clear c6;by_cases c7 : (a0_1 : Int).toNat ≤ 35184372088832
  ·rw [if_pos c7] at H;have c7b0 := eq_true c7;have c7b1 : decide ((a0_1 : Int).toNat ≤ 35184372088832) = true := decide_eq_true c7;clear c7;obtain ⟨y117, hy117⟩ : ∃ y_ : List Int, y_ = (List.replicate (a0_1 : Int).toNat 0) := ⟨_, rfl⟩
   replace H : (field_multiply.l0 k t111 t114 y117 (wrap64 (a0_1 - 1)) a0_0 a0_1 l0_2) = some r := by first | (rw [hy117]; with_reducible exact H) | (have H2_ := (Option.bind_some _ _).symm.trans H; rw [hy117]; with_reducible exact H2_) | (have H2_ := (Option.bind_some _ _).symm.trans H; with_reducible exact H2_) | with_reducible exact H | (rw [hy117]; exact H) | exact H
   have Ny117 := Ai0.mk hy117;clear hy117;have H' := Ai0.mk H;clear H;go_enter Try.func94, Try.ntmps94
   try go_wp2_with (first | ((with_reducible refine gate_dst (N := 3) rfl ?_); refine box_event ?hg (N := 3) ?hd (cs := #[.int .i64 a0_0, .int .i64 a0_1, .slice A0_2 l0_2.length c0_2]) (t := 44) ?hr ?_; (case hd => rfl); (case hg => rfl); (case hr => first | (go_simp; done) | (go_simp; rfl)); intro gb110 hg w8 hbox hb; have n0_ := Ai0.mk (bt1 bl_ hb); have n1_ := Ai0.mk (hbox); have n2_ := Ai0.mk ((by rw [hg]; exact (bz1 bl_) : w.heap.size ≤ gb110)); have n3_ := Ai0.mk ((by rw [hg]; exact (bz1 bl_) : w.heap.size ≤ gb110)); clear HB; have HB := n0_; have BK110 := n1_; have GW110 := n2_; have GE110 := n3_; clear n0_ n1_ n2_ n3_; clear hb hbox hg))
   have n0_ := Ai0.mk (kd1 BK110.out);have n1_ := Ai0.mk (bw1 HB.out);clear BK110;clear HB;have BK110 := n0_;have HB := n1_;clear n0_ n1_;refine start_ (n := 14) (S := fun w' => w'.cell? ⟨gb110, 0, none⟩ = some (.int .i64 a0_0) ∧ w'.cell? ⟨gb110, 1, none⟩ = some (.int .i64 a0_1) ∧ w'.cell? ⟨gb110, 2, none⟩ = some (.slice A0_2 l0_2.length c0_2)) (ds := []) #[false, false, false, false, false, false, false, false, false, false, false, false, false, false] (by kernel_rfl) rfl rfl ⟨(kc1 BK110.out 0).trans rfl, (kc1 BK110.out 1).trans rfl, (kc1 BK110.out 2).trans rfl⟩ (fun hHeld => ?_); refine with_tabW field_multiply.tab1 field_multiply.bits1 (fun HT_ HW_ => ?_);generalize w8.drew = w9 at BK110 HB hHeld ⊢
   refine pure_ (i := 0) (N := some 14) (v := ?_) (a' := ?_) #[true, false, false, false, false, false, false, false, false, false, false, false, false, false] rfl rfl (any_of HT_.out (by kernel_rfl)) (fun _ _ _ h => h) (Or.inl ⟨by rfl, ?_⟩) ?_ ?_;rotate_left
   ·intro w';go_simp
    with_reducible rfl
   rotate_left
   ·simp only [Act.put, l01_, l02_, l03_, i64_w, i32_w]
    rfl
   refine pure_ (i := 1) (N := some 15) (v := ?_) (a' := ?_) #[true, true, false, false, false, false, false, false, false, false, false, false, false, false] rfl rfl (any_of HT_.out (by kernel_rfl)) (fun _ _ _ h => h) (Or.inl ⟨by rfl, ?_⟩) ?_ ?_;rotate_left
   ·intro w';go_simp
    with_reducible rfl
   rotate_left
   ·simp only [Act.put, l01_, l02_, l03_, i64_w, i32_w]
    rfl
   refine pure_ (i := 3) (N := some 17) (v := ?_) (a' := ?_) #[true, true, false, true, false, false, false, false, false, false, false, false, false, false] rfl rfl (any_of HT_.out (by kernel_rfl)) (fun _ _ _ h => h) (Or.inl ⟨by rfl, ?_⟩) ?_ ?_;rotate_left
   ·intro w';go_simp
    with_reducible rfl
   rotate_left
   ·simp only [Act.put, l01_, l02_, l03_, i64_w, i32_w]
    rfl
   refine pure_ (i := 6) (N := some 20) (v := ?_) (a' := ?_) #[true, true, false, true, false, false, true, false, false, false, false, false, false, false] rfl rfl (any_of HT_.out (by kernel_rfl)) (fun _ _ _ h => h) (Or.inl ⟨by rfl, ?_⟩) ?_ ?_;rotate_left
   ·intro w';go_simp
    with_reducible rfl
   rotate_left
   ·simp only [Act.put, l01_, l02_, l03_, i64_w, i32_w]
    rfl
   refine pure_ (i := 7) (N := some 21) (v := ?_) (a' := ?_) #[true, true, false, true, false, false, true, true, false, false, false, false, false, false] rfl rfl (any_of HT_.out (by kernel_rfl)) (fun _ _ _ h => h) (Or.inl ⟨by rfl, ?_⟩) ?_ ?_;rotate_left
   ·intro w';go_simp
    with_reducible rfl
   rotate_left
   ·simp only [Act.put, l01_, l02_, l03_, i64_w, i32_w]
    rfl
   refine pure_ (i := 9) (N := some 23) (v := ?_) (a' := ?_) #[true, true, false, true, false, false, true, true, false, true, false, false, false, false] rfl rfl (any_of HT_.out (by kernel_rfl)) (fun _ _ _ h => h) (Or.inl ⟨by rfl, ?_⟩) ?_ ?_;rotate_left
   ·intro w';go_simp
    with_reducible rfl
   rotate_left
   ·simp only [Act.put, l01_, l02_, l03_, i64_w, i32_w]
    rfl
   refine take_ (i := 2) (N := some 16) (v := ?_) (a' := ?_) #[true, true, true, true, false, false, true, true, false, true, false, false, false, false] rfl rfl (take_ofW HT_.out HW_.out (by kernel_rfl)) (fun _ _ _ h => h) (Or.inl ⟨by rfl, ?_⟩) hHeld ?_ ?_;rotate_left
   ·rintro w' ⟨s0, s1, s2⟩
    go_simp
    with_reducible rfl
   rotate_left
   ·simp only [Act.put, l01_, l02_, l03_, i64_w, i32_w]
    rfl
   refine take_ (i := 4) (N := some 18) (v := ?_) (a' := ?_) #[true, true, true, true, true, false, true, true, false, true, false, false, false, false] rfl rfl (take_ofW HT_.out HW_.out (by kernel_rfl)) (fun _ _ _ h => h) (Or.inl ⟨by rfl, ?_⟩) hHeld ?_ ?_;rotate_left
   ·rintro w' ⟨s0, s1, s2⟩
    go_simp
    with_reducible rfl
   rotate_left
   ·simp only [Act.put, l01_, l02_, l03_, i64_w, i32_w]
    rfl
   refine take_ (i := 8) (N := some 22) (v := ?_) (a' := ?_) #[true, true, true, true, true, false, true, true, true, true, false, false, false, false] rfl rfl (take_ofW HT_.out HW_.out (by kernel_rfl)) (fun _ _ _ h => h) (Or.inl ⟨by rfl, ?_⟩) hHeld ?_ ?_;rotate_left
   ·rintro w' ⟨s0, s1, s2⟩
    go_simp
    with_reducible rfl
   rotate_left
   ·simp only [Act.put, l01_, l02_, l03_, i64_w, i32_w]
    rfl
   refine take_ (i := 10) (N := some 24) (v := ?_) (a' := ?_) #[true, true, true, true, true, false, true, true, true, true, true, false, false, false] rfl rfl (take_ofW HT_.out HW_.out (by kernel_rfl)) (fun _ _ _ h => h) (Or.inl ⟨by rfl, ?_⟩) hHeld ?_ ?_;rotate_left
   ·rintro w' ⟨s0, s1, s2⟩
    go_simp
    with_reducible rfl
   rotate_left
   ·simp only [Act.put, l01_, l02_, l03_, i64_w, i32_w]
    rfl
   refine one_ (i := 5) (N := some 19) #[true, true, true, true, true, true, true, true, true, true, true, false, false, false] rfl rfl (one_of HT_.out (by kernel_rfl)) (by decide) (fun K hK => ?_);refine goes_ Try.func96 (by kernel_rfl) rfl #[.int .i64 a1, .int .i64 a0_0, .int .i64 a0_1] (by rfl) rfl rfl (by (try simp only [List.map_toArray, List.map_cons, List.map_nil]); first | done | rfl | (simp only [List.length_drop, List.length_take]; rfl)) ?_
   with_reducible refine (field_digitsOf.calls k a1 a0_0 a0_1 t111 _ A4.out).mono ?_
   rintro e w10 ⟨v112, rfl, ho0, hb⟩
   refine ⟨_, rfl, ?_⟩;have n0_ := Ai0.mk (Kd.R_lower ho0 (bz1 bl_));have n1_ := Ai0.mk (kb1 (g := gb110) (o := .cells #[.int .i64 a0_0, .int .i64 a0_1, .slice A0_2 l0_2.length c0_2] 44 (0, 0)) (kk_ BK110.out) hb);have n2_ := Ai0.mk (bt1 bl_ hb);clear BK110;clear HB;have HO113 := n0_;have BK110 := n1_;have HB := n2_;clear n0_ n1_ n2_;(try clear hb);(try clear hb2);(try clear hk);(try clear hi);(try clear ho0);refine hK.out _ _ ⟨(kc1 BK110.out 0).trans rfl, (kc1 BK110.out 1).trans rfl, (kc1 BK110.out 2).trans rfl⟩ (fun hHeld => ?_);clear hK K;refine norm_ (a' := ?_) ?_ ?_;rotate_left
   ·show Act.put _ (some 19) _ = _;simp only [Act.put, l01_, l02_, l03_, i64_w, i32_w]
    rfl
   refine one_ (i := 11) (N := some 25) #[true, true, true, true, true, true, true, true, true, true, true, true, false, false] rfl rfl (one_of HT_.out (by kernel_rfl)) (by decide) (fun K hK => ?_);refine goes_ Try.func96 (by kernel_rfl) rfl #[.int .i64 a2, .int .i64 a0_0, .int .i64 a0_1] (by rfl) rfl rfl (by (try simp only [List.map_toArray, List.map_cons, List.map_nil]); first | done | rfl | (simp only [List.length_drop, List.length_take]; rfl)) ?_
   with_reducible refine (field_digitsOf.calls k a2 a0_0 a0_1 t114 _ A5.out).mono ?_
   rintro e w11 ⟨v115, rfl, ho0, hb⟩
   refine ⟨_, rfl, ?_⟩;have n0_ := Ai0.mk (Kd.R_elder' (kr_ HO113.out) (Kd.R_base ho0) hb);have n1_ := Ai0.mk (Kd.R_lower (Kd.R_new' ho0 (Kd.R_lt (kr_ HO113.out))) (bz1 bl_));have n2_ := Ai0.mk (kb1 (g := gb110) (o := .cells #[.int .i64 a0_0, .int .i64 a0_1, .slice A0_2 l0_2.length c0_2] 44 (0, 0)) (kk_ BK110.out) hb);have n3_ := Ai0.mk (bt1 bl_ hb);clear HO113;clear BK110;clear HB;have HO113 := n0_;have HO116 := n1_;have BK110 := n2_;have HB := n3_;clear n0_ n1_ n2_ n3_;(try clear hb);(try clear hb2);(try clear hk);(try clear hi);(try clear ho0);refine hK.out _ _ ⟨(kc1 BK110.out 0).trans rfl, (kc1 BK110.out 1).trans rfl, (kc1 BK110.out 2).trans rfl⟩ (fun hHeld => ?_);clear hK K;refine norm_ (a' := ?_) ?_ ?_;rotate_left
   ·show Act.put _ (some 25) _ = _;simp only [Act.put, l01_, l02_, l03_, i64_w, i32_w]
    rfl
   refine pure_ (i := 12) (N := some 7) (v := ?_) (a' := ?_) #[true, true, true, true, true, true, true, true, true, true, true, true, true, false] rfl rfl (any_of HT_.out (by kernel_rfl)) (fun _ _ _ h => h) (Or.inl ⟨by rfl, ?_⟩) ?_ ?_;rotate_left
   ·intro w';go_simp
    with_reducible rfl
   rotate_left
   ·simp only [Act.put, l01_, l02_, l03_, i64_w, i32_w]
    rfl
   refine pure_ (i := 13) (N := some 8) (v := ?_) (a' := ?_) #[true, true, true, true, true, true, true, true, true, true, true, true, true, true] rfl rfl (any_of HT_.out (by kernel_rfl)) (fun _ _ _ h => h) (Or.inl ⟨by rfl, ?_⟩) ?_ ?_;rotate_left
   ·intro w';go_simp
    with_reducible rfl
   rotate_left
   ·simp only [Act.put, l01_, l02_, l03_, i64_w, i32_w]
    rfl
   refine done_ (done_of HT_.out (by kernel_rfl)) ?_;have hcz12_0 : w11.cell? ⟨gb110, 0, none⟩ = some (.int .i64 a0_0) := (kc1 BK110.out 0).trans rfl;have hcz12_1 : w11.cell? ⟨gb110, 1, none⟩ = some (.int .i64 a0_1) := (kc1 BK110.out 1).trans rfl;have hcz12_2 : w11.cell? ⟨gb110, 2, none⟩ = some (.slice A0_2 l0_2.length c0_2) := (kc1 BK110.out 2).trans rfl;have hfz12_0 := kf1 BK110.out 0;have hfz12_1 := kf1 BK110.out 1;have hfz12_2 := kf1 BK110.out 2
   try go_wp2_with (first | ((with_reducible refine gate_dst (N := 28) rfl ?_); refine Kd.R_make (Kd.int .i64) _ 3 rfl (N := 28) rfl 25 _ _ rfl a0_1 rfl rfl Try.underlying25 (.int .i64 0) 8 info3 rfl (by decide) (by omega) 0 (ok := fun _ => True) (okp := fun _ => True) rfl (fun _ hk => hk) trivial od_ (Nat.le_trans (Nat.mul_le_mul_right _ (od_ : a0_1.toNat ≤ 35184372088832)) (by omega)) (Below.refl _ _) (Nat.le_refl _) ?_; intro v118 w13 ho14 hb hg_ hnew_; clear hg_ hnew_; (first | rw [← Ny117.out] at ho14 | (simp only [Int.reduceToNat] at ho14; rw [← Ny117.out] at ho14)); have n0_ := Ai0.mk (Kd.R_elder' (kr_ HO113.out) (Kd.R_base ho14) hb); have n1_ := Ai0.mk (Kd.R_elder' (kr_ HO116.out) (Kd.R_base ho14) hb); have n2_ := Ai0.mk (Kd.R_lower (Kd.R_new' (Kd.R_new' ho14 (Kd.R_lt (kr_ HO113.out))) (Kd.R_lt (kr_ HO116.out))) (bz1 bl_)); have n3_ := Ai0.mk (kb1 (g := gb110) (o := .cells #[.int .i64 a0_0, .int .i64 a0_1, .slice A0_2 l0_2.length c0_2] 44 (0, 0)) (kk_ BK110.out) hb); have n4_ := Ai0.mk (bt1 bl_ hb); clear HO113; clear HO116; clear BK110; clear HB; have HO113 := n0_; have HO116 := n1_; have HO119 := n2_; have BK110 := n3_; have HB := n4_; clear n0_ n1_ n2_ n3_ n4_; clear hb ho14; have hcz15_0 : w13.cell? ⟨gb110, 0, none⟩ = some (.int .i64 a0_0) := (kc1 BK110.out 0).trans rfl; have hcz15_1 : w13.cell? ⟨gb110, 1, none⟩ = some (.int .i64 a0_1) := (kc1 BK110.out 1).trans rfl; have hcz15_2 : w13.cell? ⟨gb110, 2, none⟩ = some (.slice A0_2 l0_2.length c0_2) := (kc1 BK110.out 2).trans rfl; have hfz15_0 := kf1 BK110.out 0; have hfz15_1 := kf1 BK110.out 1; have hfz15_2 := kf1 BK110.out 2))
   go_loopg [10] k (fun kq v10 w' => ∃ (x9_1 : List Int) (x10_1 : Int), v10 = .int .i64 x10_1 ∧ Ai0 (field_multiply.l0 kq t111 t114 x9_1 x10_1 a0_0 a0_1 l0_2 = some r) ∧ Ai0 (kq ≤ k) ∧ Ai0 (Kd.R (Kd.int .i64) 3 w' w.heap.size (fun k_ => some k_ ≠ (v115 : Value).ownBlock ∧ some k_ ≠ (v118 : Value).ownBlock) v112 t111) ∧ Ai0 (Kd.R (Kd.int .i64) 3 w' w.heap.size (fun k_ => some k_ ≠ (v112 : Value).ownBlock ∧ some k_ ≠ (v118 : Value).ownBlock) v115 t114) ∧ Ai0 (Kd.R (Kd.int .i64) 3 w' w.heap.size (fun k_ => some k_ ≠ (v112 : Value).ownBlock ∧ some k_ ≠ (v115 : Value).ownBlock) v118 x9_1) ∧ Ai0 (w'.heap[gb110]? = some (.cells #[.int .i64 a0_0, .int .i64 a0_1, (.slice A0_2 l0_2.length c0_2)] 44 (0, 0))) ∧ Ai0 (Below w.heap.size w w'))
   case atStart => exact ⟨(y117), (wrap64 (a0_1 - 1)), rf_, H', ⟨Nat.le_refl _⟩, ⟨by (with_reducible repeat (first | apply Kd.Ra1 | apply Kd.Rn1 | apply Kd.Rd1)); exact Kd.R_mono HO113.out (fun _ hk => ⟨hk.1.2, hk.2⟩)⟩, ⟨by (with_reducible repeat (first | apply Kd.Ra1 | apply Kd.Rn1 | apply Kd.Rd1)); exact Kd.R_mono HO116.out (fun _ hk => ⟨hk.1.2, hk.2⟩)⟩, ⟨by (with_reducible repeat (first | apply Kd.Ra1 | apply Kd.Rn1 | apply Kd.Rd1)); exact Kd.R_mono HO119.out (fun _ hk => ⟨hk.1.2, hk.2⟩)⟩, ⟨kk_ BK110.out⟩, ⟨bl_⟩⟩
   case round =>
    clear H'
    try clear p2
    try clear c6
    try clear c6b0
    try clear c6b1
    try clear p6
    try clear c7
    try clear c7b0
    try clear c7b1
    try clear hcz12_0
    try clear hcz12_1
    try clear hcz12_2
    try clear hcz15_0
    try clear hcz15_1
    try clear hcz15_2
    try clear hfz12_0
    try clear hfz12_1
    try clear hfz12_2
    try clear hfz15_0
    try clear hfz15_1
    try clear hfz15_2
    obtain ⟨x9_1, x10_1, rfl, HA, HK1, HO_7, HO_8, HO_9, BK110, HB⟩ := hrel
    cases gk with
    | zero => exact absurd HA.out (by simp [field_multiply.l0])
    | succ k1 =>
     have H := HA.out;clear HA;simp only [field_multiply.l0] at H;by_cases c16 : x10_1 ≥ 0
     ·rw [if_pos c16] at H;have c16b0 : decide (0 ≤ x10_1) = true := decide_eq_true c16;clear c16;(obtain ⟨ji17, hji17⟩ : ∃ j_ : Int, (wrap64 (a0_1 - 1)) = j_ := ⟨_, rfl⟩);(replace H : (if 0 ≤ (ji17) then (if (ji17) < (x9_1.length : Int) then (if (ji17) + 1 = (x9_1.length : Int) then (field_multiply.l1 k1 t111 t114 ((x9_1.take 1 ++ x9_1.take (x9_1.length - 1)).set (0 : Int).toNat 0) x10_1 (rd x9_1 (ji17)) (x9_1.length : Int) 0 a0_0 a0_1 l0_2) else (none)) else (none)) else (none)) = some r := by first | (rw [hji17] at H; exact H) | (simp only [hji17] at H ⊢; exact H));have hji17w : (IntKind.i64.wrap (a0_1 - 1)) = ji17 := (i64_w _).trans hji17;by_cases c18 : 0 ≤ (ji17)
      ·rw [if_pos c18] at H;have c18b0 : decide (0 ≤ (ji17)) = true := decide_eq_true c18;clear c18;by_cases c19 : (ji17) < (x9_1.length : Int)
       ·rw [if_pos c19] at H;have c19b0 : decide ((ji17) < (x9_1.length : Int)) = true := decide_eq_true c19;clear c19;by_cases c20 : (ji17) + 1 = (x9_1.length : Int)
        ·rw [if_pos c20] at H;have c20b0 : decide (0 < (x9_1.length : Int)) = true := decide_eq_true (by have := of_decide_eq_true c18b0; omega);have c20b1 : decide (0 < x9_1.length) = true := decide_eq_true (by have := of_decide_eq_true c18b0; omega);have HJE := Ai0.mk c20;clear c20;(obtain ⟨y122, hy122⟩ : ∃ y_ : List Int, y_ = (x9_1.take 1 ++ x9_1.take (x9_1.length - 1)) := ⟨_, rfl⟩);(replace H : (field_multiply.l1 k1 t111 t114 (y122.set (0 : Int).toNat 0) x10_1 (rd x9_1 (ji17)) (x9_1.length : Int) 0 a0_0 a0_1 l0_2) = some r := by first | (rw [hy122]; with_reducible exact H) | (have H2_ := (Option.bind_some _ _).symm.trans H; rw [hy122]; with_reducible exact H2_) | (have H2_ := (Option.bind_some _ _).symm.trans H; with_reducible exact H2_) | with_reducible exact H | (rw [hy122]; exact H) | exact H);have Ny122 := Ai0.mk hy122;clear hy122;(obtain ⟨y123, hy123⟩ : ∃ y_ : List Int, y_ = (y122.set (0 : Int).toNat 0) := ⟨_, rfl⟩);(replace H : (field_multiply.l1 k1 t111 t114 y123 x10_1 (rd x9_1 (ji17)) (x9_1.length : Int) 0 a0_0 a0_1 l0_2) = some r := by first | (rw [hy123]; with_reducible exact H) | (have H2_ := (Option.bind_some _ _).symm.trans H; rw [hy123]; with_reducible exact H2_) | (have H2_ := (Option.bind_some _ _).symm.trans H; with_reducible exact H2_) | with_reducible exact H | (rw [hy123]; exact H) | exact H);have Ny123 := Ai0.mk hy123;clear hy123;have H' := Ai0.mk H;clear H;have hcz23_0 : wr.cell? ⟨gb110, 0, none⟩ = some (.int .i64 a0_0) := (kc1 BK110.out 0).trans rfl;have hcz23_1 : wr.cell? ⟨gb110, 1, none⟩ = some (.int .i64 a0_1) := (kc1 BK110.out 1).trans rfl;have hcz23_2 : wr.cell? ⟨gb110, 2, none⟩ = some (.slice A0_2 l0_2.length c0_2) := (kc1 BK110.out 2).trans rfl;have hfz23_0 := kf1 BK110.out 0;have hfz23_1 := kf1 BK110.out 1;have hfz23_2 := kf1 BK110.out 2;obtain ⟨Ao24, co24, eo24⟩ := Kd.R_slice HO_9.out;subst eo24;have p121 : 0 ≤ ((ji17) : Int) := od_;have q121 : (ji17) < (x9_1.length : Int) := od_;obtain ⟨ad121, e121, hx121_0⟩ := Kd.at_int (Kd.R_reads' HO_9.out).2.2 (ji17) p121 q121;cases e121;replace p121 := eq_true p121;replace q121 := eq_true q121;have p21 : 0 ≤ (0 : Int) := (by omega);have q21 : (0 : Int) < ((x9_1.length : Int) : Int) := od_;have qi21 : (0 < x9_1.length) = True := eq_true (by omega);obtain ⟨go21, co21, eo21, gb21, gl21, cl21, HG21⟩ := Kd.R_form HO_9.out (by omega);(first | cases eo21 | (injection eo21 with ea_ en_ ec_; (first | subst ea_ | (injection ea_ with ea_; subst ea_)); subst ec_; clear en_));have GB21 := Ai0.mk gb21;have GG21 := Ai0.mk HG21;clear gb21 gl21 HG21;(first | simp only [add_plain] at hx121_0 | skip);obtain ⟨hx21_0, hf21_0⟩ := Kd.R_celln 0 HO_9.out (0 : Int) p21 q21;(try rw [show ((0 : Int)).toNat = 0 from rfl] at hx21_0);(try simp only [Nat.reduceMul, Nat.zero_mul, Nat.zero_add, Nat.reduceAdd] at hx21_0);(try rw [show ((0 : Int)).toNat = 0 from rfl] at hf21_0);(try simp only [Nat.reduceMul, Nat.zero_mul, Nat.zero_add, Nat.reduceAdd] at hf21_0);replace p21 := eq_true p21;replace q21 := eq_true q21;(obtain ⟨D26, hD26⟩ : ∃ D_ : Option Addr, D_ = (if co24 = 1 then some ⟨go21, 0, none⟩ else some ⟨go21, 1, none⟩) := ⟨_, rfl⟩);have HJN := Ai0.mk (show ji17.toNat + 1 = x9_1.length by have := HJE.out; have := of_decide_eq_true c18b0; omega);have HL26 := (Kd.R_reads' HO_9.out).2.1;have hcut1 := Kd.cut_one (P := Try.prog) 25 3 Try.underlying25 info3 go21 x9_1.length co24 (of_decide_eq_true c20b1) D26 hD26;have hcut2 := Kd.cut_up (P := Try.prog) 25 3 Try.underlying25 info3 (some ⟨go21, 0, none⟩) x9_1.length co24 ji17 (of_decide_eq_true c18b0) (Int.le_of_lt (of_decide_eq_true c19b0)) HL26;have HD26 := Ai0.mk hD26;clear hD26 HL26
         go_wp2_with (fail)
         go_still_tail 7, (by kernel_rfl)
         change wpList _ _ _ _ _ wr.drew
         refine Kd.R_copy_shift w.heap.size rfl (.tmp 43) (.tmp 48) 25 3 rfl Try.underlying25 info3 .i64 go21 co24 x9_1 (fun k_ => some k_ ≠ (v112 : Value).ownBlock ∧ some k_ ≠ (v115 : Value).ownBlock) ji17.toNat D26 HD26.out rfl rfl HJN.out (Kd.Rd1 HO_9.out) (below_drew HB.out) ?_;intro v26 w26 hp0 hg hbb;have hp_ : Kd.R (Kd.int .i64) 3 w26 w.heap.size (fun k_ => some k_ ≠ (v112 : Value).ownBlock ∧ some k_ ≠ (v115 : Value).ownBlock) (.slice (some ⟨go21, 0, none⟩) x9_1.length co24) y122 := (by rw [Ny122.out]; exact hp0);clear hp0;have n0_ := Ai0.mk (Kd.R_after (v := (.slice (some ⟨go21, 0, none⟩) x9_1.length co24)) (v1 := (.slice (some ⟨go21, 0, none⟩) x9_1.length co24)) (ok := (fun k_ => some k_ ≠ (v115 : Value).ownBlock)) (kr_ HO_7.out) hg (.inl rfl));have n1_ := Ai0.mk (Kd.R_after (v := (.slice (some ⟨go21, 0, none⟩) x9_1.length co24)) (v1 := (.slice (some ⟨go21, 0, none⟩) x9_1.length co24)) (ok := (fun k_ => some k_ ≠ (v112 : Value).ownBlock)) (kr_ HO_8.out) hg (.inl rfl));have n2_ := Ai0.mk (hp_);have n3_ := Ai0.mk (blk_grown (g := gb110) (o := .cells #[.int .i64 a0_0, .int .i64 a0_1, .slice A0_2 l0_2.length c0_2] 44 (0, 0)) (kk_ BK110.out) hg (Kd.R_ne HO_9.out BK110.out (by decide)));have n4_ := Ai0.mk (hbb);clear HO_7;clear HO_8;clear HO_9;clear BK110;clear HB;have HO_7 := n0_;have HO_8 := n1_;have HO_9 := n2_;have BK110 := n3_;have HB := n4_;clear n0_ n1_ n2_ n3_ n4_;clear hg hbb hp_;have p22 : 0 ≤ (0 : Int) := (by omega);have q22 : (0 : Int) < ((x9_1.length : Int) : Int) := od_;have qi22 : (0 < x9_1.length) = True := eq_true (by omega);obtain ⟨hx22_0, hf22_0⟩ := Kd.R_celln 0 HO_9.out (0 : Int) p22 q22;(try rw [show ((0 : Int)).toNat = 0 from rfl] at hx22_0);(try simp only [Nat.reduceMul, Nat.zero_mul, Nat.zero_add, Nat.reduceAdd] at hx22_0);(try rw [show ((0 : Int)).toNat = 0 from rfl] at hf22_0);(try simp only [Nat.reduceMul, Nat.zero_mul, Nat.zero_add, Nat.reduceAdd] at hf22_0);replace p22 := eq_true p22;replace q22 := eq_true q22;obtain ⟨hy27_, hz27_⟩ := Kd.R_celln 0 HO_9.out (0 : Int) (by omega) od_;(try simp only [Int.reduceToNat, Int.toNat_zero, Int.toNat_ofNat, Nat.reduceMul, Nat.zero_mul, Nat.zero_add] at hy27_ hz27_);(try rw [show ((0 : Int)).toNat = 0 from rfl] at hy27_);(try rw [show ((0 : Int)).toNat = 0 from rfl] at hz27_);have HP27 := Kd.R_putg HO_9.out (0 : Int) 0
         go_wp2_with ((with_reducible refine gate_store (t := 3) (p := 51) rfl ?_); refine store_event (t := 3) (p := 51) (v := ?vo_w28) (w1 := (w26.setCell ⟨go21, (0 : Int).toNat, none⟩ (.int .i64 0))) ?hg ?ho ?hn ?hr ?_; (case ho => rfl); (case hg => rfl); (case hn => rfl); (case hr => first | (go_simp; done) | (go_simp; rfl)); intro w28 hw; have hg : w26.grownBy w28 (some go21) := (by rw [hw]; exact HP27.2); have hp_ : Kd.R (Kd.int .i64) 3 w28 w.heap.size (fun k_ => some k_ ≠ (v112 : Value).ownBlock ∧ some k_ ≠ (v115 : Value).ownBlock) (.slice (some ⟨go21, 0, none⟩) x9_1.length co24) y123 := (by rw [hw, Ny123.out]; exact HP27.1); clear HP27; have n0_ := Ai0.mk (Kd.R_after (v := (.slice (some ⟨go21, 0, none⟩) x9_1.length co24)) (v1 := (.slice (some ⟨go21, 0, none⟩) x9_1.length co24)) (ok := (fun k_ => some k_ ≠ (v115 : Value).ownBlock)) (kr_ HO_7.out) hg (.inl rfl)); have n1_ := Ai0.mk (Kd.R_after (v := (.slice (some ⟨go21, 0, none⟩) x9_1.length co24)) (v1 := (.slice (some ⟨go21, 0, none⟩) x9_1.length co24)) (ok := (fun k_ => some k_ ≠ (v112 : Value).ownBlock)) (kr_ HO_8.out) hg (.inl rfl)); have n2_ := Ai0.mk (hp_); have n3_ := Ai0.mk (blk_grown (g := gb110) (o := .cells #[.int .i64 a0_0, .int .i64 a0_1, .slice A0_2 l0_2.length c0_2] 44 (0, 0)) (kk_ BK110.out) hg (Kd.R_ne HO_9.out BK110.out (by decide))); have n4_ := Ai0.mk ((by rw [hw]; exact bs1 (HB.out) GB21.out : Below w.heap.size w w28)); clear HO_7; clear HO_8; clear HO_9; clear BK110; clear HB; have HO_7 := n0_; have HO_8 := n1_; have HO_9 := n2_; have BK110 := n3_; have HB := n4_; clear n0_ n1_ n2_ n3_ n4_; clear hg hw hp_)
         go_loopg [54] k1 (fun kq v54 w' => ∃ (x9_2 : List Int) (x54_2 : Int), v54 = .int .i64 x54_2 ∧ Ai0 (field_multiply.l1 kq t111 t114 x9_2 x10_1 (rd x9_1 (ji17)) (x9_1.length : Int) x54_2 a0_0 a0_1 l0_2 = some r) ∧ Ai0 (kq ≤ k1) ∧ Ai0 (Kd.R (Kd.int .i64) 3 w' w.heap.size (fun k_ => some k_ ≠ (v115 : Value).ownBlock ∧ some k_ ≠ ((.slice (some ⟨go21, 0, none⟩) x9_1.length co24) : Value).ownBlock) v112 t111) ∧ Ai0 (Kd.R (Kd.int .i64) 3 w' w.heap.size (fun k_ => some k_ ≠ (v112 : Value).ownBlock ∧ some k_ ≠ ((.slice (some ⟨go21, 0, none⟩) x9_1.length co24) : Value).ownBlock) v115 t114) ∧ Ai0 (Kd.R (Kd.int .i64) 3 w' w.heap.size (fun k_ => some k_ ≠ (v112 : Value).ownBlock ∧ some k_ ≠ (v115 : Value).ownBlock) (.slice (some ⟨go21, 0, none⟩) x9_1.length co24) x9_2) ∧ Ai0 (w'.heap[gb110]? = some (.cells #[.int .i64 a0_0, .int .i64 a0_1, (.slice A0_2 l0_2.length c0_2)] 44 (0, 0))) ∧ Ai0 (Below w.heap.size w w'))
         case atStart => exact ⟨(y123), (0), rf_, H', ⟨Nat.le_refl _⟩, ⟨kr_ HO_7.out⟩, ⟨kr_ HO_8.out⟩, ⟨kr_ HO_9.out⟩, ⟨kk_ BK110.out⟩, ⟨bl_⟩⟩
         case round =>
          clear H'
          try clear c1
          try clear p1
          try clear q1
          try clear hx1
          try clear c2
          try clear p2
          try clear q2
          try clear hx2
          try clear qi2
          try clear c6
          try clear c6b0
          try clear c6b1
          try clear p6
          try clear c7
          try clear c7b0
          try clear c7b1
          try clear p12
          try clear q12
          try clear hx12
          try clear c16
          try clear c16b0
          try clear c18
          try clear c18b0
          try clear c19
          try clear c19b0
          try clear c20
          try clear c20b0
          try clear c20b1
          try clear p21
          try clear q21
          try clear hx21
          try clear qi21
          try clear hf21
          try clear p22
          try clear q22
          try clear hx22
          try clear qi22
          try clear hf22
          try clear hcz12_0
          try clear hcz12_1
          try clear hcz12_2
          try clear hcz15_0
          try clear hcz15_1
          try clear hcz15_2
          try clear hcz23_0
          try clear hcz23_1
          try clear hcz23_2
          try clear hfz12_0
          try clear hfz12_1
          try clear hfz12_2
          try clear hfz15_0
          try clear hfz15_1
          try clear hfz15_2
          try clear hfz23_0
          try clear hfz23_1
          try clear hfz23_2
          try clear hx121_0
          try clear hx21_0
          try clear hx22_0
          try clear p121
          try clear p2
          try clear p21
          try clear p22
          try clear p6
          try clear q121
          try clear q21
          try clear q22
          obtain ⟨x9_2, x54_2, rfl, HA, HK2, HO_7, HO_8, HO_9, BK110, HB⟩ := hrel;have hl9_2 := (Kd.R_reads' HO_9.out).1;rw [hl9_2] at HO_9;(try simp only [hl9_2]);(try simp only [hl9_2] at BK110);(try simp only [hl9_2] at HO_7);(try simp only [hl9_2] at HO_8)
          cases gk with
          | zero => exact absurd HA.out (by simp [field_multiply.l1])
          | succ k2 =>
           have H := HA.out;clear HA;simp only [field_multiply.l1] at H;by_cases c29 : x54_2 < (x9_1.length : Int)
           ·rw [if_pos c29] at H;have c29b0 : decide (x54_2 < (x9_1.length : Int)) = true := decide_eq_true c29;(try (have c29b0h0 := c29b0; simp only [hl9_2] at c29b0h0));clear c29;by_cases c30 : a0_1 > 1
            ·rw [if_pos c30] at H;have c30b0 : decide (1 < a0_1) = true := decide_eq_true c30;clear c30;by_cases c31 : 0 ≤ x54_2
             ·rw [if_pos c31] at H;have c31b0 : decide (0 ≤ x54_2) = true := decide_eq_true c31;clear c31;by_cases c32 : x54_2 < (l0_2.length : Int)
              ·rw [if_pos c32] at H;have c32b0 : decide (x54_2 < (l0_2.length : Int)) = true := decide_eq_true c32;(try (have c32b0h0 := c32b0; simp only [hl9_2] at c32b0h0));clear c32;by_cases c33 : x54_2 < (x9_2.length : Int)
               ·rw [if_pos c33] at H;have c33b0 : decide (x54_2 < (x9_2.length : Int)) = true := decide_eq_true c33;(try (have c33b0h0 := c33b0; simp only [hl9_2] at c33b0h0));clear c33;by_cases c34 : 0 ≤ x10_1
                ·rw [if_pos c34] at H;have c34b0 : decide (0 ≤ x10_1) = true := decide_eq_true c34;clear c34;by_cases c35 : x10_1 < (t114.length : Int)
                 ·rw [if_pos c35] at H;have c35b0 : decide (x10_1 < (t114.length : Int)) = true := decide_eq_true c35;(try (have c35b0h0 := c35b0; simp only [hl9_2] at c35b0h0));clear c35;by_cases c36 : x54_2 < (t111.length : Int)
                  ·rw [if_pos c36] at H;have c36b0 : decide (x54_2 < (t111.length : Int)) = true := decide_eq_true c36;(try (have c36b0h0 := c36b0; simp only [hl9_2] at c36b0h0));clear c36;by_cases c37 : a0_0 = 0
                   ·rw [if_pos c37] at H;exact absurd H (by simp)
                   ·rw [if_neg c37] at H;have c37b0 : (a0_0 == 0) = false := beq_eq_false_iff_ne.mpr c37;have c37b1 : (a0_0 != 0) = true := bne_iff_ne.mpr c37;(obtain ⟨y128, hy128⟩ : ∃ y_ : List Int, y_ = (x9_2.set (x54_2 : Int).toNat (Int.tmod (wrap64 ((wrap64 ((rd x9_2 x54_2) + (wrap64 ((wrap64 (a0_0 - (rd x9_1 (ji17)))) * (rd l0_2 x54_2))))) + (wrap64 ((rd t114 x10_1) * (rd t111 x54_2))))) a0_0)) := ⟨_, rfl⟩);(replace H : (field_multiply.l1 k2 t111 t114 y128 x10_1 (rd x9_1 (ji17)) (x9_1.length : Int) (wrap64 (x54_2 + 1)) a0_0 a0_1 l0_2) = some r := by first | (rw [hy128]; with_reducible exact H) | (have H2_ := (Option.bind_some _ _).symm.trans H; rw [hy128]; with_reducible exact H2_) | (have H2_ := (Option.bind_some _ _).symm.trans H; with_reducible exact H2_) | with_reducible exact H | (rw [hy128]; exact H) | exact H);have Ny128 := Ai0.mk hy128;clear hy128;have H' := Ai0.mk H;clear H;have hcz39_0 : wr.cell? ⟨gb110, 0, none⟩ = some (.int .i64 a0_0) := (kc1 BK110.out 0).trans rfl;have hcz39_1 : wr.cell? ⟨gb110, 1, none⟩ = some (.int .i64 a0_1) := (kc1 BK110.out 1).trans rfl;have hcz39_2 : wr.cell? ⟨gb110, 2, none⟩ = some (.slice A0_2 l0_2.length c0_2) := (kc1 BK110.out 2).trans rfl;have hfz39_0 := kf1 BK110.out 0;have hfz39_1 := kf1 BK110.out 1;have hfz39_2 := kf1 BK110.out 2;have p124 : 0 ≤ (x54_2 : Int) := od_;have q124 : x54_2 < (l0_2.length : Int) := od_;obtain ⟨ad124, e124, hx124_0⟩ := Kd.at_int HR0_2.out x54_2 p124 q124;cases e124;replace hx124_0 := (HB.out.cell (World.block_lt_of_cell? w _ hx124_0)).trans hx124_0;replace p124 := eq_true p124;replace q124 := eq_true q124
                    try go_wp2
                    have n0_ := Ai0.mk (Kd.Rd1 HO_7.out);have n1_ := Ai0.mk (Kd.Rd1 HO_8.out);have n2_ := Ai0.mk (Kd.Rd1 HO_9.out);have n3_ := Ai0.mk (kd1 BK110.out);have n4_ := Ai0.mk (bw1 HB.out);clear HO_7;clear HO_8;clear HO_9;clear BK110;clear HB;have HO_7 := n0_;have HO_8 := n1_;have HO_9 := n2_;have BK110 := n3_;have HB := n4_;clear n0_ n1_ n2_ n3_ n4_;have p125 : 0 ≤ (x54_2 : Int) := od_;have q125 : x54_2 < (x9_2.length : Int) := od_;obtain ⟨ad125, e125, hx125_0⟩ := Kd.at_int (Kd.R_reads' HO_9.out).2.2 x54_2 p125 q125;obtain rfl : (⟨go21, 0, none⟩ : Addr) = ad125 := (by injection e125);(first | simp only [add_plain] at hx125_0 | simp only [add_at] at hx125_0 | simp only [Addr.add, Nat.zero_add] at hx125_0 | skip);replace p125 := eq_true p125;replace q125 := eq_true q125;obtain ⟨Ao41, co41, eo41⟩ := Kd.R_slice HO_8.out;(first | subst eo41 | (injection eo41 with f1_ f2_ f3_; have f4_ := f1_.symm; have f5_ := f3_.symm; clear f1_ f2_ f3_; subst f4_; subst f5_));have p126 : 0 ≤ (x10_1 : Int) := od_;have q126 : x10_1 < (t114.length : Int) := od_;obtain ⟨ad126, e126, hx126_0⟩ := Kd.at_int (Kd.R_reads' HO_8.out).2.2 x10_1 p126 q126;cases e126;replace p126 := eq_true p126;replace q126 := eq_true q126;obtain ⟨Ao42, co42, eo42⟩ := Kd.R_slice HO_7.out;(first | subst eo42 | (injection eo42 with f1_ f2_ f3_; have f4_ := f1_.symm; have f5_ := f3_.symm; clear f1_ f2_ f3_; subst f4_; subst f5_));have p127 : 0 ≤ (x54_2 : Int) := od_;have q127 : x54_2 < (t111.length : Int) := od_;obtain ⟨ad127, e127, hx127_0⟩ := Kd.at_int (Kd.R_reads' HO_7.out).2.2 x54_2 p127 q127;cases e127;replace p127 := eq_true p127;replace q127 := eq_true q127;have p38 : 0 ≤ (x54_2 : Int) := od_;have q38 : (x54_2 : Int) < ((x9_2.length : Int) : Int) := od_;obtain ⟨hx38_0, hf38_0⟩ := Kd.R_celln 0 HO_9.out (x54_2 : Int) p38 q38;replace p38 := eq_true p38;replace q38 := eq_true q38;have HP43 := Kd.R_putn HO_9.out (x54_2 : Int) (Int.tmod (wrap64 ((wrap64 ((rd x9_2 x54_2) + (wrap64 ((wrap64 (a0_0 - (rd x9_1 (ji17)))) * (rd l0_2 x54_2))))) + (wrap64 ((rd t114 x10_1) * (rd t111 x54_2))))) a0_0);rw [← Ny128.out] at HP43;have HQ43 := Ai0.mk HP43;clear HP43;refine start_ (n := 28) (S := fun w' => w'.cell? ⟨gb110, 0, none⟩ = some (.int .i64 a0_0) ∧ w'.cell? ⟨gb110, 1, none⟩ = some (.int .i64 a0_1) ∧ w'.cell? ⟨gb110, 2, none⟩ = some (.slice (some ad124) l0_2.length c0_2) ∧ w'.cell? ⟨go21, (x54_2).toNat, none⟩ = some (.int .i64 (rd x9_2 x54_2)) ∧ w'.cell? (ad126.add (x10_1).toNat) = some (.int .i64 (rd t114 x10_1)) ∧ w'.cell? (ad127.add (x54_2).toNat) = some (.int .i64 (rd t111 x54_2))) (ds := [27]) #[false, false, false, false, false, false, false, false, false, false, false, false, false, false, false, false, false, false, false, false, false, false, false, false, false, false, false, false] (by kernel_rfl) rfl rfl ⟨(kc1 BK110.out 0).trans rfl, (kc1 BK110.out 1).trans rfl, (kc1 BK110.out 2).trans rfl, hx125_0, hx126_0, hx127_0⟩ (fun hHeld => ?_); refine with_tabW field_multiply.tab15 field_multiply.bits15 (fun HT_ HW_ => ?_);(generalize wr.drew = w40 at HO_7 HO_8 HO_9 BK110 HB HQ43 hf38_0 hx125_0 hx126_0 hx127_0 hx38_0 hHeld ⊢);refine pure_ (i := 0) (N := some 65) (v := ?_) (a' := ?_) #[true, false, false, false, false, false, false, false, false, false, false, false, false, false, false, false, false, false, false, false, false, false, false, false, false, false, false, false] rfl rfl (any_of HT_.out (by kernel_rfl)) (fun _ _ _ h => h) (Or.inl ⟨by rfl, ?_⟩) ?_ ?_;rotate_left
                    ·intro w';go_simp
                     with_reducible rfl
                    rotate_left
                    ·simp only [Act.put, l01_, l02_, l03_, i64_w, i32_w]
                     rfl
                    refine pure_ (i := 1) (N := some 66) (v := ?_) (a' := ?_) #[true, true, false, false, false, false, false, false, false, false, false, false, false, false, false, false, false, false, false, false, false, false, false, false, false, false, false, false] rfl rfl (any_of HT_.out (by kernel_rfl)) (fun _ _ _ h => h) (Or.inl ⟨by rfl, ?_⟩) ?_ ?_;rotate_left
                    ·intro w';go_simp
                     with_reducible rfl
                    rotate_left
                    ·simp only [Act.put, l01_, l02_, l03_, i64_w, i32_w]
                     rfl
                    refine pure_ (i := 2) (N := some 67) (v := ?_) (a' := ?_) #[true, true, true, false, false, false, false, false, false, false, false, false, false, false, false, false, false, false, false, false, false, false, false, false, false, false, false, false] rfl rfl (any_of HT_.out (by kernel_rfl)) (fun _ _ _ h => h) (Or.inl ⟨by rfl, ?_⟩) ?_ ?_;rotate_left
                    ·intro w';go_simp
                     with_reducible rfl
                    rotate_left
                    ·simp only [Act.put, l01_, l02_, l03_, i64_w, i32_w]
                     rfl
                    refine pure_ (i := 3) (N := some 68) (v := ?_) (a' := ?_) #[true, true, true, true, false, false, false, false, false, false, false, false, false, false, false, false, false, false, false, false, false, false, false, false, false, false, false, false] rfl rfl (any_of HT_.out (by kernel_rfl)) (fun _ _ _ h => h) (Or.inl ⟨by rfl, ?_⟩) ?_ ?_;rotate_left
                    ·intro w';go_simp
                     with_reducible rfl
                    rotate_left
                    ·simp only [Act.put, l01_, l02_, l03_, i64_w, i32_w]
                     rfl
                    refine pure_ (i := 4) (N := some 69) (v := ?_) (a' := ?_) #[true, true, true, true, true, false, false, false, false, false, false, false, false, false, false, false, false, false, false, false, false, false, false, false, false, false, false, false] rfl rfl (any_of HT_.out (by kernel_rfl)) (fun _ _ _ h => h) (Or.inl ⟨by rfl, ?_⟩) ?_ ?_;rotate_left
                    ·intro w';go_simp
                     with_reducible rfl
                    rotate_left
                    ·simp only [Act.put, l01_, l02_, l03_, i64_w, i32_w]
                     rfl
                    refine pure_ (i := 6) (N := some 71) (v := ?_) (a' := ?_) #[true, true, true, true, true, false, true, false, false, false, false, false, false, false, false, false, false, false, false, false, false, false, false, false, false, false, false, false] rfl rfl (any_of HT_.out (by kernel_rfl)) (fun _ _ _ h => h) (Or.inl ⟨by rfl, ?_⟩) ?_ ?_;rotate_left
                    ·intro w';go_simp
                     with_reducible rfl
                    rotate_left
                    ·simp only [Act.put, l01_, l02_, l03_, i64_w, i32_w]
                     rfl
                    refine pure_ (i := 8) (N := some 73) (v := ?_) (a' := ?_) #[true, true, true, true, true, false, true, false, true, false, false, false, false, false, false, false, false, false, false, false, false, false, false, false, false, false, false, false] rfl rfl (any_of HT_.out (by kernel_rfl)) (fun _ _ _ h => h) (Or.inl ⟨by rfl, ?_⟩) ?_ ?_;rotate_left
                    ·intro w';go_simp
                     with_reducible rfl
                    rotate_left
                    ·simp only [Act.put, l01_, l02_, l03_, i64_w, i32_w]
                     rfl
                    refine pure_ (i := 10) (N := some 75) (v := ?_) (a' := ?_) #[true, true, true, true, true, false, true, false, true, false, true, false, false, false, false, false, false, false, false, false, false, false, false, false, false, false, false, false] rfl rfl (any_of HT_.out (by kernel_rfl)) (fun _ _ _ h => h) (Or.inl ⟨by rfl, ?_⟩) ?_ ?_;rotate_left
                    ·intro w';go_simp
                     with_reducible rfl
                    rotate_left
                    ·simp only [Act.put, l01_, l02_, l03_, i64_w, i32_w]
                     rfl
                    refine pure_ (i := 13) (N := some 78) (v := ?_) (a' := ?_) #[true, true, true, true, true, false, true, false, true, false, true, false, false, true, false, false, false, false, false, false, false, false, false, false, false, false, false, false] rfl rfl (any_of HT_.out (by kernel_rfl)) (fun _ _ _ h => h) (Or.inl ⟨by rfl, ?_⟩) ?_ ?_;rotate_left
                    ·intro w';go_simp
                     with_reducible rfl
                    rotate_left
                    ·simp only [Act.put, l01_, l02_, l03_, i64_w, i32_w]
                     rfl
                    refine pure_ (i := 14) (N := some 79) (v := ?_) (a' := ?_) #[true, true, true, true, true, false, true, false, true, false, true, false, false, true, true, false, false, false, false, false, false, false, false, false, false, false, false, false] rfl rfl (any_of HT_.out (by kernel_rfl)) (fun _ _ _ h => h) (Or.inl ⟨by rfl, ?_⟩) ?_ ?_;rotate_left
                    ·intro w';go_simp
                     with_reducible rfl
                    rotate_left
                    ·simp only [Act.put, l01_, l02_, l03_, i64_w, i32_w]
                     rfl
                    refine pure_ (i := 15) (N := some 80) (v := ?_) (a' := ?_) #[true, true, true, true, true, false, true, false, true, false, true, false, false, true, true, true, false, false, false, false, false, false, false, false, false, false, false, false] rfl rfl (any_of HT_.out (by kernel_rfl)) (fun _ _ _ h => h) (Or.inl ⟨by rfl, ?_⟩) ?_ ?_;rotate_left
                    ·intro w';go_simp
                     with_reducible rfl
                    rotate_left
                    ·simp only [Act.put, l01_, l02_, l03_, i64_w, i32_w]
                     rfl
                    refine pure_ (i := 17) (N := some 82) (v := ?_) (a' := ?_) #[true, true, true, true, true, false, true, false, true, false, true, false, false, true, true, true, false, true, false, false, false, false, false, false, false, false, false, false] rfl rfl (any_of HT_.out (by kernel_rfl)) (fun _ _ _ h => h) (Or.inl ⟨by rfl, ?_⟩) ?_ ?_;rotate_left
                    ·intro w';go_simp
                     with_reducible rfl
                    rotate_left
                    ·simp only [Act.put, l01_, l02_, l03_, i64_w, i32_w]
                     rfl
                    refine pure_ (i := 18) (N := some 83) (v := ?_) (a' := ?_) #[true, true, true, true, true, false, true, false, true, false, true, false, false, true, true, true, false, true, true, false, false, false, false, false, false, false, false, false] rfl rfl (any_of HT_.out (by kernel_rfl)) (fun _ _ _ h => h) (Or.inl ⟨by rfl, ?_⟩) ?_ ?_;rotate_left
                    ·intro w';go_simp
                     with_reducible rfl
                    rotate_left
                    ·simp only [Act.put, l01_, l02_, l03_, i64_w, i32_w]
                     rfl
                    refine pure_ (i := 19) (N := some 84) (v := ?_) (a' := ?_) #[true, true, true, true, true, false, true, false, true, false, true, false, false, true, true, true, false, true, true, true, false, false, false, false, false, false, false, false] rfl rfl (any_of HT_.out (by kernel_rfl)) (fun _ _ _ h => h) (Or.inl ⟨by rfl, ?_⟩) ?_ ?_;rotate_left
                    ·intro w';go_simp
                     with_reducible rfl
                    rotate_left
                    ·simp only [Act.put, l01_, l02_, l03_, i64_w, i32_w]
                     rfl
                    refine pure_ (i := 23) (N := some 88) (v := ?_) (a' := ?_) #[true, true, true, true, true, false, true, false, true, false, true, false, false, true, true, true, false, true, true, true, false, false, false, true, false, false, false, false] rfl rfl (any_of HT_.out (by kernel_rfl)) (fun _ _ _ h => h) (Or.inl ⟨by rfl, ?_⟩) ?_ ?_;rotate_left
                    ·intro w';go_simp
                     with_reducible rfl
                    rotate_left
                    ·simp only [Act.put, l01_, l02_, l03_, i64_w, i32_w]
                     rfl
                    refine take_ (i := 5) (N := some 70) (v := ?_) (a' := ?_) #[true, true, true, true, true, true, true, false, true, false, true, false, false, true, true, true, false, true, true, true, false, false, false, true, false, false, false, false] rfl rfl (take_ofW HT_.out HW_.out (by kernel_rfl)) (fun _ _ _ h => h) (Or.inl ⟨by rfl, ?_⟩) hHeld ?_ ?_;rotate_left
                    ·rintro w' ⟨s0, s1, s2, s3, s4, s5⟩
                     go_simp
                     with_reducible rfl
                    rotate_left
                    ·simp only [Act.put, l01_, l02_, l03_, i64_w, i32_w]
                     rfl
                    refine take_ (i := 7) (N := some 72) (v := ?_) (a' := ?_) #[true, true, true, true, true, true, true, true, true, false, true, false, false, true, true, true, false, true, true, true, false, false, false, true, false, false, false, false] rfl rfl (take_ofW HT_.out HW_.out (by kernel_rfl)) (fun _ _ _ h => h) (Or.inl ⟨by rfl, ?_⟩) hHeld ?_ ?_;rotate_left
                    ·rintro w' ⟨s0, s1, s2, s3, s4, s5⟩
                     go_simp
                     with_reducible rfl
                    rotate_left
                    ·simp only [Act.put, l01_, l02_, l03_, i64_w, i32_w]
                     rfl
                    refine pure_ (i := 9) (N := some 74) (v := ?_) (a' := ?_) #[true, true, true, true, true, true, true, true, true, true, true, false, false, true, true, true, false, true, true, true, false, false, false, true, false, false, false, false] rfl rfl (any_of HT_.out (by kernel_rfl)) (fun _ _ _ h => h) (Or.inl ⟨by rfl, ?_⟩) ?_ ?_;rotate_left
                    ·intro w';go_simp
                     with_reducible rfl
                    rotate_left
                    ·simp only [Act.put, l01_, l02_, l03_, i64_w, i32_w]
                     rfl
                    refine pure_ (i := 11) (N := some 76) (v := ?_) (a' := ?_) #[true, true, true, true, true, true, true, true, true, true, true, true, false, true, true, true, false, true, true, true, false, false, false, true, false, false, false, false] rfl rfl (any_of HT_.out (by kernel_rfl)) (fun _ _ _ h => h) (Or.inl ⟨by rfl, ?_⟩) ?_ ?_;rotate_left
                    ·intro w';go_simp
                     with_reducible rfl
                    rotate_left
                    ·simp only [Act.put, l01_, l02_, l03_, i64_w, i32_w]
                     rfl
                    refine pure_ (i := 12) (N := some 77) (v := ?_) (a' := ?_) #[true, true, true, true, true, true, true, true, true, true, true, true, true, true, true, true, false, true, true, true, false, false, false, true, false, false, false, false] rfl rfl (any_of HT_.out (by kernel_rfl)) (fun _ _ _ h => h) (Or.inl ⟨by rfl, ?_⟩) ?_ ?_;rotate_left
                    ·intro w';go_simp
                     with_reducible rfl
                    rotate_left
                    ·simp only [Act.put, l01_, l02_, l03_, i64_w, i32_w]
                     rfl
                    refine take_ (i := 16) (N := some 81) (v := ?_) (a' := ?_) #[true, true, true, true, true, true, true, true, true, true, true, true, true, true, true, true, true, true, true, true, false, false, false, true, false, false, false, false] rfl rfl (take_ofW HT_.out HW_.out (by kernel_rfl)) (fun _ _ _ h => h) (Or.inl ⟨by rfl, ?_⟩) hHeld ?_ ?_;rotate_left
                    ·rintro w' ⟨s0, s1, s2, s3, s4, s5⟩
                     go_simp
                     with_reducible rfl
                    rotate_left
                    ·simp only [Act.put, l01_, l02_, l03_, i64_w, i32_w]
                     rfl
                    refine take_ (i := 20) (N := some 85) (v := ?_) (a' := ?_) #[true, true, true, true, true, true, true, true, true, true, true, true, true, true, true, true, true, true, true, true, true, false, false, true, false, false, false, false] rfl rfl (take_ofW HT_.out HW_.out (by kernel_rfl)) (fun _ _ _ h => h) (Or.inl ⟨by rfl, ?_⟩) hHeld ?_ ?_;rotate_left
                    ·rintro w' ⟨s0, s1, s2, s3, s4, s5⟩
                     go_simp
                     with_reducible rfl
                    rotate_left
                    ·simp only [Act.put, l01_, l02_, l03_, i64_w, i32_w]
                     rfl
                    refine pure_ (i := 21) (N := some 86) (v := ?_) (a' := ?_) #[true, true, true, true, true, true, true, true, true, true, true, true, true, true, true, true, true, true, true, true, true, true, false, true, false, false, false, false] rfl rfl (any_of HT_.out (by kernel_rfl)) (fun _ _ _ h => h) (Or.inl ⟨by rfl, ?_⟩) ?_ ?_;rotate_left
                    ·intro w';go_simp
                     with_reducible rfl
                    rotate_left
                    ·simp only [Act.put, l01_, l02_, l03_, i64_w, i32_w]
                     rfl
                    refine pure_ (i := 22) (N := some 87) (v := ?_) (a' := ?_) #[true, true, true, true, true, true, true, true, true, true, true, true, true, true, true, true, true, true, true, true, true, true, true, true, false, false, false, false] rfl rfl (any_of HT_.out (by kernel_rfl)) (fun _ _ _ h => h) (Or.inl ⟨by rfl, ?_⟩) ?_ ?_;rotate_left
                    ·intro w';go_simp
                     with_reducible rfl
                    rotate_left
                    ·simp only [Act.put, l01_, l02_, l03_, i64_w, i32_w]
                     rfl
                    refine take_ (i := 24) (N := some 89) (v := ?_) (a' := ?_) #[true, true, true, true, true, true, true, true, true, true, true, true, true, true, true, true, true, true, true, true, true, true, true, true, true, false, false, false] rfl rfl (take_ofW HT_.out HW_.out (by kernel_rfl)) (fun _ _ _ h => h) (Or.inl ⟨by rfl, ?_⟩) hHeld ?_ ?_;rotate_left
                    ·rintro w' ⟨s0, s1, s2, s3, s4, s5⟩
                     go_simp
                     with_reducible rfl
                    rotate_left
                    ·simp only [Act.put, l01_, l02_, l03_, i64_w, i32_w]
                     rfl
                    refine pure_ (i := 25) (N := some 90) (v := ?_) (a' := ?_) #[true, true, true, true, true, true, true, true, true, true, true, true, true, true, true, true, true, true, true, true, true, true, true, true, true, true, false, false] rfl rfl (any_of HT_.out (by kernel_rfl)) (fun _ _ _ h => h) (Or.inl ⟨by rfl, ?_⟩) ?_ ?_;rotate_left
                    ·intro w';go_simp
                     with_reducible rfl
                    rotate_left
                    ·simp only [Act.put, l01_, l02_, l03_, i64_w, i32_w]
                     rfl
                    refine pure_ (i := 26) (N := some 91) (v := ?_) (a' := ?_) #[true, true, true, true, true, true, true, true, true, true, true, true, true, true, true, true, true, true, true, true, true, true, true, true, true, true, true, false] rfl rfl (any_of HT_.out (by kernel_rfl)) (fun _ _ _ h => h) (Or.inl ⟨by rfl, ?_⟩) ?_ ?_;rotate_left
                    ·intro w';go_simp
                     with_reducible rfl
                    rotate_left
                    ·simp only [Act.put, l01_, l02_, l03_, i64_w, i32_w]
                     rfl
                    refine last_ (i := 27) (N := none) #[true, true, true, true, true, true, true, true, true, true, true, true, true, true, true, true, true, true, true, true, true, true, true, true, true, true, true, true] rfl rfl (one_of HT_.out (by kernel_rfl)) (by decide) (fun K hK => ?_);refine skip_ (w1 := ?_) (by rfl) rfl ?_ ?_;rotate_left
                    ·go_simp
                     rfl
                    refine hK.out _ _ ?_;clear hK K;refine done_ (done_of HT_.out (by kernel_rfl)) ?_
                    try go_wp2
                    (try simp only [← hl9_2])
                    go_roundg k2
                    case measure => have := HK1.out; have := HK2.out; omega
                    case rel => exact ⟨(y128), (wrap64 (x54_2 + 1)), rf_, H', ⟨by have := HK1.out; have := HK2.out; omega⟩, ⟨by (try simp only [hl9_2]); (with_reducible repeat (first | apply Kd.Ra1 | apply Kd.Rn1 | apply Kd.Rd1)); exact Kd.R_mono (Kd.R_far (p := ⟨go21, (x54_2 : Int).toNat, none⟩) (Kd.R_mono HO_7.out (fun k_ hk => (⟨hk, fun e_ => hk.2 (by rw [e_]; rfl)⟩ : _ ∧ k_ ≠ go21))) (fun _ hk => hk.2) (.int .i64 (Int.tmod (wrap64 ((wrap64 ((rd x9_2 x54_2) + (wrap64 ((wrap64 (a0_0 - (rd x9_1 (ji17)))) * (rd l0_2 x54_2))))) + (wrap64 ((rd t114 x10_1) * (rd t111 x54_2))))) a0_0))) (fun _ hk => ⟨hk.1.1, hk.1.2⟩)⟩, ⟨by (try simp only [hl9_2]); (with_reducible repeat (first | apply Kd.Ra1 | apply Kd.Rn1 | apply Kd.Rd1)); exact Kd.R_mono (Kd.R_far (p := ⟨go21, (x54_2 : Int).toNat, none⟩) (Kd.R_mono HO_8.out (fun k_ hk => (⟨hk, fun e_ => hk.2 (by rw [e_]; rfl)⟩ : _ ∧ k_ ≠ go21))) (fun _ hk => hk.2) (.int .i64 (Int.tmod (wrap64 ((wrap64 ((rd x9_2 x54_2) + (wrap64 ((wrap64 (a0_0 - (rd x9_1 (ji17)))) * (rd l0_2 x54_2))))) + (wrap64 ((rd t114 x10_1) * (rd t111 x54_2))))) a0_0))) (fun _ hk => ⟨hk.1.1, hk.1.2⟩)⟩, ⟨by (try simp only [hl9_2]); (with_reducible repeat (first | apply Kd.Ra1 | apply Kd.Rn1 | apply Kd.Rd1)); exact HQ43.out⟩, ⟨by (try simp only [hl9_2]); (with_reducible repeat (first | refine kn1 ?_ _ | refine kd1 ?_ | refine ka1 ?_ _)); refine blk_far ?_ (by have h_ := Kd.R_ne HO_9.out BK110.out (by decide); intro e_; exact h_ (by rw [e_]; rfl)) _; (with_reducible repeat (first | refine kn1 ?_ _ | refine kd1 ?_ | refine ka1 ?_ _)); exact BK110.out⟩, ⟨bl_⟩⟩
                  ·rw [if_neg c36] at H;exact absurd H (by simp)
                 ·rw [if_neg c35] at H;exact absurd H (by simp)
                ·rw [if_neg c34] at H;exact absurd H (by simp)
               ·rw [if_neg c33] at H;exact absurd H (by simp)
              ·rw [if_neg c32] at H;exact absurd H (by simp)
             ·rw [if_neg c31] at H;exact absurd H (by simp)
            ·rw [if_neg c30] at H;have c30b0 : decide (1 < a0_1) = false := decide_eq_false c30;clear c30;by_cases c44 : 0 ≤ x54_2
             ·rw [if_pos c44] at H;have c44b0 : decide (0 ≤ x54_2) = true := decide_eq_true c44;clear c44;by_cases c45 : x54_2 < (x9_2.length : Int)
              ·rw [if_pos c45] at H;have c45b0 : decide (x54_2 < (x9_2.length : Int)) = true := decide_eq_true c45;(try (have c45b0h0 := c45b0; simp only [hl9_2] at c45b0h0));clear c45;by_cases c46 : 0 ≤ x10_1
               ·rw [if_pos c46] at H;have c46b0 : decide (0 ≤ x10_1) = true := decide_eq_true c46;clear c46;by_cases c47 : x10_1 < (t114.length : Int)
                ·rw [if_pos c47] at H;have c47b0 : decide (x10_1 < (t114.length : Int)) = true := decide_eq_true c47;(try (have c47b0h0 := c47b0; simp only [hl9_2] at c47b0h0));clear c47;by_cases c48 : x54_2 < (t111.length : Int)
                 ·rw [if_pos c48] at H;have c48b0 : decide (x54_2 < (t111.length : Int)) = true := decide_eq_true c48;(try (have c48b0h0 := c48b0; simp only [hl9_2] at c48b0h0));clear c48;by_cases c49 : a0_0 = 0
                  ·rw [if_pos c49] at H;exact absurd H (by simp)
                  ·rw [if_neg c49] at H;have c49b0 : (a0_0 == 0) = false := beq_eq_false_iff_ne.mpr c49;have c49b1 : (a0_0 != 0) = true := bne_iff_ne.mpr c49;(obtain ⟨y132, hy132⟩ : ∃ y_ : List Int, y_ = (x9_2.set (x54_2 : Int).toNat (Int.tmod (wrap64 ((wrap64 ((rd x9_2 x54_2) + (wrap64 0))) + (wrap64 ((rd t114 x10_1) * (rd t111 x54_2))))) a0_0)) := ⟨_, rfl⟩);(replace H : (field_multiply.l1 k2 t111 t114 y132 x10_1 (rd x9_1 (ji17)) (x9_1.length : Int) (wrap64 (x54_2 + 1)) a0_0 a0_1 l0_2) = some r := by first | (rw [hy132]; with_reducible exact H) | (have H2_ := (Option.bind_some _ _).symm.trans H; rw [hy132]; with_reducible exact H2_) | (have H2_ := (Option.bind_some _ _).symm.trans H; with_reducible exact H2_) | with_reducible exact H | (rw [hy132]; exact H) | exact H);have Ny132 := Ai0.mk hy132;clear hy132;have H' := Ai0.mk H;clear H;have hcz51_0 : wr.cell? ⟨gb110, 0, none⟩ = some (.int .i64 a0_0) := (kc1 BK110.out 0).trans rfl;have hcz51_1 : wr.cell? ⟨gb110, 1, none⟩ = some (.int .i64 a0_1) := (kc1 BK110.out 1).trans rfl;have hcz51_2 : wr.cell? ⟨gb110, 2, none⟩ = some (.slice A0_2 l0_2.length c0_2) := (kc1 BK110.out 2).trans rfl;have hfz51_0 := kf1 BK110.out 0;have hfz51_1 := kf1 BK110.out 1;have hfz51_2 := kf1 BK110.out 2
                   try go_wp2
                   have n0_ := Ai0.mk (Kd.Rd1 HO_7.out);have n1_ := Ai0.mk (Kd.Rd1 HO_8.out);have n2_ := Ai0.mk (Kd.Rd1 HO_9.out);have n3_ := Ai0.mk (kd1 BK110.out);have n4_ := Ai0.mk (bw1 HB.out);clear HO_7;clear HO_8;clear HO_9;clear BK110;clear HB;have HO_7 := n0_;have HO_8 := n1_;have HO_9 := n2_;have BK110 := n3_;have HB := n4_;clear n0_ n1_ n2_ n3_ n4_;have p129 : 0 ≤ (x54_2 : Int) := od_;have q129 : x54_2 < (x9_2.length : Int) := od_;obtain ⟨ad129, e129, hx129_0⟩ := Kd.at_int (Kd.R_reads' HO_9.out).2.2 x54_2 p129 q129;obtain rfl : (⟨go21, 0, none⟩ : Addr) = ad129 := (by injection e129);(first | simp only [add_plain] at hx129_0 | simp only [add_at] at hx129_0 | simp only [Addr.add, Nat.zero_add] at hx129_0 | skip);replace p129 := eq_true p129;replace q129 := eq_true q129;obtain ⟨Ao53, co53, eo53⟩ := Kd.R_slice HO_8.out;(first | subst eo53 | (injection eo53 with f1_ f2_ f3_; have f4_ := f1_.symm; have f5_ := f3_.symm; clear f1_ f2_ f3_; subst f4_; subst f5_));have p130 : 0 ≤ (x10_1 : Int) := od_;have q130 : x10_1 < (t114.length : Int) := od_;obtain ⟨ad130, e130, hx130_0⟩ := Kd.at_int (Kd.R_reads' HO_8.out).2.2 x10_1 p130 q130;cases e130;replace p130 := eq_true p130;replace q130 := eq_true q130;obtain ⟨Ao54, co54, eo54⟩ := Kd.R_slice HO_7.out;(first | subst eo54 | (injection eo54 with f1_ f2_ f3_; have f4_ := f1_.symm; have f5_ := f3_.symm; clear f1_ f2_ f3_; subst f4_; subst f5_));have p131 : 0 ≤ (x54_2 : Int) := od_;have q131 : x54_2 < (t111.length : Int) := od_;obtain ⟨ad131, e131, hx131_0⟩ := Kd.at_int (Kd.R_reads' HO_7.out).2.2 x54_2 p131 q131;cases e131;replace p131 := eq_true p131;replace q131 := eq_true q131;have p50 : 0 ≤ (x54_2 : Int) := od_;have q50 : (x54_2 : Int) < ((x9_2.length : Int) : Int) := od_;obtain ⟨hx50_0, hf50_0⟩ := Kd.R_celln 0 HO_9.out (x54_2 : Int) p50 q50;replace p50 := eq_true p50;replace q50 := eq_true q50;have HP55 := Kd.R_putn HO_9.out (x54_2 : Int) (Int.tmod (wrap64 ((wrap64 ((rd x9_2 x54_2) + (wrap64 0))) + (wrap64 ((rd t114 x10_1) * (rd t111 x54_2))))) a0_0);rw [← Ny132.out] at HP55;have HQ55 := Ai0.mk HP55;clear HP55;refine start_ (n := 28) (S := fun w' => w'.cell? ⟨gb110, 0, none⟩ = some (.int .i64 a0_0) ∧ w'.cell? ⟨gb110, 1, none⟩ = some (.int .i64 a0_1) ∧ w'.cell? ⟨gb110, 2, none⟩ = some (.slice A0_2 l0_2.length c0_2) ∧ w'.cell? ⟨go21, (x54_2).toNat, none⟩ = some (.int .i64 (rd x9_2 x54_2)) ∧ w'.cell? (ad130.add (x10_1).toNat) = some (.int .i64 (rd t114 x10_1)) ∧ w'.cell? (ad131.add (x54_2).toNat) = some (.int .i64 (rd t111 x54_2))) (ds := [27]) #[false, false, false, false, false, false, false, false, false, false, false, false, false, false, false, false, false, false, false, false, false, false, false, false, false, false, false, false] (by kernel_rfl) rfl rfl ⟨(kc1 BK110.out 0).trans rfl, (kc1 BK110.out 1).trans rfl, (kc1 BK110.out 2).trans rfl, hx129_0, hx130_0, hx131_0⟩ (fun hHeld => ?_); refine with_tabW field_multiply.tab15 field_multiply.bits15 (fun HT_ HW_ => ?_);(generalize wr.drew = w52 at HO_7 HO_8 HO_9 BK110 HB HQ55 hf50_0 hx129_0 hx130_0 hx131_0 hx50_0 hHeld ⊢);refine pure_ (i := 0) (N := some 65) (v := ?_) (a' := ?_) #[true, false, false, false, false, false, false, false, false, false, false, false, false, false, false, false, false, false, false, false, false, false, false, false, false, false, false, false] rfl rfl (any_of HT_.out (by kernel_rfl)) (fun _ _ _ h => h) (Or.inl ⟨by rfl, ?_⟩) ?_ ?_;rotate_left
                   ·intro w';go_simp
                    with_reducible rfl
                   rotate_left
                   ·simp only [Act.put, l01_, l02_, l03_, i64_w, i32_w]
                    rfl
                   refine pure_ (i := 1) (N := some 66) (v := ?_) (a' := ?_) #[true, true, false, false, false, false, false, false, false, false, false, false, false, false, false, false, false, false, false, false, false, false, false, false, false, false, false, false] rfl rfl (any_of HT_.out (by kernel_rfl)) (fun _ _ _ h => h) (Or.inl ⟨by rfl, ?_⟩) ?_ ?_;rotate_left
                   ·intro w';go_simp
                    with_reducible rfl
                   rotate_left
                   ·simp only [Act.put, l01_, l02_, l03_, i64_w, i32_w]
                    rfl
                   refine pure_ (i := 2) (N := some 67) (v := ?_) (a' := ?_) #[true, true, true, false, false, false, false, false, false, false, false, false, false, false, false, false, false, false, false, false, false, false, false, false, false, false, false, false] rfl rfl (any_of HT_.out (by kernel_rfl)) (fun _ _ _ h => h) (Or.inl ⟨by rfl, ?_⟩) ?_ ?_;rotate_left
                   ·intro w';go_simp
                    with_reducible rfl
                   rotate_left
                   ·simp only [Act.put, l01_, l02_, l03_, i64_w, i32_w]
                    rfl
                   refine pure_ (i := 3) (N := some 68) (v := ?_) (a' := ?_) #[true, true, true, true, false, false, false, false, false, false, false, false, false, false, false, false, false, false, false, false, false, false, false, false, false, false, false, false] rfl rfl (any_of HT_.out (by kernel_rfl)) (fun _ _ _ h => h) (Or.inl ⟨by rfl, ?_⟩) ?_ ?_;rotate_left
                   ·intro w';go_simp
                    with_reducible rfl
                   rotate_left
                   ·simp only [Act.put, l01_, l02_, l03_, i64_w, i32_w]
                    rfl
                   refine pure_ (i := 4) (N := some 69) (v := ?_) (a' := ?_) #[true, true, true, true, true, false, false, false, false, false, false, false, false, false, false, false, false, false, false, false, false, false, false, false, false, false, false, false] rfl rfl (any_of HT_.out (by kernel_rfl)) (fun _ _ _ h => h) (Or.inl ⟨by rfl, ?_⟩) ?_ ?_;rotate_left
                   ·intro w';go_simp
                    with_reducible rfl
                   rotate_left
                   ·simp only [Act.put, l01_, l02_, l03_, i64_w, i32_w]
                    rfl
                   refine pure_ (i := 6) (N := some 71) (v := ?_) (a' := ?_) #[true, true, true, true, true, false, true, false, false, false, false, false, false, false, false, false, false, false, false, false, false, false, false, false, false, false, false, false] rfl rfl (any_of HT_.out (by kernel_rfl)) (fun _ _ _ h => h) (Or.inl ⟨by rfl, ?_⟩) ?_ ?_;rotate_left
                   ·intro w';go_simp
                    with_reducible rfl
                   rotate_left
                   ·simp only [Act.put, l01_, l02_, l03_, i64_w, i32_w]
                    rfl
                   refine pure_ (i := 8) (N := some 73) (v := ?_) (a' := ?_) #[true, true, true, true, true, false, true, false, true, false, false, false, false, false, false, false, false, false, false, false, false, false, false, false, false, false, false, false] rfl rfl (any_of HT_.out (by kernel_rfl)) (fun _ _ _ h => h) (Or.inl ⟨by rfl, ?_⟩) ?_ ?_;rotate_left
                   ·intro w';go_simp
                    with_reducible rfl
                   rotate_left
                   ·simp only [Act.put, l01_, l02_, l03_, i64_w, i32_w]
                    rfl
                   refine pure_ (i := 10) (N := some 75) (v := ?_) (a' := ?_) #[true, true, true, true, true, false, true, false, true, false, true, false, false, false, false, false, false, false, false, false, false, false, false, false, false, false, false, false] rfl rfl (any_of HT_.out (by kernel_rfl)) (fun _ _ _ h => h) (Or.inl ⟨by rfl, ?_⟩) ?_ ?_;rotate_left
                   ·intro w';go_simp
                    with_reducible rfl
                   rotate_left
                   ·simp only [Act.put, l01_, l02_, l03_, i64_w, i32_w]
                    rfl
                   refine pure_ (i := 13) (N := some 78) (v := ?_) (a' := ?_) #[true, true, true, true, true, false, true, false, true, false, true, false, false, true, false, false, false, false, false, false, false, false, false, false, false, false, false, false] rfl rfl (any_of HT_.out (by kernel_rfl)) (fun _ _ _ h => h) (Or.inl ⟨by rfl, ?_⟩) ?_ ?_;rotate_left
                   ·intro w';go_simp
                    with_reducible rfl
                   rotate_left
                   ·simp only [Act.put, l01_, l02_, l03_, i64_w, i32_w]
                    rfl
                   refine pure_ (i := 14) (N := some 79) (v := ?_) (a' := ?_) #[true, true, true, true, true, false, true, false, true, false, true, false, false, true, true, false, false, false, false, false, false, false, false, false, false, false, false, false] rfl rfl (any_of HT_.out (by kernel_rfl)) (fun _ _ _ h => h) (Or.inl ⟨by rfl, ?_⟩) ?_ ?_;rotate_left
                   ·intro w';go_simp
                    with_reducible rfl
                   rotate_left
                   ·simp only [Act.put, l01_, l02_, l03_, i64_w, i32_w]
                    rfl
                   refine pure_ (i := 15) (N := some 80) (v := ?_) (a' := ?_) #[true, true, true, true, true, false, true, false, true, false, true, false, false, true, true, true, false, false, false, false, false, false, false, false, false, false, false, false] rfl rfl (any_of HT_.out (by kernel_rfl)) (fun _ _ _ h => h) (Or.inl ⟨by rfl, ?_⟩) ?_ ?_;rotate_left
                   ·intro w';go_simp
                    with_reducible rfl
                   rotate_left
                   ·simp only [Act.put, l01_, l02_, l03_, i64_w, i32_w]
                    rfl
                   refine pure_ (i := 17) (N := some 82) (v := ?_) (a' := ?_) #[true, true, true, true, true, false, true, false, true, false, true, false, false, true, true, true, false, true, false, false, false, false, false, false, false, false, false, false] rfl rfl (any_of HT_.out (by kernel_rfl)) (fun _ _ _ h => h) (Or.inl ⟨by rfl, ?_⟩) ?_ ?_;rotate_left
                   ·intro w';go_simp
                    with_reducible rfl
                   rotate_left
                   ·simp only [Act.put, l01_, l02_, l03_, i64_w, i32_w]
                    rfl
                   refine pure_ (i := 18) (N := some 83) (v := ?_) (a' := ?_) #[true, true, true, true, true, false, true, false, true, false, true, false, false, true, true, true, false, true, true, false, false, false, false, false, false, false, false, false] rfl rfl (any_of HT_.out (by kernel_rfl)) (fun _ _ _ h => h) (Or.inl ⟨by rfl, ?_⟩) ?_ ?_;rotate_left
                   ·intro w';go_simp
                    with_reducible rfl
                   rotate_left
                   ·simp only [Act.put, l01_, l02_, l03_, i64_w, i32_w]
                    rfl
                   refine pure_ (i := 19) (N := some 84) (v := ?_) (a' := ?_) #[true, true, true, true, true, false, true, false, true, false, true, false, false, true, true, true, false, true, true, true, false, false, false, false, false, false, false, false] rfl rfl (any_of HT_.out (by kernel_rfl)) (fun _ _ _ h => h) (Or.inl ⟨by rfl, ?_⟩) ?_ ?_;rotate_left
                   ·intro w';go_simp
                    with_reducible rfl
                   rotate_left
                   ·simp only [Act.put, l01_, l02_, l03_, i64_w, i32_w]
                    rfl
                   refine pure_ (i := 23) (N := some 88) (v := ?_) (a' := ?_) #[true, true, true, true, true, false, true, false, true, false, true, false, false, true, true, true, false, true, true, true, false, false, false, true, false, false, false, false] rfl rfl (any_of HT_.out (by kernel_rfl)) (fun _ _ _ h => h) (Or.inl ⟨by rfl, ?_⟩) ?_ ?_;rotate_left
                   ·intro w';go_simp
                    with_reducible rfl
                   rotate_left
                   ·simp only [Act.put, l01_, l02_, l03_, i64_w, i32_w]
                    rfl
                   refine take_ (i := 5) (N := some 70) (v := ?_) (a' := ?_) #[true, true, true, true, true, true, true, false, true, false, true, false, false, true, true, true, false, true, true, true, false, false, false, true, false, false, false, false] rfl rfl (take_ofW HT_.out HW_.out (by kernel_rfl)) (fun _ _ _ h => h) (Or.inl ⟨by rfl, ?_⟩) hHeld ?_ ?_;rotate_left
                   ·rintro w' ⟨s0, s1, s2, s3, s4, s5⟩
                    go_simp
                    with_reducible rfl
                   rotate_left
                   ·simp only [Act.put, l01_, l02_, l03_, i64_w, i32_w]
                    rfl
                   refine take_ (i := 7) (N := some 72) (v := ?_) (a' := ?_) #[true, true, true, true, true, true, true, true, true, false, true, false, false, true, true, true, false, true, true, true, false, false, false, true, false, false, false, false] rfl rfl (take_ofW HT_.out HW_.out (by kernel_rfl)) (fun _ _ _ h => h) (Or.inl ⟨by rfl, ?_⟩) hHeld ?_ ?_;rotate_left
                   ·rintro w' ⟨s0, s1, s2, s3, s4, s5⟩
                    go_simp
                    with_reducible rfl
                   rotate_left
                   ·simp only [Act.put, l01_, l02_, l03_, i64_w, i32_w]
                    rfl
                   refine pure_ (i := 9) (N := some 74) (v := ?_) (a' := ?_) #[true, true, true, true, true, true, true, true, true, true, true, false, false, true, true, true, false, true, true, true, false, false, false, true, false, false, false, false] rfl rfl (any_of HT_.out (by kernel_rfl)) (fun _ _ _ h => h) (Or.inl ⟨by rfl, ?_⟩) ?_ ?_;rotate_left
                   ·intro w';go_simp
                    with_reducible rfl
                   rotate_left
                   ·simp only [Act.put, l01_, l02_, l03_, i64_w, i32_w]
                    rfl
                   refine pure_ (i := 11) (N := some 76) (v := ?_) (a' := ?_) #[true, true, true, true, true, true, true, true, true, true, true, true, false, true, true, true, false, true, true, true, false, false, false, true, false, false, false, false] rfl rfl (any_of HT_.out (by kernel_rfl)) (fun _ _ _ h => h) (Or.inl ⟨by rfl, ?_⟩) ?_ ?_;rotate_left
                   ·intro w';go_simp
                    with_reducible rfl
                   rotate_left
                   ·simp only [Act.put, l01_, l02_, l03_, i64_w, i32_w]
                    rfl
                   refine pure_ (i := 12) (N := some 77) (v := ?_) (a' := ?_) #[true, true, true, true, true, true, true, true, true, true, true, true, true, true, true, true, false, true, true, true, false, false, false, true, false, false, false, false] rfl rfl (any_of HT_.out (by kernel_rfl)) (fun _ _ _ h => h) (Or.inl ⟨by rfl, ?_⟩) ?_ ?_;rotate_left
                   ·intro w';go_simp
                    with_reducible rfl
                   rotate_left
                   ·simp only [Act.put, l01_, l02_, l03_, i64_w, i32_w]
                    rfl
                   refine take_ (i := 16) (N := some 81) (v := ?_) (a' := ?_) #[true, true, true, true, true, true, true, true, true, true, true, true, true, true, true, true, true, true, true, true, false, false, false, true, false, false, false, false] rfl rfl (take_ofW HT_.out HW_.out (by kernel_rfl)) (fun _ _ _ h => h) (Or.inl ⟨by rfl, ?_⟩) hHeld ?_ ?_;rotate_left
                   ·rintro w' ⟨s0, s1, s2, s3, s4, s5⟩
                    go_simp
                    with_reducible rfl
                   rotate_left
                   ·simp only [Act.put, l01_, l02_, l03_, i64_w, i32_w]
                    rfl
                   refine take_ (i := 20) (N := some 85) (v := ?_) (a' := ?_) #[true, true, true, true, true, true, true, true, true, true, true, true, true, true, true, true, true, true, true, true, true, false, false, true, false, false, false, false] rfl rfl (take_ofW HT_.out HW_.out (by kernel_rfl)) (fun _ _ _ h => h) (Or.inl ⟨by rfl, ?_⟩) hHeld ?_ ?_;rotate_left
                   ·rintro w' ⟨s0, s1, s2, s3, s4, s5⟩
                    go_simp
                    with_reducible rfl
                   rotate_left
                   ·simp only [Act.put, l01_, l02_, l03_, i64_w, i32_w]
                    rfl
                   refine pure_ (i := 21) (N := some 86) (v := ?_) (a' := ?_) #[true, true, true, true, true, true, true, true, true, true, true, true, true, true, true, true, true, true, true, true, true, true, false, true, false, false, false, false] rfl rfl (any_of HT_.out (by kernel_rfl)) (fun _ _ _ h => h) (Or.inl ⟨by rfl, ?_⟩) ?_ ?_;rotate_left
                   ·intro w';go_simp
                    with_reducible rfl
                   rotate_left
                   ·simp only [Act.put, l01_, l02_, l03_, i64_w, i32_w]
                    rfl
                   refine pure_ (i := 22) (N := some 87) (v := ?_) (a' := ?_) #[true, true, true, true, true, true, true, true, true, true, true, true, true, true, true, true, true, true, true, true, true, true, true, true, false, false, false, false] rfl rfl (any_of HT_.out (by kernel_rfl)) (fun _ _ _ h => h) (Or.inl ⟨by rfl, ?_⟩) ?_ ?_;rotate_left
                   ·intro w';go_simp
                    with_reducible rfl
                   rotate_left
                   ·simp only [Act.put, l01_, l02_, l03_, i64_w, i32_w]
                    rfl
                   refine take_ (i := 24) (N := some 89) (v := ?_) (a' := ?_) #[true, true, true, true, true, true, true, true, true, true, true, true, true, true, true, true, true, true, true, true, true, true, true, true, true, false, false, false] rfl rfl (take_ofW HT_.out HW_.out (by kernel_rfl)) (fun _ _ _ h => h) (Or.inl ⟨by rfl, ?_⟩) hHeld ?_ ?_;rotate_left
                   ·rintro w' ⟨s0, s1, s2, s3, s4, s5⟩
                    go_simp
                    with_reducible rfl
                   rotate_left
                   ·simp only [Act.put, l01_, l02_, l03_, i64_w, i32_w]
                    rfl
                   refine pure_ (i := 25) (N := some 90) (v := ?_) (a' := ?_) #[true, true, true, true, true, true, true, true, true, true, true, true, true, true, true, true, true, true, true, true, true, true, true, true, true, true, false, false] rfl rfl (any_of HT_.out (by kernel_rfl)) (fun _ _ _ h => h) (Or.inl ⟨by rfl, ?_⟩) ?_ ?_;rotate_left
                   ·intro w';go_simp
                    with_reducible rfl
                   rotate_left
                   ·simp only [Act.put, l01_, l02_, l03_, i64_w, i32_w]
                    rfl
                   refine pure_ (i := 26) (N := some 91) (v := ?_) (a' := ?_) #[true, true, true, true, true, true, true, true, true, true, true, true, true, true, true, true, true, true, true, true, true, true, true, true, true, true, true, false] rfl rfl (any_of HT_.out (by kernel_rfl)) (fun _ _ _ h => h) (Or.inl ⟨by rfl, ?_⟩) ?_ ?_;rotate_left
                   ·intro w';go_simp
                    with_reducible rfl
                   rotate_left
                   ·simp only [Act.put, l01_, l02_, l03_, i64_w, i32_w]
                    rfl
                   refine last_ (i := 27) (N := none) #[true, true, true, true, true, true, true, true, true, true, true, true, true, true, true, true, true, true, true, true, true, true, true, true, true, true, true, true] rfl rfl (one_of HT_.out (by kernel_rfl)) (by decide) (fun K hK => ?_);refine skip_ (w1 := ?_) (by rfl) rfl ?_ ?_;rotate_left
                   ·go_simp
                    rfl
                   refine hK.out _ _ ?_;clear hK K;refine done_ (done_of HT_.out (by kernel_rfl)) ?_
                   try go_wp2
                   (try simp only [← hl9_2])
                   go_roundg k2
                   case measure => have := HK1.out; have := HK2.out; omega
                   case rel => exact ⟨(y132), (wrap64 (x54_2 + 1)), rf_, H', ⟨by have := HK1.out; have := HK2.out; omega⟩, ⟨by (try simp only [hl9_2]); (with_reducible repeat (first | apply Kd.Ra1 | apply Kd.Rn1 | apply Kd.Rd1)); exact Kd.R_mono (Kd.R_far (p := ⟨go21, (x54_2 : Int).toNat, none⟩) (Kd.R_mono HO_7.out (fun k_ hk => (⟨hk, fun e_ => hk.2 (by rw [e_]; rfl)⟩ : _ ∧ k_ ≠ go21))) (fun _ hk => hk.2) (.int .i64 (Int.tmod (wrap64 ((wrap64 ((rd x9_2 x54_2) + (wrap64 0))) + (wrap64 ((rd t114 x10_1) * (rd t111 x54_2))))) a0_0))) (fun _ hk => ⟨hk.1.1, hk.1.2⟩)⟩, ⟨by (try simp only [hl9_2]); (with_reducible repeat (first | apply Kd.Ra1 | apply Kd.Rn1 | apply Kd.Rd1)); exact Kd.R_mono (Kd.R_far (p := ⟨go21, (x54_2 : Int).toNat, none⟩) (Kd.R_mono HO_8.out (fun k_ hk => (⟨hk, fun e_ => hk.2 (by rw [e_]; rfl)⟩ : _ ∧ k_ ≠ go21))) (fun _ hk => hk.2) (.int .i64 (Int.tmod (wrap64 ((wrap64 ((rd x9_2 x54_2) + (wrap64 0))) + (wrap64 ((rd t114 x10_1) * (rd t111 x54_2))))) a0_0))) (fun _ hk => ⟨hk.1.1, hk.1.2⟩)⟩, ⟨by (try simp only [hl9_2]); (with_reducible repeat (first | apply Kd.Ra1 | apply Kd.Rn1 | apply Kd.Rd1)); exact HQ55.out⟩, ⟨by (try simp only [hl9_2]); (with_reducible repeat (first | refine kn1 ?_ _ | refine kd1 ?_ | refine ka1 ?_ _)); refine blk_far ?_ (by have h_ := Kd.R_ne HO_9.out BK110.out (by decide); intro e_; exact h_ (by rw [e_]; rfl)) _; (with_reducible repeat (first | refine kn1 ?_ _ | refine kd1 ?_ | refine ka1 ?_ _)); exact BK110.out⟩, ⟨bl_⟩⟩
                 ·rw [if_neg c48] at H;exact absurd H (by simp)
                ·rw [if_neg c47] at H;exact absurd H (by simp)
               ·rw [if_neg c46] at H;exact absurd H (by simp)
              ·rw [if_neg c45] at H;exact absurd H (by simp)
             ·rw [if_neg c44] at H;exact absurd H (by simp)
           ·rw [if_neg c29] at H;have c29b0 : decide (x54_2 < (x9_1.length : Int)) = false := decide_eq_false c29;(try (have c29b0h0 := c29b0; simp only [hl9_2] at c29b0h0));clear c29;have H' := Ai0.mk H;clear H
            go_wp2
            (try simp only [← hl9_2]);(try simp only [← hji17])
            go_roundg k2
            case measure => have := HK1.out; have := HK2.out; omega
            case rel => exact ⟨(x9_2), (wrap64 (x10_1 - 1)), rf_, H', ⟨by have := HK1.out; have := HK2.out; omega⟩, ⟨by (try simp only [hl9_2]); (with_reducible repeat (first | apply Kd.Ra1 | apply Kd.Rn1 | apply Kd.Rd1)); exact HO_7.out⟩, ⟨by (try simp only [hl9_2]); (with_reducible repeat (first | apply Kd.Ra1 | apply Kd.Rn1 | apply Kd.Rd1)); exact HO_8.out⟩, ⟨by (try simp only [hl9_2]); (with_reducible repeat (first | apply Kd.Ra1 | apply Kd.Rn1 | apply Kd.Rd1)); exact HO_9.out⟩, ⟨by (try simp only [hl9_2]); (with_reducible repeat (first | refine kn1 ?_ _ | refine kd1 ?_ | refine ka1 ?_ _)); exact BK110.out⟩, ⟨bl_⟩⟩
        ·rw [if_neg c20] at H;exact absurd H (by simp)
       ·rw [if_neg c19] at H;exact absurd H (by simp)
      ·rw [if_neg c18] at H;exact absurd H (by simp)
     ·rw [if_neg c16] at H;have c16b0 : decide (0 ≤ x10_1) = false := decide_eq_false c16;clear c16;replace H := Option.bind_eq_some_iff.mp H;obtain ⟨t120, A560, H⟩ := H;replace H : (some t120) = some r := H;have A56 := Ai0.mk A560;clear A560;obtain rfl := Option.some.inj H;have hcz57_0 : wr.cell? ⟨gb110, 0, none⟩ = some (.int .i64 a0_0) := (kc1 BK110.out 0).trans rfl;have hcz57_1 : wr.cell? ⟨gb110, 1, none⟩ = some (.int .i64 a0_1) := (kc1 BK110.out 1).trans rfl;have hcz57_2 : wr.cell? ⟨gb110, 2, none⟩ = some (.slice A0_2 l0_2.length c0_2) := (kc1 BK110.out 2).trans rfl;have hfz57_0 := kf1 BK110.out 0;have hfz57_1 := kf1 BK110.out 1;have hfz57_2 := kf1 BK110.out 2;obtain ⟨Ao58, co58, eo58⟩ := Kd.R_slice HO_9.out;subst eo58
      go_wp2_with (first | ((with_reducible refine gate_callee (f := 97) rfl ?_); refine goesL_ (some 96) rfl rfl Try.func97 (by kernel_rfl) rfl #[.slice Ao58 x9_1.length co58, .int .i64 a0_0] rfl (by (try simp only [List.map_toArray, List.map_cons, List.map_nil]); first | done | rfl | (simp only [List.length_drop, List.length_take]; rfl)) ?_; (with_reducible refine (field_valueOf.calls k1 _ _ x9_1 a0_0 t120 _ ?side1 ?side2 A56.out).mono ?_); (case side1 => repeat (first | exact (Kd.R_reads' HO_9.out).2.2 | (with_reducible refine Kd.C_alloc ?_ _) | (with_reducible refine Kd.C_drewN ?_ _) | (with_reducible refine Kd.C_drew ?_))); (case side2 => exact (Kd.R_reads' HO_9.out).2.1); rintro e w' ⟨rfl, ⟨nd, rfl⟩⟩; refine ⟨_, rfl, ?_⟩))
      go_ret
      exact ⟨by first | rfl | (simp [eW0, eW1] <;> rfl) | (simp [*, eW0, eW1] <;> rfl), bl_⟩
  ·rw [if_neg c7] at H;exact absurd H (by simp)
 ·rw [if_neg c6] at H;exact absurd H (by simp)
def field_powers.l0 : Nat → Int → List Int → List Bool → Int → Int → Int → List Int → Option (List Int)
 | 0, _, _, _, _, _, _, _ => none
 | k + 1, x2, x7, x8, x9, x111000, x111001, x111002 => if x9 = 0 then (some x7) else (if 0 ≤ x9 then (if x9 < (x8.length : Int) then (if rdOf false x8 x9 = true then (some x7) else (if x7.length < 17592186044416 then ((field_multiply.f k x111000 x111001 x111002 x9 x2).bind fun t123 => (field_powers.l0 k x2 (x7 ++ [x9]) (x8.set (x9 : Int).toNat true) t123 x111000 x111001 x111002)) else (none))) else (none)) else (none))
def field_powers.f (k : Nat) (a0_0 : Int) (a0_1 : Int) (l0_2 : List Int) (a1 : Int) (a2 : Int) : Option (List Int) := if 0 ≤ a1 then (if (a1 : Int).toNat ≤ 281474976710656 then ((some (List.replicate (a1 : Int).toNat false : List Bool)).bind fun y114 => (if 1 < (y114.length : Int) then (field_powers.l0 k a2 (([1] : List Int)) (y114.set (1 : Int).toNat true) a2 a0_0 a0_1 l0_2) else (none))) else (none)) else (none)
theorem field_powers.mono_l : ∀ k, (∀ y0 y1 y2 y3 y4 y5 y6, LeO (field_powers.l0 k y0 y1 y2 y3 y4 y5 y6) (field_powers.l0 (k + 1) y0 y1 y2 y3 y4 y5 y6))
 | 0 => fun _ _ _ _ _ _ _ r h => by simp [field_powers.l0] at h
 | k + 1 => by
  have ih0 := field_powers.mono_l k
  ·intro y0 y1 y2 y3 y4 y5 y6;unfold field_powers.l0
   repeat' first
   | (with_reducible exact ih0 _ _ _ _ _ _ _)
   | (with_reducible exact field_multiply.mono _ _ _ _ _ _)
   | (with_reducible exact LeO.refl _)
   | (with_reducible exact LeO.none _)
   | (with_reducible refine LeO.ite ?_ ?_)
   | (with_reducible refine LeO.bind ?_ (fun _ => ?_))
   | exact ih0 _ _ _ _ _ _ _
   | exact field_multiply.mono _ _ _ _ _ _
   | exact LeO.none _
   | refine LeO.ite ?_ ?_
   | refine LeO.bind ?_ (fun _ => ?_)
theorem field_powers.mono : ∀ a0 a1 a2 a3 a4 k, LeO (field_powers.f k a0 a1 a2 a3 a4) (field_powers.f (k + 1) a0 a1 a2 a3 a4) := by
 intro a0 a1 a2 a3 a4 k;have ih0 := field_powers.mono_l k;unfold field_powers.f
 repeat' first
   | (with_reducible exact ih0 _ _ _ _ _ _ _)
   | (with_reducible exact field_multiply.mono _ _ _ _ _ _)
   | (with_reducible exact LeO.refl _)
   | (with_reducible exact LeO.none _)
   | (with_reducible refine LeO.ite ?_ ?_)
   | (with_reducible refine LeO.bind ?_ (fun _ => ?_))
   | exact ih0 _ _ _ _ _ _ _
   | exact field_multiply.mono _ _ _ _ _ _
   | exact LeO.none _
   | refine LeO.ite ?_ ?_
   | refine LeO.bind ?_ (fun _ => ?_)
set_option maxHeartbeats 8000000 in
set_option maxRecDepth 100000 in
theorem field_powers.calls (k : Nat) (a0_0 : Int) (a0_1 : Int) (A0_2 : Option Addr) (c0_2 : Nat) (l0_2 : List Int) (a1 : Int) (a2 : Int) (r : List Int) (w : World) (hr0_2 : Kd.C (Kd.int .i64) w A0_2 l0_2.length l0_2) (hc0_2 : l0_2.length ≤ c0_2) (h : field_powers.f k a0_0 a0_1 l0_2 a1 a2 = some r) :
  Calls Try.prog 93 #[.agg #[.int .i64 a0_0, .int .i64 a0_1, .slice A0_2 l0_2.length c0_2], .int .i64 a1, .int .i64 a2] w fun e w' => ∃ v0_ : Value, e = .returned (v0_) ∧ Kd.R (Kd.int .i64) 3 w' w.heap.size (fun _ => True) v0_ r ∧ Below w.heap.size w w' := by
 have hu44 := Try.underlying44;have HR0_2 := Ai0.mk hr0_2;have HC0_2 := Ai0.mk hc0_2;clear hr0_2 hc0_2;have HB := Ai0.mk (Below.refl w.heap.size w);have H : (if 0 ≤ a1 then (if (a1 : Int).toNat ≤ 281474976710656 then ((some (List.replicate (a1 : Int).toNat false : List Bool)).bind fun y114 => (if 1 < (y114.length : Int) then (field_powers.l0 k a2 (([1] : List Int)) (y114.set (1 : Int).toNat true) a2 a0_0 a0_1 l0_2) else (none))) else (none)) else (none)) = some r := h;clear h;obtain ⟨y111, hy111⟩ : ∃ y_ : List Int, y_ = (([1] : List Int)) := ⟨_, rfl⟩
 replace H : (if 0 ≤ a1 then (if (a1 : Int).toNat ≤ 281474976710656 then ((some (List.replicate (a1 : Int).toNat false : List Bool)).bind fun y114 => (if 1 < (y114.length : Int) then (field_powers.l0 k a2 y111 (y114.set (1 : Int).toNat true) a2 a0_0 a0_1 l0_2) else (none))) else (none)) else (none)) = some r := by first | (rw [hy111]; with_reducible exact H) | (have H2_ := (Option.bind_some _ _).symm.trans H; rw [hy111]; with_reducible exact H2_) | (have H2_ := (Option.bind_some _ _).symm.trans H; with_reducible exact H2_) | with_reducible exact H | (rw [hy111]; exact H) | exact H
 have Ny111 := Ai0.mk hy111;clear hy111;by_cases c4 : 0 ≤ a1
 ·rw [if_pos c4] at H;have c4b0 := eq_true c4;have c4b1 : decide (0 ≤ a1) = true := decide_eq_true c4;clear c4;by_cases c5 : (a1 : Int).toNat ≤ 281474976710656
  ·rw [if_pos c5] at H;have c5b0 := eq_true c5;have c5b1 : decide ((a1 : Int).toNat ≤ 281474976710656) = true := decide_eq_true c5;clear c5;obtain ⟨y114, hy114⟩ : ∃ y_ : List Bool, y_ = (List.replicate (a1 : Int).toNat false) := ⟨_, rfl⟩
   replace H : (if 1 < (y114.length : Int) then (field_powers.l0 k a2 y111 (y114.set (1 : Int).toNat true) a2 a0_0 a0_1 l0_2) else (none)) = some r := by first | (rw [hy114]; with_reducible exact H) | (have H2_ := (Option.bind_some _ _).symm.trans H; rw [hy114]; with_reducible exact H2_) | (have H2_ := (Option.bind_some _ _).symm.trans H; with_reducible exact H2_) | with_reducible exact H | (rw [hy114]; exact H) | exact H
   have Ny114 := Ai0.mk hy114;clear hy114;by_cases c6 : 1 < (y114.length : Int)
   ·rw [if_pos c6] at H;have c6b0 : decide (1 < (y114.length : Int)) = true := decide_eq_true c6;have c6b1 : decide (1 < y114.length) = true := decide_eq_true (by omega);clear c6;(obtain ⟨y117, hy117⟩ : ∃ y_ : List Bool, y_ = (y114.set (1 : Int).toNat true) := ⟨_, rfl⟩);(replace H : (field_powers.l0 k a2 y111 y117 a2 a0_0 a0_1 l0_2) = some r := by first | (rw [hy117]; with_reducible exact H) | (have H2_ := (Option.bind_some _ _).symm.trans H; rw [hy117]; with_reducible exact H2_) | (have H2_ := (Option.bind_some _ _).symm.trans H; with_reducible exact H2_) | with_reducible exact H | (rw [hy117]; exact H) | exact H);have Ny117 := Ai0.mk hy117;clear hy117;have H' := Ai0.mk H;clear H;go_enter Try.func93, Try.ntmps93
    go_wp2_with (first | ((with_reducible refine gate_dst (N := 3) rfl ?_); refine box_event ?hg (N := 3) ?hd (cs := #[.int .i64 a0_0, .int .i64 a0_1, .slice A0_2 l0_2.length c0_2]) (t := 44) ?hr ?_; (case hd => rfl); (case hg => rfl); (case hr => first | (go_simp; done) | (go_simp; rfl)); intro gb110 hg w8 hbox hb; have n0_ := Ai0.mk (bt1 bl_ hb); have n1_ := Ai0.mk (hbox); have n2_ := Ai0.mk ((by rw [hg]; exact (bz1 bl_) : w.heap.size ≤ gb110)); have n3_ := Ai0.mk ((by rw [hg]; exact (bz1 bl_) : w.heap.size ≤ gb110)); clear HB; have HB := n0_; have BK110 := n1_; have GW110 := n2_; have GE110 := n3_; clear n0_ n1_ n2_ n3_; clear hb hbox hg) | ((with_reducible refine gate_dst (N := 10) rfl ?_); refine Kd.R_lit (Kd.int .i64) _ 3 ?hg (N := 10) ?hd (xs := ([1] : List Int)) (inner := [.int .i64 1]) (ok := fun _ => True) (okp := fun _ => True) ?hr ?hp (fun _ hk => hk) trivial (Below.refl _ _) (Nat.le_refl _) (by simp) ?_; (case hd => rfl); (case hg => rfl); (case hr => first | (go_simp; done) | (go_simp; rfl)); (case hp => exact (Reps.one (show Kd.M (Kd.int .i64) _ _ _ 1 [.int .i64 1] from rfl) (Reps.none _ _))); intro v112 w9 ho10 hb hg_ hnew_; clear hg_ hnew_; (first | rw [← Ny111.out] at ho10 | (simp only [Int.reduceToNat] at ho10; rw [← Ny111.out] at ho10)); have n0_ := Ai0.mk (Kd.R_lower ho10 (bz1 bl_)); have n1_ := Ai0.mk (kb1 (g := gb110) (o := .cells #[.int .i64 a0_0, .int .i64 a0_1, .slice A0_2 l0_2.length c0_2] 44 (0, 0)) (kk_ BK110.out) hb); have n2_ := Ai0.mk (bt1 bl_ hb); clear BK110; clear HB; have HO113 := n0_; have BK110 := n1_; have HB := n2_; clear n0_ n1_ n2_; clear hb ho10) | ((with_reducible refine gate_dst (N := 12) rfl ?_); refine Kd.R_make Kd.bool _ 4 rfl (N := 12) rfl 70 _ _ rfl a1 rfl rfl Try.underlying70 (.bool false) 1 info4 rfl (by decide) (by omega) false (ok := fun _ => True) (okp := fun _ => True) rfl (fun _ hk => hk) trivial od_ (Nat.le_trans (Nat.mul_le_mul_right _ (od_ : a1.toNat ≤ 281474976710656)) (by omega)) (Below.refl _ _) (Nat.le_refl _) ?_; intro v115 w11 ho12 hb hg_ hnew_; clear hg_ hnew_; (first | rw [← Ny114.out] at ho12 | (simp only [Int.reduceToNat] at ho12; rw [← Ny114.out] at ho12)); have n0_ := Ai0.mk (Kd.R_below (kr_ HO113.out) hb); have n1_ := Ai0.mk (Kd.R_lower ho12 (bz1 bl_)); have n2_ := Ai0.mk (kb1 (g := gb110) (o := .cells #[.int .i64 a0_0, .int .i64 a0_1, .slice A0_2 l0_2.length c0_2] 44 (0, 0)) (kk_ BK110.out) hb); have n3_ := Ai0.mk (bt1 bl_ hb); clear HO113; clear BK110; clear HB; have HO113 := n0_; have HO116 := n1_; have BK110 := n2_; have HB := n3_; clear n0_ n1_ n2_ n3_; clear hb ho12; have p7 : 0 ≤ (1 : Int) := (by omega); have q7 : (1 : Int) < ((y114.length : Int) : Int) := od_; have qi7 : (1 < y114.length) = True := eq_true (by omega); obtain ⟨go7, co7, eo7, gb7, gl7, cl7, HG7⟩ := Kd.R_form HO116.out (by omega); (first | cases eo7 | (injection eo7 with ea_ en_ ec_; (first | subst ea_ | (injection ea_ with ea_; subst ea_)); subst ec_; clear en_)); have GB7 := Ai0.mk gb7; have GG7 := Ai0.mk HG7; clear gb7 gl7 HG7; obtain ⟨hx7_0, hf7_0⟩ := Kd.R_celln false HO116.out (1 : Int) p7 q7; (try rw [show ((1 : Int)).toNat = 1 from rfl] at hx7_0); (try simp only [Nat.reduceMul, Nat.zero_mul, Nat.zero_add, Nat.reduceAdd] at hx7_0); (try rw [show ((1 : Int)).toNat = 1 from rfl] at hf7_0); (try simp only [Nat.reduceMul, Nat.zero_mul, Nat.zero_add, Nat.reduceAdd] at hf7_0); replace p7 := eq_true p7; replace q7 := eq_true q7; obtain ⟨hy13_, hz13_⟩ := Kd.R_celln false HO116.out (1 : Int) (by omega) od_; (try simp only [Int.reduceToNat, Int.toNat_zero, Int.toNat_ofNat, Nat.reduceMul, Nat.zero_mul, Nat.zero_add] at hy13_ hz13_); (try rw [show ((1 : Int)).toNat = 1 from rfl] at hy13_); (try rw [show ((1 : Int)).toNat = 1 from rfl] at hz13_); have HP13 := Kd.R_putg HO116.out (1 : Int) true) | ((with_reducible refine gate_store (t := 4) (p := 14) rfl ?_); refine store_event (t := 4) (p := 14) (v := ?vo_w14) (w1 := (w11.setCell ⟨go7, (1 : Int).toNat, none⟩ (.bool true))) ?hg ?ho ?hn ?hr ?_; (case ho => rfl); (case hg => rfl); (case hn => rfl); (case hr => first | (go_simp; done) | (go_simp; rfl)); intro w14 hw; have hg : w11.grownBy w14 (some go7) := (by rw [hw]; exact HP13.2); have hp_ : Kd.R Kd.bool 4 w14 w.heap.size (fun _ => True) (.slice (some ⟨go7, 0, none⟩) y114.length co7) y117 := (by rw [hw, Ny117.out]; exact HP13.1); clear HP13; have n0_ := Ai0.mk (blk_grown (g := gb110) (o := .cells #[.int .i64 a0_0, .int .i64 a0_1, .slice A0_2 l0_2.length c0_2] 44 (0, 0)) (kk_ BK110.out) hg (Kd.R_ne HO116.out BK110.out (by decide))); have n1_ := Ai0.mk (Kd.R_over' (v := (.slice (some ⟨go7, 0, none⟩) y114.length co7)) (kr_ HO113.out) (Kd.R_typed HO116.out) (by decide) hg); have n2_ := Ai0.mk (hp_); have n3_ := Ai0.mk ((by rw [hw]; exact bs1 (HB.out) GB7.out : Below w.heap.size w w14)); clear BK110; clear HO113; clear HO116; clear HB; have BK110 := n0_; have HO113 := n1_; have HO116 := n2_; have HB := n3_; clear n0_ n1_ n2_ n3_; clear hg hw hp_))
    go_loopg [7, 9] k (fun kq v7 v9 w' => ∃ (x7_1 : List Int) (x8_1 : List Bool) (x9_1 : Int), v9 = .int .i64 x9_1 ∧ Ai0 (field_powers.l0 kq a2 x7_1 x8_1 x9_1 a0_0 a0_1 l0_2 = some r) ∧ Ai0 (kq ≤ k) ∧ Ai0 (Kd.R (Kd.int .i64) 3 w' w.heap.size (fun _ => True) v7 x7_1) ∧ Ai0 (Kd.R Kd.bool 4 w' w.heap.size (fun _ => True) (.slice (some ⟨go7, 0, none⟩) y114.length co7) x8_1) ∧ Ai0 (w'.heap[gb110]? = some (.cells #[.int .i64 a0_0, .int .i64 a0_1, (.slice A0_2 l0_2.length c0_2)] 44 (0, 0))) ∧ Ai0 (Below w.heap.size w w'))
    case atStart => exact ⟨(y111), (y117), (a2), rf_, H', ⟨Nat.le_refl _⟩, ⟨kr_ HO113.out⟩, ⟨kr_ HO116.out⟩, ⟨kk_ BK110.out⟩, ⟨bl_⟩⟩
    case round =>
     clear H'
     try clear p2
     try clear c4
     try clear c4b0
     try clear c4b1
     try clear c5
     try clear c5b0
     try clear c5b1
     try clear c6
     try clear c6b0
     try clear c6b1
     try clear p7
     try clear q7
     try clear hx7
     try clear qi7
     try clear hf7
     try clear c9
     try clear hx7_0
     try clear p7
     try clear q7
     obtain ⟨x7_1, x8_1, x9_1, rfl, HA, HK1, HO_7, HO_8, BK110, HB⟩ := hrel;have hl8_1 := (Kd.R_reads' HO_8.out).1;rw [hl8_1] at HO_8;(try simp only [hl8_1]);(try simp only [hl8_1] at BK110);(try simp only [hl8_1] at HO_7)
     cases gk with
     | zero => exact absurd HA.out (by simp [field_powers.l0])
     | succ k1 =>
      have H := HA.out;clear HA;simp only [field_powers.l0] at H;by_cases c15 : x9_1 = 0
      ·rw [if_pos c15] at H;have c15b0 : (x9_1 == 0) = true := beq_iff_eq.mpr c15;have c15b1 : (x9_1 != 0) = false := bne_eq_false_iff_eq.mpr c15;clear c15;obtain rfl := Option.some.inj H
       go_wp2
       go_ret
       exact ⟨_, by first | rfl | (simp [eW0, eW1] <;> rfl) | (simp [*, eW0, eW1] <;> rfl), by (with_reducible repeat (first | apply Kd.Ra1 | apply Kd.Rn1 | apply Kd.Rd1)); exact HO_7.out, bl_⟩
      ·rw [if_neg c15] at H;have c15b0 : (x9_1 == 0) = false := beq_eq_false_iff_ne.mpr c15;have c15b1 : (x9_1 != 0) = true := bne_iff_ne.mpr c15;by_cases c16 : 0 ≤ x9_1
       ·rw [if_pos c16] at H;have c16b0 : decide (0 ≤ x9_1) = true := decide_eq_true c16;clear c16;by_cases c17 : x9_1 < (x8_1.length : Int)
        ·rw [if_pos c17] at H;have c17b0 : decide (x9_1 < (x8_1.length : Int)) = true := decide_eq_true c17;(try (have c17b0h0 := c17b0; simp only [hl8_1] at c17b0h0));clear c17;(obtain ⟨bq18, hbq18⟩ : ∃ b_ : Bool, b_ = (rdOf false x8_1 x9_1) := ⟨_, rfl⟩);(replace H : (if bq18 = true then (some x7_1) else (if x7_1.length < 17592186044416 then ((field_multiply.f k1 a0_0 a0_1 l0_2 x9_1 a2).bind fun t123 => (field_powers.l0 k1 a2 (x7_1 ++ [x9_1]) (x8_1.set (x9_1 : Int).toNat true) t123 a0_0 a0_1 l0_2)) else (none))) = some r := by rw [← hbq18] at H; exact H);have Nbq18 := Ai0.mk hbq18;clear hbq18;by_cases c19 : bq18 = true
         ·subst c19;(have H1 : (some x7_1) = some r := by rw [if_pos rfl] at H; exact H);clear H;have H := H1;clear H1;obtain rfl := Option.some.inj H;have p118 : 0 ≤ (x9_1 : Int) := od_;have q118 : x9_1 < (x8_1.length : Int) := od_;obtain ⟨ad118, e118, hx118_0⟩ := Kd.at_bool (Kd.R_reads' HO_8.out).2.2 x9_1 p118 q118;(try rw [← Nbq18.out] at hx118_0);obtain rfl : (⟨go7, 0, none⟩ : Addr) = ad118 := (by injection e118);(first | simp only [add_plain] at hx118_0 | simp only [add_at] at hx118_0 | simp only [Addr.add, Nat.zero_add] at hx118_0 | skip);replace p118 := eq_true p118;replace q118 := eq_true q118
          go_wp2
          go_ret
          exact ⟨_, by first | rfl | (simp [eW0, eW1] <;> rfl) | (simp [*, eW0, eW1] <;> rfl), by (with_reducible repeat (first | apply Kd.Ra1 | apply Kd.Rn1 | apply Kd.Rd1)); exact HO_7.out, bl_⟩
         ·replace c19 := Bool.eq_false_iff.mpr c19;subst c19;(have H1 : (if x7_1.length < 17592186044416 then ((field_multiply.f k1 a0_0 a0_1 l0_2 x9_1 a2).bind fun t123 => (field_powers.l0 k1 a2 (x7_1 ++ [x9_1]) (x8_1.set (x9_1 : Int).toNat true) t123 a0_0 a0_1 l0_2)) else (none)) = some r := by rw [if_neg (show ¬ (false = true) by decide)] at H; exact H);clear H;have H := H1;clear H1;(obtain ⟨y119, hy119⟩ : ∃ y_ : List Bool, y_ = (x8_1.set (x9_1 : Int).toNat true) := ⟨_, rfl⟩);(replace H : (if x7_1.length < 17592186044416 then ((field_multiply.f k1 a0_0 a0_1 l0_2 x9_1 a2).bind fun t123 => (field_powers.l0 k1 a2 (x7_1 ++ [x9_1]) y119 t123 a0_0 a0_1 l0_2)) else (none)) = some r := by first | (rw [hy119]; with_reducible exact H) | (have H2_ := (Option.bind_some _ _).symm.trans H; rw [hy119]; with_reducible exact H2_) | (have H2_ := (Option.bind_some _ _).symm.trans H; with_reducible exact H2_) | with_reducible exact H | (rw [hy119]; exact H) | exact H);have Ny119 := Ai0.mk hy119;clear hy119;by_cases c21 : x7_1.length < 17592186044416
          ·rw [if_pos c21] at H;have LMc21 := Ai0.mk c21;clear c21;(obtain ⟨y120, hy120⟩ : ∃ y_ : List Int, y_ = (x7_1 ++ [x9_1]) := ⟨_, rfl⟩);(replace H : ((field_multiply.f k1 a0_0 a0_1 l0_2 x9_1 a2).bind fun t123 => (field_powers.l0 k1 a2 y120 y119 t123 a0_0 a0_1 l0_2)) = some r := by first | (rw [hy120]; with_reducible exact H) | (have H2_ := (Option.bind_some _ _).symm.trans H; rw [hy120]; with_reducible exact H2_) | (have H2_ := (Option.bind_some _ _).symm.trans H; with_reducible exact H2_) | with_reducible exact H | (rw [hy120]; exact H) | exact H);have Ny120 := Ai0.mk hy120;clear hy120;replace H := Option.bind_eq_some_iff.mp H;obtain ⟨t123, A220, H⟩ := H;replace H : (field_powers.l0 k1 a2 y120 y119 t123 a0_0 a0_1 l0_2) = some r := H;have A22 := Ai0.mk A220;clear A220;have H' := Ai0.mk H;clear H;have p118 : 0 ≤ (x9_1 : Int) := od_;have q118 : x9_1 < (x8_1.length : Int) := od_;obtain ⟨ad118, e118, hx118_0⟩ := Kd.at_bool (Kd.R_reads' HO_8.out).2.2 x9_1 p118 q118;(try rw [← Nbq18.out] at hx118_0);obtain rfl : (⟨go7, 0, none⟩ : Addr) = ad118 := (by injection e118);(first | simp only [add_plain] at hx118_0 | simp only [add_at] at hx118_0 | simp only [Addr.add, Nat.zero_add] at hx118_0 | skip);replace p118 := eq_true p118;replace q118 := eq_true q118;have p20 : 0 ≤ (x9_1 : Int) := od_;have q20 : (x9_1 : Int) < ((x8_1.length : Int) : Int) := od_;obtain ⟨hx20_0, hf20_0⟩ := Kd.R_celln false HO_8.out (x9_1 : Int) p20 q20;replace p20 := eq_true p20;replace q20 := eq_true q20;have HP23 := Kd.R_putg HO_8.out (x9_1 : Int) true
           go_wp2_with (first | ((with_reducible refine gate_store (t := 4) (p := 31) rfl ?_); refine store_event (t := 4) (p := 31) (v := ?vo_w24) (w1 := (wr.setCell ⟨go7, (x9_1 : Int).toNat, none⟩ (.bool true))) ?hg ?ho ?hn ?hr ?_; (case ho => rfl); (case hg => rfl); (case hn => rfl); (case hr => first | (go_simp; done) | (go_simp; rfl)); intro w24 hw; have hg : wr.grownBy w24 (some go7) := (by rw [hw]; exact HP23.2); have hp_ : Kd.R Kd.bool 4 w24 w.heap.size (fun _ => True) (.slice (some ⟨go7, 0, none⟩) x8_1.length co7) y119 := (by rw [hw, Ny119.out]; exact HP23.1); clear HP23; have n0_ := Ai0.mk (Kd.R_over' (v := (.slice (some ⟨go7, 0, none⟩) x8_1.length co7)) (kr_ HO_7.out) (Kd.R_typed HO_8.out) (by decide) hg); have n1_ := Ai0.mk (hp_); have n2_ := Ai0.mk (blk_grown (g := gb110) (o := .cells #[.int .i64 a0_0, .int .i64 a0_1, .slice A0_2 l0_2.length c0_2] 44 (0, 0)) (kk_ BK110.out) hg (Kd.R_ne HO_8.out BK110.out (by decide))); have n3_ := Ai0.mk ((by rw [hw]; exact bs1 (HB.out) GB7.out : Below w.heap.size w w24)); clear HO_7; clear HO_8; clear BK110; clear HB; have HO_7 := n0_; have HO_8 := n1_; have BK110 := n2_; have HB := n3_; clear n0_ n1_ n2_ n3_; clear hg hw hp_) | ((with_reducible refine gate_builtin (b := .append) (xs := #[.tmp 32, .tmp 34]) rfl ?_); at_builtin; refine Kd.R_append (Kd.int .i64) (w0 := w) w.heap.size rfl (.tmp 32) (.tmp 34) 25 3 (.int .i64 0) 8 rfl Try.underlying25 info3 rfl (by decide) (by omega) u7 x7_1 x9_1 [.int .i64 x9_1] (fun _ => True) (fun _ => False) rfl rfl ?aP (fun _ hk => hk.elim) ?aF ?aO ?aB ?aS ?aL ?_; (case aP => exact rfl); (case aB => exact bl_); (case aF => exact (fun _ _ => trivial)); (case aO => exact (kr_ HO_7.out)); (case aS => exact (bz1 bl_)); (case aL => have := LMc21.out; omega); intro v121 w25 ho hb hg hat; rw [← Ny120.out] at ho; have n0_ := Ai0.mk (Kd.R_over' (kr_ HO_8.out) (Kd.R_typed (kr_ HO_7.out)) (by decide) hg); have n1_ := Ai0.mk (blk_grown (g := gb110) (o := .cells #[.int .i64 a0_0, .int .i64 a0_1, .slice A0_2 l0_2.length c0_2] 44 (0, 0)) (kk_ BK110.out) hg (Kd.R_ne HO_7.out BK110.out (by decide))); have n2_ := Ai0.mk (hb); have n3_ := Ai0.mk (ho); clear HO_8; clear BK110; clear HB; clear HO_7; have HO_8 := n0_; have BK110 := n1_; have HB := n2_; have HO122 := n3_; clear n0_ n1_ n2_ n3_; clear ho hb hg hat; have hcz26_0 : w25.cell? ⟨gb110, 0, none⟩ = some (.int .i64 a0_0) := (kc1 BK110.out 0).trans rfl; have hcz26_1 : w25.cell? ⟨gb110, 1, none⟩ = some (.int .i64 a0_1) := (kc1 BK110.out 1).trans rfl; have hcz26_2 : w25.cell? ⟨gb110, 2, none⟩ = some (.slice A0_2 l0_2.length c0_2) := (kc1 BK110.out 2).trans rfl; have hfz26_0 := kf1 BK110.out 0; have hfz26_1 := kf1 BK110.out 1; have hfz26_2 := kf1 BK110.out 2) | ((with_reducible refine gate_callee (f := 94) rfl ?_); refine goesL_ (some 28) rfl rfl Try.func94 (by kernel_rfl) rfl #[.agg #[.int .i64 a0_0, .int .i64 a0_1, .slice A0_2 l0_2.length c0_2], .int .i64 x9_1, .int .i64 a2] rfl (by (try simp only [List.map_toArray, List.map_cons, List.map_nil]); first | done | rfl | (simp only [List.length_drop, List.length_take]; rfl)) ?_; (with_reducible refine (field_multiply.calls k1 a0_0 a0_1 _ _ l0_2 x9_1 a2 t123 _ ?side1 ?side2 A22.out).mono ?_); (case side1 => exact kc_ HR0_2.out); (case side2 => exact HC0_2.out); rintro e w27 ⟨rfl, hb⟩; refine ⟨_, rfl, ?_⟩; have n0_ := Ai0.mk (Kd.R_below (kr_ HO_8.out) hb); have n1_ := Ai0.mk (Kd.R_below (kr_ HO122.out) hb); have n2_ := Ai0.mk (kb1 (g := gb110) (o := .cells #[.int .i64 a0_0, .int .i64 a0_1, .slice A0_2 l0_2.length c0_2] 44 (0, 0)) (kk_ BK110.out) hb); have n3_ := Ai0.mk (bt1 bl_ hb); clear HO_8; clear HO122; clear BK110; clear HB; have HO_8 := n0_; have HO122 := n1_; have BK110 := n2_; have HB := n3_; clear n0_ n1_ n2_ n3_; (try clear hb); (try clear hb2); (try clear hk); (try clear hi)))
           (try simp only [← hl8_1])
           go_roundg k1
           case measure => have := HK1.out; omega
           case rel => exact ⟨(y120), (y119), (t123), rf_, H', ⟨by have := HK1.out; omega⟩, ⟨by (try simp only [hl8_1]); (with_reducible repeat (first | apply Kd.Ra1 | apply Kd.Rn1 | apply Kd.Rd1)); exact HO122.out⟩, ⟨by (try simp only [hl8_1]); (with_reducible repeat (first | apply Kd.Ra1 | apply Kd.Rn1 | apply Kd.Rd1)); exact HO_8.out⟩, ⟨by (try simp only [hl8_1]); (with_reducible repeat (first | refine kn1 ?_ _ | refine kd1 ?_ | refine ka1 ?_ _)); exact BK110.out⟩, ⟨bl_⟩⟩
          ·rw [if_neg c21] at H;exact absurd H (by simp)
        ·rw [if_neg c17] at H;exact absurd H (by simp)
       ·rw [if_neg c16] at H;exact absurd H (by simp)
   ·rw [if_neg c6] at H;exact absurd H (by simp)
  ·rw [if_neg c5] at H;exact absurd H (by simp)
 ·rw [if_neg c4] at H;exact absurd H (by simp)
def field_generator.l0 : Nat → Int → Int → Int → Int → List Int → Option (List Int)
 | 0, _, _, _, _, _ => none
 | k + 1, x1, x5, x125000, x125001, x125002 => if x5 < x1 then ((field_powers.f k x125000 x125001 x125002 x1 x5).bind fun t125 => (if (t125.length : Int) = (wrap64 (x1 - 1)) then (if 0 ≤ (wrap64 (x1 - 2)) then (if (wrap64 (x1 - 2)) < (t125.length : Int) then ((field_multiply.f k x125000 x125001 x125002 (rd t125 (wrap64 (x1 - 2))) x5).bind fun t129 => (if t129 = 1 then (some t125) else (field_generator.l0 k x1 (wrap64 (x5 + 1)) x125000 x125001 x125002))) else (none)) else (none)) else (field_generator.l0 k x1 (wrap64 (x5 + 1)) x125000 x125001 x125002))) else (some ([] : List Int))
def field_generator.f (k : Nat) (a0_0 : Int) (a0_1 : Int) (l0_2 : List Int) (a1 : Int) : Option (List Int) := field_generator.l0 k a1 1 a0_0 a0_1 l0_2
theorem field_generator.mono_l : ∀ k, (∀ y0 y1 y2 y3 y4, LeO (field_generator.l0 k y0 y1 y2 y3 y4) (field_generator.l0 (k + 1) y0 y1 y2 y3 y4))
 | 0 => fun _ _ _ _ _ r h => by simp [field_generator.l0] at h
 | k + 1 => by
  have ih0 := field_generator.mono_l k
  ·intro y0 y1 y2 y3 y4;unfold field_generator.l0
   repeat' first
   | (with_reducible exact ih0 _ _ _ _ _)
   | (with_reducible exact field_multiply.mono _ _ _ _ _ _)
   | (with_reducible exact field_powers.mono _ _ _ _ _ _)
   | (with_reducible exact LeO.refl _)
   | (with_reducible exact LeO.none _)
   | (with_reducible refine LeO.ite ?_ ?_)
   | (with_reducible refine LeO.bind ?_ (fun _ => ?_))
   | exact ih0 _ _ _ _ _
   | exact field_multiply.mono _ _ _ _ _ _
   | exact field_powers.mono _ _ _ _ _ _
   | exact LeO.none _
   | refine LeO.ite ?_ ?_
   | refine LeO.bind ?_ (fun _ => ?_)
theorem field_generator.mono : ∀ a0 a1 a2 a3 k, LeO (field_generator.f k a0 a1 a2 a3) (field_generator.f (k + 1) a0 a1 a2 a3) := by
 intro a0 a1 a2 a3 k;have ih0 := field_generator.mono_l k;unfold field_generator.f
 repeat' first
   | (with_reducible exact ih0 _ _ _ _ _)
   | (with_reducible exact field_multiply.mono _ _ _ _ _ _)
   | (with_reducible exact field_powers.mono _ _ _ _ _ _)
   | (with_reducible exact LeO.refl _)
   | (with_reducible exact LeO.none _)
   | (with_reducible refine LeO.ite ?_ ?_)
   | (with_reducible refine LeO.bind ?_ (fun _ => ?_))
   | exact ih0 _ _ _ _ _
   | exact field_multiply.mono _ _ _ _ _ _
   | exact field_powers.mono _ _ _ _ _ _
   | exact LeO.none _
   | refine LeO.ite ?_ ?_
   | refine LeO.bind ?_ (fun _ => ?_)
def field_generator.T5 : Bool × List (List Nat × List Nat) := (true, [([], []), ([0], [0]), ([], []), ([2], [2]), ([1, 3], [1, 3]), ([4], [4]), ([5], [5]), ([5], [5]), ([5], [5]), ([8, 5], [5, 8]), ([7, 9, 5], [5, 7, 9]), ([10, 5], [5, 10]), ([5], [5]), ([6, 11, 12, 5, 5], [5, 6, 11, 12]), ([13, 5], [5, 13]), ([5, 14], [5, 14])])
def field_generator.B5 : List Nat := [0, 1, 0, 4, 15, 31, 63, 63, 63, 319, 959, 1983, 63, 8191, 16383, 32767]
theorem field_generator.tab5 : rtab .any (opsOf Try.f90 5) = field_generator.T5 := by kernel_rfl
theorem field_generator.bits5 : waitsOk field_generator.T5.2 field_generator.B5 = true := by kernel_rfl
set_option maxHeartbeats 8000000 in
set_option maxRecDepth 100000 in
theorem field_generator.calls (k : Nat) (a0_0 : Int) (a0_1 : Int) (A0_2 : Option Addr) (c0_2 : Nat) (l0_2 : List Int) (a1 : Int) (r : List Int) (w : World) (hr0_2 : Kd.C (Kd.int .i64) w A0_2 l0_2.length l0_2) (hc0_2 : l0_2.length ≤ c0_2) (h : field_generator.f k a0_0 a0_1 l0_2 a1 = some r) :
  Calls Try.prog 90 #[.agg #[.int .i64 a0_0, .int .i64 a0_1, .slice A0_2 l0_2.length c0_2], .int .i64 a1] w fun e w' => ∃ v0_ : Value, e = .returned (v0_) ∧ Kd.R (Kd.int .i64) 3 w' w.heap.size (fun _ => True) v0_ r ∧ Below w.heap.size w w' ∧ (r = [] → v0_ = .slice none 0 0) := by
 have hu44 := Try.underlying44;have HR0_2 := Ai0.mk hr0_2;have HC0_2 := Ai0.mk hc0_2;clear hr0_2 hc0_2;have HB := Ai0.mk (Below.refl w.heap.size w);have H : (field_generator.l0 k a1 1 a0_0 a0_1 l0_2) = some r := h;clear h;have H' := Ai0.mk H;clear H;go_enter Try.func90, Try.ntmps90
 go_wp2_with (first | ((with_reducible refine gate_dst (N := 2) rfl ?_); refine box_event ?hg (N := 2) ?hd (cs := #[.int .i64 a0_0, .int .i64 a0_1, .slice A0_2 l0_2.length c0_2]) (t := 44) ?hr ?_; (case hd => rfl); (case hg => rfl); (case hr => first | (go_simp; done) | (go_simp; rfl)); intro gb124 hg w3 hbox hb; have n0_ := Ai0.mk (bt1 bl_ hb); have n1_ := Ai0.mk (hbox); have n2_ := Ai0.mk ((by rw [hg]; exact (bz1 bl_) : w.heap.size ≤ gb124)); have n3_ := Ai0.mk ((by rw [hg]; exact (bz1 bl_) : w.heap.size ≤ gb124)); clear HB; have HB := n0_; have BK124 := n1_; have GW124 := n2_; have GE124 := n3_; clear n0_ n1_ n2_ n3_; clear hb hbox hg))
 go_loopg [5] k (fun kq v5 w' => ∃ (x5_1 : Int), v5 = .int .i64 x5_1 ∧ Ai0 (field_generator.l0 kq a1 x5_1 a0_0 a0_1 l0_2 = some r) ∧ Ai0 (kq ≤ k) ∧ Ai0 (w'.heap[gb124]? = some (.cells #[.int .i64 a0_0, .int .i64 a0_1, (.slice A0_2 l0_2.length c0_2)] 44 (0, 0))) ∧ Ai0 (Below w.heap.size w w'))
 case atStart => exact ⟨(1), rf_, H', ⟨Nat.le_refl _⟩, ⟨kk_ BK124.out⟩, ⟨bl_⟩⟩
 case round =>
  clear H'
  try clear p2
  obtain ⟨x5_1, rfl, HA, HK1, BK124, HB⟩ := hrel
  cases gk with
  | zero => exact absurd HA.out (by simp [field_generator.l0])
  | succ k1 =>
   have H := HA.out;clear HA;simp only [field_generator.l0] at H;by_cases c4 : x5_1 < a1
   ·rw [if_pos c4] at H;have c4b0 : decide (x5_1 < a1) = true := decide_eq_true c4;clear c4;replace H := Option.bind_eq_some_iff.mp H;obtain ⟨t125, A50, H⟩ := H;replace H : (if (t125.length : Int) = (wrap64 (a1 - 1)) then (if 0 ≤ (wrap64 (a1 - 2)) then (if (wrap64 (a1 - 2)) < (t125.length : Int) then ((field_multiply.f k1 a0_0 a0_1 l0_2 (rd t125 (wrap64 (a1 - 2))) x5_1).bind fun t129 => (if t129 = 1 then (some t125) else (field_generator.l0 k1 a1 (wrap64 (x5_1 + 1)) a0_0 a0_1 l0_2))) else (none)) else (none)) else (field_generator.l0 k1 a1 (wrap64 (x5_1 + 1)) a0_0 a0_1 l0_2)) = some r := H;have A5 := Ai0.mk A50;clear A50;by_cases c6 : (t125.length : Int) = (wrap64 (a1 - 1))
    ·rw [if_pos c6] at H;have c6b0 : ((t125.length : Int) == (wrap64 (a1 - 1))) = true := beq_iff_eq.mpr c6;have c6b1 : ((t125.length : Int) != (wrap64 (a1 - 1))) = false := bne_eq_false_iff_eq.mpr c6;clear c6;(obtain ⟨ji7, hji7⟩ : ∃ j_ : Int, (wrap64 (a1 - 2)) = j_ := ⟨_, rfl⟩);(replace H : (if 0 ≤ (ji7) then (if (ji7) < (t125.length : Int) then ((field_multiply.f k1 a0_0 a0_1 l0_2 (rd t125 (ji7)) x5_1).bind fun t129 => (if t129 = 1 then (some t125) else (field_generator.l0 k1 a1 (wrap64 (x5_1 + 1)) a0_0 a0_1 l0_2))) else (none)) else (none)) = some r := by first | (rw [hji7] at H; exact H) | (simp only [hji7] at H ⊢; exact H));(try rw [hji7] at A5);have hji7w : (IntKind.i64.wrap (a1 - 2)) = ji7 := (i64_w _).trans hji7;by_cases c8 : 0 ≤ (ji7)
     ·rw [if_pos c8] at H;have c8b0 : decide (0 ≤ (ji7)) = true := decide_eq_true c8;clear c8;by_cases c9 : (ji7) < (t125.length : Int)
      ·rw [if_pos c9] at H;have c9b0 : decide ((ji7) < (t125.length : Int)) = true := decide_eq_true c9;clear c9;replace H := Option.bind_eq_some_iff.mp H;obtain ⟨t129, A100, H⟩ := H;replace H : (if t129 = 1 then (some t125) else (field_generator.l0 k1 a1 (wrap64 (x5_1 + 1)) a0_0 a0_1 l0_2)) = some r := H;have A10 := Ai0.mk A100;clear A100;by_cases c11 : t129 = 1
       case' pos =>
        rw [if_pos c11] at H;have c11b0 : (t129 == 1) = true := beq_iff_eq.mpr c11;have c11b1 : (t129 != 1) = false := bne_eq_false_iff_eq.mpr c11;clear c11;obtain rfl := Option.some.inj H
       case' neg =>
        rw [if_neg c11] at H;have c11b0 : (t129 == 1) = false := beq_eq_false_iff_ne.mpr c11;have c11b1 : (t129 != 1) = true := bne_iff_ne.mpr c11;have H' := Ai0.mk H;clear H
       all_goals
        have hcz12_0 : wr.cell? ⟨gb124, 0, none⟩ = some (.int .i64 a0_0) := (kc1 BK124.out 0).trans rfl;have hcz12_1 : wr.cell? ⟨gb124, 1, none⟩ = some (.int .i64 a0_1) := (kc1 BK124.out 1).trans rfl;have hcz12_2 : wr.cell? ⟨gb124, 2, none⟩ = some (.slice A0_2 l0_2.length c0_2) := (kc1 BK124.out 2).trans rfl;have hfz12_0 := kf1 BK124.out 0;have hfz12_1 := kf1 BK124.out 1;have hfz12_2 := kf1 BK124.out 2
        try go_wp2_with (first | ((with_reducible refine gate_callee (f := 93) rfl ?_); refine goesL_ (some 15) rfl rfl Try.func93 (by kernel_rfl) rfl #[.agg #[.int .i64 a0_0, .int .i64 a0_1, .slice A0_2 l0_2.length c0_2], .int .i64 a1, .int .i64 x5_1] rfl (by (try simp only [List.map_toArray, List.map_cons, List.map_nil]); first | done | rfl | (simp only [List.length_drop, List.length_take]; rfl)) ?_; (with_reducible refine (field_powers.calls k1 a0_0 a0_1 _ _ l0_2 a1 x5_1 t125 _ ?side1 ?side2 A5.out).mono ?_); (case side1 => exact kc_ HR0_2.out); (case side2 => exact HC0_2.out); rintro e w13 ⟨v126, rfl, ho0, hb⟩; refine ⟨_, rfl, ?_⟩; have n0_ := Ai0.mk (Kd.R_lower ho0 (bz1 bl_)); have n1_ := Ai0.mk (kb1 (g := gb124) (o := .cells #[.int .i64 a0_0, .int .i64 a0_1, .slice A0_2 l0_2.length c0_2] 44 (0, 0)) (kk_ BK124.out) hb); have n2_ := Ai0.mk (bt1 bl_ hb); clear BK124; clear HB; have HO127 := n0_; have BK124 := n1_; have HB := n2_; clear n0_ n1_ n2_; (try clear hb); (try clear hb2); (try clear hk); (try clear hi); (try clear ho0)))
        have n0_ := Ai0.mk (Kd.Rd1 HO127.out);have n1_ := Ai0.mk (kd1 BK124.out);have n2_ := Ai0.mk (bw1 HB.out);clear HO127;clear BK124;clear HB;have HO127 := n0_;have BK124 := n1_;have HB := n2_;clear n0_ n1_ n2_;obtain ⟨Ao15, co15, eo15⟩ := Kd.R_slice HO127.out;(first | subst eo15 | (injection eo15 with f1_ f2_ f3_; have f4_ := f1_.symm; have f5_ := f3_.symm; clear f1_ f2_ f3_; subst f4_; subst f5_));have p128 : 0 ≤ ((ji7) : Int) := od_;have q128 : (ji7) < (t125.length : Int) := od_;obtain ⟨ad128, e128, hx128_0⟩ := Kd.at_int (Kd.R_reads' HO127.out).2.2 (ji7) p128 q128;cases e128;replace p128 := eq_true p128;replace q128 := eq_true q128;refine start_ (n := 16) (S := fun w' => w'.cell? ⟨gb124, 0, none⟩ = some (.int .i64 a0_0) ∧ w'.cell? ⟨gb124, 1, none⟩ = some (.int .i64 a0_1) ∧ w'.cell? ⟨gb124, 2, none⟩ = some (.slice A0_2 l0_2.length c0_2) ∧ w'.cell? (ad128.add ((ji7)).toNat) = some (.int .i64 (rd t125 (ji7)))) (ds := []) #[false, false, false, false, false, false, false, false, false, false, false, false, false, false, false, false] (by kernel_rfl) rfl rfl ⟨(kc1 BK124.out 0).trans rfl, (kc1 BK124.out 1).trans rfl, (kc1 BK124.out 2).trans rfl, hx128_0⟩ (fun hHeld => ?_); refine with_tabW field_generator.tab5 field_generator.bits5 (fun HT_ HW_ => ?_);(generalize w13.drew = w14 at HO127 BK124 HB hx128_0 hHeld ⊢);refine pure_ (i := 0) (N := some 16) (v := ?_) (a' := ?_) #[true, false, false, false, false, false, false, false, false, false, false, false, false, false, false, false] rfl rfl (any_of HT_.out (by kernel_rfl)) (fun _ _ _ h => h) (Or.inl ⟨by rfl, ?_⟩) ?_ ?_;rotate_left
        ·intro w';go_simp
         with_reducible rfl
        rotate_left
        ·simp only [Act.put, l01_, l02_, l03_, i64_w, i32_w]
         rfl
        refine pure_ (i := 1) (N := some 17) (v := ?_) (a' := ?_) #[true, true, false, false, false, false, false, false, false, false, false, false, false, false, false, false] rfl rfl (any_of HT_.out (by kernel_rfl)) (fun _ _ _ h => h) (Or.inl ⟨by rfl, ?_⟩) ?_ ?_;rotate_left
        ·intro w';go_simp
         with_reducible rfl
        rotate_left
        ·simp only [Act.put, l01_, l02_, l03_, i64_w, i32_w]
         rfl
        refine pure_ (i := 2) (N := some 18) (v := ?_) (a' := ?_) #[true, true, true, false, false, false, false, false, false, false, false, false, false, false, false, false] rfl rfl (any_of HT_.out (by kernel_rfl)) (fun _ _ _ h => h) (Or.inl ⟨by rfl, ?_⟩) ?_ ?_;rotate_left
        ·intro w';go_simp
         with_reducible rfl
        rotate_left
        ·simp only [Act.put, l01_, l02_, l03_, i64_w, i32_w]
         rfl
        refine pure_ (i := 3) (N := some 19) (v := ?_) (a' := ?_) #[true, true, true, true, false, false, false, false, false, false, false, false, false, false, false, false] rfl rfl (any_of HT_.out (by kernel_rfl)) (fun _ _ _ h => h) (Or.inl ⟨by rfl, ?_⟩) ?_ ?_;rotate_left
        ·intro w';go_simp
         with_reducible rfl
        rotate_left
        ·simp only [Act.put, l01_, l02_, l03_, i64_w, i32_w]
         rfl
        refine pure_ (i := 4) (N := some 20) (v := ?_) (a' := ?_) #[true, true, true, true, true, false, false, false, false, false, false, false, false, false, false, false] rfl rfl (any_of HT_.out (by kernel_rfl)) (fun _ _ _ h => h) (Or.inl ⟨by rfl, ?_⟩) ?_ ?_;rotate_left
        ·intro w';go_simp
         with_reducible rfl
        rotate_left
        ·simp only [Act.put, l01_, l02_, l03_, i64_w, i32_w]
         rfl
        refine pure_ (i := 5) (N := some 21) (v := ?_) (a' := ?_) #[true, true, true, true, true, true, false, false, false, false, false, false, false, false, false, false] rfl rfl (any_of HT_.out (by kernel_rfl)) (fun _ _ _ h => h) (Or.inl ⟨by rfl, ?_⟩) ?_ ?_;rotate_left
        ·intro w';go_simp
         with_reducible rfl
        rotate_left
        ·simp only [Act.put, l01_, l02_, l03_, i64_w, i32_w]
         rfl
        refine pure_ (i := 7) (N := some 23) (v := ?_) (a' := ?_) #[true, true, true, true, true, true, false, true, false, false, false, false, false, false, false, false] rfl rfl (any_of HT_.out (by kernel_rfl)) (fun _ _ _ h => h) (Or.inl ⟨by rfl, ?_⟩) ?_ ?_;rotate_left
        ·intro w';go_simp
         with_reducible rfl
        rotate_left
        ·simp only [Act.put, l01_, l02_, l03_, i64_w, i32_w]
         rfl
        refine pure_ (i := 8) (N := some 24) (v := ?_) (a' := ?_) #[true, true, true, true, true, true, false, true, true, false, false, false, false, false, false, false] rfl rfl (any_of HT_.out (by kernel_rfl)) (fun _ _ _ h => h) (Or.inl ⟨by rfl, ?_⟩) ?_ ?_;rotate_left
        ·intro w';go_simp
         with_reducible rfl
        rotate_left
        ·simp only [Act.put, l01_, l02_, l03_, i64_w, i32_w]
         rfl
        refine pure_ (i := 9) (N := some 25) (v := ?_) (a' := ?_) #[true, true, true, true, true, true, false, true, true, true, false, false, false, false, false, false] rfl rfl (any_of HT_.out (by kernel_rfl)) (fun _ _ _ h => h) (Or.inl ⟨by rfl, ?_⟩) ?_ ?_;rotate_left
        ·intro w';go_simp
         with_reducible rfl
        rotate_left
        ·simp only [Act.put, l01_, l02_, l03_, i64_w, i32_w]
         rfl
        refine pure_ (i := 10) (N := some 26) (v := ?_) (a' := ?_) #[true, true, true, true, true, true, false, true, true, true, true, false, false, false, false, false] rfl rfl (any_of HT_.out (by kernel_rfl)) (fun _ _ _ h => h) (Or.inl ⟨by rfl, ?_⟩) ?_ ?_;rotate_left
        ·intro w';go_simp
         with_reducible rfl
        rotate_left
        ·simp only [Act.put, l01_, l02_, l03_, i64_w, i32_w]
         rfl
        refine pure_ (i := 12) (N := some 28) (v := ?_) (a' := ?_) #[true, true, true, true, true, true, false, true, true, true, true, false, true, false, false, false] rfl rfl (any_of HT_.out (by kernel_rfl)) (fun _ _ _ h => h) (Or.inl ⟨by rfl, ?_⟩) ?_ ?_;rotate_left
        ·intro w';go_simp
         with_reducible rfl
        rotate_left
        ·simp only [Act.put, l01_, l02_, l03_, i64_w, i32_w]
         rfl
        refine take_ (i := 6) (N := some 22) (v := ?_) (a' := ?_) #[true, true, true, true, true, true, true, true, true, true, true, false, true, false, false, false] rfl rfl (take_ofW HT_.out HW_.out (by kernel_rfl)) (fun _ _ _ h => h) (Or.inl ⟨by rfl, ?_⟩) hHeld ?_ ?_;rotate_left
        ·rintro w' ⟨s0, s1, s2, s3⟩
         go_simp
         with_reducible rfl
        rotate_left
        ·simp only [Act.put, l01_, l02_, l03_, i64_w, i32_w]
         rfl
        refine take_ (i := 11) (N := some 27) (v := ?_) (a' := ?_) #[true, true, true, true, true, true, true, true, true, true, true, true, true, false, false, false] rfl rfl (take_ofW HT_.out HW_.out (by kernel_rfl)) (fun _ _ _ h => h) (Or.inl ⟨by rfl, ?_⟩) hHeld ?_ ?_;rotate_left
        ·rintro w' ⟨s0, s1, s2, s3⟩
         go_simp
         with_reducible rfl
        rotate_left
        ·simp only [Act.put, l01_, l02_, l03_, i64_w, i32_w]
         rfl
        refine one_ (i := 13) (N := some 29) #[true, true, true, true, true, true, true, true, true, true, true, true, true, true, false, false] rfl rfl (one_of HT_.out (by kernel_rfl)) (by decide) (fun K hK => ?_);refine goes_ Try.func94 (by kernel_rfl) rfl #[.agg #[.int .i64 a0_0, .int .i64 a0_1, .slice A0_2 l0_2.length c0_2], .int .i64 (rd t125 (ji7)), .int .i64 x5_1] (by rfl) rfl rfl (by (try simp only [List.map_toArray, List.map_cons, List.map_nil]); first | done | (simp only [hji7]; rfl) | rfl | (simp only [List.length_drop, List.length_take]; rfl)) ?_
        with_reducible refine (field_multiply.calls k1 a0_0 a0_1 _ _ l0_2 (rd t125 (ji7)) x5_1 t129 _ ?side1 ?side2 A10.out).mono ?_
        (case side1 => exact kc_ HR0_2.out);(case side2 => exact HC0_2.out)
        rintro e w16 ⟨rfl, hb⟩
        have HS3_ := (hb.cell (World.block_lt_of_cell? _ _ (hHeld.2.2.2))).trans (hHeld.2.2.2);refine ⟨_, rfl, ?_⟩;have n0_ := Ai0.mk (Kd.R_below (kr_ HO127.out) hb);have n1_ := Ai0.mk (kb1 (g := gb124) (o := .cells #[.int .i64 a0_0, .int .i64 a0_1, .slice A0_2 l0_2.length c0_2] 44 (0, 0)) (kk_ BK124.out) hb);have n2_ := Ai0.mk (bt1 bl_ hb);clear HO127;clear BK124;clear HB;have HO127 := n0_;have BK124 := n1_;have HB := n2_;clear n0_ n1_ n2_;(try clear hb);(try clear hb2);(try clear hk);(try clear hi);refine hK.out _ _ ⟨(kc1 BK124.out 0).trans rfl, (kc1 BK124.out 1).trans rfl, (kc1 BK124.out 2).trans rfl, HS3_⟩ (fun hHeld => ?_);clear hK K;refine norm_ (a' := ?_) ?_ ?_;rotate_left
        ·show Act.put _ (some 29) _ = _;simp only [Act.put, l01_, l02_, l03_, i64_w, i32_w]
         rfl
        refine pure_ (i := 14) (N := some 30) (v := ?_) (a' := ?_) #[true, true, true, true, true, true, true, true, true, true, true, true, true, true, true, false] rfl rfl (any_of HT_.out (by kernel_rfl)) (fun _ _ _ h => h) (Or.inl ⟨by rfl, ?_⟩) ?_ ?_;rotate_left
        ·intro w';go_simp
         with_reducible rfl
        rotate_left
        ·simp only [Act.put, l01_, l02_, l03_, i64_w, i32_w]
         rfl
        refine pure_ (i := 15) (N := some 31) (v := ?_) (a' := ?_) #[true, true, true, true, true, true, true, true, true, true, true, true, true, true, true, true] rfl rfl (any_of HT_.out (by kernel_rfl)) (fun _ _ _ h => h) (Or.inl ⟨by rfl, ?_⟩) ?_ ?_;rotate_left
        ·intro w';go_simp
         with_reducible rfl
        rotate_left
        ·simp only [Act.put, l01_, l02_, l03_, i64_w, i32_w]
         rfl
        refine done_ (done_of HT_.out (by kernel_rfl)) ?_
        try go_wp2
       ·go_roundg k1
        case measure => have := HK1.out; omega
        case rel => exact ⟨(wrap64 (x5_1 + 1)), rf_, H', ⟨by have := HK1.out; omega⟩, ⟨kk_ BK124.out⟩, ⟨bl_⟩⟩
       ·go_ret
        exact ⟨_, by first | rfl | (simp [eW0, eW1] <;> rfl) | (simp only [← hji7]; first | rfl | (simp [eW0, eW1] <;> rfl)) | (simp [*, eW0, eW1] <;> rfl), by (with_reducible repeat (first | apply Kd.Ra1 | apply Kd.Rn1 | apply Kd.Rd1)); exact HO127.out, bl_, fun hz_ => absurd hz_ (by intro hz_; have h1_ := of_decide_eq_true ‹decide (0 ≤ ji7) = true›; have h2_ := of_decide_eq_true ‹decide (ji7 < ((List.length _ : Nat) : Int)) = true›; rw [hz_] at h2_; simp at h2_; omega)⟩
      ·rw [if_neg c9] at H;exact absurd H (by simp)
     ·rw [if_neg c8] at H;exact absurd H (by simp)
    ·rw [if_neg c6] at H;have c6b0 : ((t125.length : Int) == (wrap64 (a1 - 1))) = false := beq_eq_false_iff_ne.mpr c6;have c6b1 : ((t125.length : Int) != (wrap64 (a1 - 1))) = true := bne_iff_ne.mpr c6;have H' := Ai0.mk H;clear H;have hcz22_0 : wr.cell? ⟨gb124, 0, none⟩ = some (.int .i64 a0_0) := (kc1 BK124.out 0).trans rfl;have hcz22_1 : wr.cell? ⟨gb124, 1, none⟩ = some (.int .i64 a0_1) := (kc1 BK124.out 1).trans rfl;have hcz22_2 : wr.cell? ⟨gb124, 2, none⟩ = some (.slice A0_2 l0_2.length c0_2) := (kc1 BK124.out 2).trans rfl;have hfz22_0 := kf1 BK124.out 0;have hfz22_1 := kf1 BK124.out 1;have hfz22_2 := kf1 BK124.out 2
     try go_wp2_with (first | ((with_reducible refine gate_callee (f := 93) rfl ?_); refine goesL_ (some 15) rfl rfl Try.func93 (by kernel_rfl) rfl #[.agg #[.int .i64 a0_0, .int .i64 a0_1, .slice A0_2 l0_2.length c0_2], .int .i64 a1, .int .i64 x5_1] rfl (by (try simp only [List.map_toArray, List.map_cons, List.map_nil]); first | done | rfl | (simp only [List.length_drop, List.length_take]; rfl)) ?_; (with_reducible refine (field_powers.calls k1 a0_0 a0_1 _ _ l0_2 a1 x5_1 t125 _ ?side1 ?side2 A5.out).mono ?_); (case side1 => exact kc_ HR0_2.out); (case side2 => exact HC0_2.out); rintro e w23 ⟨v126, rfl, ho0, hb⟩; refine ⟨_, rfl, ?_⟩; have n0_ := Ai0.mk (Kd.R_lower ho0 (bz1 bl_)); have n1_ := Ai0.mk (kb1 (g := gb124) (o := .cells #[.int .i64 a0_0, .int .i64 a0_1, .slice A0_2 l0_2.length c0_2] 44 (0, 0)) (kk_ BK124.out) hb); have n2_ := Ai0.mk (bt1 bl_ hb); clear BK124; clear HB; have HO127 := n0_; have BK124 := n1_; have HB := n2_; clear n0_ n1_ n2_; (try clear hb); (try clear hb2); (try clear hk); (try clear hi); (try clear ho0)))
     have n0_ := Ai0.mk (Kd.Rd1 HO127.out);have n1_ := Ai0.mk (kd1 BK124.out);have n2_ := Ai0.mk (bw1 HB.out);clear HO127;clear BK124;clear HB;have HO127 := n0_;have BK124 := n1_;have HB := n2_;clear n0_ n1_ n2_;obtain ⟨Ao25, co25, eo25⟩ := Kd.R_slice HO127.out;(first | subst eo25 | (injection eo25 with f1_ f2_ f3_; have f4_ := f1_.symm; have f5_ := f3_.symm; clear f1_ f2_ f3_; subst f4_; subst f5_));refine start_ (n := 16) (S := fun w' => True) (ds := []) #[false, false, false, false, false, false, false, false, false, false, false, false, false, false, false, false] (by kernel_rfl) rfl rfl trivial (fun hHeld => ?_); refine with_tabW field_generator.tab5 field_generator.bits5 (fun HT_ HW_ => ?_);(generalize w23.drew = w24 at HO127 BK124 HB hHeld ⊢);refine pure_ (i := 0) (N := some 16) (v := ?_) (a' := ?_) #[true, false, false, false, false, false, false, false, false, false, false, false, false, false, false, false] rfl rfl (any_of HT_.out (by kernel_rfl)) (fun _ _ _ h => h) (Or.inl ⟨by rfl, ?_⟩) ?_ ?_;rotate_left
     ·intro w';go_simp
      with_reducible rfl
     rotate_left
     ·simp only [Act.put, l01_, l02_, l03_, i64_w, i32_w]
      rfl
     refine pure_ (i := 1) (N := some 17) (v := ?_) (a' := ?_) #[true, true, false, false, false, false, false, false, false, false, false, false, false, false, false, false] rfl rfl (any_of HT_.out (by kernel_rfl)) (fun _ _ _ h => h) (Or.inl ⟨by rfl, ?_⟩) ?_ ?_;rotate_left
     ·intro w';go_simp
      with_reducible rfl
     rotate_left
     ·simp only [Act.put, l01_, l02_, l03_, i64_w, i32_w]
      rfl
     refine pure_ (i := 2) (N := some 18) (v := ?_) (a' := ?_) #[true, true, true, false, false, false, false, false, false, false, false, false, false, false, false, false] rfl rfl (any_of HT_.out (by kernel_rfl)) (fun _ _ _ h => h) (Or.inl ⟨by rfl, ?_⟩) ?_ ?_;rotate_left
     ·intro w';go_simp
      with_reducible rfl
     rotate_left
     ·simp only [Act.put, l01_, l02_, l03_, i64_w, i32_w]
      rfl
     refine pure_ (i := 3) (N := some 19) (v := ?_) (a' := ?_) #[true, true, true, true, false, false, false, false, false, false, false, false, false, false, false, false] rfl rfl (any_of HT_.out (by kernel_rfl)) (fun _ _ _ h => h) (Or.inl ⟨by rfl, ?_⟩) ?_ ?_;rotate_left
     ·intro w';go_simp
      with_reducible rfl
     rotate_left
     ·simp only [Act.put, l01_, l02_, l03_, i64_w, i32_w]
      rfl
     refine pure_ (i := 4) (N := some 20) (v := ?_) (a' := ?_) #[true, true, true, true, true, false, false, false, false, false, false, false, false, false, false, false] rfl rfl (any_of HT_.out (by kernel_rfl)) (fun _ _ _ h => h) (Or.inl ⟨by rfl, ?_⟩) ?_ ?_;rotate_left
     ·intro w';go_simp
      with_reducible rfl
     rotate_left
     ·simp only [Act.put, l01_, l02_, l03_, i64_w, i32_w]
      rfl
     refine pure_ (i := 5) (N := some 21) (v := ?_) (a' := ?_) #[true, true, true, true, true, true, false, false, false, false, false, false, false, false, false, false] rfl rfl (any_of HT_.out (by kernel_rfl)) (fun _ _ _ h => h) (Or.inl ⟨by rfl, ?_⟩) ?_ ?_;rotate_left
     ·intro w';go_simp
      with_reducible rfl
     rotate_left
     ·simp only [Act.put, l01_, l02_, l03_, i64_w, i32_w]
      rfl
     refine pure_ (i := 6) (N := some 22) (v := undef) (a' := ?_) #[true, true, true, true, true, true, true, false, false, false, false, false, false, false, false, false] rfl rfl (any_of HT_.out (by kernel_rfl)) (fun _ _ _ h => h) (Or.inr ⟨by rfl, rfl⟩) ?_ ?_;rotate_left
     ·simp only [Act.put, l01_, l02_, l03_, i64_w, i32_w]
      rfl
     refine pure_ (i := 7) (N := some 23) (v := undef) (a' := ?_) #[true, true, true, true, true, true, true, true, false, false, false, false, false, false, false, false] rfl rfl (any_of HT_.out (by kernel_rfl)) (fun _ _ _ h => h) (Or.inr ⟨by rfl, rfl⟩) ?_ ?_;rotate_left
     ·simp only [Act.put, l01_, l02_, l03_, i64_w, i32_w]
      rfl
     refine pure_ (i := 8) (N := some 24) (v := undef) (a' := ?_) #[true, true, true, true, true, true, true, true, true, false, false, false, false, false, false, false] rfl rfl (any_of HT_.out (by kernel_rfl)) (fun _ _ _ h => h) (Or.inr ⟨by rfl, rfl⟩) ?_ ?_;rotate_left
     ·simp only [Act.put, l01_, l02_, l03_, i64_w, i32_w]
      rfl
     refine pure_ (i := 9) (N := some 25) (v := undef) (a' := ?_) #[true, true, true, true, true, true, true, true, true, true, false, false, false, false, false, false] rfl rfl (any_of HT_.out (by kernel_rfl)) (fun _ _ _ h => h) (Or.inr ⟨by rfl, rfl⟩) ?_ ?_;rotate_left
     ·simp only [Act.put, l01_, l02_, l03_, i64_w, i32_w]
      rfl
     refine pure_ (i := 10) (N := some 26) (v := undef) (a' := ?_) #[true, true, true, true, true, true, true, true, true, true, true, false, false, false, false, false] rfl rfl (any_of HT_.out (by kernel_rfl)) (fun _ _ _ h => h) (Or.inr ⟨by rfl, rfl⟩) ?_ ?_;rotate_left
     ·simp only [Act.put, l01_, l02_, l03_, i64_w, i32_w]
      rfl
     refine pure_ (i := 11) (N := some 27) (v := undef) (a' := ?_) #[true, true, true, true, true, true, true, true, true, true, true, true, false, false, false, false] rfl rfl (any_of HT_.out (by kernel_rfl)) (fun _ _ _ h => h) (Or.inr ⟨by rfl, rfl⟩) ?_ ?_;rotate_left
     ·simp only [Act.put, l01_, l02_, l03_, i64_w, i32_w]
      rfl
     refine pure_ (i := 12) (N := some 28) (v := undef) (a' := ?_) #[true, true, true, true, true, true, true, true, true, true, true, true, true, false, false, false] rfl rfl (any_of HT_.out (by kernel_rfl)) (fun _ _ _ h => h) (Or.inr ⟨by rfl, rfl⟩) ?_ ?_;rotate_left
     ·simp only [Act.put, l01_, l02_, l03_, i64_w, i32_w]
      rfl
     refine pure_ (i := 13) (N := some 29) (v := undef) (a' := ?_) #[true, true, true, true, true, true, true, true, true, true, true, true, true, true, false, false] rfl rfl (any_of HT_.out (by kernel_rfl)) (fun _ _ _ h => h) (Or.inr ⟨by rfl, rfl⟩) ?_ ?_;rotate_left
     ·simp only [Act.put, l01_, l02_, l03_, i64_w, i32_w]
      rfl
     refine pure_ (i := 14) (N := some 30) (v := undef) (a' := ?_) #[true, true, true, true, true, true, true, true, true, true, true, true, true, true, true, false] rfl rfl (any_of HT_.out (by kernel_rfl)) (fun _ _ _ h => h) (Or.inr ⟨by rfl, rfl⟩) ?_ ?_;rotate_left
     ·simp only [Act.put, l01_, l02_, l03_, i64_w, i32_w]
      rfl
     refine pure_ (i := 15) (N := some 31) (v := ?_) (a' := ?_) #[true, true, true, true, true, true, true, true, true, true, true, true, true, true, true, true] rfl rfl (any_of HT_.out (by kernel_rfl)) (fun _ _ _ h => h) (Or.inl ⟨by rfl, ?_⟩) ?_ ?_;rotate_left
     ·intro w';go_simp
      with_reducible rfl
     rotate_left
     ·simp only [Act.put, l01_, l02_, l03_, i64_w, i32_w]
      rfl
     refine done_ (done_of HT_.out (by kernel_rfl)) ?_
     try go_wp2
     go_roundg k1
     case measure => have := HK1.out; omega
     case rel => exact ⟨(wrap64 (x5_1 + 1)), rf_, H', ⟨by have := HK1.out; omega⟩, ⟨kk_ BK124.out⟩, ⟨bl_⟩⟩
   ·rw [if_neg c4] at H;have c4b0 : decide (x5_1 < a1) = false := decide_eq_false c4;clear c4;obtain rfl := Option.some.inj H
    go_wp2
    go_ret
    exact ⟨_, by first | rfl | (simp [eW0, eW1] <;> rfl) | (simp [*, eW0, eW1] <;> rfl), by first | exact Kd.R_nil _ _ _ _ _ | exact Kd.N_nil _ _ _ _ _ | exact Kd.V_nil _ _ _ _ _ | exact Kd.Q_nil _ _ _ _ _ | exact Kd.S_nil _ _ _ _ _, bl_, by first | exact fun _ => rfl | rfl | simp⟩
def IsS118 (w0 W : World) (g : Nat) (f0 : Int) (f1 : Int) (f2 : List Int) (f3 : Int) (f4 : List Int) (f5 : List Int) : Prop := ∃ A2 c2, ∃ A4 c4, ∃ A5 c5, W.heap[g]? = some (.cells #[.int .i64 f0, .int .i64 f1, .slice A2 f2.length c2, .int .i64 f3, .slice A4 f4.length c4, .slice A5 f5.length c5] 118 (0, 0)) ∧ w0.heap.size ≤ g ∧ Kd.C (Kd.int .i64) w0 A2 f2.length f2 ∧ Kd.C (Kd.int .i64) w0 A4 f4.length f4 ∧ Kd.C (Kd.int .i64) w0 A5 f5.length f5
theorem IsS118.grown {w0 W : World} {g : Nat} {f0 : Int} {f1 : Int} {f2 : List Int} {f3 : Int} {f4 : List Int} {f5 : List Int} {W1 : World} {row : Option Nat} (h : IsS118 w0 W g f0 f1 f2 f3 f4 f5) (hw : W.grownBy W1 row) (hne : some g ≠ row) : IsS118 w0 W1 g f0 f1 f2 f3 f4 f5 := by
 obtain ⟨A2, c2, A4, c4, A5, c5, hb, hg, hr2, hr4, hr5⟩ := h;exact ⟨A2, c2, A4, c4, A5, c5, blk_grown hb hw hne, hg, hr2, hr4, hr5⟩
theorem IsS118.own_neN {w0 W : World} {g : Nat} {f0 : Int} {f1 : Int} {f2 : List Int} {f3 : Int} {f4 : List Int} {f5 : List Int} {α : Type} {d : Kd α} {e : Nat} {base : Nat} {ok : Nat → Prop} {v : Value} {xs : List α} (h : IsS118 w0 W g f0 f1 f2 f3 f4 f5) (ho : Kd.N d e W base ok v xs) (ht : e ≠ 118) : some g ≠ v.ownBlock := by
 obtain ⟨A2, c2, A4, c4, A5, c5, hb, hg, hr2, hr4, hr5⟩ := h;exact Kd.N_ne ho hb ht
theorem IsS118.fresh {w0 W : World} {g : Nat} {f0 : Int} {f1 : Int} {f2 : List Int} {f3 : Int} {f4 : List Int} {f5 : List Int} (h : IsS118 w0 W g f0 f1 f2 f3 f4 f5) : ∀ k, W.heap.size ≤ k → k ≠ g := by
 obtain ⟨A2, c2, A4, c4, A5, c5, hb, hg, hr2, hr4, hr5⟩ := h;exact Kd.freshB hb
theorem IsS118.kept {w0 W : World} {g : Nat} {f0 : Int} {f1 : Int} {f2 : List Int} {f3 : Int} {f4 : List Int} {f5 : List Int} {W1 : World} {S : Nat → Prop} (h : IsS118 w0 W g f0 f1 f2 f3 f4 f5) (hk : Kept W W1 S) (hne : ¬ S g) : IsS118 w0 W1 g f0 f1 f2 f3 f4 f5 := by
 obtain ⟨A2, c2, A4, c4, A5, c5, hb, hg, hr2, hr4, hr5⟩ := h;exact ⟨A2, c2, A4, c4, A5, c5, blk_kept hb hk hne, hg, hr2, hr4, hr5⟩
theorem IsS118.below {w0 W : World} {g : Nat} {f0 : Int} {f1 : Int} {f2 : List Int} {f3 : Int} {f4 : List Int} {f5 : List Int} {W1 : World} (h : IsS118 w0 W g f0 f1 f2 f3 f4 f5) (hw : Below W.heap.size W W1) : IsS118 w0 W1 g f0 f1 f2 f3 f4 f5 := h.grown (grown_of_below hw none) (by simp)
theorem IsS118.alloc {w0 W : World} {g : Nat} {f0 : Int} {f1 : Int} {f2 : List Int} {f3 : Int} {f4 : List Int} {f5 : List Int} (h : IsS118 w0 W g f0 f1 f2 f3 f4 f5) (o : Obj) : IsS118 w0 (W.alloc o) g f0 f1 f2 f3 f4 f5 := h.below (ba1 (Below.refl _ _) o)
theorem IsS118.drewN {w0 W : World} {g : Nat} {f0 : Int} {f1 : Int} {f2 : List Int} {f3 : Int} {f4 : List Int} {f5 : List Int} (h : IsS118 w0 W g f0 f1 f2 f3 f4 f5) (m : Nat) : IsS118 w0 (W.drewN m) g f0 f1 f2 f3 f4 f5 := h
theorem IsS118.drew {w0 W : World} {g : Nat} {f0 : Int} {f1 : Int} {f2 : List Int} {f3 : Int} {f4 : List Int} {f5 : List Int} (h : IsS118 w0 W g f0 f1 f2 f3 f4 f5) : IsS118 w0 W.drew g f0 f1 f2 f3 f4 f5 := h
theorem IsS118.at_ {w0 W : World} {g : Nat} {f0 : Int} {f1 : Int} {f2 : List Int} {f3 : Int} {f4 : List Int} {f5 : List Int} {w' : World} {m : Nat} (hq : W.drewN m = w') (h : IsS118 w0 W g f0 f1 f2 f3 f4 f5) : IsS118 w0 w' g f0 f1 f2 f3 f4 f5 := by subst hq; exact IsS118.drewN h m
theorem IsS118.apart {w0 W : World} {g : Nat} {f0 : Int} {f1 : Int} {f2 : List Int} {f3 : Int} {f4 : List Int} {f5 : List Int} {α : Type} {d : Kd α} {e : Nat} {base : Nat} {ok : Nat → Prop} {v : Value} {xs : List α} (h : IsS118 w0 W g f0 f1 f2 f3 f4 f5) (ho : d.R e W base ok v xs) (ht : ∀ q, q ∈ e :: d.E → q ≠ 118) : d.R e W base (fun k => ok k ∧ k ≠ g) v xs := by
 obtain ⟨A2, c2, A4, c4, A5, c5, hb, hg, hr2, hr4, hr5⟩ := h;exact Kd.R_types ho hb ht
theorem IsS118.own_ne {w0 W : World} {g : Nat} {f0 : Int} {f1 : Int} {f2 : List Int} {f3 : Int} {f4 : List Int} {f5 : List Int} {α : Type} {d : Kd α} {e : Nat} {base : Nat} {ok : Nat → Prop} {v : Value} {xs : List α} (h : IsS118 w0 W g f0 f1 f2 f3 f4 f5) (ho : d.R e W base ok v xs) (ht : e ≠ 118) : some g ≠ v.ownBlock := by
 obtain ⟨A2, c2, A4, c4, A5, c5, hb, hg, hr2, hr4, hr5⟩ := h;exact Kd.R_ne ho hb ht
theorem IsS118.apartQ {w0 W : World} {g : Nat} {f0 : Int} {f1 : Int} {f2 : List Int} {f3 : Int} {f4 : List Int} {f5 : List Int} {α : Type} {d : Kd α} {e : Nat} {base : Nat} {ok : Nat → Prop} {v : Value} {xs : List α} (h : IsS118 w0 W g f0 f1 f2 f3 f4 f5) (ho : d.Q e W base ok v xs) (ht : ∀ q, q ∈ e :: d.E → q ≠ 118) : d.Q e W base (fun k => ok k ∧ k ≠ g) v xs := by
 obtain ⟨A2, c2, A4, c4, A5, c5, hb, hg, hr2, hr4, hr5⟩ := h;exact Kd.Q_types ho hb ht
theorem IsS118.own_neQ {w0 W : World} {g : Nat} {f0 : Int} {f1 : Int} {f2 : List Int} {f3 : Int} {f4 : List Int} {f5 : List Int} {α : Type} {d : Kd α} {e : Nat} {base : Nat} {ok : Nat → Prop} {v : Value} {xs : List α} (h : IsS118 w0 W g f0 f1 f2 f3 f4 f5) (ho : d.Q e W base ok v xs) (ht : e ≠ 118) : some g ≠ v.ownBlock := by
 obtain ⟨A2, c2, A4, c4, A5, c5, hb, hg, hr2, hr4, hr5⟩ := h;exact Kd.Q_ne ho hb ht
theorem IsS118.apartS {w0 W : World} {g : Nat} {f0 : Int} {f1 : Int} {f2 : List Int} {f3 : Int} {f4 : List Int} {f5 : List Int} {α : Type} {d : Kd α} {e : Nat} {base : Nat} {ok : Nat → Prop} {v : Value} {xs : List α} (h : IsS118 w0 W g f0 f1 f2 f3 f4 f5) (ho : d.S e W base ok v xs) (ht : ∀ q, q ∈ e :: d.E → q ≠ 118) : d.S e W base (fun k => ok k ∧ k ≠ g) v xs := by
 obtain ⟨A2, c2, A4, c4, A5, c5, hb, hg, hr2, hr4, hr5⟩ := h;exact Kd.S_types ho hb ht
theorem IsS118.own_neS {w0 W : World} {g : Nat} {f0 : Int} {f1 : Int} {f2 : List Int} {f3 : Int} {f4 : List Int} {f5 : List Int} {α : Type} {d : Kd α} {e : Nat} {base : Nat} {ok : Nat → Prop} {v : Value} {xs : List α} (h : IsS118 w0 W g f0 f1 f2 f3 f4 f5) (ho : d.S e W base ok v xs) (ht : e ≠ 118) : some g ≠ v.ownBlock := by
 obtain ⟨A2, c2, A4, c4, A5, c5, hb, hg, hr2, hr4, hr5⟩ := h;exact Kd.S_ne ho hb ht
theorem IsS118.lt {w0 W : World} {g : Nat} {f0 : Int} {f1 : Int} {f2 : List Int} {f3 : Int} {f4 : List Int} {f5 : List Int} (h : IsS118 w0 W g f0 f1 f2 f3 f4 f5) : g < W.heap.size := by
 obtain ⟨A2, c2, A4, c4, A5, c5, hb, hg, hr2, hr4, hr5⟩ := h;exact blk_lt hb
theorem IsS118.ge {w0 W : World} {g : Nat} {f0 : Int} {f1 : Int} {f2 : List Int} {f3 : Int} {f4 : List Int} {f5 : List Int} (h : IsS118 w0 W g f0 f1 f2 f3 f4 f5) : w0.heap.size ≤ g := by
 obtain ⟨A2, c2, A4, c4, A5, c5, hb, hg, hr2, hr4, hr5⟩ := h;exact hg
theorem IsS118.ne_blk {w0 W : World} {g : Nat} {f0 : Int} {f1 : Int} {f2 : List Int} {f3 : Int} {f4 : List Int} {f5 : List Int} {a : Nat} {cs : Array Value} {t : TypeId} {fr : Nat × Nat} (h : IsS118 w0 W g f0 f1 f2 f3 f4 f5) (hb2 : W.heap[a]? = some (.cells cs t fr)) (ht : t ≠ 118) : g ≠ a := by
 obtain ⟨A2, c2, A4, c4, A5, c5, hb, hg, hr2, hr4, hr5⟩ := h
 rintro rfl
 rw [hb] at hb2
 injection hb2 with hb2
 injection hb2 with _ ht2
 exact ht ht2.symm
theorem IsS118.far {w0 W : World} {g : Nat} {f0 : Int} {f1 : Int} {f2 : List Int} {f3 : Int} {f4 : List Int} {f5 : List Int} {p : Addr} (h : IsS118 w0 W g f0 f1 f2 f3 f4 f5) (hne : g ≠ p.block) (u : Value) : IsS118 w0 (W.setCell p u) g f0 f1 f2 f3 f4 f5 := by
 obtain ⟨A2, c2, A4, c4, A5, c5, hb, hg, hr2, hr4, hr5⟩ := h;exact ⟨A2, c2, A4, c4, A5, c5, blk_far hb hne u, hg, hr2, hr4, hr5⟩
theorem cellS118_0 {W : World} {g : Nat} {A2 : Option Addr} {c2 : Nat} {A4 : Option Addr} {c4 : Nat} {A5 : Option Addr} {c5 : Nat} {f0 : Int} {f1 : Int} {f2 : List Int} {f3 : Int} {f4 : List Int} {f5 : List Int} (h : W.heap[g]? = some (.cells #[.int .i64 f0, .int .i64 f1, .slice A2 f2.length c2, .int .i64 f3, .slice A4 f4.length c4, .slice A5 f5.length c5] 118 (0, 0))) : W.cell? ⟨g, 0, none⟩ = some (.int .i64 f0) := (kc1 h 0).trans rfl
theorem IsS118.set_0 {w0 W : World} {g : Nat} {f0 : Int} {f1 : Int} {f2 : List Int} {f3 : Int} {f4 : List Int} {f5 : List Int} (h : IsS118 w0 W g f0 f1 f2 f3 f4 f5) (x : Int) : IsS118 w0 (W.setCell ⟨g, 0, none⟩ (.int .i64 x)) g x f1 f2 f3 f4 f5 := by
 obtain ⟨A2, c2, A4, c4, A5, c5, hb, hg, hr2, hr4, hr5⟩ := h;exact ⟨A2, c2, A4, c4, A5, c5, by simpa using blk_set hb 0 (.int .i64 x), hg, hr2, hr4, hr5⟩
theorem cellS118_1 {W : World} {g : Nat} {A2 : Option Addr} {c2 : Nat} {A4 : Option Addr} {c4 : Nat} {A5 : Option Addr} {c5 : Nat} {f0 : Int} {f1 : Int} {f2 : List Int} {f3 : Int} {f4 : List Int} {f5 : List Int} (h : W.heap[g]? = some (.cells #[.int .i64 f0, .int .i64 f1, .slice A2 f2.length c2, .int .i64 f3, .slice A4 f4.length c4, .slice A5 f5.length c5] 118 (0, 0))) : W.cell? ⟨g, 1, none⟩ = some (.int .i64 f1) := (kc1 h 1).trans rfl
theorem IsS118.set_1 {w0 W : World} {g : Nat} {f0 : Int} {f1 : Int} {f2 : List Int} {f3 : Int} {f4 : List Int} {f5 : List Int} (h : IsS118 w0 W g f0 f1 f2 f3 f4 f5) (x : Int) : IsS118 w0 (W.setCell ⟨g, 1, none⟩ (.int .i64 x)) g f0 x f2 f3 f4 f5 := by
 obtain ⟨A2, c2, A4, c4, A5, c5, hb, hg, hr2, hr4, hr5⟩ := h;exact ⟨A2, c2, A4, c4, A5, c5, by simpa using blk_set hb 1 (.int .i64 x), hg, hr2, hr4, hr5⟩
theorem cellS118_2 {W : World} {g : Nat} {A2 : Option Addr} {c2 : Nat} {A4 : Option Addr} {c4 : Nat} {A5 : Option Addr} {c5 : Nat} {f0 : Int} {f1 : Int} {f2 : List Int} {f3 : Int} {f4 : List Int} {f5 : List Int} (h : W.heap[g]? = some (.cells #[.int .i64 f0, .int .i64 f1, .slice A2 f2.length c2, .int .i64 f3, .slice A4 f4.length c4, .slice A5 f5.length c5] 118 (0, 0))) : W.cell? ⟨g, 2, none⟩ = some (.slice A2 f2.length c2) := (kc1 h 2).trans rfl
theorem cellS118_3 {W : World} {g : Nat} {A2 : Option Addr} {c2 : Nat} {A4 : Option Addr} {c4 : Nat} {A5 : Option Addr} {c5 : Nat} {f0 : Int} {f1 : Int} {f2 : List Int} {f3 : Int} {f4 : List Int} {f5 : List Int} (h : W.heap[g]? = some (.cells #[.int .i64 f0, .int .i64 f1, .slice A2 f2.length c2, .int .i64 f3, .slice A4 f4.length c4, .slice A5 f5.length c5] 118 (0, 0))) : W.cell? ⟨g, 3, none⟩ = some (.int .i64 f3) := (kc1 h 3).trans rfl
theorem IsS118.set_3 {w0 W : World} {g : Nat} {f0 : Int} {f1 : Int} {f2 : List Int} {f3 : Int} {f4 : List Int} {f5 : List Int} (h : IsS118 w0 W g f0 f1 f2 f3 f4 f5) (x : Int) : IsS118 w0 (W.setCell ⟨g, 3, none⟩ (.int .i64 x)) g f0 f1 f2 x f4 f5 := by
 obtain ⟨A2, c2, A4, c4, A5, c5, hb, hg, hr2, hr4, hr5⟩ := h;exact ⟨A2, c2, A4, c4, A5, c5, by simpa using blk_set hb 3 (.int .i64 x), hg, hr2, hr4, hr5⟩
theorem cellS118_4 {W : World} {g : Nat} {A2 : Option Addr} {c2 : Nat} {A4 : Option Addr} {c4 : Nat} {A5 : Option Addr} {c5 : Nat} {f0 : Int} {f1 : Int} {f2 : List Int} {f3 : Int} {f4 : List Int} {f5 : List Int} (h : W.heap[g]? = some (.cells #[.int .i64 f0, .int .i64 f1, .slice A2 f2.length c2, .int .i64 f3, .slice A4 f4.length c4, .slice A5 f5.length c5] 118 (0, 0))) : W.cell? ⟨g, 4, none⟩ = some (.slice A4 f4.length c4) := (kc1 h 4).trans rfl
theorem cellS118_5 {W : World} {g : Nat} {A2 : Option Addr} {c2 : Nat} {A4 : Option Addr} {c4 : Nat} {A5 : Option Addr} {c5 : Nat} {f0 : Int} {f1 : Int} {f2 : List Int} {f3 : Int} {f4 : List Int} {f5 : List Int} (h : W.heap[g]? = some (.cells #[.int .i64 f0, .int .i64 f1, .slice A2 f2.length c2, .int .i64 f3, .slice A4 f4.length c4, .slice A5 f5.length c5] 118 (0, 0))) : W.cell? ⟨g, 5, none⟩ = some (.slice A5 f5.length c5) := (kc1 h 5).trans rfl
theorem IsS118.new (w0 W : World) (A2 : Option Addr) (c2 : Nat) (A4 : Option Addr) (c4 : Nat) (A5 : Option Addr) (c5 : Nat) (f0 : Int) (f1 : Int) (f2 : List Int) (f3 : Int) (f4 : List Int) (f5 : List Int) (hB : Below w0.heap.size w0 W) (hr2 : Kd.C (Kd.int .i64) w0 A2 f2.length f2) (hr4 : Kd.C (Kd.int .i64) w0 A4 f4.length f4) (hr5 : Kd.C (Kd.int .i64) w0 A5 f5.length f5) : IsS118 w0 (W.alloc (.cells #[.int .i64 f0, .int .i64 f1, .slice A2 f2.length c2, .int .i64 f3, .slice A4 f4.length c4, .slice A5 f5.length c5] 118)) W.heap.size f0 f1 f2 f3 f4 f5 := ⟨A2, c2, A4, c4, A5, c5, by simpa using heap_alloc_new W _, hB.size, hr2, hr4, hr5⟩
def field_New.l0 : Nat → List Int → List Int → List Int → List Int → Int → Int → Option (List Int × List Int × List Int × Int)
 | 0, _, _, _, _, _, _ => none
 | k + 1, x2, x5, x6, x37, x38, x39 => if x39 < x38 then (if 0 ≤ x39 then (if x39 < (x37.length : Int) then (if 0 ≤ (rd x37 x39) then (if (rd x37 x39) < (x6.length : Int) then (field_New.l0 k x2 x5 (x6.set ((rd x37 x39) : Int).toNat x39) x37 x38 (wrap64 (x39 + 1))) else (none)) else (none)) else (none)) else (none)) else (some (x2, x5, x6, 0))
def field_New.f (k : Nat) (a0_0 : Int) (a0_1 : Int) (l0_2 : List Int) : Option (List Int × List Int × List Int × Int) := (field_shape.f k a0_0 a0_1 l0_2).bind fun t125 => (if t125 = true then ((field_order.f k a0_0 a0_1).bind fun t126 => ((field_generator.f k a0_0 a0_1 l0_2 t126).bind fun t127 => (if (t127.length : Int) = 0 then (some (([] : List Int), ([] : List Int), ([] : List Int), 1)) else ((some (([] : List Int) : List Int)).bind fun y130 => (if y130.length + l0_2.length < 17592186044416 then (if 0 ≤ t126 then (if (t126 : Int).toNat ≤ 35184372088832 then (field_New.l0 k (y130 ++ l0_2) t127 (List.replicate (t126 : Int).toNat 0) t127 (t127.length : Int) 0) else (none)) else (none)) else (none)))))) else (some (([] : List Int), ([] : List Int), ([] : List Int), 1)))
theorem field_New.mono_l : ∀ k, (∀ y0 y1 y2 y3 y4 y5, LeO (field_New.l0 k y0 y1 y2 y3 y4 y5) (field_New.l0 (k + 1) y0 y1 y2 y3 y4 y5))
 | 0 => fun _ _ _ _ _ _ r h => by simp [field_New.l0] at h
 | k + 1 => by
  have ih0 := field_New.mono_l k
  ·intro y0 y1 y2 y3 y4 y5;unfold field_New.l0
   repeat' first
   | (with_reducible exact ih0 _ _ _ _ _ _)
   | (with_reducible exact field_generator.mono _ _ _ _ _)
   | (with_reducible exact field_order.mono _ _ _)
   | (with_reducible exact field_shape.mono _ _ _ _)
   | (with_reducible exact LeO.refl _)
   | (with_reducible exact LeO.none _)
   | (with_reducible refine LeO.ite ?_ ?_)
   | (with_reducible refine LeO.bind ?_ (fun _ => ?_))
   | exact ih0 _ _ _ _ _ _
   | exact field_generator.mono _ _ _ _ _
   | exact field_order.mono _ _ _
   | exact field_shape.mono _ _ _ _
   | exact LeO.none _
   | refine LeO.ite ?_ ?_
   | refine LeO.bind ?_ (fun _ => ?_)
theorem field_New.mono : ∀ a0 a1 a2 k, LeO (field_New.f k a0 a1 a2) (field_New.f (k + 1) a0 a1 a2) := by
 intro a0 a1 a2 k;have ih0 := field_New.mono_l k;unfold field_New.f
 repeat' first
   | (with_reducible exact ih0 _ _ _ _ _ _)
   | (with_reducible exact field_generator.mono _ _ _ _ _)
   | (with_reducible exact field_order.mono _ _ _)
   | (with_reducible exact field_shape.mono _ _ _ _)
   | (with_reducible exact LeO.refl _)
   | (with_reducible exact LeO.none _)
   | (with_reducible refine LeO.ite ?_ ?_)
   | (with_reducible refine LeO.bind ?_ (fun _ => ?_))
   | exact ih0 _ _ _ _ _ _
   | exact field_generator.mono _ _ _ _ _
   | exact field_order.mono _ _ _
   | exact field_shape.mono _ _ _ _
   | exact LeO.none _
   | refine LeO.ite ?_ ?_
   | refine LeO.bind ?_ (fun _ => ?_)
def field_New.T7 : Bool × List (List Nat × List Nat) := (true, [([], []), ([0], [0]), ([], []), ([2], [2]), ([], []), ([], []), ([5], [5]), ([4, 6], [4, 6]), ([1, 3, 7], [1, 3, 7]), ([], []), ([], []), ([], []), ([11, 11], [11]), ([8, 9, 10, 12], [8, 9, 10, 12]), ([13], [13]), ([14, 7, 0, 1, 2, 3, 4, 5, 6, 7, 8, 9, 10, 11, 12, 13, 14], [14])])
def field_New.B7 : List Nat := [0, 1, 0, 4, 0, 0, 32, 112, 255, 0, 0, 0, 2048, 8191, 16383, 32767]
theorem field_New.tab7 : rtab .any (opsOf Try.f86 7) = field_New.T7 := by kernel_rfl
theorem field_New.bits7 : waitsOk field_New.T7.2 field_New.B7 = true := by kernel_rfl
theorem trunc_below {w w' : World} {g : Nat} (hB : Below w.heap.size w w') (hg : w.heap.size ≤ g) (hl : g < w'.heap.size) :
  Below w.heap.size w { w' with heap := w'.heap.extract 0 g } ∧ Below ({ w' with heap := w'.heap.extract 0 g } : World).heap.size { w' with heap := w'.heap.extract 0 g } w' ∧ (∀ i, i < g → ({ w' with heap := w'.heap.extract 0 g } : World).heap[i]? = w'.heap[i]?) ∧ ({ w' with heap := w'.heap.extract 0 g } : World).heap.size = g := by
 have hs : (w'.heap.extract 0 g).size = g := by simp; omega
 have hi : ∀ i, i < g → (w'.heap.extract 0 g)[i]? = w'.heap[i]? := by
  intro i hlt;rw [Array.getElem?_extract]; simp; omega
 refine ⟨⟨hB.os, hB.tape, hB.output, ?_, fun i hlt => ?_⟩, ⟨rfl, rfl, rfl, ?_, fun i hlt => ?_⟩, hi, hs⟩
 ·show w.heap.size ≤ (w'.heap.extract 0 g).size; rw [hs]; exact hg
 ·exact (hi i (by omega)).trans (hB.block i hlt)
 ·show (w'.heap.extract 0 g).size ≤ w'.heap.size; rw [hs]; omega
 ·have : i < (w'.heap.extract 0 g).size := hlt;rw [hs] at this;exact (hi i this).symm
theorem trunc_reads {u w' : World} {g n c e base : Nat} {A : Option Addr} {ok : Nat → Prop} {xs : List Int} (hi : ∀ i, i < g → u.heap[i]? = w'.heap[i]?) (h : Kd.R (Kd.int .i64) e w' base ok (.slice A n c) xs) (hl : ∀ k, (Value.slice A n c).ownBlock = some k → k < g) : Kd.C (Kd.int .i64) u A xs.length xs := by
 obtain ⟨_, _, hc⟩ := Kd.R_reads' h;refine ⟨hc.1, hc.2.1, fun hp => ?_⟩;obtain ⟨ad, ha, hcell⟩ := hc.2.2 hp;refine ⟨ad, ha, fun j p hj => ?_⟩;obtain ⟨cs, h1, h2, h3⟩ := hcell j p hj;refine ⟨cs, h1, h2, fun i v hv => ?_⟩;have hb : (ad.add (j * (Kd.int IntKind.i64).sz + i)).block = ad.block := by unfold Addr.add; split <;> rfl
 have hlt : ad.block < g := hl ad.block (by rw [ha]; rfl);rw [← h3 i v hv];exact World.cell?_of_block (by rw [hb]; exact hi _ hlt)
theorem made118 {w w' : World} {g : Nat} {A2 A4 A5 : Option Addr} {c2 c4 c5 n2 n4 n5 : Nat} {f0 f1 f3 : Int} {f2 f4 f5 : List Int} {ok2 ok4 ok5 : Nat → Prop} (hB : Below w.heap.size w w') (hg : w.heap.size ≤ g)
  (hb : w'.heap[g]? = some (.cells #[.int .i64 f0, .int .i64 f1, .slice A2 n2 c2, .int .i64 f3, .slice A4 n4 c4, .slice A5 n5 c5] 118 (0, 0)))
  (h2 : Kd.R (Kd.int .i64) 3 w' w.heap.size ok2 (.slice A2 n2 c2) f2) (h4 : Kd.R (Kd.int .i64) 3 w' w.heap.size ok4 (.slice A4 n4 c4) f4) (h5 : Kd.R (Kd.int .i64) 3 w' w.heap.size ok5 (.slice A5 n5 c5) f5)
  (l2 : ∀ k, (Value.slice A2 n2 c2).ownBlock = some k → k < g) (l4 : ∀ k, (Value.slice A4 n4 c4).ownBlock = some k → k < g) (l5 : ∀ k, (Value.slice A5 n5 c5).ownBlock = some k → k < g) :
  ∃ u : World, Below w.heap.size w u ∧ Below u.heap.size u w' ∧ IsS118 u w' g f0 f1 f2 f3 f4 f5 := by
 obtain ⟨b1, b2, hi, hs⟩ := trunc_below hB hg (blk_lt hb);obtain ⟨e2, _, _⟩ := Kd.R_reads' h2;obtain ⟨e4, _, _⟩ := Kd.R_reads' h4;obtain ⟨e5, _, _⟩ := Kd.R_reads' h5;rw [e2, e4, e5] at hb;exact ⟨_, b1, b2, A2, c2, A4, c4, A5, c5, hb, Nat.le_of_eq hs, trunc_reads hi h2 l2, trunc_reads hi h4 l4, trunc_reads hi h5 l5⟩
theorem Kd.R_isSome {α : Type} {d : Kd α} {e base n c : Nat} {w : World} {ok : Nat → Prop} {A : Option Addr} {xs : List α} (h : Kd.R d e w base ok (.slice A n c) xs) (hp : 0 < xs.length) : A.isNone = false := by
 obtain ⟨g, cap, he, _⟩ := Kd.R_form h hp
 injection he with h1 _ _
 rw [h1]; rfl
set_option maxHeartbeats 8000000 in
set_option maxRecDepth 100000 in
theorem field_New.calls (k : Nat) (a0_0 : Int) (a0_1 : Int) (A0_2 : Option Addr) (c0_2 : Nat) (l0_2 : List Int) (r1 : List Int) (r2 : List Int) (r3 : List Int) (r4 : Int) (w : World) (hr0_2 : Kd.C (Kd.int .i64) w A0_2 l0_2.length l0_2) (hc0_2 : l0_2.length ≤ c0_2) (h : field_New.f k a0_0 a0_1 l0_2 = some (r1, r2, r3, r4)) :
  Calls Try.prog 86 #[.agg #[.int .i64 a0_0, .int .i64 a0_1, .slice A0_2 l0_2.length c0_2]] w fun e w' => Below w.heap.size w w' ∧ ((r4 = 1 ∧ e = .returned (.tuple #[.pointer none, .int .i64 1])) ∨ (r4 = 0 ∧ ∃ g : Nat, e = .returned (.tuple #[.pointer (some ⟨g, 0, none⟩), .int .i64 0]) ∧ ∃ u : World, Below w.heap.size w u ∧ Below u.heap.size u w' ∧ ∀ q, field_order.f k a0_0 a0_1 = some q → IsS118 u w' g a0_0 a0_1 r1 q r2 r3)) := by
 have hu44 := Try.underlying44;have HR0_2 := Ai0.mk hr0_2;have HC0_2 := Ai0.mk hc0_2;clear hr0_2 hc0_2;have HB := Ai0.mk (Below.refl w.heap.size w);have H : ((field_shape.f k a0_0 a0_1 l0_2).bind fun t125 => (if t125 = true then ((field_order.f k a0_0 a0_1).bind fun t126 => ((field_generator.f k a0_0 a0_1 l0_2 t126).bind fun t127 => (if (t127.length : Int) = 0 then (some (([] : List Int), ([] : List Int), ([] : List Int), 1)) else ((some (([] : List Int) : List Int)).bind fun y130 => (if y130.length + l0_2.length < 17592186044416 then (if 0 ≤ t126 then (if (t126 : Int).toNat ≤ 35184372088832 then (field_New.l0 k (y130 ++ l0_2) t127 (List.replicate (t126 : Int).toNat 0) t127 (t127.length : Int) 0) else (none)) else (none)) else (none)))))) else (some (([] : List Int), ([] : List Int), ([] : List Int), 1)))) = some (r1, r2, r3, r4) := h;clear h;replace H := Option.bind_eq_some_iff.mp H;obtain ⟨t125, A20, H⟩ := H;replace H : (if t125 = true then ((field_order.f k a0_0 a0_1).bind fun t126 => ((field_generator.f k a0_0 a0_1 l0_2 t126).bind fun t127 => (if (t127.length : Int) = 0 then (some (([] : List Int), ([] : List Int), ([] : List Int), 1)) else ((some (([] : List Int) : List Int)).bind fun y130 => (if y130.length + l0_2.length < 17592186044416 then (if 0 ≤ t126 then (if (t126 : Int).toNat ≤ 35184372088832 then (field_New.l0 k (y130 ++ l0_2) t127 (List.replicate (t126 : Int).toNat 0) t127 (t127.length : Int) 0) else (none)) else (none)) else (none)))))) else (some (([] : List Int), ([] : List Int), ([] : List Int), 1))) = some (r1, r2, r3, r4) := H;have A2 := Ai0.mk A20;clear A20;by_cases c3 : t125 = true
 ·subst c3;have H1 : ((field_order.f k a0_0 a0_1).bind fun t126 => ((field_generator.f k a0_0 a0_1 l0_2 t126).bind fun t127 => (if (t127.length : Int) = 0 then (some (([] : List Int), ([] : List Int), ([] : List Int), 1)) else ((some (([] : List Int) : List Int)).bind fun y130 => (if y130.length + l0_2.length < 17592186044416 then (if 0 ≤ t126 then (if (t126 : Int).toNat ≤ 35184372088832 then (field_New.l0 k (y130 ++ l0_2) t127 (List.replicate (t126 : Int).toNat 0) t127 (t127.length : Int) 0) else (none)) else (none)) else (none)))))) = some (r1, r2, r3, r4) := by rw [if_pos rfl] at H; exact H
  clear H;have H := H1;clear H1;replace H := Option.bind_eq_some_iff.mp H;obtain ⟨t126, A40, H⟩ := H;replace H : ((field_generator.f k a0_0 a0_1 l0_2 t126).bind fun t127 => (if (t127.length : Int) = 0 then (some (([] : List Int), ([] : List Int), ([] : List Int), 1)) else ((some (([] : List Int) : List Int)).bind fun y130 => (if y130.length + l0_2.length < 17592186044416 then (if 0 ≤ t126 then (if (t126 : Int).toNat ≤ 35184372088832 then (field_New.l0 k (y130 ++ l0_2) t127 (List.replicate (t126 : Int).toNat 0) t127 (t127.length : Int) 0) else (none)) else (none)) else (none))))) = some (r1, r2, r3, r4) := H;have A4 := Ai0.mk A40;clear A40;replace H := Option.bind_eq_some_iff.mp H;obtain ⟨t127, A50, H⟩ := H;replace H : (if (t127.length : Int) = 0 then (some (([] : List Int), ([] : List Int), ([] : List Int), 1)) else ((some (([] : List Int) : List Int)).bind fun y130 => (if y130.length + l0_2.length < 17592186044416 then (if 0 ≤ t126 then (if (t126 : Int).toNat ≤ 35184372088832 then (field_New.l0 k (y130 ++ l0_2) t127 (List.replicate (t126 : Int).toNat 0) t127 (t127.length : Int) 0) else (none)) else (none)) else (none)))) = some (r1, r2, r3, r4) := H;have A5 := Ai0.mk A50;clear A50;by_cases c6 : (t127.length : Int) = 0
  ·rw [if_pos c6] at H;have c6b0 : ((t127.length : Int) == 0) = true := beq_iff_eq.mpr c6;have c6b1 : ((t127.length : Int) != 0) = false := bne_eq_false_iff_eq.mpr c6;clear c6;simp only [Option.some.injEq, Prod.mk.injEq] at H;obtain ⟨rfl, rfl, rfl, rfl⟩ := H;go_enter Try.func86, Try.ntmps86
   go_wp2_with (first | ((with_reducible refine gate_dst (N := 1) rfl ?_); refine box_event ?hg (N := 1) ?hd (cs := #[.int .i64 a0_0, .int .i64 a0_1, .slice A0_2 l0_2.length c0_2]) (t := 44) ?hr ?_; (case hd => rfl); (case hg => rfl); (case hr => first | (go_simp; done) | (go_simp; rfl)); intro gb124 hg w7 hbox hb; have n0_ := Ai0.mk (bt1 bl_ hb); have n1_ := Ai0.mk (hbox); have n2_ := Ai0.mk ((by rw [hg]; exact (bz1 bl_) : w.heap.size ≤ gb124)); have n3_ := Ai0.mk ((by rw [hg]; exact (bz1 bl_) : w.heap.size ≤ gb124)); clear HB; have HB := n0_; have BK124 := n1_; have GW124 := n2_; have GE124 := n3_; clear n0_ n1_ n2_ n3_; clear hb hbox hg; have hcz8_0 : w7.cell? ⟨gb124, 0, none⟩ = some (.int .i64 a0_0) := (kc1 BK124.out 0).trans rfl; have hcz8_1 : w7.cell? ⟨gb124, 1, none⟩ = some (.int .i64 a0_1) := (kc1 BK124.out 1).trans rfl; have hcz8_2 : w7.cell? ⟨gb124, 2, none⟩ = some (.slice A0_2 l0_2.length c0_2) := (kc1 BK124.out 2).trans rfl; have hfz8_0 := kf1 BK124.out 0; have hfz8_1 := kf1 BK124.out 1; have hfz8_2 := kf1 BK124.out 2) | ((with_reducible refine gate_callee (f := 88) rfl ?_); refine goesL_ (some 10) rfl rfl Try.func88 (by kernel_rfl) rfl #[.agg #[.int .i64 a0_0, .int .i64 a0_1, .slice A0_2 l0_2.length c0_2]] rfl (by (try simp only [List.map_toArray, List.map_cons, List.map_nil]); first | done | rfl | (simp only [List.length_drop, List.length_take]; rfl)) ?_; (with_reducible refine (field_shape.calls k a0_0 a0_1 _ _ l0_2 true _ ?side1 ?side2 A2.out).mono ?_); (case side1 => exact kc_ HR0_2.out); (case side2 => exact HC0_2.out); rintro e w9 ⟨rfl, hb⟩; refine ⟨_, rfl, ?_⟩; have n0_ := Ai0.mk (kb1 (g := gb124) (o := .cells #[.int .i64 a0_0, .int .i64 a0_1, .slice A0_2 l0_2.length c0_2] 44 (0, 0)) (kk_ BK124.out) hb); have n1_ := Ai0.mk (bt1 bl_ hb); clear BK124; clear HB; have BK124 := n0_; have HB := n1_; clear n0_ n1_; (try clear hb); (try clear hb2); (try clear hk); (try clear hi); have hcz10_0 : w9.cell? ⟨gb124, 0, none⟩ = some (.int .i64 a0_0) := (kc1 BK124.out 0).trans rfl; have hcz10_1 : w9.cell? ⟨gb124, 1, none⟩ = some (.int .i64 a0_1) := (kc1 BK124.out 1).trans rfl; have hcz10_2 : w9.cell? ⟨gb124, 2, none⟩ = some (.slice A0_2 l0_2.length c0_2) := (kc1 BK124.out 2).trans rfl; have hfz10_0 := kf1 BK124.out 0; have hfz10_1 := kf1 BK124.out 1; have hfz10_2 := kf1 BK124.out 2) | ((with_reducible refine gate_callee (f := 89) rfl ?_); refine goesL_ (some 16) rfl rfl Try.func89 (by kernel_rfl) rfl #[.int .i64 a0_0, .int .i64 a0_1] rfl (by (try simp only [List.map_toArray, List.map_cons, List.map_nil]); first | done | rfl | (simp only [List.length_drop, List.length_take]; rfl)) ?_; (with_reducible refine (field_order.calls k a0_0 a0_1 t126 _ A4.out).mono ?_); rintro e w' ⟨rfl, ⟨nd, rfl⟩⟩; refine ⟨_, rfl, ?_⟩) | ((with_reducible refine gate_callee (f := 90) rfl ?_); refine goesL_ (some 19) rfl rfl Try.func90 (by kernel_rfl) rfl #[.agg #[.int .i64 a0_0, .int .i64 a0_1, .slice A0_2 l0_2.length c0_2], .int .i64 t126] rfl (by (try simp only [List.map_toArray, List.map_cons, List.map_nil]); first | done | rfl | (simp only [List.length_drop, List.length_take]; rfl)) ?_; (with_reducible refine (field_generator.calls k a0_0 a0_1 _ _ l0_2 t126 t127 _ ?side1 ?side2 A5.out).mono ?_); (case side1 => repeat (first | exact (Kd.C_below HR0_2.out bl_) | (with_reducible refine Kd.C_alloc ?_ _) | (with_reducible refine Kd.C_drewN ?_ _) | (with_reducible refine Kd.C_drew ?_))); (case side2 => exact HC0_2.out); rintro e w11 ⟨v128, rfl, ho0, hb, hnil⟩; refine ⟨_, rfl, ?_⟩; have n0_ := Ai0.mk (Kd.R_lower ho0 (bz1 bl_)); have n1_ := Ai0.mk (kb1 (g := gb124) (o := .cells #[.int .i64 a0_0, .int .i64 a0_1, .slice A0_2 l0_2.length c0_2] 44 (0, 0)) (kk_ BK124.out) hb); have n2_ := Ai0.mk (bt1 bl_ hb); clear BK124; clear HB; have HO129 := n0_; have BK124 := n1_; have HB := n2_; clear n0_ n1_ n2_; (try clear hb); (try clear hb2); (try clear hk); (try clear hi); (try clear ho0); (have hv_ := hnil (List.eq_nil_of_length_eq_zero (by have := eq_of_beq c6b0; omega))); subst hv_; clear hnil; have heq21 := fun (W : World) => Lib.run_eql_slice_nil (P := Try.prog) W 25 3 none 0 0 0 0 Try.underlying25; simp only [Option.isNone_none] at heq21))
   go_ret2
   exact ⟨bl_, by first | exact .inl ⟨rfl, rfl⟩ | exact .inl ⟨trivial, rfl⟩ | simp⟩
  ·rw [if_neg c6] at H;have c6b0 : ((t127.length : Int) == 0) = false := beq_eq_false_iff_ne.mpr c6;have c6b1 : ((t127.length : Int) != 0) = true := bne_iff_ne.mpr c6;have c6b2 : ¬ (t127 = []) := fun h_ => c6 (by rw [h_]; rfl)
   obtain ⟨y130, hy130⟩ : ∃ y_ : List Int, y_ = (([] : List Int)) := ⟨_, rfl⟩
   replace H : (if y130.length + l0_2.length < 17592186044416 then (if 0 ≤ t126 then (if (t126 : Int).toNat ≤ 35184372088832 then (field_New.l0 k (y130 ++ l0_2) t127 (List.replicate (t126 : Int).toNat 0) t127 (t127.length : Int) 0) else (none)) else (none)) else (none)) = some (r1, r2, r3, r4) := by first | (rw [hy130]; with_reducible exact H) | (have H2_ := (Option.bind_some _ _).symm.trans H; rw [hy130]; with_reducible exact H2_) | (have H2_ := (Option.bind_some _ _).symm.trans H; with_reducible exact H2_) | with_reducible exact H | (rw [hy130]; exact H) | exact H
   have Ny130 := Ai0.mk hy130;clear hy130;by_cases c13 : y130.length + l0_2.length < 17592186044416
   ·rw [if_pos c13] at H;have LMc13 := Ai0.mk c13;clear c13;(obtain ⟨y133, hy133⟩ : ∃ y_ : List Int, y_ = (y130 ++ l0_2) := ⟨_, rfl⟩);(replace H : (if 0 ≤ t126 then (if (t126 : Int).toNat ≤ 35184372088832 then (field_New.l0 k y133 t127 (List.replicate (t126 : Int).toNat 0) t127 (t127.length : Int) 0) else (none)) else (none)) = some (r1, r2, r3, r4) := by first | (rw [hy133]; with_reducible exact H) | (have H2_ := (Option.bind_some _ _).symm.trans H; rw [hy133]; with_reducible exact H2_) | (have H2_ := (Option.bind_some _ _).symm.trans H; with_reducible exact H2_) | with_reducible exact H | (rw [hy133]; exact H) | exact H);have Ny133 := Ai0.mk hy133;clear hy133;by_cases c14 : 0 ≤ t126
    ·rw [if_pos c14] at H;have c14b0 := eq_true c14;have c14b1 : decide (0 ≤ t126) = true := decide_eq_true c14;clear c14;by_cases c15 : (t126 : Int).toNat ≤ 35184372088832
     ·rw [if_pos c15] at H;have c15b0 := eq_true c15;have c15b1 : decide ((t126 : Int).toNat ≤ 35184372088832) = true := decide_eq_true c15;clear c15;(obtain ⟨y136, hy136⟩ : ∃ y_ : List Int, y_ = (List.replicate (t126 : Int).toNat 0) := ⟨_, rfl⟩);(replace H : (field_New.l0 k y133 t127 y136 t127 (t127.length : Int) 0) = some (r1, r2, r3, r4) := by first | (rw [hy136]; with_reducible exact H) | (have H2_ := (Option.bind_some _ _).symm.trans H; rw [hy136]; with_reducible exact H2_) | (have H2_ := (Option.bind_some _ _).symm.trans H; with_reducible exact H2_) | with_reducible exact H | (rw [hy136]; exact H) | exact H);have Ny136 := Ai0.mk hy136;clear hy136;have H' := Ai0.mk H;clear H;go_enter Try.func86, Try.ntmps86
      try go_wp2_with (first | ((with_reducible refine gate_dst (N := 1) rfl ?_); refine box_event ?hg (N := 1) ?hd (cs := #[.int .i64 a0_0, .int .i64 a0_1, .slice A0_2 l0_2.length c0_2]) (t := 44) ?hr ?_; (case hd => rfl); (case hg => rfl); (case hr => first | (go_simp; done) | (go_simp; rfl)); intro gb124 hg w16 hbox hb; have n0_ := Ai0.mk (bt1 bl_ hb); have n1_ := Ai0.mk (hbox); have n2_ := Ai0.mk ((by rw [hg]; exact (bz1 bl_) : w.heap.size ≤ gb124)); have n3_ := Ai0.mk ((by rw [hg]; exact (bz1 bl_) : w.heap.size ≤ gb124)); clear HB; have HB := n0_; have BK124 := n1_; have GW124 := n2_; have GE124 := n3_; clear n0_ n1_ n2_ n3_; clear hb hbox hg; have hcz17_0 : w16.cell? ⟨gb124, 0, none⟩ = some (.int .i64 a0_0) := (kc1 BK124.out 0).trans rfl; have hcz17_1 : w16.cell? ⟨gb124, 1, none⟩ = some (.int .i64 a0_1) := (kc1 BK124.out 1).trans rfl; have hcz17_2 : w16.cell? ⟨gb124, 2, none⟩ = some (.slice A0_2 l0_2.length c0_2) := (kc1 BK124.out 2).trans rfl; have hfz17_0 := kf1 BK124.out 0; have hfz17_1 := kf1 BK124.out 1; have hfz17_2 := kf1 BK124.out 2) | ((with_reducible refine gate_callee (f := 88) rfl ?_); refine goesL_ (some 10) rfl rfl Try.func88 (by kernel_rfl) rfl #[.agg #[.int .i64 a0_0, .int .i64 a0_1, .slice A0_2 l0_2.length c0_2]] rfl (by (try simp only [List.map_toArray, List.map_cons, List.map_nil]); first | done | rfl | (simp only [List.length_drop, List.length_take]; rfl)) ?_; (with_reducible refine (field_shape.calls k a0_0 a0_1 _ _ l0_2 true _ ?side1 ?side2 A2.out).mono ?_); (case side1 => exact kc_ HR0_2.out); (case side2 => exact HC0_2.out); rintro e w18 ⟨rfl, hb⟩; refine ⟨_, rfl, ?_⟩; have n0_ := Ai0.mk (kb1 (g := gb124) (o := .cells #[.int .i64 a0_0, .int .i64 a0_1, .slice A0_2 l0_2.length c0_2] 44 (0, 0)) (kk_ BK124.out) hb); have n1_ := Ai0.mk (bt1 bl_ hb); clear BK124; clear HB; have BK124 := n0_; have HB := n1_; clear n0_ n1_; (try clear hb); (try clear hb2); (try clear hk); (try clear hi); have hcz19_0 : w18.cell? ⟨gb124, 0, none⟩ = some (.int .i64 a0_0) := (kc1 BK124.out 0).trans rfl; have hcz19_1 : w18.cell? ⟨gb124, 1, none⟩ = some (.int .i64 a0_1) := (kc1 BK124.out 1).trans rfl; have hcz19_2 : w18.cell? ⟨gb124, 2, none⟩ = some (.slice A0_2 l0_2.length c0_2) := (kc1 BK124.out 2).trans rfl; have hfz19_0 := kf1 BK124.out 0; have hfz19_1 := kf1 BK124.out 1; have hfz19_2 := kf1 BK124.out 2) | ((with_reducible refine gate_callee (f := 89) rfl ?_); refine goesL_ (some 16) rfl rfl Try.func89 (by kernel_rfl) rfl #[.int .i64 a0_0, .int .i64 a0_1] rfl (by (try simp only [List.map_toArray, List.map_cons, List.map_nil]); first | done | rfl | (simp only [List.length_drop, List.length_take]; rfl)) ?_; (with_reducible refine (field_order.calls k a0_0 a0_1 t126 _ A4.out).mono ?_); rintro e w' ⟨rfl, ⟨nd, rfl⟩⟩; refine ⟨_, rfl, ?_⟩) | ((with_reducible refine gate_callee (f := 90) rfl ?_); refine goesL_ (some 19) rfl rfl Try.func90 (by kernel_rfl) rfl #[.agg #[.int .i64 a0_0, .int .i64 a0_1, .slice A0_2 l0_2.length c0_2], .int .i64 t126] rfl (by (try simp only [List.map_toArray, List.map_cons, List.map_nil]); first | done | rfl | (simp only [List.length_drop, List.length_take]; rfl)) ?_; (with_reducible refine (field_generator.calls k a0_0 a0_1 _ _ l0_2 t126 t127 _ ?side1 ?side2 A5.out).mono ?_); (case side1 => repeat (first | exact (Kd.C_below HR0_2.out bl_) | (with_reducible refine Kd.C_alloc ?_ _) | (with_reducible refine Kd.C_drewN ?_ _) | (with_reducible refine Kd.C_drew ?_))); (case side2 => exact HC0_2.out); rintro e w20 ⟨v128, rfl, ho0, hb, hnil⟩; refine ⟨_, rfl, ?_⟩; have n0_ := Ai0.mk (Kd.R_lower ho0 (bz1 bl_)); have n1_ := Ai0.mk (kb1 (g := gb124) (o := .cells #[.int .i64 a0_0, .int .i64 a0_1, .slice A0_2 l0_2.length c0_2] 44 (0, 0)) (kk_ BK124.out) hb); have n2_ := Ai0.mk (bt1 bl_ hb); clear BK124; clear HB; have HO129 := n0_; have BK124 := n1_; have HB := n2_; clear n0_ n1_ n2_; (try clear hb); (try clear hb2); (try clear hk); (try clear hi); (try clear ho0); obtain ⟨Ao21, co21, eo21⟩ := Kd.R_slice HO129.out; subst eo21; have hnn_ : Ao21.isNone = false := Kd.R_isSome HO129.out (by have := bne_iff_ne.mp c6b1; omega); have heq21 := fun (W : World) => Lib.run_eql_slice_nil (P := Try.prog) W 25 3 Ao21 t127.length co21 0 0 Try.underlying25; rw [hnn_] at heq21; clear hnil hnn_))
      have n0_ := Ai0.mk (Kd.Rd1 HO129.out);have n1_ := Ai0.mk (kd1 BK124.out);have n2_ := Ai0.mk (bw1 HB.out);clear HO129;clear BK124;clear HB;have HO129 := n0_;have BK124 := n1_;have HB := n2_;clear n0_ n1_ n2_;refine start_ (n := 16) (S := fun w' => w'.cell? ⟨gb124, 0, none⟩ = some (.int .i64 a0_0) ∧ w'.cell? ⟨gb124, 1, none⟩ = some (.int .i64 a0_1) ∧ w'.cell? ⟨gb124, 2, none⟩ = some (.slice A0_2 l0_2.length c0_2)) (ds := []) #[false, false, false, false, false, false, false, false, false, false, false, false, false, false, false, false] (by kernel_rfl) rfl rfl ⟨(kc1 BK124.out 0).trans rfl, (kc1 BK124.out 1).trans rfl, (kc1 BK124.out 2).trans rfl⟩ (fun hHeld => ?_); refine with_tabW field_New.tab7 field_New.bits7 (fun HT_ HW_ => ?_);(generalize w20.drew = w22 at HO129 BK124 HB hHeld ⊢);refine pure_ (i := 0) (N := some 22) (v := ?_) (a' := ?_) #[true, false, false, false, false, false, false, false, false, false, false, false, false, false, false, false] rfl rfl (any_of HT_.out (by kernel_rfl)) (fun _ _ _ h => h) (Or.inl ⟨by rfl, ?_⟩) ?_ ?_;rotate_left
      ·intro w';go_simp
       with_reducible rfl
      rotate_left
      ·simp only [Act.put, l01_, l02_, l03_, i64_w, i32_w]
       rfl
      refine pure_ (i := 2) (N := some 24) (v := ?_) (a' := ?_) #[true, false, true, false, false, false, false, false, false, false, false, false, false, false, false, false] rfl rfl (any_of HT_.out (by kernel_rfl)) (fun _ _ _ h => h) (Or.inl ⟨by rfl, ?_⟩) ?_ ?_;rotate_left
      ·intro w';go_simp
       with_reducible rfl
      rotate_left
      ·simp only [Act.put, l01_, l02_, l03_, i64_w, i32_w]
       rfl
      refine pure_ (i := 5) (N := some 27) (v := ?_) (a' := ?_) #[true, false, true, false, false, true, false, false, false, false, false, false, false, false, false, false] rfl rfl (any_of HT_.out (by kernel_rfl)) (fun _ _ _ h => h) (Or.inl ⟨by rfl, ?_⟩) ?_ ?_;rotate_left
      ·intro w';go_simp
       with_reducible rfl
      rotate_left
      ·simp only [Act.put, l01_, l02_, l03_, i64_w, i32_w]
       rfl
      refine pure_ (i := 9) (N := some 31) (v := ?_) (a' := ?_) #[true, false, true, false, false, true, false, false, false, true, false, false, false, false, false, false] rfl rfl (any_of HT_.out (by kernel_rfl)) (fun _ _ _ h => h) (Or.inl ⟨by rfl, ?_⟩) ?_ ?_;rotate_left
      ·intro w';go_simp
       with_reducible rfl
      rotate_left
      ·simp only [Act.put, l01_, l02_, l03_, i64_w, i32_w]
       rfl
      refine pure_ (i := 10) (N := some 32) (v := ?_) (a' := ?_) #[true, false, true, false, false, true, false, false, false, true, true, false, false, false, false, false] rfl rfl (any_of HT_.out (by kernel_rfl)) (fun _ _ _ h => h) (Or.inl ⟨by rfl, ?_⟩) ?_ ?_;rotate_left
      ·intro w';go_simp
       with_reducible rfl
      rotate_left
      ·simp only [Act.put, l01_, l02_, l03_, i64_w, i32_w]
       rfl
      refine pure_ (i := 11) (N := some 33) (v := ?_) (a' := ?_) #[true, false, true, false, false, true, false, false, false, true, true, true, false, false, false, false] rfl rfl (any_of HT_.out (by kernel_rfl)) (fun _ _ _ h => h) (Or.inl ⟨by rfl, ?_⟩) ?_ ?_;rotate_left
      ·intro w';go_simp
       with_reducible rfl
      rotate_left
      ·simp only [Act.put, l01_, l02_, l03_, i64_w, i32_w]
       rfl
      refine take_ (i := 1) (N := some 23) (v := ?_) (a' := ?_) #[true, true, true, false, false, true, false, false, false, true, true, true, false, false, false, false] rfl rfl (take_ofW HT_.out HW_.out (by kernel_rfl)) (fun _ _ _ h => h) (Or.inl ⟨by rfl, ?_⟩) hHeld ?_ ?_;rotate_left
      ·rintro w' ⟨s0, s1, s2⟩
       go_simp
       with_reducible rfl
      rotate_left
      ·simp only [Act.put, l01_, l02_, l03_, i64_w, i32_w]
       rfl
      refine take_ (i := 3) (N := some 25) (v := ?_) (a' := ?_) #[true, true, true, true, false, true, false, false, false, true, true, true, false, false, false, false] rfl rfl (take_ofW HT_.out HW_.out (by kernel_rfl)) (fun _ _ _ h => h) (Or.inl ⟨by rfl, ?_⟩) hHeld ?_ ?_;rotate_left
      ·rintro w' ⟨s0, s1, s2⟩
       go_simp
       with_reducible rfl
      rotate_left
      ·simp only [Act.put, l01_, l02_, l03_, i64_w, i32_w]
       rfl
      refine take_ (i := 6) (N := some 28) (v := ?_) (a' := ?_) #[true, true, true, true, false, true, true, false, false, true, true, true, false, false, false, false] rfl rfl (take_ofW HT_.out HW_.out (by kernel_rfl)) (fun _ _ _ h => h) (Or.inl ⟨by rfl, ?_⟩) hHeld ?_ ?_;rotate_left
      ·rintro w' ⟨s0, s1, s2⟩
       go_simp
       with_reducible rfl
      rotate_left
      ·simp only [Act.put, l01_, l02_, l03_, i64_w, i32_w]
       rfl
      refine join_ (σ := Value × Value × Value) 3 #[true, true, true, true, true, true, true, true, true, true, true, true, true, false, false, false] (fun s_ => [(26, s_.1), (29, s_.2.1), (34, s_.2.2), (30, .agg #[.int .i64 a0_0, .int .i64 a0_1, s_.2.1])]) (fun s_ w' => (w'.cell? ⟨gb124, 0, none⟩ = some (.int .i64 a0_0) ∧ w'.cell? ⟨gb124, 1, none⟩ = some (.int .i64 a0_1) ∧ w'.cell? ⟨gb124, 2, none⟩ = some (.slice A0_2 l0_2.length c0_2)) ∧ (Kd.R (Kd.int .i64) 3 w' w.heap.size (fun k_ => some k_ ≠ (s_.2.1 : Value).ownBlock ∧ some k_ ≠ (s_.2.2 : Value).ownBlock) (.slice Ao21 t127.length co21) t127) ∧ (Kd.R (Kd.int .i64) 3 w' w.heap.size (fun k_ => some k_ ≠ (.slice Ao21 t127.length co21 : Value).ownBlock ∧ some k_ ≠ (s_.2.2 : Value).ownBlock) s_.2.1 y133) ∧ (Kd.R (Kd.int .i64) 3 w' w.heap.size (fun k_ => some k_ ≠ (.slice Ao21 t127.length co21 : Value).ownBlock ∧ some k_ ≠ (s_.2.1 : Value).ownBlock) s_.2.2 y136) ∧ (w'.heap[gb124]? = some (.cells #[.int .i64 a0_0, .int .i64 a0_1, .slice A0_2 l0_2.length c0_2] 44 (0, 0))) ∧ (Below w.heap.size w w')) ?_ ?_;rotate_left
      ·intro hCont;refine two_ (i := 4) (j := 12) (Ni := some 26) (Nj := some 34) #[true, true, true, true, true, true, true, false, false, true, true, true, false, false, false, false] #[true, true, true, true, false, true, true, false, false, true, true, true, true, false, false, false] rfl rfl rfl rfl (two_of HT_.out (by kernel_rfl)) (by decide) (by decide) (fun K hK => ?_) (fun K hK => ?_)
       ·skip
        refine Kd.R_lit_step (Kd.int .i64) _ 3 ?hg (N := 26) ?hd (xs := ([] : List Int)) (inner := []) (ok := fun _ => True) (okp := fun _ => True) ?hr ?hp (fun _ hk => hk) trivial (Below.refl _ _) (Nat.le_refl _) (by simp) ?_; (case hd => rfl); (case hg => rfl); (case hr => first | (go_simp; done) | (go_simp; rfl)); (case hp => exact (Reps.none _ _));intro v131 w23 ho24 hb hg_ hnew_;clear hg_ hnew_;(first | rw [← Ny130.out] at ho24 | (simp only [Int.reduceToNat] at ho24; rw [← Ny130.out] at ho24));have n0_ := Ai0.mk (Kd.R_elder' (kr_ HO129.out) (Kd.R_base ho24) hb);have n1_ := Ai0.mk (Kd.R_lower (Kd.R_new' ho24 (Kd.R_lt (kr_ HO129.out))) (bz1 bl_));have n2_ := Ai0.mk (kb1 (g := gb124) (o := .cells #[.int .i64 a0_0, .int .i64 a0_1, .slice A0_2 l0_2.length c0_2] 44 (0, 0)) (kk_ BK124.out) hb);have n3_ := Ai0.mk (bt1 bl_ hb);clear HO129;clear BK124;clear HB;have HO129 := n0_;have HO132 := n1_;have BK124 := n2_;have HB := n3_;clear n0_ n1_ n2_ n3_;clear hb ho24;refine hK.out _ _ ⟨(kc1 BK124.out 0).trans rfl, (kc1 BK124.out 1).trans rfl, (kc1 BK124.out 2).trans rfl⟩ (fun hHeld => ?_);clear hK K;refine norm_ (a' := ?_) ?_ ?_;rotate_left
        ·show Act.put _ (some 26) _ = _;simp only [Act.put, l01_, l02_, l03_, i64_w, i32_w]
         rfl
        refine two_ (i := 7) (j := 12) (Ni := some 29) (Nj := some 34) #[true, true, true, true, true, true, true, true, false, true, true, true, false, false, false, false] #[true, true, true, true, true, true, true, false, false, true, true, true, true, false, false, false] rfl rfl rfl rfl (two_of HT_.out (by kernel_rfl)) (by decide) (by decide) (fun K hK => ?_) (fun K hK => ?_)
        ·skip
         refine Kd.R_append_rows_step (Kd.int .i64) (w0 := w) w.heap.size (by rfl) (.tmp 26) (.tmp 28) 25 3 (.int .i64 0) 8 rfl Try.underlying25 info3 rfl (by decide) (by omega) v131 y130 l0_2 _ _ _ (fun k_ => some k_ ≠ (.slice Ao21 t127.length co21 : Value).ownBlock) (fun _ => False) rfl rfl ?aO ?aR (fun _ _ h => h) (fun _ h => h.elim) ?aF ?aB ?aS ?aL ?_;(case aR => exact kc_ HR0_2.out);(case aB => exact bl_);(case aF => exact (fun k_ hk => Kd.fresh' (Kd.R_lt (kr_ HO129.out)) k_ hk));(case aO => exact (by (with_reducible repeat (first | apply Kd.Ra1 | apply Kd.Rn1 | apply Kd.Rd1)); exact Kd.R_mono HO132.out (fun _ hk => hk.2)));(case aS => exact (bz1 bl_));(case aL => have := LMc13.out; omega);intro v134 w25 ho hb hg hat;rw [← Ny133.out] at ho;have n0_ := Ai0.mk (blk_grown (g := gb124) (o := .cells #[.int .i64 a0_0, .int .i64 a0_1, .slice A0_2 l0_2.length c0_2] 44 (0, 0)) (kk_ BK124.out) hg (Kd.R_ne HO132.out BK124.out (by decide)));have n1_ := Ai0.mk (Kd.R_after (ok := (fun _ => True)) (kr_ HO129.out) hg hat);have n2_ := Ai0.mk (hb);have n3_ := Ai0.mk (ho);clear BK124;clear HO129;clear HB;clear HO132;have BK124 := n0_;have HO129 := n1_;have HB := n2_;have HO135 := n3_;clear n0_ n1_ n2_ n3_;clear ho hb hg hat;refine hK.out _ _ ⟨(kc1 BK124.out 0).trans rfl, (kc1 BK124.out 1).trans rfl, (kc1 BK124.out 2).trans rfl⟩ (fun hHeld => ?_);clear hK K;refine norm_ (a' := ?_) ?_ ?_;rotate_left
         ·show Act.put _ (some 29) _ = _;simp only [Act.put, l01_, l02_, l03_, i64_w, i32_w]
          rfl
         obtain ⟨Am_, cm_, em_⟩ := Kd.R_slice HO135.out;refine pure_ (i := 8) (N := some 30) (v := .agg #[.int .i64 a0_0, .int .i64 a0_1, v134]) (a' := ?_) #[true, true, true, true, true, true, true, true, true, true, true, true, false, false, false, false] rfl rfl (any_of HT_.out (by kernel_rfl)) (fun _ _ _ h => h) (Or.inl ⟨by rfl, ?_⟩) ?_ ?_
         ·intro w';subst em_;go_simp
         rotate_left
         ·simp only [Act.put, l01_, l02_, l03_, i64_w, i32_w]
          rfl
         refine one_ (i := 12) (N := some 34) #[true, true, true, true, true, true, true, true, true, true, true, true, true, false, false, false] rfl rfl (one_of HT_.out (by kernel_rfl)) (by decide) (fun K hK => ?_);refine Kd.R_make_step (Kd.int .i64) _ 3 (by rfl) (N := 34) rfl 25 _ _ rfl t126 rfl rfl Try.underlying25 (.int .i64 0) 8 info3 rfl (by decide) (by omega) 0 (ok := fun _ => True) (okp := fun _ => True) rfl (fun _ hk => hk) trivial od_ (Nat.le_trans (Nat.mul_le_mul_right _ (od_ : t126.toNat ≤ 35184372088832)) (by omega)) (Below.refl _ _) (Nat.le_refl _) ?_;intro v137 w26 ho27 hb hg_ hnew_;clear hg_ hnew_;(first | rw [← Ny136.out] at ho27 | (simp only [Int.reduceToNat] at ho27; rw [← Ny136.out] at ho27));have n0_ := Ai0.mk (Kd.R_elder' (kr_ HO129.out) (Kd.R_base ho27) hb);have n1_ := Ai0.mk (Kd.R_elder' (kr_ HO135.out) (Kd.R_base ho27) hb);have n2_ := Ai0.mk (Kd.R_lower (Kd.R_new' (Kd.R_new' ho27 (Kd.R_lt (kr_ HO129.out))) (Kd.R_lt (kr_ HO135.out))) (bz1 bl_));have n3_ := Ai0.mk (kb1 (g := gb124) (o := .cells #[.int .i64 a0_0, .int .i64 a0_1, .slice A0_2 l0_2.length c0_2] 44 (0, 0)) (kk_ BK124.out) hb);have n4_ := Ai0.mk (bt1 bl_ hb);clear HO129;clear HO135;clear BK124;clear HB;have HO129 := n0_;have HO135 := n1_;have HO138 := n2_;have BK124 := n3_;have HB := n4_;clear n0_ n1_ n2_ n3_ n4_;clear hb ho27;refine hK.out _ _ ⟨(kc1 BK124.out 0).trans rfl, (kc1 BK124.out 1).trans rfl, (kc1 BK124.out 2).trans rfl⟩ (fun hHeld => ?_);clear hK K;refine norm_ (a' := ?_) ?_ ?_;rotate_left
         ·show Act.put _ (some 34) _ = _;simp only [Act.put, l01_, l02_, l03_, i64_w, i32_w]
          rfl
         exact norm_ (by simp only [putAll, Act.put, l01_, l02_, l03_]) (hCont (v131, v134, v137) _ ⟨hHeld, (by (with_reducible repeat (first | apply Kd.Ra1 | apply Kd.Rn1 | apply Kd.Rd1)); exact Kd.R_mono HO129.out (fun _ hk => ⟨hk.1.2, hk.2⟩)), (kr_ HO135.out), (by (with_reducible repeat (first | apply Kd.Ra1 | apply Kd.Rn1 | apply Kd.Rd1)); exact Kd.R_mono HO138.out (fun _ hk => ⟨hk.1.2, hk.2⟩)), (kk_ BK124.out), bl_⟩)
        ·skip
         refine Kd.R_make_step (Kd.int .i64) _ 3 (by rfl) (N := 34) rfl 25 _ _ rfl t126 rfl rfl Try.underlying25 (.int .i64 0) 8 info3 rfl (by decide) (by omega) 0 (ok := fun _ => True) (okp := fun _ => True) rfl (fun _ hk => hk) trivial od_ (Nat.le_trans (Nat.mul_le_mul_right _ (od_ : t126.toNat ≤ 35184372088832)) (by omega)) (Below.refl _ _) (Nat.le_refl _) ?_;intro v137 w25 ho26 hb hg_ hnew_;clear hg_ hnew_;(first | rw [← Ny136.out] at ho26 | (simp only [Int.reduceToNat] at ho26; rw [← Ny136.out] at ho26));have n0_ := Ai0.mk (Kd.R_elder' (kr_ HO129.out) (Kd.R_base ho26) hb);have n1_ := Ai0.mk (Kd.R_elder' (kr_ HO132.out) (Kd.R_base ho26) hb);have n2_ := Ai0.mk (Kd.R_lower (Kd.R_new' (Kd.R_new' ho26 (Kd.R_lt (kr_ HO129.out))) (Kd.R_lt (kr_ HO132.out))) (bz1 bl_));have n3_ := Ai0.mk (kb1 (g := gb124) (o := .cells #[.int .i64 a0_0, .int .i64 a0_1, .slice A0_2 l0_2.length c0_2] 44 (0, 0)) (kk_ BK124.out) hb);have n4_ := Ai0.mk (bt1 bl_ hb);clear HO129;clear HO132;clear BK124;clear HB;have HO129 := n0_;have HO132 := n1_;have HO138 := n2_;have BK124 := n3_;have HB := n4_;clear n0_ n1_ n2_ n3_ n4_;clear hb ho26;refine hK.out _ _ ⟨(kc1 BK124.out 0).trans rfl, (kc1 BK124.out 1).trans rfl, (kc1 BK124.out 2).trans rfl⟩ (fun hHeld => ?_);clear hK K;refine norm_ (a' := ?_) ?_ ?_;rotate_left
         ·show Act.put _ (some 34) _ = _;simp only [Act.put, l01_, l02_, l03_, i64_w, i32_w]
          rfl
         refine one_ (i := 7) (N := some 29) #[true, true, true, true, true, true, true, true, false, true, true, true, true, false, false, false] rfl rfl (one_of HT_.out (by kernel_rfl)) (by decide) (fun K hK => ?_);refine Kd.R_append_rows_step (Kd.int .i64) (w0 := w) w.heap.size (by rfl) (.tmp 26) (.tmp 28) 25 3 (.int .i64 0) 8 rfl Try.underlying25 info3 rfl (by decide) (by omega) v131 y130 l0_2 _ _ _ (fun k_ => some k_ ≠ (.slice Ao21 t127.length co21 : Value).ownBlock ∧ some k_ ≠ (v137 : Value).ownBlock) (fun _ => False) rfl rfl ?aO ?aR (fun _ _ h => h) (fun _ h => h.elim) ?aF ?aB ?aS ?aL ?_;(case aR => exact kc_ HR0_2.out);(case aB => exact bl_);(case aF => exact (fun k_ hk => ⟨Kd.fresh' (Kd.R_lt (kr_ HO129.out)) k_ hk, Kd.fresh' (Kd.R_lt (kr_ HO138.out)) k_ hk⟩));(case aO => exact (by (with_reducible repeat (first | apply Kd.Ra1 | apply Kd.Rn1 | apply Kd.Rd1)); exact Kd.R_mono HO132.out (fun _ hk => ⟨hk.1.2, hk.2⟩)));(case aS => exact (bz1 bl_));(case aL => have := LMc13.out; omega);intro v134 w27 ho hb hg hat;rw [← Ny133.out] at ho;have n0_ := Ai0.mk (blk_grown (g := gb124) (o := .cells #[.int .i64 a0_0, .int .i64 a0_1, .slice A0_2 l0_2.length c0_2] 44 (0, 0)) (kk_ BK124.out) hg (Kd.R_ne HO132.out BK124.out (by decide)));have n1_ := Ai0.mk (Kd.R_after (ok := (fun k_ => some k_ ≠ (v137 : Value).ownBlock)) (by (with_reducible repeat (first | apply Kd.Ra1 | apply Kd.Rn1 | apply Kd.Rd1)); exact Kd.R_mono HO129.out (fun _ hk => ⟨hk.2, hk.1.2⟩)) hg hat);have n2_ := Ai0.mk (Kd.R_after (ok := (fun k_ => some k_ ≠ (.slice Ao21 t127.length co21 : Value).ownBlock)) (by (with_reducible repeat (first | apply Kd.Ra1 | apply Kd.Rn1 | apply Kd.Rd1)); exact Kd.R_mono HO138.out (fun _ hk => ⟨hk.1.2, hk.2⟩)) hg hat);have n3_ := Ai0.mk (hb);have n4_ := Ai0.mk (ho);clear BK124;clear HO129;clear HO138;clear HB;clear HO132;have BK124 := n0_;have HO129 := n1_;have HO138 := n2_;have HB := n3_;have HO135 := n4_;clear n0_ n1_ n2_ n3_ n4_;clear ho hb hg hat;refine hK.out _ _ ⟨(kc1 BK124.out 0).trans rfl, (kc1 BK124.out 1).trans rfl, (kc1 BK124.out 2).trans rfl⟩ (fun hHeld => ?_);clear hK K;refine norm_ (a' := ?_) ?_ ?_;rotate_left
         ·show Act.put _ (some 29) _ = _;simp only [Act.put, l01_, l02_, l03_, i64_w, i32_w]
          rfl
         obtain ⟨Am_, cm_, em_⟩ := Kd.R_slice HO135.out;refine pure_ (i := 8) (N := some 30) (v := .agg #[.int .i64 a0_0, .int .i64 a0_1, v134]) (a' := ?_) #[true, true, true, true, true, true, true, true, true, true, true, true, true, false, false, false] rfl rfl (any_of HT_.out (by kernel_rfl)) (fun _ _ _ h => h) (Or.inl ⟨by rfl, ?_⟩) ?_ ?_
         ·intro w';subst em_;go_simp
         rotate_left
         ·simp only [Act.put, l01_, l02_, l03_, i64_w, i32_w]
          rfl
         exact norm_ (by simp only [putAll, Act.put, l01_, l02_, l03_]) (hCont (v131, v134, v137) _ ⟨hHeld, (by (with_reducible repeat (first | apply Kd.Ra1 | apply Kd.Rn1 | apply Kd.Rd1)); exact Kd.R_mono HO129.out (fun _ hk => ⟨hk.2, hk.1⟩)), (kr_ HO135.out), (kr_ HO138.out), (kk_ BK124.out), bl_⟩)
       ·skip
        refine Kd.R_make_step (Kd.int .i64) _ 3 (by rfl) (N := 34) rfl 25 _ _ rfl t126 rfl rfl Try.underlying25 (.int .i64 0) 8 info3 rfl (by decide) (by omega) 0 (ok := fun _ => True) (okp := fun _ => True) rfl (fun _ hk => hk) trivial od_ (Nat.le_trans (Nat.mul_le_mul_right _ (od_ : t126.toNat ≤ 35184372088832)) (by omega)) (Below.refl _ _) (Nat.le_refl _) ?_;intro v137 w23 ho24 hb hg_ hnew_;clear hg_ hnew_;(first | rw [← Ny136.out] at ho24 | (simp only [Int.reduceToNat] at ho24; rw [← Ny136.out] at ho24));have n0_ := Ai0.mk (Kd.R_elder' (kr_ HO129.out) (Kd.R_base ho24) hb);have n1_ := Ai0.mk (Kd.R_lower (Kd.R_new' ho24 (Kd.R_lt (kr_ HO129.out))) (bz1 bl_));have n2_ := Ai0.mk (kb1 (g := gb124) (o := .cells #[.int .i64 a0_0, .int .i64 a0_1, .slice A0_2 l0_2.length c0_2] 44 (0, 0)) (kk_ BK124.out) hb);have n3_ := Ai0.mk (bt1 bl_ hb);clear HO129;clear BK124;clear HB;have HO129 := n0_;have HO138 := n1_;have BK124 := n2_;have HB := n3_;clear n0_ n1_ n2_ n3_;clear hb ho24;refine hK.out _ _ ⟨(kc1 BK124.out 0).trans rfl, (kc1 BK124.out 1).trans rfl, (kc1 BK124.out 2).trans rfl⟩ (fun hHeld => ?_);clear hK K;refine norm_ (a' := ?_) ?_ ?_;rotate_left
        ·show Act.put _ (some 34) _ = _;simp only [Act.put, l01_, l02_, l03_, i64_w, i32_w]
         rfl
        refine one_ (i := 4) (N := some 26) #[true, true, true, true, true, true, true, false, false, true, true, true, true, false, false, false] rfl rfl (one_of HT_.out (by kernel_rfl)) (by decide) (fun K hK => ?_);refine Kd.R_lit_step (Kd.int .i64) _ 3 ?hg (N := 26) ?hd (xs := ([] : List Int)) (inner := []) (ok := fun _ => True) (okp := fun _ => True) ?hr ?hp (fun _ hk => hk) trivial (Below.refl _ _) (Nat.le_refl _) (by simp) ?_; (case hd => rfl); (case hg => rfl); (case hr => first | (go_simp; done) | (go_simp; rfl)); (case hp => exact (Reps.none _ _));intro v131 w25 ho26 hb hg_ hnew_;clear hg_ hnew_;(first | rw [← Ny130.out] at ho26 | (simp only [Int.reduceToNat] at ho26; rw [← Ny130.out] at ho26));have n0_ := Ai0.mk (Kd.R_elder' (kr_ HO129.out) (Kd.R_base ho26) hb);have n1_ := Ai0.mk (Kd.R_elder' (kr_ HO138.out) (Kd.R_base ho26) hb);have n2_ := Ai0.mk (Kd.R_lower (Kd.R_new' (Kd.R_new' ho26 (Kd.R_lt (kr_ HO129.out))) (Kd.R_lt (kr_ HO138.out))) (bz1 bl_));have n3_ := Ai0.mk (kb1 (g := gb124) (o := .cells #[.int .i64 a0_0, .int .i64 a0_1, .slice A0_2 l0_2.length c0_2] 44 (0, 0)) (kk_ BK124.out) hb);have n4_ := Ai0.mk (bt1 bl_ hb);clear HO129;clear HO138;clear BK124;clear HB;have HO129 := n0_;have HO138 := n1_;have HO132 := n2_;have BK124 := n3_;have HB := n4_;clear n0_ n1_ n2_ n3_ n4_;clear hb ho26;refine hK.out _ _ ⟨(kc1 BK124.out 0).trans rfl, (kc1 BK124.out 1).trans rfl, (kc1 BK124.out 2).trans rfl⟩ (fun hHeld => ?_);clear hK K;refine norm_ (a' := ?_) ?_ ?_;rotate_left
        ·show Act.put _ (some 26) _ = _;simp only [Act.put, l01_, l02_, l03_, i64_w, i32_w]
         rfl
        refine one_ (i := 7) (N := some 29) #[true, true, true, true, true, true, true, true, false, true, true, true, true, false, false, false] rfl rfl (one_of HT_.out (by kernel_rfl)) (by decide) (fun K hK => ?_);refine Kd.R_append_rows_step (Kd.int .i64) (w0 := w) w.heap.size (by rfl) (.tmp 26) (.tmp 28) 25 3 (.int .i64 0) 8 rfl Try.underlying25 info3 rfl (by decide) (by omega) v131 y130 l0_2 _ _ _ (fun k_ => some k_ ≠ (.slice Ao21 t127.length co21 : Value).ownBlock ∧ some k_ ≠ (v137 : Value).ownBlock) (fun _ => False) rfl rfl ?aO ?aR (fun _ _ h => h) (fun _ h => h.elim) ?aF ?aB ?aS ?aL ?_;(case aR => exact kc_ HR0_2.out);(case aB => exact bl_);(case aF => exact (fun k_ hk => ⟨Kd.fresh' (Kd.R_lt (kr_ HO129.out)) k_ hk, Kd.fresh' (Kd.R_lt (kr_ HO138.out)) k_ hk⟩));(case aO => exact (by (with_reducible repeat (first | apply Kd.Ra1 | apply Kd.Rn1 | apply Kd.Rd1)); exact Kd.R_mono HO132.out (fun _ hk => ⟨hk.1.2, hk.2⟩)));(case aS => exact (bz1 bl_));(case aL => have := LMc13.out; omega);intro v134 w27 ho hb hg hat;rw [← Ny133.out] at ho;have n0_ := Ai0.mk (blk_grown (g := gb124) (o := .cells #[.int .i64 a0_0, .int .i64 a0_1, .slice A0_2 l0_2.length c0_2] 44 (0, 0)) (kk_ BK124.out) hg (Kd.R_ne HO132.out BK124.out (by decide)));have n1_ := Ai0.mk (Kd.R_after (ok := (fun k_ => some k_ ≠ (v137 : Value).ownBlock)) (by (with_reducible repeat (first | apply Kd.Ra1 | apply Kd.Rn1 | apply Kd.Rd1)); exact Kd.R_mono HO129.out (fun _ hk => ⟨hk.1.2, hk.2⟩)) hg hat);have n2_ := Ai0.mk (Kd.R_after (ok := (fun k_ => some k_ ≠ (.slice Ao21 t127.length co21 : Value).ownBlock)) (by (with_reducible repeat (first | apply Kd.Ra1 | apply Kd.Rn1 | apply Kd.Rd1)); exact Kd.R_mono HO138.out (fun _ hk => ⟨hk.1.2, hk.2⟩)) hg hat);have n3_ := Ai0.mk (hb);have n4_ := Ai0.mk (ho);clear BK124;clear HO129;clear HO138;clear HB;clear HO132;have BK124 := n0_;have HO129 := n1_;have HO138 := n2_;have HB := n3_;have HO135 := n4_;clear n0_ n1_ n2_ n3_ n4_;clear ho hb hg hat;refine hK.out _ _ ⟨(kc1 BK124.out 0).trans rfl, (kc1 BK124.out 1).trans rfl, (kc1 BK124.out 2).trans rfl⟩ (fun hHeld => ?_);clear hK K;refine norm_ (a' := ?_) ?_ ?_;rotate_left
        ·show Act.put _ (some 29) _ = _;simp only [Act.put, l01_, l02_, l03_, i64_w, i32_w]
         rfl
        obtain ⟨Am_, cm_, em_⟩ := Kd.R_slice HO135.out;refine pure_ (i := 8) (N := some 30) (v := .agg #[.int .i64 a0_0, .int .i64 a0_1, v134]) (a' := ?_) #[true, true, true, true, true, true, true, true, true, true, true, true, true, false, false, false] rfl rfl (any_of HT_.out (by kernel_rfl)) (fun _ _ _ h => h) (Or.inl ⟨by rfl, ?_⟩) ?_ ?_
        ·intro w';subst em_;go_simp
        rotate_left
        ·simp only [Act.put, l01_, l02_, l03_, i64_w, i32_w]
         rfl
        exact norm_ (by simp only [putAll, Act.put, l01_, l02_, l03_]) (hCont (v131, v134, v137) _ ⟨hHeld, (by (with_reducible repeat (first | apply Kd.Ra1 | apply Kd.Rn1 | apply Kd.Rd1)); exact Kd.R_mono HO129.out (fun _ hk => ⟨hk.2, hk.1⟩)), (kr_ HO135.out), (kr_ HO138.out), (kk_ BK124.out), bl_⟩)
      rintro ⟨v131, v134, v137⟩ w28 ⟨hS_, h0_, h1_, h2_, h3_, h4_⟩
      have n0_ : Ai0 (Kd.R (Kd.int .i64) 3 w28 w.heap.size (fun k_ => some k_ ≠ (v134 : Value).ownBlock ∧ some k_ ≠ (v137 : Value).ownBlock) (.slice Ao21 t127.length co21) t127) := ⟨h0_⟩;have n1_ : Ai0 (Kd.R (Kd.int .i64) 3 w28 w.heap.size (fun k_ => some k_ ≠ (.slice Ao21 t127.length co21 : Value).ownBlock ∧ some k_ ≠ (v137 : Value).ownBlock) v134 y133) := ⟨h1_⟩;have n2_ : Ai0 (Kd.R (Kd.int .i64) 3 w28 w.heap.size (fun k_ => some k_ ≠ (.slice Ao21 t127.length co21 : Value).ownBlock ∧ some k_ ≠ (v134 : Value).ownBlock) v137 y136) := ⟨h2_⟩;have n3_ : Ai0 (w28.heap[gb124]? = some (.cells #[.int .i64 a0_0, .int .i64 a0_1, .slice A0_2 l0_2.length c0_2] 44 (0, 0))) := ⟨h3_⟩;have n4_ : Ai0 (Below w.heap.size w w28) := ⟨h4_⟩;clear HO129;clear BK124;clear HB;clear h0_ h1_ h2_ h3_ h4_;have HO129 := n0_;have HO135 := n1_;have HO138 := n2_;have BK124 := n3_;have HB := n4_;clear n0_ n1_ n2_ n3_ n4_;have hHeld : w28.cell? ⟨gb124, 0, none⟩ = some (.int .i64 a0_0) ∧ w28.cell? ⟨gb124, 1, none⟩ = some (.int .i64 a0_1) ∧ w28.cell? ⟨gb124, 2, none⟩ = some (.slice A0_2 l0_2.length c0_2) := hS_;refine norm_ (a' := ?_) ?_ ?_;rotate_left
      ·simp only [putAll, Act.put, l01_, l02_, l03_]
       rfl
      obtain ⟨Am_, cm_, em_⟩ := Kd.R_slice HO135.out;obtain ⟨Al_, cl_, el_⟩ := Kd.R_slice HO138.out;refine pure_ (i := 13) (N := some 35) (v := .agg #[.int .i64 a0_0, .int .i64 a0_1, v134, .int .i64 t126, .slice Ao21 t127.length co21, v137]) (a' := ?_) #[true, true, true, true, true, true, true, true, true, true, true, true, true, true, false, false] rfl rfl (any_of HT_.out (by kernel_rfl)) (fun _ _ _ h => h) (Or.inl ⟨by rfl, ?_⟩) ?_ ?_
      ·intro w';subst em_; subst el_;go_simp
      rotate_left
      ·simp only [Act.put, l01_, l02_, l03_, i64_w, i32_w]
       rfl
      refine one_ (i := 14) (N := some 36) #[true, true, true, true, true, true, true, true, true, true, true, true, true, true, true, false] rfl rfl (one_of HT_.out (by kernel_rfl)) (by decide) (fun K hK => ?_);refine box_step (by rfl) (N := 36) rfl (cs := #[.int .i64 a0_0, .int .i64 a0_1, v134, .int .i64 t126, .slice Ao21 t127.length co21, v137]) (t := 118) ?hr ?_;(case hr => subst em_; subst el_; first | (go_simp; done) | (go_simp; rfl));intro gG hgG wG hbox hb;have LT2 := Ai0.mk (show ∀ k_, v134.ownBlock = some k_ → k_ < gG by rw [hgG]; exact Kd.R_lt HO135.out);have LT5 := Ai0.mk (show ∀ k_, (Value.slice Ao21 t127.length co21).ownBlock = some k_ → k_ < gG by rw [hgG]; exact Kd.R_lt HO129.out);have LT6 := Ai0.mk (show ∀ k_, v137.ownBlock = some k_ → k_ < gG by rw [hgG]; exact Kd.R_lt HO138.out);have GGE := Ai0.mk (show w.heap.size ≤ gG by rw [hgG]; exact bz1 bl_);have n0_ := Ai0.mk (Kd.R_below HO129.out hb);have n1_ := Ai0.mk (Kd.R_below HO135.out hb);have n2_ := Ai0.mk (Kd.R_below HO138.out hb);have n3_ := Ai0.mk (kb1 (g := gb124) (o := .cells #[.int .i64 a0_0, .int .i64 a0_1, .slice A0_2 l0_2.length c0_2] 44 (0, 0)) BK124.out hb);have n4_ := Ai0.mk (bt1 bl_ hb);have BKG := Ai0.mk hbox;clear HO129 HO135 HO138 BK124 HB;have HO129 := n0_;have HO135 := n1_;have HO138 := n2_;have BK124 := n3_;have HB := n4_;clear n0_ n1_ n2_ n3_ n4_ hb hbox hgG em_ el_;refine hK.out _ _ ⟨(kc1 BK124.out 0).trans rfl, (kc1 BK124.out 1).trans rfl, (kc1 BK124.out 2).trans rfl⟩ (fun hHeld => ?_);clear hK K;refine norm_ (a' := ?_) ?_ ?_;rotate_left
      ·show Act.put _ (some 36) _ = _;simp only [Act.put, l01_, l02_, l03_, i64_w, i32_w]
       rfl
      refine pure_ (i := 15) (N := some 6) (v := ?_) (a' := ?_) #[true, true, true, true, true, true, true, true, true, true, true, true, true, true, true, true] rfl rfl (any_of HT_.out (by kernel_rfl)) (fun _ _ _ h => h) (Or.inl ⟨by rfl, ?_⟩) ?_ ?_;rotate_left
      ·intro w';go_simp
       with_reducible rfl
      rotate_left
      ·simp only [Act.put, l01_, l02_, l03_, i64_w, i32_w]
       rfl
      refine done_ (done_of HT_.out (by kernel_rfl)) ?_
      try go_wp2
      go_loopg [39] k (fun kq v39 w' => ∃ (x6_1 : List Int) (x39_1 : Int), v39 = .int .i64 x39_1 ∧ Ai0 (field_New.l0 kq y133 t127 x6_1 t127 (t127.length : Int) x39_1 = some (r1, r2, r3, r4)) ∧ Ai0 (kq ≤ k) ∧ Ai0 (Kd.R (Kd.int .i64) 3 w' w.heap.size (fun k_ => some k_ ≠ ((.slice Ao21 t127.length co21) : Value).ownBlock ∧ some k_ ≠ (v137 : Value).ownBlock ∧ some k_ ≠ ((.slice Ao21 t127.length co21) : Value).ownBlock) v134 y133) ∧ Ai0 (Kd.R (Kd.int .i64) 3 w' w.heap.size (fun k_ => some k_ ≠ (v134 : Value).ownBlock ∧ some k_ ≠ (v137 : Value).ownBlock) (.slice Ao21 t127.length co21) t127) ∧ Ai0 (Kd.R (Kd.int .i64) 3 w' w.heap.size (fun k_ => some k_ ≠ (v134 : Value).ownBlock ∧ some k_ ≠ ((.slice Ao21 t127.length co21) : Value).ownBlock ∧ some k_ ≠ ((.slice Ao21 t127.length co21) : Value).ownBlock) v137 x6_1) ∧ Ai0 (Kd.R (Kd.int .i64) 3 w' w.heap.size (fun k_ => some k_ ≠ (v134 : Value).ownBlock ∧ some k_ ≠ (v137 : Value).ownBlock) (.slice Ao21 t127.length co21) t127) ∧ Ai0 (w'.heap[gb124]? = some (.cells #[.int .i64 a0_0, .int .i64 a0_1, (.slice A0_2 l0_2.length c0_2)] 44 (0, 0))) ∧ Ai0 (w'.heap[gG]? = some (.cells #[.int .i64 a0_0, .int .i64 a0_1, v134, .int .i64 t126, .slice Ao21 t127.length co21, v137] 118 (0, 0))) ∧ Ai0 (Below w.heap.size w w'))
      case atStart => exact ⟨(y136), (0), rf_, H', ⟨Nat.le_refl _⟩, ⟨by (with_reducible repeat (first | apply Kd.Ra1 | apply Kd.Rn1 | apply Kd.Rd1)); exact Kd.R_mono HO135.out (fun _ hk => ⟨hk.1, ⟨hk.2, hk.1⟩⟩)⟩, ⟨kr_ HO129.out⟩, ⟨by (with_reducible repeat (first | apply Kd.Ra1 | apply Kd.Rn1 | apply Kd.Rd1)); exact Kd.R_mono HO138.out (fun _ hk => ⟨hk.2, ⟨hk.1, hk.1⟩⟩)⟩, ⟨kr_ HO129.out⟩, ⟨kk_ BK124.out⟩, ⟨BKG.out⟩, ⟨bl_⟩⟩
      case round =>
       clear H';clear BKG
       try clear c1
       try clear p2
       try clear c3
       try clear c5
       try clear c6
       try clear c6b0
       try clear c6b1
       try clear c6b2
       try clear c13
       try clear c14
       try clear c14b0
       try clear c14b1
       try clear c15
       try clear c15b0
       try clear c15b1
       try clear hcz10_0
       try clear hcz10_1
       try clear hcz10_2
       try clear hcz17_0
       try clear hcz17_1
       try clear hcz17_2
       try clear hcz19_0
       try clear hcz19_1
       try clear hcz19_2
       try clear hcz8_0
       try clear hcz8_1
       try clear hcz8_2
       try clear hfz10_0
       try clear hfz10_1
       try clear hfz10_2
       try clear hfz17_0
       try clear hfz17_1
       try clear hfz17_2
       try clear hfz19_0
       try clear hfz19_1
       try clear hfz19_2
       try clear hfz8_0
       try clear hfz8_1
       try clear hfz8_2
       obtain ⟨x6_1, x39_1, rfl, HA, HK1, HO_2, HO_5, HO_6, HO_37, BK124, BKG, HB⟩ := hrel
       cases gk with
       | zero => exact absurd HA.out (by simp [field_New.l0])
       | succ k1 =>
        have H := HA.out;clear HA;simp only [field_New.l0] at H;by_cases c29 : x39_1 < (t127.length : Int)
        ·rw [if_pos c29] at H;have c29b0 : decide (x39_1 < (t127.length : Int)) = true := decide_eq_true c29;clear c29;by_cases c30 : 0 ≤ x39_1
         ·rw [if_pos c30] at H;have c30b0 : decide (0 ≤ x39_1) = true := decide_eq_true c30;clear c30;by_cases c31 : x39_1 < (t127.length : Int)
          ·rw [if_pos c31] at H;have c31b0 : decide (x39_1 < (t127.length : Int)) = true := decide_eq_true c31;clear c31;by_cases c32 : 0 ≤ (rd t127 x39_1)
           ·rw [if_pos c32] at H;have c32b0 : decide (0 ≤ (rd t127 x39_1)) = true := decide_eq_true c32;clear c32;by_cases c33 : (rd t127 x39_1) < (x6_1.length : Int)
            ·rw [if_pos c33] at H;have c33b0 : decide ((rd t127 x39_1) < (x6_1.length : Int)) = true := decide_eq_true c33;clear c33;(obtain ⟨y140, hy140⟩ : ∃ y_ : List Int, y_ = (x6_1.set ((rd t127 x39_1) : Int).toNat x39_1) := ⟨_, rfl⟩);(replace H : (field_New.l0 k1 y133 t127 y140 t127 (t127.length : Int) (wrap64 (x39_1 + 1))) = some (r1, r2, r3, r4) := by first | (rw [hy140]; with_reducible exact H) | (have H2_ := (Option.bind_some _ _).symm.trans H; rw [hy140]; with_reducible exact H2_) | (have H2_ := (Option.bind_some _ _).symm.trans H; with_reducible exact H2_) | with_reducible exact H | (rw [hy140]; exact H) | exact H);have Ny140 := Ai0.mk hy140;clear hy140;have H' := Ai0.mk H;clear H;have p139 : 0 ≤ (x39_1 : Int) := od_;have q139 : x39_1 < (t127.length : Int) := od_;obtain ⟨ad139, e139, hx139_0⟩ := Kd.at_int (Kd.R_reads' HO_37.out).2.2 x39_1 p139 q139;cases e139;replace p139 := eq_true p139;replace q139 := eq_true q139;have p34 : 0 ≤ ((rd t127 x39_1) : Int) := od_;have q34 : ((rd t127 x39_1) : Int) < ((x6_1.length : Int) : Int) := od_;obtain ⟨go34, co34, eo34, gb34, gl34, cl34, HG34⟩ := Kd.R_form HO_6.out (by omega);(first | cases eo34 | (injection eo34 with ea_ en_ ec_; (first | subst ea_ | (injection ea_ with ea_; subst ea_)); subst ec_; clear en_));have GB34 := Ai0.mk gb34;have GG34 := Ai0.mk HG34;clear gb34 gl34 HG34;obtain ⟨hx34_0, hf34_0⟩ := Kd.R_celln 0 HO_6.out ((rd t127 x39_1) : Int) p34 q34;replace p34 := eq_true p34;replace q34 := eq_true q34;have hcG5 : wr.cell? ⟨gG, 5, none⟩ = some (.slice (some ⟨go34, 0, none⟩) x6_1.length co34) := (kc1 BKG.out 5).trans rfl;have HP35 := Kd.R_putg HO_6.out ((rd t127 x39_1) : Int) x39_1
             go_wp2_with (first | ((with_reducible refine gate_store (t := 3) (p := 50) rfl ?_); refine store_event (t := 3) (p := 50) (v := ?vo_w36) (w1 := (wr.setCell ⟨go34, ((rd t127 x39_1) : Int).toNat, none⟩ (.int .i64 x39_1))) ?hg ?ho ?hn ?hr ?_; (case ho => rfl); (case hg => rfl); (case hn => rfl); (case hr => first | (go_simp; done) | (go_simp; rfl)); intro w36 hw; have hg : wr.grownBy w36 (some go34) := (by rw [hw]; exact HP35.2); have hp_ : Kd.R (Kd.int .i64) 3 w36 w.heap.size (fun k_ => some k_ ≠ (v134 : Value).ownBlock ∧ some k_ ≠ (.slice (some ad139) t127.length co21 : Value).ownBlock ∧ some k_ ≠ (.slice (some ad139) t127.length co21 : Value).ownBlock) (.slice (some ⟨go34, 0, none⟩) x6_1.length co34) y140 := (by rw [hw, Ny140.out]; exact HP35.1); clear HP35; have n0_ := Ai0.mk (Kd.R_after (v := (.slice (some ⟨go34, 0, none⟩) x6_1.length co34)) (v1 := (.slice (some ⟨go34, 0, none⟩) x6_1.length co34)) (ok := (fun k_ => some k_ ≠ (.slice (some ad139) t127.length co21 : Value).ownBlock ∧ some k_ ≠ (.slice (some ad139) t127.length co21 : Value).ownBlock)) (by (with_reducible repeat (first | apply Kd.Ra1 | apply Kd.Rn1 | apply Kd.Rd1)); exact Kd.R_mono HO_2.out (fun _ hk => ⟨⟨hk.1, hk.2.2⟩, hk.2.1⟩)) hg (.inl rfl)); have n1_ := Ai0.mk (Kd.R_after (v := (.slice (some ⟨go34, 0, none⟩) x6_1.length co34)) (v1 := (.slice (some ⟨go34, 0, none⟩) x6_1.length co34)) (ok := (fun k_ => some k_ ≠ (v134 : Value).ownBlock)) (kr_ HO_5.out) hg (.inl rfl)); have n2_ := Ai0.mk (hp_); have n3_ := Ai0.mk (Kd.R_after (v := (.slice (some ⟨go34, 0, none⟩) x6_1.length co34)) (v1 := (.slice (some ⟨go34, 0, none⟩) x6_1.length co34)) (ok := (fun k_ => some k_ ≠ (v134 : Value).ownBlock)) (kr_ HO_37.out) hg (.inl rfl)); have n4_ := Ai0.mk (blk_grown (g := gb124) (o := .cells #[.int .i64 a0_0, .int .i64 a0_1, .slice A0_2 l0_2.length c0_2] 44 (0, 0)) (kk_ BK124.out) hg (Kd.R_ne HO_6.out BK124.out (by decide))); have n9_ := Ai0.mk (blk_grown BKG.out hg (Kd.R_ne HO_6.out BKG.out (by decide))); clear BKG; have BKG := n9_; clear n9_; have n5_ := Ai0.mk ((by rw [hw]; exact bs1 (HB.out) GB34.out : Below w.heap.size w w36)); clear HO_2; clear HO_5; clear HO_6; clear HO_37; clear BK124; clear HB; have HO_2 := n0_; have HO_5 := n1_; have HO_6 := n2_; have HO_37 := n3_; have BK124 := n4_; have HB := n5_; clear n0_ n1_ n2_ n3_ n4_ n5_; clear hg hw hp_))
             go_roundg k1
             case measure => have := HK1.out; omega
             case rel => exact ⟨(y140), (wrap64 (x39_1 + 1)), rf_, H', ⟨by have := HK1.out; omega⟩, ⟨by (with_reducible repeat (first | apply Kd.Ra1 | apply Kd.Rn1 | apply Kd.Rd1)); exact Kd.R_mono HO_2.out (fun _ hk => ⟨hk.1.1, ⟨hk.2, hk.1.2⟩⟩)⟩, ⟨kr_ HO_5.out⟩, ⟨kr_ HO_6.out⟩, ⟨kr_ HO_37.out⟩, ⟨kk_ BK124.out⟩, ⟨BKG.out⟩, ⟨bl_⟩⟩
            ·rw [if_neg c33] at H;exact absurd H (by simp)
           ·rw [if_neg c32] at H;exact absurd H (by simp)
          ·rw [if_neg c31] at H;exact absurd H (by simp)
         ·rw [if_neg c30] at H;exact absurd H (by simp)
        ·rw [if_neg c29] at H;have c29b0 : decide (x39_1 < (t127.length : Int)) = false := decide_eq_false c29;clear c29;simp only [Option.some.injEq, Prod.mk.injEq] at H;obtain ⟨rfl, rfl, rfl, rfl⟩ := H
         go_wp2
         go_ret2
         have hBf_ : Below w.heap.size w _ := bl_;obtain ⟨Af_, cf_, ef_⟩ := Kd.R_slice HO_2.out;obtain ⟨Ag_, cg_, eg_⟩ := Kd.R_slice HO_6.out;subst ef_; subst eg_;obtain ⟨u_, hu1_, hu2_, hu3_⟩ := made118 hBf_ GGE.out BKG.out HO_2.out HO_5.out HO_6.out LT2.out LT5.out LT6.out;have hq_ : ∀ q_, field_order.f k a0_0 a0_1 = some q_ → IsS118 u_ _ gG a0_0 a0_1 _ q_ _ _ := fun q_ hq_ => by have hqq_ := Option.some.inj (A4.out.symm.trans hq_); rw [← hqq_]; exact hu3_
         first | exact ⟨hBf_, gG, rfl, u_, hu1_, hu2_, hq_⟩ | exact ⟨hBf_, .inr ⟨rfl, gG, rfl, u_, hu1_, hu2_, hq_⟩⟩
     ·rw [if_neg c15] at H;exact absurd H (by simp)
    ·rw [if_neg c14] at H;exact absurd H (by simp)
   ·rw [if_neg c13] at H;exact absurd H (by simp)
 ·replace c3 := Bool.eq_false_iff.mpr c3;subst c3;have H1 : (some (([] : List Int), ([] : List Int), ([] : List Int), 1)) = some (r1, r2, r3, r4) := by rw [if_neg (show ¬ (false = true) by decide)] at H; exact H
  clear H;have H := H1;clear H1;simp only [Option.some.injEq, Prod.mk.injEq] at H;obtain ⟨rfl, rfl, rfl, rfl⟩ := H;go_enter Try.func86, Try.ntmps86
  go_wp2_with (first | ((with_reducible refine gate_dst (N := 1) rfl ?_); refine box_event ?hg (N := 1) ?hd (cs := #[.int .i64 a0_0, .int .i64 a0_1, .slice A0_2 l0_2.length c0_2]) (t := 44) ?hr ?_; (case hd => rfl); (case hg => rfl); (case hr => first | (go_simp; done) | (go_simp; rfl)); intro gb124 hg w37 hbox hb; have n0_ := Ai0.mk (bt1 bl_ hb); have n1_ := Ai0.mk (hbox); have n2_ := Ai0.mk ((by rw [hg]; exact (bz1 bl_) : w.heap.size ≤ gb124)); have n3_ := Ai0.mk ((by rw [hg]; exact (bz1 bl_) : w.heap.size ≤ gb124)); clear HB; have HB := n0_; have BK124 := n1_; have GW124 := n2_; have GE124 := n3_; clear n0_ n1_ n2_ n3_; clear hb hbox hg; have hcz38_0 : w37.cell? ⟨gb124, 0, none⟩ = some (.int .i64 a0_0) := (kc1 BK124.out 0).trans rfl; have hcz38_1 : w37.cell? ⟨gb124, 1, none⟩ = some (.int .i64 a0_1) := (kc1 BK124.out 1).trans rfl; have hcz38_2 : w37.cell? ⟨gb124, 2, none⟩ = some (.slice A0_2 l0_2.length c0_2) := (kc1 BK124.out 2).trans rfl; have hfz38_0 := kf1 BK124.out 0; have hfz38_1 := kf1 BK124.out 1; have hfz38_2 := kf1 BK124.out 2) | ((with_reducible refine gate_callee (f := 88) rfl ?_); refine goesL_ (some 10) rfl rfl Try.func88 (by kernel_rfl) rfl #[.agg #[.int .i64 a0_0, .int .i64 a0_1, .slice A0_2 l0_2.length c0_2]] rfl (by (try simp only [List.map_toArray, List.map_cons, List.map_nil]); first | done | rfl | (simp only [List.length_drop, List.length_take]; rfl)) ?_; (with_reducible refine (field_shape.calls k a0_0 a0_1 _ _ l0_2 false _ ?side1 ?side2 A2.out).mono ?_); (case side1 => exact kc_ HR0_2.out); (case side2 => exact HC0_2.out); rintro e w39 ⟨rfl, hb⟩; refine ⟨_, rfl, ?_⟩; have n0_ := Ai0.mk (kb1 (g := gb124) (o := .cells #[.int .i64 a0_0, .int .i64 a0_1, .slice A0_2 l0_2.length c0_2] 44 (0, 0)) (kk_ BK124.out) hb); have n1_ := Ai0.mk (bt1 bl_ hb); clear BK124; clear HB; have BK124 := n0_; have HB := n1_; clear n0_ n1_; (try clear hb); (try clear hb2); (try clear hk); (try clear hi)))
  go_ret2
  exact ⟨bl_, by first | exact .inl ⟨rfl, rfl⟩ | exact .inl ⟨trivial, rfl⟩ | simp⟩
def field_GF_Is.f (a0_0 : Int) (a0_1 : Int) (l0_2 : List Int) (a0_3 : Int) (l0_4 : List Int) (l0_5 : List Int) (a1 : Int) : Option (Bool) := if a1 ≥ 0 then (some (decide (a1 < a0_3))) else (some false)
set_option maxHeartbeats 8000000 in
set_option maxRecDepth 100000 in
theorem field_GF_Is.calls (a0_0 : Int) (a0_1 : Int) (A0_2 : Option Addr) (c0_2 : Nat) (l0_2 : List Int) (a0_3 : Int) (A0_4 : Option Addr) (c0_4 : Nat) (l0_4 : List Int) (A0_5 : Option Addr) (c0_5 : Nat) (l0_5 : List Int) (a1 : Int) (r : Bool) (gG : Nat) (w : World) (hG : w.heap[gG]? = some (.cells #[.int .i64 a0_0, .int .i64 a0_1, .slice A0_2 l0_2.length c0_2, .int .i64 a0_3, .slice A0_4 l0_4.length c0_4, .slice A0_5 l0_5.length c0_5] 118 (0, 0))) (h : field_GF_Is.f a0_0 a0_1 l0_2 a0_3 l0_4 l0_5 a1 = some r) :
  Calls Try.prog 95 #[.pointer (some ⟨gG, 0, none⟩), .int .i64 a1] w fun e w' => e = .returned (.bool r) ∧ Below w.heap.size w w' := by
 have hu118 := Try.underlying118;have HB := Ai0.mk (Below.refl w.heap.size w);have H : (if a1 ≥ 0 then (some (decide (a1 < a0_3))) else (some false)) = some r := h;clear h;by_cases c3 : a1 ≥ 0
 ·rw [if_pos c3] at H;have c3b0 : decide (0 ≤ a1) = true := decide_eq_true c3;clear c3;obtain rfl := Option.some.inj H;have BK148 := Ai0.mk hG;have hcz5_0 : w.cell? ⟨gG, 0, none⟩ = some (.int .i64 a0_0) := (kc1 BK148.out 0).trans rfl;have hcz5_1 : w.cell? ⟨gG, 1, none⟩ = some (.int .i64 a0_1) := (kc1 BK148.out 1).trans rfl;have hcz5_2 : w.cell? ⟨gG, 2, none⟩ = some (.slice A0_2 l0_2.length c0_2) := (kc1 BK148.out 2).trans rfl;have hcz5_3 : w.cell? ⟨gG, 3, none⟩ = some (.int .i64 a0_3) := (kc1 BK148.out 3).trans rfl;have hcz5_4 : w.cell? ⟨gG, 4, none⟩ = some (.slice A0_4 l0_4.length c0_4) := (kc1 BK148.out 4).trans rfl;have hcz5_5 : w.cell? ⟨gG, 5, none⟩ = some (.slice A0_5 l0_5.length c0_5) := (kc1 BK148.out 5).trans rfl;have hfz5_0 := kf1 BK148.out 0;have hfz5_1 := kf1 BK148.out 1;have hfz5_2 := kf1 BK148.out 2;have hfz5_3 := kf1 BK148.out 3;have hfz5_4 := kf1 BK148.out 4;have hfz5_5 := kf1 BK148.out 5;go_enter Try.func95, Try.ntmps95
  go_wp2
  go_ret
  exact ⟨by first | rfl | (simp [eW0, eW1] <;> rfl) | (simp [*, eW0, eW1] <;> rfl), bl_⟩
 ·rw [if_neg c3] at H;have c3b0 : decide (0 ≤ a1) = false := decide_eq_false c3;clear c3;obtain rfl := Option.some.inj H;have BK148 := Ai0.mk hG;go_enter Try.func95, Try.ntmps95
  go_wp2
  go_ret
  exact ⟨by first | rfl | (simp [eW0, eW1] <;> rfl) | (simp [*, eW0, eW1] <;> rfl), bl_⟩
def matrix_entries.l0 : Nat → List Int → Int → Int → Int → Int → List Int → Int → List Int → List Int → Option (Int)
 | 0, _, _, _, _, _, _, _, _, _ => none
 | k + 1, x7, x8, x9, x150000, x150001, x150002, x150003, x150004, x150005 => if x9 < x8 then (if 0 ≤ x9 then (if x9 < (x7.length : Int) then ((field_GF_Is.f x150000 x150001 x150002 x150003 x150004 x150005 (rd x7 x9)).bind fun t151 => (if t151 = true then (matrix_entries.l0 k x7 x8 (wrap64 (x9 + 1)) x150000 x150001 x150002 x150003 x150004 x150005) else (some 2))) else (none)) else (none)) else (some 0)
def matrix_entries.f (k : Nat) (a0_0 : Int) (a0_1 : Int) (l0_2 : List Int) (a0_3 : Int) (l0_4 : List Int) (l0_5 : List Int) (l1 : List Int) : Option (Int) := matrix_entries.l0 k l1 (l1.length : Int) 0 a0_0 a0_1 l0_2 a0_3 l0_4 l0_5
theorem matrix_entries.mono_l : ∀ k, (∀ y0 y1 y2 y3 y4 y5 y6 y7 y8, LeO (matrix_entries.l0 k y0 y1 y2 y3 y4 y5 y6 y7 y8) (matrix_entries.l0 (k + 1) y0 y1 y2 y3 y4 y5 y6 y7 y8))
 | 0 => fun _ _ _ _ _ _ _ _ _ r h => by simp [matrix_entries.l0] at h
 | k + 1 => by
  have ih0 := matrix_entries.mono_l k
  ·intro y0 y1 y2 y3 y4 y5 y6 y7 y8;unfold matrix_entries.l0
   repeat' first
   | (with_reducible exact ih0 _ _ _ _ _ _ _ _ _)
   | (with_reducible exact LeO.refl _)
   | (with_reducible exact LeO.none _)
   | (with_reducible refine LeO.ite ?_ ?_)
   | (with_reducible refine LeO.bind ?_ (fun _ => ?_))
   | exact ih0 _ _ _ _ _ _ _ _ _
   | exact LeO.none _
   | refine LeO.ite ?_ ?_
   | refine LeO.bind ?_ (fun _ => ?_)
theorem matrix_entries.mono : ∀ a0 a1 a2 a3 a4 a5 a6 k, LeO (matrix_entries.f k a0 a1 a2 a3 a4 a5 a6) (matrix_entries.f (k + 1) a0 a1 a2 a3 a4 a5 a6) := by
 intro a0 a1 a2 a3 a4 a5 a6 k;have ih0 := matrix_entries.mono_l k;unfold matrix_entries.f
 repeat' first
   | (with_reducible exact ih0 _ _ _ _ _ _ _ _ _)
   | (with_reducible exact LeO.refl _)
   | (with_reducible exact LeO.none _)
   | (with_reducible refine LeO.ite ?_ ?_)
   | (with_reducible refine LeO.bind ?_ (fun _ => ?_))
   | exact ih0 _ _ _ _ _ _ _ _ _
   | exact LeO.none _
   | refine LeO.ite ?_ ?_
   | refine LeO.bind ?_ (fun _ => ?_)
set_option maxHeartbeats 8000000 in
set_option maxRecDepth 100000 in
theorem matrix_entries.calls (k : Nat) (a0_0 : Int) (a0_1 : Int) (A0_2 : Option Addr) (c0_2 : Nat) (l0_2 : List Int) (a0_3 : Int) (A0_4 : Option Addr) (c0_4 : Nat) (l0_4 : List Int) (A0_5 : Option Addr) (c0_5 : Nat) (l0_5 : List Int) (A1 : Option Addr) (c1 : Nat) (l1 : List Int) (r : Int) (gG : Nat) (w : World) (hr1 : Kd.C (Kd.int .i64) w A1 l1.length l1) (hc1 : l1.length ≤ c1) (hG : w.heap[gG]? = some (.cells #[.int .i64 a0_0, .int .i64 a0_1, .slice A0_2 l0_2.length c0_2, .int .i64 a0_3, .slice A0_4 l0_4.length c0_4, .slice A0_5 l0_5.length c0_5] 118 (0, 0))) (h : matrix_entries.f k a0_0 a0_1 l0_2 a0_3 l0_4 l0_5 l1 = some r) :
  Calls Try.prog 91 #[.pointer (some ⟨gG, 0, none⟩), .slice A1 l1.length c1] w fun e w' => e = .returned (.int .i64 r) ∧ Below w.heap.size w w' := by
 have hu118 := Try.underlying118;have HR1 := Ai0.mk hr1;have HC1 := Ai0.mk hc1;clear hr1 hc1;have HB := Ai0.mk (Below.refl w.heap.size w);have H : (matrix_entries.l0 k l1 (l1.length : Int) 0 a0_0 a0_1 l0_2 a0_3 l0_4 l0_5) = some r := h;clear h;have H' := Ai0.mk H;clear H;have BK149 := Ai0.mk hG;go_enter Try.func91, Try.ntmps91
 go_wp2
 go_loopg [9] k (fun kq v9 w' => ∃ (x9_1 : Int), v9 = .int .i64 x9_1 ∧ Ai0 (matrix_entries.l0 kq l1 (l1.length : Int) x9_1 a0_0 a0_1 l0_2 a0_3 l0_4 l0_5 = some r) ∧ Ai0 (kq ≤ k) ∧ Ai0 (w'.heap[gG]? = some (.cells #[.int .i64 a0_0, .int .i64 a0_1, (.slice A0_2 l0_2.length c0_2), .int .i64 a0_3, (.slice A0_4 l0_4.length c0_4), (.slice A0_5 l0_5.length c0_5)] 118 (0, 0))) ∧ Ai0 (Below w.heap.size w w'))
 case atStart => exact ⟨(0), rf_, H', ⟨Nat.le_refl _⟩, ⟨kk_ BK149.out⟩, ⟨bl_⟩⟩
 case round =>
  clear H'
  try clear c1
  try clear p2
  obtain ⟨x9_1, rfl, HA, HK1, BK149, HB⟩ := hrel
  cases gk with
  | zero => exact absurd HA.out (by simp [matrix_entries.l0])
  | succ k1 =>
   have H := HA.out;clear HA;simp only [matrix_entries.l0] at H;by_cases c4 : x9_1 < (l1.length : Int)
   ·rw [if_pos c4] at H;have c4b0 : decide (x9_1 < (l1.length : Int)) = true := decide_eq_true c4;clear c4;by_cases c5 : 0 ≤ x9_1
    ·rw [if_pos c5] at H;have c5b0 : decide (0 ≤ x9_1) = true := decide_eq_true c5;clear c5;by_cases c6 : x9_1 < (l1.length : Int)
     ·rw [if_pos c6] at H;have c6b0 : decide (x9_1 < (l1.length : Int)) = true := decide_eq_true c6;clear c6;replace H := Option.bind_eq_some_iff.mp H;obtain ⟨t151, A70, H⟩ := H;replace H : (if t151 = true then (matrix_entries.l0 k1 l1 (l1.length : Int) (wrap64 (x9_1 + 1)) a0_0 a0_1 l0_2 a0_3 l0_4 l0_5) else (some 2)) = some r := H;have A7 := Ai0.mk A70;clear A70;by_cases c8 : t151 = true
      ·subst c8;(have H1 : (matrix_entries.l0 k1 l1 (l1.length : Int) (wrap64 (x9_1 + 1)) a0_0 a0_1 l0_2 a0_3 l0_4 l0_5) = some r := by rw [if_pos rfl] at H; exact H);clear H;have H := H1;clear H1;have H' := Ai0.mk H;clear H;have p150 : 0 ≤ (x9_1 : Int) := od_;have q150 : x9_1 < (l1.length : Int) := od_;obtain ⟨ad150, e150, hx150_0⟩ := Kd.at_int HR1.out x9_1 p150 q150;cases e150;replace hx150_0 := (HB.out.cell (World.block_lt_of_cell? w _ hx150_0)).trans hx150_0;replace p150 := eq_true p150;replace q150 := eq_true q150;have hcz9_0 : wr.cell? ⟨gG, 0, none⟩ = some (.int .i64 a0_0) := (kc1 BK149.out 0).trans rfl;have hcz9_1 : wr.cell? ⟨gG, 1, none⟩ = some (.int .i64 a0_1) := (kc1 BK149.out 1).trans rfl;have hcz9_2 : wr.cell? ⟨gG, 2, none⟩ = some (.slice A0_2 l0_2.length c0_2) := (kc1 BK149.out 2).trans rfl;have hcz9_3 : wr.cell? ⟨gG, 3, none⟩ = some (.int .i64 a0_3) := (kc1 BK149.out 3).trans rfl;have hcz9_4 : wr.cell? ⟨gG, 4, none⟩ = some (.slice A0_4 l0_4.length c0_4) := (kc1 BK149.out 4).trans rfl;have hcz9_5 : wr.cell? ⟨gG, 5, none⟩ = some (.slice A0_5 l0_5.length c0_5) := (kc1 BK149.out 5).trans rfl;have hfz9_0 := kf1 BK149.out 0;have hfz9_1 := kf1 BK149.out 1;have hfz9_2 := kf1 BK149.out 2;have hfz9_3 := kf1 BK149.out 3;have hfz9_4 := kf1 BK149.out 4;have hfz9_5 := kf1 BK149.out 5
       go_wp2_with (first | ((with_reducible refine gate_callee (f := 95) rfl ?_); refine goesL_ (some 15) rfl rfl Try.func95 (by kernel_rfl) rfl #[.pointer (some ⟨gG, 0, none⟩), .int .i64 (rd l1 x9_1)] rfl (by (try simp only [List.map_toArray, List.map_cons, List.map_nil]); first | done | rfl | (simp only [List.length_drop, List.length_take]; rfl)) ?_; (with_reducible refine (field_GF_Is.calls a0_0 a0_1 A0_2 c0_2 l0_2 a0_3 A0_4 c0_4 l0_4 A0_5 c0_5 l0_5 (rd l1 x9_1) true gG _ ?sideG A7.out).mono ?_); (case sideG => (with_reducible repeat (first | refine kn1 ?_ _ | refine kd1 ?_ | refine ka1 ?_ _)); exact BK149.out); rintro e w10 ⟨rfl, hb⟩; refine ⟨_, rfl, ?_⟩; have n0_ := Ai0.mk (kb1 (g := gG) (o := .cells #[.int .i64 a0_0, .int .i64 a0_1, .slice A0_2 l0_2.length c0_2, .int .i64 a0_3, .slice A0_4 l0_4.length c0_4, .slice A0_5 l0_5.length c0_5] 118 (0, 0)) (kk_ BK149.out) hb); have n1_ := Ai0.mk (bt1 bl_ hb); clear BK149; clear HB; have BK149 := n0_; have HB := n1_; clear n0_ n1_; (try clear hb); (try clear hb2); (try clear hk); (try clear hi)))
       go_roundg k1
       case measure => have := HK1.out; omega
       case rel => exact ⟨(wrap64 (x9_1 + 1)), rf_, H', ⟨by have := HK1.out; omega⟩, ⟨kk_ BK149.out⟩, ⟨bl_⟩⟩
      ·replace c8 := Bool.eq_false_iff.mpr c8;subst c8;(have H1 : (some 2) = some r := by rw [if_neg (show ¬ (false = true) by decide)] at H; exact H);clear H;have H := H1;clear H1;obtain rfl := Option.some.inj H;have p150 : 0 ≤ (x9_1 : Int) := od_;have q150 : x9_1 < (l1.length : Int) := od_;obtain ⟨ad150, e150, hx150_0⟩ := Kd.at_int HR1.out x9_1 p150 q150;cases e150;replace hx150_0 := (HB.out.cell (World.block_lt_of_cell? w _ hx150_0)).trans hx150_0;replace p150 := eq_true p150;replace q150 := eq_true q150;have hcz11_0 : wr.cell? ⟨gG, 0, none⟩ = some (.int .i64 a0_0) := (kc1 BK149.out 0).trans rfl;have hcz11_1 : wr.cell? ⟨gG, 1, none⟩ = some (.int .i64 a0_1) := (kc1 BK149.out 1).trans rfl;have hcz11_2 : wr.cell? ⟨gG, 2, none⟩ = some (.slice A0_2 l0_2.length c0_2) := (kc1 BK149.out 2).trans rfl;have hcz11_3 : wr.cell? ⟨gG, 3, none⟩ = some (.int .i64 a0_3) := (kc1 BK149.out 3).trans rfl;have hcz11_4 : wr.cell? ⟨gG, 4, none⟩ = some (.slice A0_4 l0_4.length c0_4) := (kc1 BK149.out 4).trans rfl;have hcz11_5 : wr.cell? ⟨gG, 5, none⟩ = some (.slice A0_5 l0_5.length c0_5) := (kc1 BK149.out 5).trans rfl;have hfz11_0 := kf1 BK149.out 0;have hfz11_1 := kf1 BK149.out 1;have hfz11_2 := kf1 BK149.out 2;have hfz11_3 := kf1 BK149.out 3;have hfz11_4 := kf1 BK149.out 4;have hfz11_5 := kf1 BK149.out 5
       go_wp2_with (first | ((with_reducible refine gate_callee (f := 95) rfl ?_); refine goesL_ (some 15) rfl rfl Try.func95 (by kernel_rfl) rfl #[.pointer (some ⟨gG, 0, none⟩), .int .i64 (rd l1 x9_1)] rfl (by (try simp only [List.map_toArray, List.map_cons, List.map_nil]); first | done | rfl | (simp only [List.length_drop, List.length_take]; rfl)) ?_; (with_reducible refine (field_GF_Is.calls a0_0 a0_1 A0_2 c0_2 l0_2 a0_3 A0_4 c0_4 l0_4 A0_5 c0_5 l0_5 (rd l1 x9_1) false gG _ ?sideG A7.out).mono ?_); (case sideG => (with_reducible repeat (first | refine kn1 ?_ _ | refine kd1 ?_ | refine ka1 ?_ _)); exact BK149.out); rintro e w12 ⟨rfl, hb⟩; refine ⟨_, rfl, ?_⟩; have n0_ := Ai0.mk (kb1 (g := gG) (o := .cells #[.int .i64 a0_0, .int .i64 a0_1, .slice A0_2 l0_2.length c0_2, .int .i64 a0_3, .slice A0_4 l0_4.length c0_4, .slice A0_5 l0_5.length c0_5] 118 (0, 0)) (kk_ BK149.out) hb); have n1_ := Ai0.mk (bt1 bl_ hb); clear BK149; clear HB; have BK149 := n0_; have HB := n1_; clear n0_ n1_; (try clear hb); (try clear hb2); (try clear hk); (try clear hi)))
       go_ret
       exact ⟨by first | rfl | (simp [eW0, eW1] <;> rfl) | (simp [*, eW0, eW1] <;> rfl), bl_⟩
     ·rw [if_neg c6] at H;exact absurd H (by simp)
    ·rw [if_neg c5] at H;exact absurd H (by simp)
   ·rw [if_neg c4] at H;have c4b0 : decide (x9_1 < (l1.length : Int)) = false := decide_eq_false c4;clear c4;obtain rfl := Option.some.inj H
    go_wp2
    go_ret
    exact ⟨by first | rfl | (simp [eW0, eW1] <;> rfl) | (simp [*, eW0, eW1] <;> rfl), bl_⟩
mutual
def matrix_check.j0 : Nat → Bool → Int → Int → List Int → Int → List Int → List Int → Int → List (List Int) → Option (Int)
 | 0, _, _, _, _, _, _, _, _, _ => none
 | k + 1, x23, x153000, x153001, x153002, x153003, x153004, x153005, x154000, x154001 => if x23 = true then (some 3) else (matrix_check.l0 k x154001 (x154001.length : Int) 0 x153000 x153001 x153002 x153003 x153004 x153005 x154000 x154001)
def matrix_check.l0 : Nat → List (List Int) → Int → Int → Int → Int → List Int → Int → List Int → List Int → Int → List (List Int) → Option (Int)
 | 0, _, _, _, _, _, _, _, _, _, _, _ => none
 | k + 1, x25, x26, x27, x153000, x153001, x153002, x153003, x153004, x153005, x154000, x154001 => if x27 < x26 then (if 0 ≤ x27 then (if x27 < (x25.length : Int) then (if ((rd_L1 x25 x27).length : Int) = x154000 then (matrix_check.l0 k x25 x26 (wrap64 (x27 + 1)) x153000 x153001 x153002 x153003 x153004 x153005 x154000 x154001) else (some 3)) else (none)) else (none)) else (matrix_check.l1 k x154001 (x154001.length : Int) 0 x153000 x153001 x153002 x153003 x153004 x153005)
def matrix_check.l1 : Nat → List (List Int) → Int → Int → Int → Int → List Int → Int → List Int → List Int → Option (Int)
 | 0, _, _, _, _, _, _, _, _, _ => none
 | k + 1, x38, x39, x40, x153000, x153001, x153002, x153003, x153004, x153005 => if x40 < x39 then (if 0 ≤ x40 then (if x40 < (x38.length : Int) then ((matrix_entries.f k x153000 x153001 x153002 x153003 x153004 x153005 (rd_L1 x38 x40)).bind fun t156 => (if t156 = 0 then (matrix_check.l1 k x38 x39 (wrap64 (x40 + 1)) x153000 x153001 x153002 x153003 x153004 x153005) else (some t156))) else (none)) else (none)) else (some 0)
end
def matrix_check.f (k : Nat) (a0_0 : Int) (a0_1 : Int) (l0_2 : List Int) (a0_3 : Int) (l0_4 : List Int) (l0_5 : List Int) (a1_0 : Int) (l1_1 : List (List Int)) : Option (Int) := if a1_0 < 0 then (matrix_check.j0 k true a0_0 a0_1 l0_2 a0_3 l0_4 l0_5 a1_0 l1_1) else (if a1_0 > 256 then (matrix_check.j0 k true a0_0 a0_1 l0_2 a0_3 l0_4 l0_5 a1_0 l1_1) else (matrix_check.j0 k (decide ((l1_1.length : Int) > 256)) a0_0 a0_1 l0_2 a0_3 l0_4 l0_5 a1_0 l1_1))
theorem matrix_check.mono_l : ∀ k, (∀ y0 y1 y2 y3 y4 y5 y6 y7 y8, LeO (matrix_check.j0 k y0 y1 y2 y3 y4 y5 y6 y7 y8) (matrix_check.j0 (k + 1) y0 y1 y2 y3 y4 y5 y6 y7 y8)) ∧ (∀ y0 y1 y2 y3 y4 y5 y6 y7 y8 y9 y10, LeO (matrix_check.l0 k y0 y1 y2 y3 y4 y5 y6 y7 y8 y9 y10) (matrix_check.l0 (k + 1) y0 y1 y2 y3 y4 y5 y6 y7 y8 y9 y10)) ∧ (∀ y0 y1 y2 y3 y4 y5 y6 y7 y8, LeO (matrix_check.l1 k y0 y1 y2 y3 y4 y5 y6 y7 y8) (matrix_check.l1 (k + 1) y0 y1 y2 y3 y4 y5 y6 y7 y8))
 | 0 => ⟨fun _ _ _ _ _ _ _ _ _ r h => by simp [matrix_check.j0] at h, fun _ _ _ _ _ _ _ _ _ _ _ r h => by simp [matrix_check.l0] at h, fun _ _ _ _ _ _ _ _ _ r h => by simp [matrix_check.l1] at h⟩
 | k + 1 => by
  obtain ⟨ih0, ih1, ih2⟩ := matrix_check.mono_l k;refine ⟨?_, ?_, ?_⟩
  ·intro y0 y1 y2 y3 y4 y5 y6 y7 y8;unfold matrix_check.j0
   repeat' first
   | (with_reducible exact ih0 _ _ _ _ _ _ _ _ _)
   | (with_reducible exact ih1 _ _ _ _ _ _ _ _ _ _ _)
   | (with_reducible exact ih2 _ _ _ _ _ _ _ _ _)
   | (with_reducible exact matrix_entries.mono _ _ _ _ _ _ _ _)
   | (with_reducible exact LeO.refl _)
   | (with_reducible exact LeO.none _)
   | (with_reducible refine LeO.ite ?_ ?_)
   | (with_reducible refine LeO.bind ?_ (fun _ => ?_))
   | exact ih0 _ _ _ _ _ _ _ _ _
   | exact ih1 _ _ _ _ _ _ _ _ _ _ _
   | exact ih2 _ _ _ _ _ _ _ _ _
   | exact matrix_entries.mono _ _ _ _ _ _ _ _
   | exact LeO.none _
   | refine LeO.ite ?_ ?_
   | refine LeO.bind ?_ (fun _ => ?_)
  ·intro y0 y1 y2 y3 y4 y5 y6 y7 y8 y9 y10;unfold matrix_check.l0
   repeat' first
   | (with_reducible exact ih0 _ _ _ _ _ _ _ _ _)
   | (with_reducible exact ih1 _ _ _ _ _ _ _ _ _ _ _)
   | (with_reducible exact ih2 _ _ _ _ _ _ _ _ _)
   | (with_reducible exact matrix_entries.mono _ _ _ _ _ _ _ _)
   | (with_reducible exact LeO.refl _)
   | (with_reducible exact LeO.none _)
   | (with_reducible refine LeO.ite ?_ ?_)
   | (with_reducible refine LeO.bind ?_ (fun _ => ?_))
   | exact ih0 _ _ _ _ _ _ _ _ _
   | exact ih1 _ _ _ _ _ _ _ _ _ _ _
   | exact ih2 _ _ _ _ _ _ _ _ _
   | exact matrix_entries.mono _ _ _ _ _ _ _ _
   | exact LeO.none _
   | refine LeO.ite ?_ ?_
   | refine LeO.bind ?_ (fun _ => ?_)
  ·intro y0 y1 y2 y3 y4 y5 y6 y7 y8;unfold matrix_check.l1
   repeat' first
   | (with_reducible exact ih0 _ _ _ _ _ _ _ _ _)
   | (with_reducible exact ih1 _ _ _ _ _ _ _ _ _ _ _)
   | (with_reducible exact ih2 _ _ _ _ _ _ _ _ _)
   | (with_reducible exact matrix_entries.mono _ _ _ _ _ _ _ _)
   | (with_reducible exact LeO.refl _)
   | (with_reducible exact LeO.none _)
   | (with_reducible refine LeO.ite ?_ ?_)
   | (with_reducible refine LeO.bind ?_ (fun _ => ?_))
   | exact ih0 _ _ _ _ _ _ _ _ _
   | exact ih1 _ _ _ _ _ _ _ _ _ _ _
   | exact ih2 _ _ _ _ _ _ _ _ _
   | exact matrix_entries.mono _ _ _ _ _ _ _ _
   | exact LeO.none _
   | refine LeO.ite ?_ ?_
   | refine LeO.bind ?_ (fun _ => ?_)
theorem matrix_check.mono : ∀ a0 a1 a2 a3 a4 a5 a6 a7 k, LeO (matrix_check.f k a0 a1 a2 a3 a4 a5 a6 a7) (matrix_check.f (k + 1) a0 a1 a2 a3 a4 a5 a6 a7) := by
 intro a0 a1 a2 a3 a4 a5 a6 a7 k;obtain ⟨ih0, ih1, ih2⟩ := matrix_check.mono_l k;unfold matrix_check.f
 repeat' first
   | (with_reducible exact ih0 _ _ _ _ _ _ _ _ _)
   | (with_reducible exact ih1 _ _ _ _ _ _ _ _ _ _ _)
   | (with_reducible exact ih2 _ _ _ _ _ _ _ _ _)
   | (with_reducible exact matrix_entries.mono _ _ _ _ _ _ _ _)
   | (with_reducible exact LeO.refl _)
   | (with_reducible exact LeO.none _)
   | (with_reducible refine LeO.ite ?_ ?_)
   | (with_reducible refine LeO.bind ?_ (fun _ => ?_))
   | exact ih0 _ _ _ _ _ _ _ _ _
   | exact ih1 _ _ _ _ _ _ _ _ _ _ _
   | exact ih2 _ _ _ _ _ _ _ _ _
   | exact matrix_entries.mono _ _ _ _ _ _ _ _
   | exact LeO.none _
   | refine LeO.ite ?_ ?_
   | refine LeO.bind ?_ (fun _ => ?_)
set_option maxHeartbeats 8000000 in
set_option maxRecDepth 100000 in
theorem matrix_check.calls (k : Nat) (a0_0 : Int) (a0_1 : Int) (A0_2 : Option Addr) (c0_2 : Nat) (l0_2 : List Int) (a0_3 : Int) (A0_4 : Option Addr) (c0_4 : Nat) (l0_4 : List Int) (A0_5 : Option Addr) (c0_5 : Nat) (l0_5 : List Int) (a1_0 : Int) (A1_1 : Option Addr) (c1_1 : Nat) (l1_1 : List (List Int)) (r : Int) (gG : Nat) (w : World) (hr1_1 : Kd.C (Kd.slice 3 (Kd.int .i64)) w A1_1 l1_1.length l1_1) (hc1_1 : l1_1.length ≤ c1_1) (hG : w.heap[gG]? = some (.cells #[.int .i64 a0_0, .int .i64 a0_1, .slice A0_2 l0_2.length c0_2, .int .i64 a0_3, .slice A0_4 l0_4.length c0_4, .slice A0_5 l0_5.length c0_5] 118 (0, 0))) (h : matrix_check.f k a0_0 a0_1 l0_2 a0_3 l0_4 l0_5 a1_0 l1_1 = some r) :
  Calls Try.prog 87 #[.pointer (some ⟨gG, 0, none⟩), .agg #[.int .i64 a1_0, .slice A1_1 l1_1.length c1_1]] w fun e w' => e = .returned (.int .i64 r) ∧ Below w.heap.size w w' := by
 have hu118 := Try.underlying118;have hu24 := Try.underlying24;have HR1_1 := Ai0.mk hr1_1;have HC1_1 := Ai0.mk hc1_1;clear hr1_1 hc1_1;have HB := Ai0.mk (Below.refl w.heap.size w);have H : (if a1_0 < 0 then (matrix_check.j0 k true a0_0 a0_1 l0_2 a0_3 l0_4 l0_5 a1_0 l1_1) else (if a1_0 > 256 then (matrix_check.j0 k true a0_0 a0_1 l0_2 a0_3 l0_4 l0_5 a1_0 l1_1) else (matrix_check.j0 k (decide ((l1_1.length : Int) > 256)) a0_0 a0_1 l0_2 a0_3 l0_4 l0_5 a1_0 l1_1))) = some r := h;clear h;have HC3 := Ai0.mk H;clear H;have BK152 := Ai0.mk hG;go_enter Try.func87, Try.ntmps87
 go_upto_region 1 with (first | ((with_reducible refine gate_dst (N := 3) rfl ?_); (try (refine gate_guard (by rfl) ?_; dsimp only)); refine box_event ?hg (N := 3) ?hd (cs := #[.int .i64 a1_0, .slice A1_1 l1_1.length c1_1]) (t := 24) ?hr ?_; (case hd => rfl); (case hg => rfl); (case hr => first | (go_simp; done) | (go_simp; rfl)); intro gb153 hg w5 hbox hb; have n0_ := Ai0.mk (kb1 (g := gG) (o := .cells #[.int .i64 a0_0, .int .i64 a0_1, .slice A0_2 l0_2.length c0_2, .int .i64 a0_3, .slice A0_4 l0_4.length c0_4, .slice A0_5 l0_5.length c0_5] 118 (0, 0)) (kk_ BK152.out) hb); have n1_ := Ai0.mk (bt1 bl_ hb); have n2_ := Ai0.mk (hbox); have n3_ := Ai0.mk ((by rw [hg]; exact (bz1 bl_) : w.heap.size ≤ gb153)); have n4_ := Ai0.mk ((by rw [hg]; exact (bz1 bl_) : w.heap.size ≤ gb153)); have n5_ := Ai0.mk ((by rw [hg]; exact Nat.ne_of_lt (blk_lt (g := gG) (o := .cells #[.int .i64 a0_0, .int .i64 a0_1, .slice A0_2 l0_2.length c0_2, .int .i64 a0_3, .slice A0_4 l0_4.length c0_4, .slice A0_5 l0_5.length c0_5] 118 (0, 0)) (kk_ BK152.out)) : gG ≠ gb153)); have n6_ := Ai0.mk ((by rw [hg]; exact Nat.ne_of_gt (blk_lt (g := gG) (o := .cells #[.int .i64 a0_0, .int .i64 a0_1, .slice A0_2 l0_2.length c0_2, .int .i64 a0_3, .slice A0_4 l0_4.length c0_4, .slice A0_5 l0_5.length c0_5] 118 (0, 0)) (kk_ BK152.out)) : gb153 ≠ gG)); clear BK152; clear HB; have BK152 := n0_; have HB := n1_; have BK153 := n2_; have GW153 := n3_; have GE153 := n4_; have NB152_153 := n5_; have NB153_152 := n6_; clear n0_ n1_ n2_ n3_ n4_ n5_ n6_; clear hb hbox hg))
 (try simp only [Act.put, l01_, l02_, l03_])
 go_cut [23] (fun v23 wc => ∃ (kq : Nat) (x23_2 : Bool), v23 = .bool x23_2 ∧ Ai0 (matrix_check.j0 kq x23_2 a0_0 a0_1 l0_2 a0_3 l0_4 l0_5 a1_0 l1_1 = some r) ∧ Ai0 (kq ≤ k) ∧ Ai0 (wc.heap[gG]? = some (.cells #[.int .i64 a0_0, .int .i64 a0_1, (.slice A0_2 l0_2.length c0_2), .int .i64 a0_3, (.slice A0_4 l0_4.length c0_4), (.slice A0_5 l0_5.length c0_5)] 118 (0, 0))) ∧ Ai0 (wc.heap[gb153]? = some (.cells #[.int .i64 a1_0, (.slice A1_1 l1_1.length c1_1)] 24 (0, 0))) ∧ Ai0 (Below w.heap.size w wc))
 case first =>
  have H := HC3.out;clear HC3;by_cases c6 : a1_0 < 0
  ·rw [if_pos c6] at H;have c6b0 : decide (a1_0 < 0) = true := decide_eq_true c6;clear c6;(first | rw [c6b0] | (simp only [i64_w, i32_w]; rw [c6b0]) | skip);have H' := Ai0.mk H;clear H;have hnb7 := NB153_152.out;have hnc7 := NB152_153.out;have hcz8_0 : w5.cell? ⟨gb153, 0, none⟩ = some (.int .i64 a1_0) := (kc1 BK153.out 0).trans rfl;have hcz8_1 : w5.cell? ⟨gb153, 1, none⟩ = some (.slice A1_1 l1_1.length c1_1) := (kc1 BK153.out 1).trans rfl;have hfz8_0 := kf1 BK153.out 0;have hfz8_1 := kf1 BK153.out 1
   go_wp2
   go_meet
   case rel => exact ⟨_, (true), rf_, H', ⟨by first | omega | exact Nat.le_refl _⟩, ⟨kk_ BK152.out⟩, ⟨kk_ BK153.out⟩, ⟨bl_⟩⟩
  ·rw [if_neg c6] at H;have c6b0 : decide (a1_0 < 0) = false := decide_eq_false c6;clear c6;(first | rw [c6b0] | (simp only [i64_w, i32_w]; rw [c6b0]) | skip);by_cases c9 : a1_0 > 256
   ·rw [if_pos c9] at H;have c9b0 : decide (256 < a1_0) = true := decide_eq_true c9;clear c9;have H' := Ai0.mk H;clear H;have hnb10 := NB153_152.out;have hnc10 := NB152_153.out;have hcz11_0 : w5.cell? ⟨gb153, 0, none⟩ = some (.int .i64 a1_0) := (kc1 BK153.out 0).trans rfl;have hcz11_1 : w5.cell? ⟨gb153, 1, none⟩ = some (.slice A1_1 l1_1.length c1_1) := (kc1 BK153.out 1).trans rfl;have hfz11_0 := kf1 BK153.out 0;have hfz11_1 := kf1 BK153.out 1
    go_wp2
    go_meet
    case rel => exact ⟨_, (true), rf_, H', ⟨by first | omega | exact Nat.le_refl _⟩, ⟨kk_ BK152.out⟩, ⟨kk_ BK153.out⟩, ⟨bl_⟩⟩
   ·rw [if_neg c9] at H;have c9b0 : decide (256 < a1_0) = false := decide_eq_false c9;clear c9;have H' := Ai0.mk H;clear H;have hnb12 := NB153_152.out;have hnc12 := NB152_153.out;have hcz13_0 : w5.cell? ⟨gb153, 0, none⟩ = some (.int .i64 a1_0) := (kc1 BK153.out 0).trans rfl;have hcz13_1 : w5.cell? ⟨gb153, 1, none⟩ = some (.slice A1_1 l1_1.length c1_1) := (kc1 BK153.out 1).trans rfl;have hfz13_0 := kf1 BK153.out 0;have hfz13_1 := kf1 BK153.out 1
    go_wp2
    go_meet
    case rel => exact ⟨_, (decide ((l1_1.length : Int) > 256)), rf_, H', ⟨by first | omega | exact Nat.le_refl _⟩, ⟨kk_ BK152.out⟩, ⟨kk_ BK153.out⟩, ⟨bl_⟩⟩
 case rest =>
  clear HC3
  try clear c1
  try clear p2
  try clear c6
  try clear c6b0
  try clear c7
  try clear c8
  try clear c9
  try clear c9b0
  try clear c10
  try clear c12
  try clear hcz11_0
  try clear hcz11_1
  try clear hcz13_0
  try clear hcz13_1
  try clear hcz8_0
  try clear hcz8_1
  try clear hfz11_0
  try clear hfz11_1
  try clear hfz13_0
  try clear hfz13_1
  try clear hfz8_0
  try clear hfz8_1
  obtain ⟨kq, x23_2, rfl, HA, HJ2, BK152, BK153, HB⟩ := hcut
  cases kq with
  | zero => exact absurd HA.out (by simp [matrix_check.j0])
  | succ kj2 =>
   have H := HA.out;clear HA;simp only [matrix_check.j0] at H;by_cases c14 : x23_2 = true
   ·subst c14;(have H1 : (some 3) = some r := by rw [if_pos rfl] at H; exact H);clear H;have H := H1;clear H1;obtain rfl := Option.some.inj H
    go_wp2
    go_ret
    exact ⟨by first | rfl | (simp [eW0, eW1] <;> rfl) | (simp [*, eW0, eW1] <;> rfl), bl_⟩
   ·replace c14 := Bool.eq_false_iff.mpr c14;subst c14;(have H1 : (matrix_check.l0 kj2 l1_1 (l1_1.length : Int) 0 a0_0 a0_1 l0_2 a0_3 l0_4 l0_5 a1_0 l1_1) = some r := by rw [if_neg (show ¬ (false = true) by decide)] at H; exact H);clear H;have H := H1;clear H1;have H' := Ai0.mk H;clear H;have hnb15 := NB153_152.out;have hnc15 := NB152_153.out;have hcz16_0 : wc.cell? ⟨gb153, 0, none⟩ = some (.int .i64 a1_0) := (kc1 BK153.out 0).trans rfl;have hcz16_1 : wc.cell? ⟨gb153, 1, none⟩ = some (.slice A1_1 l1_1.length c1_1) := (kc1 BK153.out 1).trans rfl;have hfz16_0 := kf1 BK153.out 0;have hfz16_1 := kf1 BK153.out 1
    go_wp2
    go_loopg [27] kj2 (fun kq v27 w' => ∃ (x27_2 : Int), v27 = .int .i64 x27_2 ∧ Ai0 (matrix_check.l0 kq l1_1 (l1_1.length : Int) x27_2 a0_0 a0_1 l0_2 a0_3 l0_4 l0_5 a1_0 l1_1 = some r) ∧ Ai0 (kq ≤ kj2) ∧ Ai0 (w'.heap[gG]? = some (.cells #[.int .i64 a0_0, .int .i64 a0_1, (.slice A0_2 l0_2.length c0_2), .int .i64 a0_3, (.slice A0_4 l0_4.length c0_4), (.slice A0_5 l0_5.length c0_5)] 118 (0, 0))) ∧ Ai0 (w'.heap[gb153]? = some (.cells #[.int .i64 a1_0, (.slice A1_1 l1_1.length c1_1)] 24 (0, 0))) ∧ Ai0 (Below w.heap.size w w'))
    case atStart => exact ⟨(0), rf_, H', ⟨Nat.le_refl _⟩, ⟨kk_ BK152.out⟩, ⟨kk_ BK153.out⟩, ⟨bl_⟩⟩
    case round =>
     clear H'
     try clear c1
     try clear p2
     try clear c6
     try clear c6b0
     try clear c7
     try clear c8
     try clear c9
     try clear c9b0
     try clear c10
     try clear c12
     try clear c14
     try clear c15
     try clear hcz11_0
     try clear hcz11_1
     try clear hcz13_0
     try clear hcz13_1
     try clear hcz16_0
     try clear hcz16_1
     try clear hcz8_0
     try clear hcz8_1
     try clear hfz11_0
     try clear hfz11_1
     try clear hfz13_0
     try clear hfz13_1
     try clear hfz16_0
     try clear hfz16_1
     try clear hfz8_0
     try clear hfz8_1
     try clear p2
     obtain ⟨x27_2, rfl, HA, HK2, BK152, BK153, HB⟩ := hrel
     cases gk with
     | zero => exact absurd HA.out (by simp [matrix_check.l0])
     | succ k2 =>
      have H := HA.out;clear HA;simp only [matrix_check.l0] at H;by_cases c17 : x27_2 < (l1_1.length : Int)
      ·rw [if_pos c17] at H;have c17b0 : decide (x27_2 < (l1_1.length : Int)) = true := decide_eq_true c17;clear c17;by_cases c18 : 0 ≤ x27_2
       ·rw [if_pos c18] at H;have c18b0 : decide (0 ≤ x27_2) = true := decide_eq_true c18;clear c18;by_cases c19 : x27_2 < (l1_1.length : Int)
        ·rw [if_pos c19] at H;have c19b0 : decide (x27_2 < (l1_1.length : Int)) = true := decide_eq_true c19;clear c19;by_cases c20 : ((rd_L1 l1_1 x27_2).length : Int) = a1_0
         ·rw [if_pos c20] at H;have c20b0 : (((rd_L1 l1_1 x27_2).length : Int) == a1_0) = true := beq_iff_eq.mpr c20;have c20b1 : (((rd_L1 l1_1 x27_2).length : Int) != a1_0) = false := bne_eq_false_iff_eq.mpr c20;clear c20;have H' := Ai0.mk H;clear H;have p154 : 0 ≤ (x27_2 : Int) := od_;have q154 : x27_2 < (l1_1.length : Int) := od_;obtain ⟨ad154, A154_0, c154_0, e154, hx154_0, hl154_0, hi154_0⟩ := at_L1 HR1_1.out x27_2 p154 q154;cases e154;replace hx154_0 := (HB.out.cell (World.block_lt_of_cell? w _ hx154_0)).trans hx154_0;have HR154_0 := Ai0.mk hi154_0;have HC154_0 := Ai0.mk hl154_0;clear hi154_0 hl154_0;replace p154 := eq_true p154;replace q154 := eq_true q154;have hnb21 := NB153_152.out;have hnc21 := NB152_153.out;have hcz22_0 : wr.cell? ⟨gb153, 0, none⟩ = some (.int .i64 a1_0) := (kc1 BK153.out 0).trans rfl;have hcz22_1 : wr.cell? ⟨gb153, 1, none⟩ = some (.slice (some ad154) l1_1.length c1_1) := (kc1 BK153.out 1).trans rfl;have hfz22_0 := kf1 BK153.out 0;have hfz22_1 := kf1 BK153.out 1
          go_wp2
          go_roundg k2
          case measure => have := HJ2.out; have := HK2.out; omega
          case rel => exact ⟨(wrap64 (x27_2 + 1)), rf_, H', ⟨by have := HJ2.out; have := HK2.out; omega⟩, ⟨kk_ BK152.out⟩, ⟨kk_ BK153.out⟩, ⟨bl_⟩⟩
         ·rw [if_neg c20] at H;have c20b0 : (((rd_L1 l1_1 x27_2).length : Int) == a1_0) = false := beq_eq_false_iff_ne.mpr c20;have c20b1 : (((rd_L1 l1_1 x27_2).length : Int) != a1_0) = true := bne_iff_ne.mpr c20;obtain rfl := Option.some.inj H;have p154 : 0 ≤ (x27_2 : Int) := od_;have q154 : x27_2 < (l1_1.length : Int) := od_;obtain ⟨ad154, A154_0, c154_0, e154, hx154_0, hl154_0, hi154_0⟩ := at_L1 HR1_1.out x27_2 p154 q154;cases e154;replace hx154_0 := (HB.out.cell (World.block_lt_of_cell? w _ hx154_0)).trans hx154_0;have HR154_0 := Ai0.mk hi154_0;have HC154_0 := Ai0.mk hl154_0;clear hi154_0 hl154_0;replace p154 := eq_true p154;replace q154 := eq_true q154;have hnb23 := NB153_152.out;have hnc23 := NB152_153.out;have hcz24_0 : wr.cell? ⟨gb153, 0, none⟩ = some (.int .i64 a1_0) := (kc1 BK153.out 0).trans rfl;have hcz24_1 : wr.cell? ⟨gb153, 1, none⟩ = some (.slice (some ad154) l1_1.length c1_1) := (kc1 BK153.out 1).trans rfl;have hfz24_0 := kf1 BK153.out 0;have hfz24_1 := kf1 BK153.out 1
          go_wp2
          go_ret
          exact ⟨by first | rfl | (simp [eW0, eW1] <;> rfl) | (simp [*, eW0, eW1] <;> rfl), bl_⟩
        ·rw [if_neg c19] at H;exact absurd H (by simp)
       ·rw [if_neg c18] at H;exact absurd H (by simp)
      ·rw [if_neg c17] at H;have c17b0 : decide (x27_2 < (l1_1.length : Int)) = false := decide_eq_false c17;clear c17;have H' := Ai0.mk H;clear H;have hnb25 := NB153_152.out;have hnc25 := NB152_153.out;have hcz26_0 : wr.cell? ⟨gb153, 0, none⟩ = some (.int .i64 a1_0) := (kc1 BK153.out 0).trans rfl;have hcz26_1 : wr.cell? ⟨gb153, 1, none⟩ = some (.slice A1_1 l1_1.length c1_1) := (kc1 BK153.out 1).trans rfl;have hfz26_0 := kf1 BK153.out 0;have hfz26_1 := kf1 BK153.out 1
       go_wp2
       go_loopg [40] k2 (fun kq v40 w' => ∃ (x40_3 : Int), v40 = .int .i64 x40_3 ∧ Ai0 (matrix_check.l1 kq l1_1 (l1_1.length : Int) x40_3 a0_0 a0_1 l0_2 a0_3 l0_4 l0_5 = some r) ∧ Ai0 (kq ≤ k2) ∧ Ai0 (w'.heap[gG]? = some (.cells #[.int .i64 a0_0, .int .i64 a0_1, (.slice A0_2 l0_2.length c0_2), .int .i64 a0_3, (.slice A0_4 l0_4.length c0_4), (.slice A0_5 l0_5.length c0_5)] 118 (0, 0))) ∧ Ai0 (w'.heap[gb153]? = some (.cells #[.int .i64 a1_0, (.slice A1_1 l1_1.length c1_1)] 24 (0, 0))) ∧ Ai0 (Below w.heap.size w w'))
       case atStart => exact ⟨(0), rf_, H', ⟨Nat.le_refl _⟩, ⟨kk_ BK152.out⟩, ⟨kk_ BK153.out⟩, ⟨bl_⟩⟩
       case round =>
        clear H'
        try clear c1
        try clear p1
        try clear q1
        try clear hx1
        try clear c2
        try clear p2
        try clear c6
        try clear c6b0
        try clear p6
        try clear c7
        try clear c8
        try clear c9
        try clear c9b0
        try clear c10
        try clear c12
        try clear c14
        try clear c15
        try clear p15
        try clear q15
        try clear hx15
        try clear c17
        try clear c17b0
        try clear c18
        try clear c18b0
        try clear c19
        try clear c19b0
        try clear c20
        try clear c20b0
        try clear c20b1
        try clear c21
        try clear c23
        try clear c25
        try clear hcz11_0
        try clear hcz11_1
        try clear hcz13_0
        try clear hcz13_1
        try clear hcz16_0
        try clear hcz16_1
        try clear hcz22_0
        try clear hcz22_1
        try clear hcz24_0
        try clear hcz24_1
        try clear hcz26_0
        try clear hcz26_1
        try clear hcz8_0
        try clear hcz8_1
        try clear hfz11_0
        try clear hfz11_1
        try clear hfz13_0
        try clear hfz13_1
        try clear hfz16_0
        try clear hfz16_1
        try clear hfz22_0
        try clear hfz22_1
        try clear hfz24_0
        try clear hfz24_1
        try clear hfz26_0
        try clear hfz26_1
        try clear hfz8_0
        try clear hfz8_1
        try clear hx154_0
        try clear p154
        try clear p2
        try clear q154
        obtain ⟨x40_3, rfl, HA, HK3, BK152, BK153, HB⟩ := hrel
        cases gk with
        | zero => exact absurd HA.out (by simp [matrix_check.l1])
        | succ k3 =>
         have H := HA.out;clear HA;simp only [matrix_check.l1] at H;by_cases c27 : x40_3 < (l1_1.length : Int)
         ·rw [if_pos c27] at H;have c27b0 : decide (x40_3 < (l1_1.length : Int)) = true := decide_eq_true c27;clear c27;by_cases c28 : 0 ≤ x40_3
          ·rw [if_pos c28] at H;have c28b0 : decide (0 ≤ x40_3) = true := decide_eq_true c28;clear c28;by_cases c29 : x40_3 < (l1_1.length : Int)
           ·rw [if_pos c29] at H;have c29b0 : decide (x40_3 < (l1_1.length : Int)) = true := decide_eq_true c29;clear c29;replace H := Option.bind_eq_some_iff.mp H;obtain ⟨t156, A300, H⟩ := H;replace H : (if t156 = 0 then (matrix_check.l1 k3 l1_1 (l1_1.length : Int) (wrap64 (x40_3 + 1)) a0_0 a0_1 l0_2 a0_3 l0_4 l0_5) else (some t156)) = some r := H;have A30 := Ai0.mk A300;clear A300;by_cases c31 : t156 = 0
            case' pos =>
             rw [if_pos c31] at H;have c31b0 : (t156 == 0) = true := beq_iff_eq.mpr c31;have c31b1 : (t156 != 0) = false := bne_eq_false_iff_eq.mpr c31;clear c31;have H' := Ai0.mk H;clear H
            case' neg =>
             rw [if_neg c31] at H;have c31b0 : (t156 == 0) = false := beq_eq_false_iff_ne.mpr c31;have c31b1 : (t156 != 0) = true := bne_iff_ne.mpr c31;obtain rfl := Option.some.inj H
            all_goals
             have p155 : 0 ≤ (x40_3 : Int) := od_;have q155 : x40_3 < (l1_1.length : Int) := od_;obtain ⟨ad155, A155_0, c155_0, e155, hx155_0, hl155_0, hi155_0⟩ := at_L1 HR1_1.out x40_3 p155 q155;cases e155;replace hx155_0 := (HB.out.cell (World.block_lt_of_cell? w _ hx155_0)).trans hx155_0;have HR155_0 := Ai0.mk hi155_0;have HC155_0 := Ai0.mk hl155_0;clear hi155_0 hl155_0;replace p155 := eq_true p155;replace q155 := eq_true q155;have hnb32 := NB152_153.out;have hnc32 := NB153_152.out;have hcz33_0 : wr.cell? ⟨gG, 0, none⟩ = some (.int .i64 a0_0) := (kc1 BK152.out 0).trans rfl;have hcz33_1 : wr.cell? ⟨gG, 1, none⟩ = some (.int .i64 a0_1) := (kc1 BK152.out 1).trans rfl;have hcz33_2 : wr.cell? ⟨gG, 2, none⟩ = some (.slice A0_2 l0_2.length c0_2) := (kc1 BK152.out 2).trans rfl;have hcz33_3 : wr.cell? ⟨gG, 3, none⟩ = some (.int .i64 a0_3) := (kc1 BK152.out 3).trans rfl;have hcz33_4 : wr.cell? ⟨gG, 4, none⟩ = some (.slice A0_4 l0_4.length c0_4) := (kc1 BK152.out 4).trans rfl;have hcz33_5 : wr.cell? ⟨gG, 5, none⟩ = some (.slice A0_5 l0_5.length c0_5) := (kc1 BK152.out 5).trans rfl;have hfz33_0 := kf1 BK152.out 0;have hfz33_1 := kf1 BK152.out 1;have hfz33_2 := kf1 BK152.out 2;have hfz33_3 := kf1 BK152.out 3;have hfz33_4 := kf1 BK152.out 4;have hfz33_5 := kf1 BK152.out 5
             go_wp2_with (first | ((with_reducible refine gate_callee (f := 91) rfl ?_); refine goesL_ (some 46) rfl rfl Try.func91 (by kernel_rfl) rfl #[.pointer (some ⟨gG, 0, none⟩), .slice A155_0 (rd_L1 l1_1 x40_3).length c155_0] rfl (by (try simp only [List.map_toArray, List.map_cons, List.map_nil]); first | done | rfl | (simp only [List.length_drop, List.length_take]; rfl)) ?_; (with_reducible refine (matrix_entries.calls k3 a0_0 a0_1 A0_2 c0_2 l0_2 a0_3 A0_4 c0_4 l0_4 A0_5 c0_5 l0_5 _ _ (rd_L1 l1_1 x40_3) t156 gG _ ?side7 ?side8 ?sideG A30.out).mono ?_); (case sideG => (with_reducible repeat (first | refine kn1 ?_ _ | refine kd1 ?_ | refine ka1 ?_ _)); exact BK152.out); (case side7 => exact kc_ HR155_0.out); (case side8 => exact HC155_0.out); rintro e w34 ⟨rfl, hb⟩; refine ⟨_, rfl, ?_⟩; have n0_ := Ai0.mk (kb1 (g := gG) (o := .cells #[.int .i64 a0_0, .int .i64 a0_1, .slice A0_2 l0_2.length c0_2, .int .i64 a0_3, .slice A0_4 l0_4.length c0_4, .slice A0_5 l0_5.length c0_5] 118 (0, 0)) (kk_ BK152.out) hb); have n1_ := Ai0.mk (kb1 (g := gb153) (o := .cells #[.int .i64 a1_0, .slice (some ad155) l1_1.length c1_1] 24 (0, 0)) (kk_ BK153.out) hb); have n2_ := Ai0.mk (bt1 bl_ hb); clear BK152; clear BK153; clear HB; have BK152 := n0_; have BK153 := n1_; have HB := n2_; clear n0_ n1_ n2_; (try clear hb); (try clear hb2); (try clear hk); (try clear hi)))
            ·go_ret
             exact ⟨by first | rfl | (simp [eW0, eW1] <;> rfl) | (simp [*, eW0, eW1] <;> rfl), bl_⟩
            ·go_roundg k3
             case measure => have := HJ2.out; have := HK2.out; have := HK3.out; omega
             case rel => exact ⟨(wrap64 (x40_3 + 1)), rf_, H', ⟨by have := HJ2.out; have := HK2.out; have := HK3.out; omega⟩, ⟨kk_ BK152.out⟩, ⟨kk_ BK153.out⟩, ⟨bl_⟩⟩
           ·rw [if_neg c29] at H;exact absurd H (by simp)
          ·rw [if_neg c28] at H;exact absurd H (by simp)
         ·rw [if_neg c27] at H;have c27b0 : decide (x40_3 < (l1_1.length : Int)) = false := decide_eq_false c27;clear c27;obtain rfl := Option.some.inj H
          go_wp2
          go_ret
          exact ⟨by first | rfl | (simp [eW0, eW1] <;> rfl) | (simp [*, eW0, eW1] <;> rfl), bl_⟩
def matrix_open.l0 : Nat → Int → Int → List Int → Int → List Int → List Int → List (S24) → Int → Int → Option (Int × Int)
 | 0, _, _, _, _, _, _, _, _, _ => none
 | k + 1, p1, p2, p3, p4, p5, p6, x18, x19, x20 => if x20 < x19 then (if 0 ≤ x20 then (if x20 < (x18.length : Int) then ((matrix_check.f k p1 p2 p3 p4 p5 p6 ((rd_T24 x18 x20).f0) ((rd_T24 x18 x20).f1)).bind fun t218 => (if t218 = 0 then (matrix_open.l0 k p1 p2 p3 p4 p5 p6 x18 x19 (wrap64 (x20 + 1))) else (some (0, t218)))) else (none)) else (none)) else (some (0, 0))
def matrix_open.f (k : Nat) (a0_0 : Int) (a0_1 : Int) (l0_2 : List Int) (l1 : List (S24)) : Option (Int × Int) := (field_New.f k a0_0 a0_1 l0_2).bind fun s => (field_order.f k a0_0 a0_1).bind fun q => if s.2.2.2 = 0 then matrix_open.l0 k a0_0 a0_1 s.1 q s.2.1 s.2.2.1 l1 (l1.length : Int) 0 else none
theorem matrix_open.mono_l : ∀ k, (∀ y0 y1 y2 y3 y4 y5 y6 y7 y8, LeO (matrix_open.l0 k y0 y1 y2 y3 y4 y5 y6 y7 y8) (matrix_open.l0 (k + 1) y0 y1 y2 y3 y4 y5 y6 y7 y8))
 | 0 => fun _ _ _ _ _ _ _ _ _ r h => by simp [matrix_open.l0] at h
 | k + 1 => by
  have ih0 := matrix_open.mono_l k
  ·intro y0 y1 y2 y3 y4 y5 y6 y7 y8;unfold matrix_open.l0
   repeat' first
   | (with_reducible exact ih0 _ _ _ _ _ _ _ _ _)
   | (with_reducible exact field_New.mono _ _ _ _)
   | (with_reducible exact field_order.mono _ _ _)
   | (with_reducible exact matrix_check.mono _ _ _ _ _ _ _ _ _)
   | (with_reducible exact LeO.refl _)
   | (with_reducible exact LeO.none _)
   | (with_reducible refine LeO.ite ?_ ?_)
   | (with_reducible refine LeO.bind ?_ (fun _ => ?_))
   | exact ih0 _ _ _ _ _ _ _ _ _
   | exact field_New.mono _ _ _ _
   | exact field_order.mono _ _ _
   | exact matrix_check.mono _ _ _ _ _ _ _ _ _
   | exact LeO.none _
   | refine LeO.ite ?_ ?_
   | refine LeO.bind ?_ (fun _ => ?_)
theorem matrix_open.mono : ∀ a0 a1 a2 a3 k, LeO (matrix_open.f k a0 a1 a2 a3) (matrix_open.f (k + 1) a0 a1 a2 a3) := by
 intro a0 a1 a2 a3 k;have ih0 := matrix_open.mono_l k;unfold matrix_open.f
 repeat' first
   | (with_reducible exact ih0 _ _ _ _ _ _ _ _ _)
   | (with_reducible exact field_New.mono _ _ _ _)
   | (with_reducible exact field_order.mono _ _ _)
   | (with_reducible exact matrix_check.mono _ _ _ _ _ _ _ _ _)
   | (with_reducible exact LeO.refl _)
   | (with_reducible exact LeO.none _)
   | (with_reducible refine LeO.ite ?_ ?_)
   | (with_reducible refine LeO.bind ?_ (fun _ => ?_))
   | exact ih0 _ _ _ _ _ _ _ _ _
   | exact field_New.mono _ _ _ _
   | exact field_order.mono _ _ _
   | exact matrix_check.mono _ _ _ _ _ _ _ _ _
   | exact LeO.none _
   | refine LeO.ite ?_ ?_
   | refine LeO.bind ?_ (fun _ => ?_)
set_option maxHeartbeats 8000000 in
set_option maxRecDepth 100000 in
theorem matrix_open.calls (k : Nat) (a0_0 : Int) (a0_1 : Int) (A0_2 : Option Addr) (c0_2 : Nat) (l0_2 : List Int) (A1 : Option Addr) (c1 : Nat) (l1 : List (S24)) (r1 : Int) (r2 : Int) (w : World) (hr0_2 : Kd.C (Kd.int .i64) w A0_2 l0_2.length l0_2) (hc0_2 : l0_2.length ≤ c0_2) (hr1 : Kd.C k24 w A1 l1.length l1) (hc1 : l1.length ≤ c1) (h : matrix_open.f k a0_0 a0_1 l0_2 l1 = some (r1, r2)) :
  Calls Try.prog 79 #[.agg #[.int .i64 a0_0, .int .i64 a0_1, .slice A0_2 l0_2.length c0_2], .slice A1 l1.length c1] w fun e w' => (∃ p_ : Option Addr, e = .returned (.tuple #[.pointer p_, .int .i64 r2])) ∧ Below w.heap.size w w' := by
 have hu44 := Try.underlying44;have hu24 := Try.underlying24;have HR0_2 := Ai0.mk hr0_2;have HC0_2 := Ai0.mk hc0_2;clear hr0_2 hc0_2;have HR1 := Ai0.mk hr1;have HC1 := Ai0.mk hc1;clear hr1 hc1;have HB := Ai0.mk (Below.refl w.heap.size w);unfold matrix_open.f at h
 replace h := Option.bind_eq_some_iff.mp h;obtain ⟨⟨sm, sx, sl, se⟩, hN, h⟩ := h;replace h := Option.bind_eq_some_iff.mp h;obtain ⟨q, hQ, h⟩ := h;simp only at h;have H := h;have AN0 := hN;have AQ := Ai0.mk hQ;clear h hN hQ;by_cases c4 : se = 0
 ·rw [if_pos c4] at H;subst c4;have AN := Ai0.mk AN0;clear AN0;have H' := Ai0.mk H;clear H;go_enter Try.func79, Try.ntmps79
  go_wp2_with (first | ((with_reducible refine gate_dst (N := 2) rfl ?_); refine box_event ?hg (N := 2) ?hd (cs := #[.int .i64 a0_0, .int .i64 a0_1, .slice A0_2 l0_2.length c0_2]) (t := 44) ?hr ?_; (case hd => rfl); (case hg => rfl); (case hr => first | (go_simp; done) | (go_simp; rfl)); intro gb214 hg w5 hbox hb; have n0_ := Ai0.mk (bt1 bl_ hb); have n1_ := Ai0.mk (hbox); have n2_ := Ai0.mk ((by rw [hg]; exact (bz1 bl_) : w.heap.size ≤ gb214)); have n3_ := Ai0.mk ((by rw [hg]; exact (bz1 bl_) : w.heap.size ≤ gb214)); clear HB; have HB := n0_; have BK214 := n1_; have GW214 := n2_; have GE214 := n3_; clear n0_ n1_ n2_ n3_; clear hb hbox hg; have hcz6_0 : w5.cell? ⟨gb214, 0, none⟩ = some (.int .i64 a0_0) := (kc1 BK214.out 0).trans rfl; have hcz6_1 : w5.cell? ⟨gb214, 1, none⟩ = some (.int .i64 a0_1) := (kc1 BK214.out 1).trans rfl; have hcz6_2 : w5.cell? ⟨gb214, 2, none⟩ = some (.slice A0_2 l0_2.length c0_2) := (kc1 BK214.out 2).trans rfl; have hfz6_0 := kf1 BK214.out 0; have hfz6_1 := kf1 BK214.out 1; have hfz6_2 := kf1 BK214.out 2) | ((with_reducible refine gate_callee (f := 86) rfl ?_); refine goesL_ (some 13) rfl rfl Try.func86 (by kernel_rfl) rfl #[.agg #[.int .i64 a0_0, .int .i64 a0_1, .slice A0_2 l0_2.length c0_2]] rfl (by (try simp only [List.map_toArray, List.map_cons, List.map_nil]); first | done | rfl | (simp only [List.length_drop, List.length_take]; rfl)) ?_; (refine (field_New.calls k a0_0 a0_1 _ _ l0_2 _ _ _ 0 _ (Kd.C_below HR0_2.out HB.out) HC0_2.out AN.out).mono ?_); rintro e w7 ⟨hb, ⟨hz, _⟩ | ⟨_, gG, rfl, u, hu1, hu2, hu3⟩⟩; (exact absurd hz (by decide)); refine ⟨_, rfl, ?_⟩; obtain ⟨AS2, cS2, AS4, cS4, AS5, cS5, HG_, _⟩ := hu3 _ AQ.out; have HGG := Ai0.mk HG_; clear HG_ hu1 hu2 hu3; have n0_ := Ai0.mk (kb1 (g := gb214) (o := .cells #[.int .i64 a0_0, .int .i64 a0_1, .slice A0_2 l0_2.length c0_2] 44 (0, 0)) (kk_ BK214.out) hb); have n1_ := Ai0.mk (bt1 bl_ hb); clear BK214; clear HB; have BK214 := n0_; have HB := n1_; clear n0_ n1_; (try clear hb); (try clear hb2); (try clear hk); (try clear hi); have HBW := HB; clear HB; have HB := Ai0.mk (Below.refl w7.heap.size w7); have HR1_ := Ai0.mk (Kd.C_below HR1.out HBW.out); clear HR1; have HR1 := HR1_; clear HR1_; obtain ⟨w, hw_⟩ : ∃ x, x = w7 := ⟨_, rfl⟩; subst hw_))
  go_loopg [20] k (fun kq v20 w' => ∃ (x20_1 : Int), v20 = .int .i64 x20_1 ∧ Ai0 (matrix_open.l0 kq a0_0 a0_1 sm q sx sl l1 (l1.length : Int) x20_1 = some (r1, r2)) ∧ Ai0 (kq ≤ k) ∧ Ai0 (w'.heap[gb214]? = some (.cells #[.int .i64 a0_0, .int .i64 a0_1, (.slice A0_2 l0_2.length c0_2)] 44 (0, 0))) ∧ Ai0 (Below w.heap.size w w'))
  case atStart => exact ⟨(0), rf_, H', ⟨Nat.le_refl _⟩, ⟨kk_ BK214.out⟩, ⟨bl_⟩⟩
  case round =>
   clear H'
   try clear c1
   try clear p2
   try clear c4
   try clear c4b0
   try clear c4b1
   try clear c7
   try clear hcz6_0
   try clear hcz6_1
   try clear hcz6_2
   try clear hfz6_0
   try clear hfz6_1
   try clear hfz6_2
   obtain ⟨x20_1, rfl, HA, HK1, BK214, HB⟩ := hrel
   cases gk with
   | zero => exact absurd HA.out (by simp [matrix_open.l0])
   | succ k1 =>
    have H := HA.out;clear HA;simp only [matrix_open.l0] at H;by_cases c8 : x20_1 < (l1.length : Int)
    ·rw [if_pos c8] at H;have c8b0 : decide (x20_1 < (l1.length : Int)) = true := decide_eq_true c8;clear c8;by_cases c9 : 0 ≤ x20_1
     ·rw [if_pos c9] at H;have c9b0 : decide (0 ≤ x20_1) = true := decide_eq_true c9;clear c9;by_cases c10 : x20_1 < (l1.length : Int)
      ·rw [if_pos c10] at H;have c10b0 : decide (x20_1 < (l1.length : Int)) = true := decide_eq_true c10;clear c10;replace H := Option.bind_eq_some_iff.mp H;obtain ⟨t218, A110, H⟩ := H;replace H : (if t218 = 0 then (matrix_open.l0 k1 a0_0 a0_1 sm q sx sl l1 (l1.length : Int) (wrap64 (x20_1 + 1))) else (some (0, t218))) = some (r1, r2) := H;have A11 := Ai0.mk A110;clear A110;by_cases c12 : t218 = 0
       case' pos =>
        rw [if_pos c12] at H;have c12b0 : (t218 == 0) = true := beq_iff_eq.mpr c12;have c12b1 : (t218 != 0) = false := bne_eq_false_iff_eq.mpr c12;clear c12;have H' := Ai0.mk H;clear H
       case' neg =>
        rw [if_neg c12] at H;have c12b0 : (t218 == 0) = false := beq_eq_false_iff_ne.mpr c12;have c12b1 : (t218 != 0) = true := bne_iff_ne.mpr c12;simp only [Option.some.injEq, Prod.mk.injEq] at H;obtain ⟨rfl, rfl⟩ := H
       all_goals
        have p216 : 0 ≤ (x20_1 : Int) := od_;have q216 : x20_1 < (l1.length : Int) := od_;obtain ⟨ad216, A216_1, c216_1, e216, hx216_0, hx216_1, hl216_1, hi216_1⟩ := at_T24 HR1.out x20_1 p216 q216;cases e216;replace hx216_0 := (HB.out.cell (World.block_lt_of_cell? w _ hx216_0)).trans hx216_0;replace hx216_1 := (HB.out.cell (World.block_lt_of_cell? w _ hx216_1)).trans hx216_1;have HR216_1 := Ai0.mk hi216_1;have HC216_1 := Ai0.mk hl216_1;clear hi216_1 hl216_1;replace p216 := eq_true p216;replace q216 := eq_true q216
        go_wp2_with (first | ((with_reducible refine gate_dst (N := 9) rfl ?_); refine box_event ?hg (N := 9) ?hd (cs := #[.int .i64 0, .slice none 0 0]) (t := 24) ?hr ?_; (case hd => rfl); (case hg => rfl); (case hr => first | (go_simp; done) | (go_simp; rfl)); intro gb217 hg w13 hbox hb; have n0_ := Ai0.mk (kb1 (g := gb214) (o := .cells #[.int .i64 a0_0, .int .i64 a0_1, .slice A0_2 l0_2.length c0_2] 44 (0, 0)) (kk_ BK214.out) hb); have n1_ := Ai0.mk (bt1 bl_ hb); have n2_ := Ai0.mk (hbox); have n3_ := Ai0.mk ((by rw [hg]; exact (bz1 bl_) : w.heap.size ≤ gb217)); have n4_ := Ai0.mk ((by rw [hg]; exact (bz1 bl_) : w.heap.size ≤ gb217)); have n5_ := Ai0.mk ((by rw [hg]; exact Nat.ne_of_lt (blk_lt (g := gb214) (o := .cells #[.int .i64 a0_0, .int .i64 a0_1, .slice A0_2 l0_2.length c0_2] 44 (0, 0)) (kk_ BK214.out)) : gb214 ≠ gb217)); have n6_ := Ai0.mk ((by rw [hg]; exact Nat.ne_of_gt (blk_lt (g := gb214) (o := .cells #[.int .i64 a0_0, .int .i64 a0_1, .slice A0_2 l0_2.length c0_2] 44 (0, 0)) (kk_ BK214.out)) : gb217 ≠ gb214)); clear BK214; clear HB; have BK214 := n0_; have HB := n1_; have BK217 := n2_; have GW217 := n3_; have GE217 := n4_; have NB214_217 := n5_; have NB217_214 := n6_; clear n0_ n1_ n2_ n3_ n4_ n5_ n6_; clear hb hbox hg; have hnb14 := NB217_214.out; have hnc14 := NB214_217.out; have hcz15_0 : w13.cell? ⟨gb217, 0, none⟩ = some (.int .i64 0) := (kc1 BK217.out 0).trans rfl; have hcz15_1 : w13.cell? ⟨gb217, 1, none⟩ = some (.slice none 0 0) := (kc1 BK217.out 1).trans rfl; have hfz15_0 := kf1 BK217.out 0; have hfz15_1 := kf1 BK217.out 1) | ((with_reducible refine gate_callee (f := 87) rfl ?_); refine goesL_ (some 26) rfl rfl Try.func87 (by kernel_rfl) rfl #[.pointer (some ⟨gG, 0, none⟩), .agg #[.int .i64 ((rd_T24 l1 x20_1).f0), .slice A216_1 ((rd_T24 l1 x20_1).f1).length c216_1]] rfl (by (try simp only [List.map_toArray, List.map_cons, List.map_nil]); first | done | rfl | (simp only [List.length_drop, List.length_take]; rfl)) ?_; (refine (matrix_check.calls k1 a0_0 a0_1 AS2 cS2 sm q AS4 cS4 sx AS5 cS5 sl ((rd_T24 l1 x20_1).f0) A216_1 c216_1 ((rd_T24 l1 x20_1).f1) t218 gG _ ?side1 ?side2 ?sideG A11.out).mono ?_); (case sideG => exact kb1 HGG.out bl_); (case side1 => exact Kd.C_below HR216_1.out bl_); (case side2 => exact HC216_1.out); rintro e w16 ⟨rfl, hb⟩; refine ⟨_, rfl, ?_⟩; have n0_ := Ai0.mk (kb1 (g := gb214) (o := .cells #[.int .i64 a0_0, .int .i64 a0_1, .slice A0_2 l0_2.length c0_2] 44 (0, 0)) (by (with_reducible repeat (first | refine kn1 ?_ _ | refine kd1 ?_ | refine ka1 ?_ _)); refine blk_far ?_ NB214_217.out _; (with_reducible repeat (first | refine kn1 ?_ _ | refine kd1 ?_ | refine ka1 ?_ _)); refine blk_far ?_ NB214_217.out _; (with_reducible repeat (first | refine kn1 ?_ _ | refine kd1 ?_ | refine ka1 ?_ _)); exact BK214.out) hb); have n1_ := Ai0.mk (kb1 (g := gb217) (o := .cells #[.int .i64 ((rd_T24 l1 x20_1).f0), .slice A216_1 ((rd_T24 l1 x20_1).f1).length c216_1] 24 (0, 0)) (by (with_reducible repeat (first | refine kn1 ?_ _ | refine kd1 ?_ | refine ka1 ?_ _)); refine blk_put (cs := #[.int .i64 ((rd_T24 l1 x20_1).f0), .slice none 0 0]) ?_ 1 _ rfl; (with_reducible repeat (first | refine kn1 ?_ _ | refine kd1 ?_ | refine ka1 ?_ _)); refine blk_put (cs := #[.int .i64 0, .slice none 0 0]) ?_ 0 _ rfl; (with_reducible repeat (first | refine kn1 ?_ _ | refine kd1 ?_ | refine ka1 ?_ _)); exact BK217.out) hb); have n2_ := Ai0.mk (bt1 bl_ hb); clear BK214; clear BK217; clear HB; have BK214 := n0_; have BK217 := n1_; have HB := n2_; clear n0_ n1_ n2_; (try clear hb); (try clear hb2); (try clear hk); (try clear hi)))
       ·go_ret2
        exact ⟨⟨_, rfl⟩, by refine below_tr HBW.out ?_; repeat (first | (with_reducible first | exact HB.out | apply ba1 | apply pbN | apply bw1 | refine bs1 ?_ GE214.out | refine bs1 ?_ GE217.out) | exact HB.out)⟩
       ·go_roundg k1
        case measure => have := HK1.out; omega
        case rel => exact ⟨(wrap64 (x20_1 + 1)), rf_, H', ⟨by have := HK1.out; omega⟩, ⟨kk_ BK214.out⟩, ⟨bl_⟩⟩
      ·rw [if_neg c10] at H;exact absurd H (by simp)
     ·rw [if_neg c9] at H;exact absurd H (by simp)
    ·rw [if_neg c8] at H;have c8b0 : decide (x20_1 < (l1.length : Int)) = false := decide_eq_false c8;clear c8;simp only [Option.some.injEq, Prod.mk.injEq] at H;obtain ⟨rfl, rfl⟩ := H
     go_wp2
     go_ret2
     exact ⟨⟨_, rfl⟩, by refine below_tr HBW.out ?_; repeat (first | (with_reducible first | exact HB.out | apply ba1 | apply pbN | apply bw1 | refine bs1 ?_ GE214.out) | exact HB.out)⟩
 ·rw [if_neg c4] at H;exact absurd H (by simp)
def matrix_Check.f (k : Nat) (a0_0 : Int) (a0_1 : Int) (l0_2 : List Int) (a1_0 : Int) (l1_1 : List (List Int)) : Option (Int) := (matrix_open.f k a0_0 a0_1 l0_2 (([(⟨a1_0, l1_1⟩ : S24)] : List (S24)))).bind fun bt224 => (some bt224.2)
theorem matrix_Check.mono : ∀ a0 a1 a2 a3 a4 k, LeO (matrix_Check.f k a0 a1 a2 a3 a4) (matrix_Check.f (k + 1) a0 a1 a2 a3 a4) := by
 intro a0 a1 a2 a3 a4 k;unfold matrix_Check.f
 repeat' first
   | (with_reducible exact matrix_open.mono _ _ _ _ _)
   | (with_reducible exact LeO.refl _)
   | (with_reducible exact LeO.none _)
   | (with_reducible refine LeO.ite ?_ ?_)
   | (with_reducible refine LeO.bind ?_ (fun _ => ?_))
   | exact matrix_open.mono _ _ _ _ _
   | exact LeO.none _
   | refine LeO.ite ?_ ?_
   | refine LeO.bind ?_ (fun _ => ?_)
set_option maxHeartbeats 8000000 in
set_option maxRecDepth 100000 in
theorem matrix_Check.calls_V (k : Nat) (a0_0 : Int) (a0_1 : Int) (A0_2 : Option Addr) (c0_2 : Nat) (l0_2 : List Int) (a1_0 : Int) (P1_1_ : Nat → Prop) (A1_1 : Option Addr) (c1_1 : Nat) (l1_1 : List (List Int)) (r : Int) (w : World) (hr0_2 : Kd.C (Kd.int .i64) w A0_2 l0_2.length l0_2) (hc0_2 : l0_2.length ≤ c0_2) (hs1_1 : Kd.V (Kd.slice 3 (Kd.int .i64)) 25 w w.heap.size (fun k_ => P1_1_ k_) (.slice A1_1 l1_1.length c1_1) l1_1) (h : matrix_Check.f k a0_0 a0_1 l0_2 a1_0 l1_1 = some r) :
  Calls Try.prog 67 #[.agg #[.int .i64 a0_0, .int .i64 a0_1, .slice A0_2 l0_2.length c0_2], .agg #[.int .i64 a1_0, .slice A1_1 l1_1.length c1_1]] w fun e w' => e = .returned (.int .i64 r) ∧ Below w.heap.size w w' := by
 have hu44 := Try.underlying44;have hu24 := Try.underlying24;have HR0_2 := Ai0.mk hr0_2;have HC0_2 := Ai0.mk hc0_2;clear hr0_2 hc0_2;have HO1_1 := Ai0.mk (show Kd.V (Kd.slice 3 (Kd.int .i64)) 25 w w.heap.size (fun k_ => (P1_1_ k_ ∨ w.heap.size ≤ k_)) (.slice A1_1 l1_1.length c1_1) l1_1 from Kd.V_mono hs1_1 (fun k_ hk => .inl hk));have HB := Ai0.mk (Below.refl w.heap.size w);have H : ((matrix_open.f k a0_0 a0_1 l0_2 (([(⟨a1_0, l1_1⟩ : S24)] : List (S24)))).bind fun bt224 => (some bt224.2)) = some r := h;clear h;obtain ⟨y221, hy221⟩ : ∃ y_ : List (S24), y_ = (([(⟨a1_0, l1_1⟩ : S24)] : List (S24))) := ⟨_, rfl⟩
 replace H : ((matrix_open.f k a0_0 a0_1 l0_2 y221).bind fun bt224 => (some bt224.2)) = some r := by first | (rw [hy221]; with_reducible exact H) | (have H2_ := (Option.bind_some _ _).symm.trans H; rw [hy221]; with_reducible exact H2_) | (have H2_ := (Option.bind_some _ _).symm.trans H; with_reducible exact H2_) | with_reducible exact H | (rw [hy221]; exact H) | exact H
 have Ny221 := Ai0.mk hy221;clear hy221;replace H := Option.bind_eq_some_iff.mp H;obtain ⟨⟨t224, t225⟩, A30, H⟩ := H;replace H : (some t225) = some r := H;have A3 := Ai0.mk A30;clear A30;obtain rfl := Option.some.inj H;go_enter Try.func67, Try.ntmps67
 go_wp2_with (first | ((with_reducible refine gate_dst (N := 2) rfl ?_); refine box_event ?hg (N := 2) ?hd (cs := #[.int .i64 a0_0, .int .i64 a0_1, .slice A0_2 l0_2.length c0_2]) (t := 44) ?hr ?_; (case hd => rfl); (case hg => rfl); (case hr => first | (go_simp; done) | (go_simp; rfl)); intro gb219 hg w4 hbox hb; have n0_ := Ai0.mk (Kd.V_below (Kd.V_elderB (by (with_reducible repeat (first | apply Kd.V_alloc | apply Kd.V_drewN | apply Kd.V_drew)); exact HO1_1.out) gb219 (Nat.le_of_eq hg.symm)) hb); have n1_ := Ai0.mk (bt1 bl_ hb); have n2_ := Ai0.mk (hbox); have n3_ := Ai0.mk ((by rw [hg]; exact (bz1 bl_) : w.heap.size ≤ gb219)); have n4_ := Ai0.mk ((by rw [hg]; exact (bz1 bl_) : w.heap.size ≤ gb219)); clear HO1_1; clear HB; have HO1_1 := n0_; have HB := n1_; have BK219 := n2_; have GW219 := n3_; have GE219 := n4_; clear n0_ n1_ n2_ n3_ n4_; clear hb hbox hg) | ((with_reducible refine gate_dst (N := 3) rfl ?_); refine box_event ?hg (N := 3) ?hd (cs := #[.int .i64 a1_0, .slice A1_1 l1_1.length c1_1]) (t := 24) ?hr ?_; (case hd => rfl); (case hg => rfl); (case hr => first | (go_simp; done) | (go_simp; rfl)); intro gb220 hg w5 hbox hb; have n0_ := Ai0.mk (Kd.V_below (Kd.V_elderB (by (with_reducible repeat (first | apply Kd.V_alloc | apply Kd.V_drewN | apply Kd.V_drew)); exact HO1_1.out) gb220 (Nat.le_of_eq hg.symm)) hb); have n1_ := Ai0.mk (kb1 (g := gb219) (o := .cells #[.int .i64 a0_0, .int .i64 a0_1, .slice A0_2 l0_2.length c0_2] 44 (0, 0)) (kk_ BK219.out) hb); have n2_ := Ai0.mk (bt1 bl_ hb); have n3_ := Ai0.mk (hbox); have n4_ := Ai0.mk ((by rw [hg]; exact (bz1 bl_) : w.heap.size ≤ gb220)); have n5_ := Ai0.mk ((by rw [hg]; exact (bz1 bl_) : w.heap.size ≤ gb220)); have n6_ := Ai0.mk ((by rw [hg]; exact Nat.ne_of_lt (blk_lt (g := gb219) (o := .cells #[.int .i64 a0_0, .int .i64 a0_1, .slice A0_2 l0_2.length c0_2] 44 (0, 0)) (kk_ BK219.out)) : gb219 ≠ gb220)); have n7_ := Ai0.mk ((by rw [hg]; exact Nat.ne_of_gt (blk_lt (g := gb219) (o := .cells #[.int .i64 a0_0, .int .i64 a0_1, .slice A0_2 l0_2.length c0_2] 44 (0, 0)) (kk_ BK219.out)) : gb220 ≠ gb219)); clear HO1_1; clear BK219; clear HB; have HO1_1 := n0_; have BK219 := n1_; have HB := n2_; have BK220 := n3_; have GW220 := n4_; have GE220 := n5_; have NB219_220 := n6_; have NB220_219 := n7_; clear n0_ n1_ n2_ n3_ n4_ n5_ n6_ n7_; clear hb hbox hg; have hnb6 := NB219_220.out; have hnc6 := NB220_219.out; have hcz7_0 : w5.cell? ⟨gb219, 0, none⟩ = some (.int .i64 a0_0) := (kc1 BK219.out 0).trans rfl; have hcz7_1 : w5.cell? ⟨gb219, 1, none⟩ = some (.int .i64 a0_1) := (kc1 BK219.out 1).trans rfl; have hcz7_2 : w5.cell? ⟨gb219, 2, none⟩ = some (.slice A0_2 l0_2.length c0_2) := (kc1 BK219.out 2).trans rfl; have hfz7_0 := kf1 BK219.out 0; have hfz7_1 := kf1 BK219.out 1; have hfz7_2 := kf1 BK219.out 2; have hcz8_0 : w5.cell? ⟨gb220, 0, none⟩ = some (.int .i64 a1_0) := (kc1 BK220.out 0).trans rfl; have hcz8_1 : w5.cell? ⟨gb220, 1, none⟩ = some (.slice A1_1 l1_1.length c1_1) := (kc1 BK220.out 1).trans rfl; have hfz8_0 := kf1 BK220.out 0; have hfz8_1 := kf1 BK220.out 1) | ((with_reducible refine gate_dst (N := 10) rfl ?_); refine Kd.N_lit k24 _ 24 ?hg (N' := 10) ?hd (xs := ([(⟨a1_0, l1_1⟩ : S24)] : List (S24))) (inner := [.int .i64 a1_0, .slice A1_1 l1_1.length c1_1]) (ok := (fun k_ => (P1_1_ k_ ∨ w.heap.size ≤ k_) ∧ k_ ≠ gb219 ∧ k_ ≠ gb220)) (okp := (fun k_ => (P1_1_ k_ ∨ w.heap.size ≤ k_) ∧ k_ ≠ gb219 ∧ k_ ≠ gb220)) ?hr ?hp (fun _ hk => hk) ((show ∀ k_, w5.heap.size ≤ k_ → (fun k_ => (P1_1_ k_ ∨ w.heap.size ≤ k_) ∧ k_ ≠ gb219 ∧ k_ ≠ gb220) k_ from fun k_ hk => ⟨(.inr (Nat.le_trans (bz1 bl_) hk)), Kd.freshB (g := gb219) (o := .cells #[.int .i64 a0_0, .int .i64 a0_1, .slice A0_2 l0_2.length c0_2] 44 (0, 0)) (kk_ BK219.out) k_ hk, Kd.freshB (g := gb220) (o := .cells #[.int .i64 a1_0, .slice A1_1 l1_1.length c1_1] 24 (0, 0)) (kk_ BK220.out) k_ hk⟩) _ (Nat.le_refl _)) (Below.refl _ _) (Nat.le_refl _) (by simp) ?_; (case hd => rfl); (case hg => rfl); (case hr => first | (go_simp; done) | (go_simp; rfl)); (case hp => exact (Reps.c2 (show Kd.FK k24 _ _ (⟨a1_0, l1_1⟩ : S24) [.int .i64 a1_0, .slice A1_1 l1_1.length c1_1] from (k24_mkF _ _ (⟨a1_0, l1_1⟩ : S24) (Kd.V_reads' (Kd.V_mono (ok' := (fun k_ => (P1_1_ k_ ∨ w.heap.size ≤ k_) ∧ k_ ≠ gb219 ∧ k_ ≠ gb220)) (HO1_1.out) (fun k_ hk => ⟨hk.1.1, ⟨hk.1.2, hk.2⟩⟩))).2.1 (Kd.V_F (Kd.V_mono (ok' := (fun k_ => (P1_1_ k_ ∨ w.heap.size ≤ k_) ∧ k_ ≠ gb219 ∧ k_ ≠ gb220)) (HO1_1.out) (fun k_ hk => ⟨hk.1.1, ⟨hk.1.2, hk.2⟩⟩))))) (Reps.none _ _))); intro v222 w9 ho10 hb hg_ hnew_; clear hg_ hnew_; (first | rw [← Ny221.out] at ho10 | (simp only [Int.reduceToNat] at ho10; rw [← Ny221.out] at ho10)); have n0_ := Ai0.mk (Kd.V_elder' (by (with_reducible repeat (first | apply Kd.V_alloc | apply Kd.V_drewN | apply Kd.V_drew)); exact HO1_1.out) (Kd.N_base ho10) hb); have n1_ := Ai0.mk (Kd.N_lower ho10 (bz1 bl_)); have n2_ := Ai0.mk (kb1 (g := gb219) (o := .cells #[.int .i64 a0_0, .int .i64 a0_1, .slice A0_2 l0_2.length c0_2] 44 (0, 0)) (kk_ BK219.out) hb); have n3_ := Ai0.mk (kb1 (g := gb220) (o := .cells #[.int .i64 a1_0, .slice A1_1 l1_1.length c1_1] 24 (0, 0)) (kk_ BK220.out) hb); have n4_ := Ai0.mk (bt1 bl_ hb); clear HO1_1; clear BK219; clear BK220; clear HB; have HO1_1 := n0_; have HO223 := n1_; have BK219 := n2_; have BK220 := n3_; have HB := n4_; clear n0_ n1_ n2_ n3_ n4_; clear hb ho10; obtain ⟨Ao11, co11, eo11⟩ := Kd.N_slice HO223.out; subst eo11) | ((with_reducible refine gate_callee (f := 79) rfl ?_); refine goesL_ (some 11) rfl rfl Try.func79 (by kernel_rfl) rfl #[.agg #[.int .i64 a0_0, .int .i64 a0_1, .slice A0_2 l0_2.length c0_2], .slice Ao11 y221.length co11] rfl (by (try simp only [List.map_toArray, List.map_cons, List.map_nil]); first | done | rfl | (simp only [List.length_drop, List.length_take]; rfl)) ?_; (with_reducible refine (matrix_open.calls k a0_0 a0_1 _ _ l0_2 _ _ y221 t224 t225 _ ?side1 ?side2 ?side3 ?side4 A3.out).mono ?_); (case side1 => exact kc_ HR0_2.out); (case side2 => exact HC0_2.out); (case side3 => repeat (first | exact (Kd.N_reads' HO223.out).2.2 | (with_reducible refine Kd.C_alloc ?_ _) | (with_reducible refine Kd.C_drewN ?_ _) | (with_reducible refine Kd.C_drew ?_))); (case side4 => exact (Kd.N_reads' HO223.out).2.1); rintro e w12 ⟨⟨p_, rfl⟩, hb⟩; refine ⟨_, rfl, ?_⟩; have n0_ := Ai0.mk (Kd.V_below (by (with_reducible repeat (first | apply Kd.V_alloc | apply Kd.V_drewN | apply Kd.V_drew)); exact HO1_1.out) hb); have n1_ := Ai0.mk (Kd.N_below (by (with_reducible repeat (first | apply Kd.N_alloc | apply Kd.N_drewN | apply Kd.N_drew)); exact HO223.out) hb); have n2_ := Ai0.mk (kb1 (g := gb219) (o := .cells #[.int .i64 a0_0, .int .i64 a0_1, .slice A0_2 l0_2.length c0_2] 44 (0, 0)) (kk_ BK219.out) hb); have n3_ := Ai0.mk (kb1 (g := gb220) (o := .cells #[.int .i64 a1_0, .slice A1_1 l1_1.length c1_1] 24 (0, 0)) (kk_ BK220.out) hb); have n4_ := Ai0.mk (bt1 bl_ hb); clear HO1_1; clear HO223; clear BK219; clear BK220; clear HB; have HO1_1 := n0_; have HO223 := n1_; have BK219 := n2_; have BK220 := n3_; have HB := n4_; clear n0_ n1_ n2_ n3_ n4_; (try clear hb); (try clear hb2); (try clear hk); (try clear hi)))
 go_ret
 exact ⟨by first | rfl | (simp [eW0, eW1] <;> rfl) | (simp [*, eW0, eW1] <;> rfl), bl_⟩
theorem matrix_Check.calls (k : Nat) (a0_0 : Int) (a0_1 : Int) (A0_2 : Option Addr) (c0_2 : Nat) (l0_2 : List Int) (a1_0 : Int) (A1_1 : Option Addr) (c1_1 : Nat) (l1_1 : List (List Int)) (r : Int) (w : World) (hr0_2 : Kd.C (Kd.int .i64) w A0_2 l0_2.length l0_2) (hc0_2 : l0_2.length ≤ c0_2) (hr1_1 : Kd.C (Kd.slice 3 (Kd.int .i64)) w A1_1 l1_1.length l1_1) (hc1_1 : l1_1.length ≤ c1_1) (h : matrix_Check.f k a0_0 a0_1 l0_2 a1_0 l1_1 = some r) :
  Calls Try.prog 67 #[.agg #[.int .i64 a0_0, .int .i64 a0_1, .slice A0_2 l0_2.length c0_2], .agg #[.int .i64 a1_0, .slice A1_1 l1_1.length c1_1]] w fun e w' => e = .returned (.int .i64 r) ∧ Below w.heap.size w w' :=
 matrix_Check.calls_V k a0_0 a0_1 A0_2 c0_2 l0_2 a1_0 (fun _ => True) A1_1 c1_1 l1_1 r w hr0_2 hc0_2 (Kd.V_mk hc1_1 (fun W' hm => Kd.Heap.C (Kd.heap_slice 3 (Kd.heap_int .i64)) (fun k hk => hm k trivial hk) hr1_1)) h
end Go.Proofs.Ytmclalniilkjiaa.Q
