-- Written by a program of this work over the kit's printer; Lean checks it.
import Derived.Test.YtekojgilikoegaaQx0
import Derived.Test.YtekojgilikoegaaQx3
namespace Go.Proofs.Ytekojgilikoegaa.Q
open Go.RowKit Go.Proofs.YtekojgilikoegaaW.PrintWords Go.Proofs.YtekojgilikoegaaW.PrintLast Go.Proofs.YtekojgilikoegaaW.PrintMore
attribute [local go_sem] max2_int min2_int max_two min_two max_three min_three max_four min_four   -- for this text's walks alone
set_option linter.unusedVariables false
set_option linter.unusedSimpArgs false

/-! ### codewrightref11_Subsets: function 18 -/
mutual
def codewrightref11_Subsets.j0 : Nat → Int → Int → Int → Bool → Option ((List (List Int)) × Int)
  | 0, _, _, _, _ => none
  | k + 1, x0, x1, x6, x29 => if x29 = true then (some (([] : List (List Int)), 6)) else (if x6 > 65536 then (some (([] : List (List Int)), 8)) else (if 0 ≤ x1 then (if (x1 : Int).toNat ≤ 35184372088832 then (codewrightref11_Subsets.l0 k x0 x1 x6 (([] : List (List Int))) (List.replicate (x1 : Int).toNat 0) 0) else (none)) else (none)))
def codewrightref11_Subsets.l0 : Nat → Int → Int → Int → List (List Int) → List Int → Int → Option ((List (List Int)) × Int)
  | 0, _, _, _, _, _, _ => none
  | k + 1, x0, x1, x6, x8, x9, x10 => if x10 < x1 then (if 0 ≤ x10 then (if x10 < (x9.length : Int) then (codewrightref11_Subsets.l0 k x0 x1 x6 x8 (x9.set (x10 : Int).toNat x10) (wrap64 (x10 + 1))) else (none)) else (none)) else (codewrightref11_Subsets.l1 k x0 x1 x6 x8 x9 0)
def codewrightref11_Subsets.l1 : Nat → Int → Int → Int → List (List Int) → List Int → Int → Option ((List (List Int)) × Int)
  | 0, _, _, _, _, _, _ => none
  | k + 1, x0, x1, x6, x8, x9, x11 => if x11 < x6 then ((some (([] : List Int) : List Int)).bind fun y225 => (if y225.length + x9.length < 17592186044416 then (if x8.length < 5864062014805 then (codewrightref11_Subsets.l2 k x0 x1 x6 (x8 ++ [(y225 ++ x9)]) x9 x11 (wrap64 (x1 - 1))) else (none)) else (none))) else (some (x8, 0))
def codewrightref11_Subsets.j4 : Nat → Int → Int → Int → List (List Int) → List Int → Int → Int → Option ((List (List Int)) × Int)
  | 0, _, _, _, _, _, _, _ => none
  | k + 1, x0, x1, x6, x8, x9, x11, x12 => if x12 ≥ 0 then (if 0 ≤ x12 then (if x12 < (x9.length : Int) then (codewrightref11_Subsets.l3 k x0 x1 x6 x8 (x9.set (x12 : Int).toNat (wrap64 ((rd x9 x12) + 1))) x11 (wrap64 (x12 + 1))) else (none)) else (none)) else (codewrightref11_Subsets.l1 k x0 x1 x6 x8 x9 (wrap64 (x11 + 1)))
def codewrightref11_Subsets.l3 : Nat → Int → Int → Int → List (List Int) → List Int → Int → Int → Option ((List (List Int)) × Int)
  | 0, _, _, _, _, _, _, _ => none
  | k + 1, x0, x1, x6, x8, x9, x11, x13 => if x13 < x1 then (if 0 ≤ (wrap64 (x13 - 1)) then (if (wrap64 (x13 - 1)) < (x9.length : Int) then (if 0 ≤ x13 then (if x13 < (x9.length : Int) then (codewrightref11_Subsets.l3 k x0 x1 x6 x8 (x9.set (x13 : Int).toNat (wrap64 ((rd x9 (wrap64 (x13 - 1))) + 1))) x11 (wrap64 (x13 + 1))) else (none)) else (none)) else (none)) else (none)) else (codewrightref11_Subsets.l1 k x0 x1 x6 x8 x9 (wrap64 (x11 + 1)))
def codewrightref11_Subsets.l2 : Nat → Int → Int → Int → List (List Int) → List Int → Int → Int → Option ((List (List Int)) × Int)
  | 0, _, _, _, _, _, _, _ => none
  | k + 1, x0, x1, x6, x8, x9, x11, x12 => if x12 ≥ 0 then (if 0 ≤ x12 then (if x12 < (x9.length : Int) then (if (rd x9 x12) = (wrap64 ((wrap64 (x0 - x1)) + x12)) then (codewrightref11_Subsets.l2 k x0 x1 x6 x8 x9 x11 (wrap64 (x12 - 1))) else (codewrightref11_Subsets.j4 k x0 x1 x6 x8 x9 x11 x12)) else (none)) else (none)) else (codewrightref11_Subsets.j4 k x0 x1 x6 x8 x9 x11 x12)
end
def codewrightref11_Subsets.f (k : Nat) (a0 : Int) (a1 : Int) : Option ((List (List Int)) × Int) := (codewrightref11_Binomial.f k a0 a1).bind fun bt216 => (if bt216.2 = 0 then (if a1 < 0 then (codewrightref11_Subsets.j0 k a0 a1 bt216.1 true) else (codewrightref11_Subsets.j0 k a0 a1 bt216.1 (decide (a1 > a0)))) else (some (([] : List (List Int)), bt216.2)))
theorem codewrightref11_Subsets.mono_l : ∀ k, (∀ y0 y1 y2 y3, LeO (codewrightref11_Subsets.j0 k y0 y1 y2 y3) (codewrightref11_Subsets.j0 (k + 1) y0 y1 y2 y3)) ∧ (∀ y0 y1 y2 y3 y4 y5, LeO (codewrightref11_Subsets.l0 k y0 y1 y2 y3 y4 y5) (codewrightref11_Subsets.l0 (k + 1) y0 y1 y2 y3 y4 y5)) ∧ (∀ y0 y1 y2 y3 y4 y5, LeO (codewrightref11_Subsets.l1 k y0 y1 y2 y3 y4 y5) (codewrightref11_Subsets.l1 (k + 1) y0 y1 y2 y3 y4 y5)) ∧ (∀ y0 y1 y2 y3 y4 y5 y6, LeO (codewrightref11_Subsets.j4 k y0 y1 y2 y3 y4 y5 y6) (codewrightref11_Subsets.j4 (k + 1) y0 y1 y2 y3 y4 y5 y6)) ∧ (∀ y0 y1 y2 y3 y4 y5 y6, LeO (codewrightref11_Subsets.l3 k y0 y1 y2 y3 y4 y5 y6) (codewrightref11_Subsets.l3 (k + 1) y0 y1 y2 y3 y4 y5 y6)) ∧ (∀ y0 y1 y2 y3 y4 y5 y6, LeO (codewrightref11_Subsets.l2 k y0 y1 y2 y3 y4 y5 y6) (codewrightref11_Subsets.l2 (k + 1) y0 y1 y2 y3 y4 y5 y6))
  | 0 => ⟨fun _ _ _ _ r h => by simp [codewrightref11_Subsets.j0] at h, fun _ _ _ _ _ _ r h => by simp [codewrightref11_Subsets.l0] at h, fun _ _ _ _ _ _ r h => by simp [codewrightref11_Subsets.l1] at h, fun _ _ _ _ _ _ _ r h => by simp [codewrightref11_Subsets.j4] at h, fun _ _ _ _ _ _ _ r h => by simp [codewrightref11_Subsets.l3] at h, fun _ _ _ _ _ _ _ r h => by simp [codewrightref11_Subsets.l2] at h⟩
  | k + 1 => by
    obtain ⟨ih0, ih1, ih2, ih3, ih4, ih5⟩ := codewrightref11_Subsets.mono_l k
    refine ⟨?_, ?_, ?_, ?_, ?_, ?_⟩
    · intro y0 y1 y2 y3
      unfold codewrightref11_Subsets.j0
      repeat' first
      | (with_reducible exact ih0 _ _ _ _)
      | (with_reducible exact ih1 _ _ _ _ _ _)
      | (with_reducible exact ih2 _ _ _ _ _ _)
      | (with_reducible exact ih3 _ _ _ _ _ _ _)
      | (with_reducible exact ih4 _ _ _ _ _ _ _)
      | (with_reducible exact ih5 _ _ _ _ _ _ _)
      | (with_reducible exact codewrightref11_Binomial.mono _ _ _)
      | (with_reducible exact LeO.refl _)
      | (with_reducible exact LeO.none _)
      | (with_reducible refine LeO.ite ?_ ?_)
      | (with_reducible refine LeO.bind ?_ (fun _ => ?_))
      | exact ih0 _ _ _ _
      | exact ih1 _ _ _ _ _ _
      | exact ih2 _ _ _ _ _ _
      | exact ih3 _ _ _ _ _ _ _
      | exact ih4 _ _ _ _ _ _ _
      | exact ih5 _ _ _ _ _ _ _
      | exact codewrightref11_Binomial.mono _ _ _
      | exact LeO.none _
      | refine LeO.ite ?_ ?_
      | refine LeO.bind ?_ (fun _ => ?_)
    · intro y0 y1 y2 y3 y4 y5
      unfold codewrightref11_Subsets.l0
      repeat' first
      | (with_reducible exact ih0 _ _ _ _)
      | (with_reducible exact ih1 _ _ _ _ _ _)
      | (with_reducible exact ih2 _ _ _ _ _ _)
      | (with_reducible exact ih3 _ _ _ _ _ _ _)
      | (with_reducible exact ih4 _ _ _ _ _ _ _)
      | (with_reducible exact ih5 _ _ _ _ _ _ _)
      | (with_reducible exact codewrightref11_Binomial.mono _ _ _)
      | (with_reducible exact LeO.refl _)
      | (with_reducible exact LeO.none _)
      | (with_reducible refine LeO.ite ?_ ?_)
      | (with_reducible refine LeO.bind ?_ (fun _ => ?_))
      | exact ih0 _ _ _ _
      | exact ih1 _ _ _ _ _ _
      | exact ih2 _ _ _ _ _ _
      | exact ih3 _ _ _ _ _ _ _
      | exact ih4 _ _ _ _ _ _ _
      | exact ih5 _ _ _ _ _ _ _
      | exact codewrightref11_Binomial.mono _ _ _
      | exact LeO.none _
      | refine LeO.ite ?_ ?_
      | refine LeO.bind ?_ (fun _ => ?_)
    · intro y0 y1 y2 y3 y4 y5
      unfold codewrightref11_Subsets.l1
      repeat' first
      | (with_reducible exact ih0 _ _ _ _)
      | (with_reducible exact ih1 _ _ _ _ _ _)
      | (with_reducible exact ih2 _ _ _ _ _ _)
      | (with_reducible exact ih3 _ _ _ _ _ _ _)
      | (with_reducible exact ih4 _ _ _ _ _ _ _)
      | (with_reducible exact ih5 _ _ _ _ _ _ _)
      | (with_reducible exact codewrightref11_Binomial.mono _ _ _)
      | (with_reducible exact LeO.refl _)
      | (with_reducible exact LeO.none _)
      | (with_reducible refine LeO.ite ?_ ?_)
      | (with_reducible refine LeO.bind ?_ (fun _ => ?_))
      | exact ih0 _ _ _ _
      | exact ih1 _ _ _ _ _ _
      | exact ih2 _ _ _ _ _ _
      | exact ih3 _ _ _ _ _ _ _
      | exact ih4 _ _ _ _ _ _ _
      | exact ih5 _ _ _ _ _ _ _
      | exact codewrightref11_Binomial.mono _ _ _
      | exact LeO.none _
      | refine LeO.ite ?_ ?_
      | refine LeO.bind ?_ (fun _ => ?_)
    · intro y0 y1 y2 y3 y4 y5 y6
      unfold codewrightref11_Subsets.j4
      repeat' first
      | (with_reducible exact ih0 _ _ _ _)
      | (with_reducible exact ih1 _ _ _ _ _ _)
      | (with_reducible exact ih2 _ _ _ _ _ _)
      | (with_reducible exact ih3 _ _ _ _ _ _ _)
      | (with_reducible exact ih4 _ _ _ _ _ _ _)
      | (with_reducible exact ih5 _ _ _ _ _ _ _)
      | (with_reducible exact codewrightref11_Binomial.mono _ _ _)
      | (with_reducible exact LeO.refl _)
      | (with_reducible exact LeO.none _)
      | (with_reducible refine LeO.ite ?_ ?_)
      | (with_reducible refine LeO.bind ?_ (fun _ => ?_))
      | exact ih0 _ _ _ _
      | exact ih1 _ _ _ _ _ _
      | exact ih2 _ _ _ _ _ _
      | exact ih3 _ _ _ _ _ _ _
      | exact ih4 _ _ _ _ _ _ _
      | exact ih5 _ _ _ _ _ _ _
      | exact codewrightref11_Binomial.mono _ _ _
      | exact LeO.none _
      | refine LeO.ite ?_ ?_
      | refine LeO.bind ?_ (fun _ => ?_)
    · intro y0 y1 y2 y3 y4 y5 y6
      unfold codewrightref11_Subsets.l3
      repeat' first
      | (with_reducible exact ih0 _ _ _ _)
      | (with_reducible exact ih1 _ _ _ _ _ _)
      | (with_reducible exact ih2 _ _ _ _ _ _)
      | (with_reducible exact ih3 _ _ _ _ _ _ _)
      | (with_reducible exact ih4 _ _ _ _ _ _ _)
      | (with_reducible exact ih5 _ _ _ _ _ _ _)
      | (with_reducible exact codewrightref11_Binomial.mono _ _ _)
      | (with_reducible exact LeO.refl _)
      | (with_reducible exact LeO.none _)
      | (with_reducible refine LeO.ite ?_ ?_)
      | (with_reducible refine LeO.bind ?_ (fun _ => ?_))
      | exact ih0 _ _ _ _
      | exact ih1 _ _ _ _ _ _
      | exact ih2 _ _ _ _ _ _
      | exact ih3 _ _ _ _ _ _ _
      | exact ih4 _ _ _ _ _ _ _
      | exact ih5 _ _ _ _ _ _ _
      | exact codewrightref11_Binomial.mono _ _ _
      | exact LeO.none _
      | refine LeO.ite ?_ ?_
      | refine LeO.bind ?_ (fun _ => ?_)
    · intro y0 y1 y2 y3 y4 y5 y6
      unfold codewrightref11_Subsets.l2
      repeat' first
      | (with_reducible exact ih0 _ _ _ _)
      | (with_reducible exact ih1 _ _ _ _ _ _)
      | (with_reducible exact ih2 _ _ _ _ _ _)
      | (with_reducible exact ih3 _ _ _ _ _ _ _)
      | (with_reducible exact ih4 _ _ _ _ _ _ _)
      | (with_reducible exact ih5 _ _ _ _ _ _ _)
      | (with_reducible exact codewrightref11_Binomial.mono _ _ _)
      | (with_reducible exact LeO.refl _)
      | (with_reducible exact LeO.none _)
      | (with_reducible refine LeO.ite ?_ ?_)
      | (with_reducible refine LeO.bind ?_ (fun _ => ?_))
      | exact ih0 _ _ _ _
      | exact ih1 _ _ _ _ _ _
      | exact ih2 _ _ _ _ _ _
      | exact ih3 _ _ _ _ _ _ _
      | exact ih4 _ _ _ _ _ _ _
      | exact ih5 _ _ _ _ _ _ _
      | exact codewrightref11_Binomial.mono _ _ _
      | exact LeO.none _
      | refine LeO.ite ?_ ?_
      | refine LeO.bind ?_ (fun _ => ?_)
theorem codewrightref11_Subsets.mono : ∀ a0 a1 k, LeO (codewrightref11_Subsets.f k a0 a1) (codewrightref11_Subsets.f (k + 1) a0 a1) := by
  intro a0 a1 k
  obtain ⟨ih0, ih1, ih2, ih3, ih4, ih5⟩ := codewrightref11_Subsets.mono_l k
  unfold codewrightref11_Subsets.f
  repeat' first
      | (with_reducible exact ih0 _ _ _ _)
      | (with_reducible exact ih1 _ _ _ _ _ _)
      | (with_reducible exact ih2 _ _ _ _ _ _)
      | (with_reducible exact ih3 _ _ _ _ _ _ _)
      | (with_reducible exact ih4 _ _ _ _ _ _ _)
      | (with_reducible exact ih5 _ _ _ _ _ _ _)
      | (with_reducible exact codewrightref11_Binomial.mono _ _ _)
      | (with_reducible exact LeO.refl _)
      | (with_reducible exact LeO.none _)
      | (with_reducible refine LeO.ite ?_ ?_)
      | (with_reducible refine LeO.bind ?_ (fun _ => ?_))
      | exact ih0 _ _ _ _
      | exact ih1 _ _ _ _ _ _
      | exact ih2 _ _ _ _ _ _
      | exact ih3 _ _ _ _ _ _ _
      | exact ih4 _ _ _ _ _ _ _
      | exact ih5 _ _ _ _ _ _ _
      | exact codewrightref11_Binomial.mono _ _ _
      | exact LeO.none _
      | refine LeO.ite ?_ ?_
      | refine LeO.bind ?_ (fun _ => ?_)
set_option maxHeartbeats 8000000 in
set_option maxRecDepth 100000 in
theorem codewrightref11_Subsets.calls (k : Nat) (a0 : Int) (a1 : Int) (r1 : List (List Int)) (r2 : Int) (w : World) (h : codewrightref11_Subsets.f k a0 a1 = some (r1, r2)) :
    Calls Try.prog 18 #[.int .i64 a0, .int .i64 a1] w fun e w' => ∃ v0_ : Value, e = .returned (.tuple #[v0_, .int .i64 r2]) ∧ Kd.S (Kd.slice 3 (Kd.int .i64)) 26 w' w.heap.size (fun _ => True) v0_ r1 ∧ Below w.heap.size w w' := by
  have HB := Aside0.mk (Below.refl w.heap.size w)
  have H : ((codewrightref11_Binomial.f k a0 a1).bind fun bt216 => (if bt216.2 = 0 then (if a1 < 0 then (codewrightref11_Subsets.j0 k a0 a1 bt216.1 true) else (codewrightref11_Subsets.j0 k a0 a1 bt216.1 (decide (a1 > a0)))) else (some (([] : List (List Int)), bt216.2)))) = some (r1, r2) := h
  clear h
  replace H := Option.bind_eq_some_iff.mp H
  obtain ⟨⟨t216, t217⟩, A30, H⟩ := H
  replace H : (if t217 = 0 then (if a1 < 0 then (codewrightref11_Subsets.j0 k a0 a1 t216 true) else (codewrightref11_Subsets.j0 k a0 a1 t216 (decide (a1 > a0)))) else (some (([] : List (List Int)), t217))) = some (r1, r2) := H
  have A3 := Aside0.mk A30
  clear A30
  by_cases c4 : t217 = 0
  · rw [if_pos c4] at H
    have c4b0 : (t217 == 0) = true := beq_iff_eq.mpr c4
    have c4b1 : (t217 != 0) = false := bne_eq_false_iff_eq.mpr c4
    clear c4
    have HC5 := Aside0.mk H
    clear H
    go_enter Try.func18, Try.ntmps18
    go_upto_region 4 with (first | ((with_reducible refine gate_callee (f := 9) rfl ?_); refine goesL_ (some 17) rfl rfl Try.func9 (by kernel_rfl) rfl #[.int .i64 a0, .int .i64 a1] rfl (by (try simp only [List.map_toArray, List.map_cons, List.map_nil]); first | done | rfl | (simp only [List.length_drop, List.length_take]; rfl)) ?_; (with_reducible refine (codewrightref11_Binomial.calls k a0 a1 t216 t217 _ A3.out).mono ?_); rintro e w6 ⟨rfl, hb⟩; refine ⟨_, rfl, ?_⟩; have n0_ := Aside0.mk (below_step (by repeat (first | (with_reducible first | exact HB.out | apply below_alloc | apply pw_below_drewN | apply below_drew1) | exact HB.out)) hb); clear HB; have HB := n0_; clear n0_; (try clear hb); (try clear hb2); (try clear hk); (try clear hi)))
    (try simp only [Act.put, List.setIfInBounds_toArray, List.set_cons_zero, List.set_cons_succ])
    go_cut [29] (fun v29 wc => ∃ (kq : Nat) (x29_4 : Bool), v29 = .bool x29_4 ∧ Aside0 (codewrightref11_Subsets.j0 kq a0 a1 t216 x29_4 = some (r1, r2)) ∧ Aside0 (kq ≤ k) ∧ Aside0 (Below w.heap.size w wc))
    case first =>
      have H := HC5.out
      clear HC5
      by_cases c7 : a1 < 0
      · rw [if_pos c7] at H
        have c7b0 : decide (a1 < 0) = true := decide_eq_true c7
        clear c7
        (first | rw [c7b0] | (simp only [i64_w, i32_w]; rw [c7b0]) | skip)
        have H' := Aside0.mk H
        clear H
        go_wp2
        go_meet
        case rel => exact ⟨_, (true), (by first | rfl | (simp; done) | (simp [*]; done)), H', ⟨by first | omega | exact Nat.le_refl _⟩, ⟨by repeat (first | (with_reducible first | exact HB.out | apply below_alloc | apply pw_below_drewN | apply below_drew1) | exact HB.out)⟩⟩
      · rw [if_neg c7] at H
        have c7b0 : decide (a1 < 0) = false := decide_eq_false c7
        clear c7
        (first | rw [c7b0] | (simp only [i64_w, i32_w]; rw [c7b0]) | skip)
        have H' := Aside0.mk H
        clear H
        go_wp2
        go_meet
        case rel => exact ⟨_, (decide (a1 > a0)), (by first | rfl | (simp; done) | (simp [*]; done)), H', ⟨by first | omega | exact Nat.le_refl _⟩, ⟨by repeat (first | (with_reducible first | exact HB.out | apply below_alloc | apply pw_below_drewN | apply below_drew1) | exact HB.out)⟩⟩
    case rest =>
      clear HC5
      try clear c1
      try clear p2
      try clear c4
      try clear c4b0
      try clear c4b1
      try clear c7
      try clear c7b0
      obtain ⟨kq, x29_4, rfl, HA, HJ4, HB⟩ := hcut
      cases kq with
      | zero => exact absurd HA.out (by simp [codewrightref11_Subsets.j0])
      | succ kj4 =>
        have H := HA.out
        clear HA
        simp only [codewrightref11_Subsets.j0] at H
        by_cases c8 : x29_4 = true
        · subst c8
          have H1 : (some (([] : List (List Int)), 6)) = some (r1, r2) := by rw [if_pos rfl] at H; exact H
          clear H
          have H := H1
          clear H1
          simp only [Option.some.injEq, Prod.mk.injEq] at H
          obtain ⟨rfl, rfl⟩ := H
          go_wp2
          go_ret2
          exact ⟨_, by first | rfl | (simp [errW_none, errW_some] <;> rfl) | (simp [*, errW_none, errW_some] <;> rfl), by first | exact Kd.S_nil _ _ _ _ _ | exact Kd.N_nil _ _ _ _ _ | exact Kd.V_nil _ _ _ _ _ | exact Kd.Q_nil _ _ _ _ _ | exact Kd.R_nil _ _ _ _ _, by repeat (first | (with_reducible first | exact HB.out | apply below_alloc | apply pw_below_drewN | apply below_drew1) | exact HB.out)⟩
        · replace c8 := Bool.eq_false_iff.mpr c8
          subst c8
          have H1 : (if t216 > 65536 then (some (([] : List (List Int)), 8)) else (if 0 ≤ a1 then (if (a1 : Int).toNat ≤ 35184372088832 then (codewrightref11_Subsets.l0 kj4 a0 a1 t216 (([] : List (List Int))) (List.replicate (a1 : Int).toNat 0) 0) else (none)) else (none))) = some (r1, r2) := by rw [if_neg (show ¬ (false = true) by decide)] at H; exact H
          clear H
          have H := H1
          clear H1
          by_cases c9 : t216 > 65536
          · rw [if_pos c9] at H
            have c9b0 : decide (65536 < t216) = true := decide_eq_true c9
            clear c9
            simp only [Option.some.injEq, Prod.mk.injEq] at H
            obtain ⟨rfl, rfl⟩ := H
            go_wp2
            go_ret2
            exact ⟨_, by first | rfl | (simp [errW_none, errW_some] <;> rfl) | (simp [*, errW_none, errW_some] <;> rfl), by first | exact Kd.S_nil _ _ _ _ _ | exact Kd.N_nil _ _ _ _ _ | exact Kd.V_nil _ _ _ _ _ | exact Kd.Q_nil _ _ _ _ _ | exact Kd.R_nil _ _ _ _ _, by repeat (first | (with_reducible first | exact HB.out | apply below_alloc | apply pw_below_drewN | apply below_drew1) | exact HB.out)⟩
          · rw [if_neg c9] at H
            have c9b0 : decide (65536 < t216) = false := decide_eq_false c9
            clear c9
            obtain ⟨y218, hy218⟩ : ∃ y_ : List (List Int), y_ = (([] : List (List Int))) := ⟨_, rfl⟩
            replace H : (if 0 ≤ a1 then (if (a1 : Int).toNat ≤ 35184372088832 then (codewrightref11_Subsets.l0 kj4 a0 a1 t216 y218 (List.replicate (a1 : Int).toNat 0) 0) else (none)) else (none)) = some (r1, r2) := by first | (rw [hy218]; with_reducible exact H) | (have H2_ := (Option.bind_some _ _).symm.trans H; rw [hy218]; with_reducible exact H2_) | (have H2_ := (Option.bind_some _ _).symm.trans H; with_reducible exact H2_) | with_reducible exact H | (rw [hy218]; exact H) | exact H
            have Ny218 := Aside0.mk hy218
            clear hy218
            by_cases c10 : 0 ≤ a1
            · rw [if_pos c10] at H
              have c10b0 := eq_true c10
              have c10b1 : decide (0 ≤ a1) = true := decide_eq_true c10
              clear c10
              by_cases c11 : (a1 : Int).toNat ≤ 35184372088832
              · rw [if_pos c11] at H
                have c11b0 := eq_true c11
                have c11b1 : decide ((a1 : Int).toNat ≤ 35184372088832) = true := decide_eq_true c11
                clear c11
                obtain ⟨y221, hy221⟩ : ∃ y_ : List Int, y_ = (List.replicate (a1 : Int).toNat 0) := ⟨_, rfl⟩
                replace H : (codewrightref11_Subsets.l0 kj4 a0 a1 t216 y218 y221 0) = some (r1, r2) := by first | (rw [hy221]; with_reducible exact H) | (have H2_ := (Option.bind_some _ _).symm.trans H; rw [hy221]; with_reducible exact H2_) | (have H2_ := (Option.bind_some _ _).symm.trans H; with_reducible exact H2_) | with_reducible exact H | (rw [hy221]; exact H) | exact H
                have Ny221 := Aside0.mk hy221
                clear hy221
                have H' := Aside0.mk H
                clear H
                go_wp2_with (first | ((with_reducible refine gate_dst (N := 32) rfl ?_); refine Kd.S_lit (Kd.slice 3 (Kd.int .i64)) _ 26 ?hg (N := 32) ?hd (xs := ([] : List (List Int))) (inner := []) (ok := fun _ => True) (okp := fun _ => True) ?hr ?hp (fun _ hk => hk) trivial (Below.refl _ _) (Nat.le_refl _) (by simp) ?_; (case hd => rfl); (case hg => rfl); (case hr => first | (go_simp; done) | (go_simp; rfl)); (case hp => exact (Reps.none _ _)); intro v219 w12 ho13 hb hg_ hnew_; clear hg_ hnew_; (first | rw [← Ny218.out] at ho13 | (simp only [Int.reduceToNat] at ho13; rw [← Ny218.out] at ho13)); have n0_ := Aside0.mk (Kd.S_lower ho13 (below_size (by repeat (first | (with_reducible first | exact HB.out | apply below_alloc | apply pw_below_drewN | apply below_drew1) | exact HB.out)))); have n1_ := Aside0.mk (below_step (by repeat (first | (with_reducible first | exact HB.out | apply below_alloc | apply pw_below_drewN | apply below_drew1) | exact HB.out)) hb); clear HB; have HO220 := n0_; have HB := n1_; clear n0_ n1_; clear hb ho13) | ((with_reducible refine gate_dst (N := 34) rfl ?_); refine Kd.R_make (Kd.int .i64) _ 3 rfl (N := 34) rfl 26 _ _ rfl a1 rfl rfl Try.underlying26 (.int .i64 0) 8 info3 rfl (by decide) (by omega) 0 (ok := fun _ => True) (okp := fun _ => True) rfl (fun _ hk => hk) trivial (of_decide_eq_true (by first | (with_reducible assumption) | assumption)) (Nat.le_trans (Nat.mul_le_mul_right _ (of_decide_eq_true (by first | (with_reducible assumption) | assumption) : a1.toNat ≤ 35184372088832)) (by omega)) (Below.refl _ _) (Nat.le_refl _) ?_; intro v222 w14 ho15 hb hg_ hnew_; clear hg_ hnew_; (first | rw [← Ny221.out] at ho15 | (simp only [Int.reduceToNat] at ho15; rw [← Ny221.out] at ho15)); have n0_ := Aside0.mk (Kd.S_elder' (by (with_reducible repeat (first | apply Kd.S_alloc | apply Kd.S_drewN | apply Kd.S_drew)); exact HO220.out) (Kd.R_base ho15) hb); have n1_ := Aside0.mk (Kd.R_lower ho15 (below_size (by repeat (first | (with_reducible first | exact HB.out | apply below_alloc | apply pw_below_drewN | apply below_drew1) | exact HB.out)))); have n2_ := Aside0.mk (below_step (by repeat (first | (with_reducible first | exact HB.out | apply below_alloc | apply pw_below_drewN | apply below_drew1) | exact HB.out)) hb); clear HO220; clear HB; have HO220 := n0_; have HO223 := n1_; have HB := n2_; clear n0_ n1_ n2_; clear hb ho15))
                go_loopg [10] kj4 (fun kq v10 w' => ∃ (x9_2 : List Int) (x10_2 : Int), v10 = .int .i64 x10_2 ∧ Aside0 (codewrightref11_Subsets.l0 kq a0 a1 t216 y218 x9_2 x10_2 = some (r1, r2)) ∧ Aside0 (kq ≤ kj4) ∧ Aside0 (Kd.S (Kd.slice 3 (Kd.int .i64)) 26 w' w.heap.size (fun k_ => some k_ ≠ (v222 : Value).ownBlock) v219 y218) ∧ Aside0 (Kd.R (Kd.int .i64) 3 w' w.heap.size (fun _ => True) v222 x9_2) ∧ Aside0 (Below w.heap.size w w'))
                case atStart => exact ⟨(y221), (0), (by first | rfl | (simp; done) | (simp [*]; done)), H', ⟨Nat.le_refl _⟩, ⟨by (with_reducible repeat (first | apply Kd.S_alloc | apply Kd.S_drewN | apply Kd.S_drew)); exact Kd.S_mono HO220.out (fun _ hk => hk.2)⟩, ⟨by (with_reducible repeat (first | apply Kd.R_alloc | apply Kd.R_drewN | apply Kd.R_drew)); exact HO223.out⟩, ⟨by repeat (first | (with_reducible first | exact HB.out | apply below_alloc | apply pw_below_drewN | apply below_drew1) | exact HB.out)⟩⟩
                case round =>
                  clear H'
                  try clear c1
                  try clear p2
                  try clear c4
                  try clear c4b0
                  try clear c4b1
                  try clear c7
                  try clear c7b0
                  try clear c8
                  try clear c9
                  try clear c9b0
                  try clear c10
                  try clear c10b0
                  try clear c10b1
                  try clear c11
                  try clear c11b0
                  try clear c11b1
                  try clear p2
                  obtain ⟨x9_2, x10_2, rfl, HA, HK2, HO_8, HO_9, HB⟩ := hrel
                  cases gk with
                  | zero => exact absurd HA.out (by simp [codewrightref11_Subsets.l0])
                  | succ k2 =>
                    have H := HA.out
                    clear HA
                    simp only [codewrightref11_Subsets.l0] at H
                    by_cases c16 : x10_2 < a1
                    · rw [if_pos c16] at H
                      have c16b0 : decide (x10_2 < a1) = true := decide_eq_true c16
                      clear c16
                      by_cases c17 : 0 ≤ x10_2
                      · rw [if_pos c17] at H
                        have c17b0 : decide (0 ≤ x10_2) = true := decide_eq_true c17
                        clear c17
                        by_cases c18 : x10_2 < (x9_2.length : Int)
                        · rw [if_pos c18] at H
                          have c18b0 : decide (x10_2 < (x9_2.length : Int)) = true := decide_eq_true c18
                          clear c18
                          obtain ⟨y224, hy224⟩ : ∃ y_ : List Int, y_ = (x9_2.set (x10_2 : Int).toNat x10_2) := ⟨_, rfl⟩
                          replace H : (codewrightref11_Subsets.l0 k2 a0 a1 t216 y218 y224 (wrap64 (x10_2 + 1))) = some (r1, r2) := by first | (rw [hy224]; with_reducible exact H) | (have H2_ := (Option.bind_some _ _).symm.trans H; rw [hy224]; with_reducible exact H2_) | (have H2_ := (Option.bind_some _ _).symm.trans H; with_reducible exact H2_) | with_reducible exact H | (rw [hy224]; exact H) | exact H
                          have Ny224 := Aside0.mk hy224
                          clear hy224
                          have H' := Aside0.mk H
                          clear H
                          have p19 : 0 ≤ (x10_2 : Int) := of_decide_eq_true (by first | (with_reducible assumption) | assumption)
                          have q19 : (x10_2 : Int) < ((x9_2.length : Int) : Int) := of_decide_eq_true (by first | (with_reducible assumption) | assumption)
                          obtain ⟨go19, co19, eo19, gb19, gl19, cl19, HG19⟩ := Kd.R_form HO_9.out (by omega)
                          (first | cases eo19 | (injection eo19 with ea_ en_ ec_; (first | subst ea_ | (injection ea_ with ea_; subst ea_)); subst ec_; clear en_))
                          have GB19 := Aside0.mk gb19
                          have GG19 := Aside0.mk HG19
                          clear gb19 gl19 HG19
                          obtain ⟨hx19_0, hf19_0⟩ := Kd.R_celln 0 HO_9.out (x10_2 : Int) p19 q19
                          replace p19 := eq_true p19
                          replace q19 := eq_true q19
                          have HP20 := Kd.R_putg HO_9.out (x10_2 : Int) x10_2
                          go_wp2_with (first | ((with_reducible refine gate_store (t := 3) (p := 43) rfl ?_); refine store_event (t := 3) (p := 43) (v := ?vo_w21) (w1 := (wr.setCell ⟨go19, (x10_2 : Int).toNat, none⟩ (.int .i64 x10_2))) ?hg ?ho ?hn ?hr ?_; (case ho => rfl); (case hg => rfl); (case hn => rfl); (case hr => first | (go_simp; done) | (go_simp; rfl)); intro w21 hw; have hg : wr.grownBy w21 (some go19) := (by rw [hw]; exact HP20.2); have hp_ : Kd.R (Kd.int .i64) 3 w21 w.heap.size (fun _ => True) (.slice (some ⟨go19, 0, none⟩) x9_2.length co19) y224 := (by rw [hw, Ny224.out]; exact HP20.1); clear HP20; have n0_ := Aside0.mk (Kd.S_after (v := (.slice (some ⟨go19, 0, none⟩) x9_2.length co19)) (v1 := (.slice (some ⟨go19, 0, none⟩) x9_2.length co19)) (ok := (fun _ => True)) (by (with_reducible repeat (first | apply Kd.S_alloc | apply Kd.S_drewN | apply Kd.S_drew)); exact Kd.S_mono HO_8.out (fun _ hk => ⟨trivial, hk⟩)) hg (.inl rfl)); have n1_ := Aside0.mk (hp_); have n2_ := Aside0.mk ((by rw [hw]; exact below_set (HB.out) GB19.out : Below w.heap.size w w21)); clear HO_8; clear HO_9; clear HB; have HO_8 := n0_; have HO_9 := n1_; have HB := n2_; clear n0_ n1_ n2_; clear hg hw hp_))
                          go_roundg k2
                          case measure => have := HJ4.out; have := HK2.out; omega
                          case rel => exact ⟨(y224), (wrap64 (x10_2 + 1)), (by first | rfl | (simp; done) | (simp [*]; done)), H', ⟨by have := HJ4.out; have := HK2.out; omega⟩, ⟨by (with_reducible repeat (first | apply Kd.S_alloc | apply Kd.S_drewN | apply Kd.S_drew)); exact Kd.S_mono HO_8.out (fun _ hk => hk.2)⟩, ⟨by (with_reducible repeat (first | apply Kd.R_alloc | apply Kd.R_drewN | apply Kd.R_drew)); exact HO_9.out⟩, ⟨by repeat (first | (with_reducible first | exact HB.out | apply below_alloc | apply pw_below_drewN | apply below_drew1) | exact HB.out)⟩⟩
                        · rw [if_neg c18] at H
                          exact absurd H (by simp)
                      · rw [if_neg c17] at H
                        exact absurd H (by simp)
                    · rw [if_neg c16] at H
                      have c16b0 : decide (x10_2 < a1) = false := decide_eq_false c16
                      clear c16
                      have H' := Aside0.mk H
                      clear H
                      go_wp2
                      go_loopg [8, 11] k2 (fun kq v8 v11 w' => ∃ (x8_3 : List (List Int)) (x9_3 : List Int) (x11_3 : Int), v11 = .int .i64 x11_3 ∧ Aside0 (codewrightref11_Subsets.l1 kq a0 a1 t216 x8_3 x9_3 x11_3 = some (r1, r2)) ∧ Aside0 (kq ≤ k2) ∧ Aside0 (Kd.S (Kd.slice 3 (Kd.int .i64)) 26 w' w.heap.size (fun k_ => some k_ ≠ (v222 : Value).ownBlock) v8 x8_3) ∧ Aside0 (Kd.R (Kd.int .i64) 3 w' w.heap.size (fun _ => True) v222 x9_3) ∧ Aside0 (Below w.heap.size w w'))
                      case atStart => exact ⟨(y218), (x9_2), (0), (by first | rfl | (simp; done) | (simp [*]; done)), H', ⟨Nat.le_refl _⟩, ⟨by (with_reducible repeat (first | apply Kd.S_alloc | apply Kd.S_drewN | apply Kd.S_drew)); exact HO_8.out⟩, ⟨by (with_reducible repeat (first | apply Kd.R_alloc | apply Kd.R_drewN | apply Kd.R_drew)); exact HO_9.out⟩, ⟨by repeat (first | (with_reducible first | exact HB.out | apply below_alloc | apply pw_below_drewN | apply below_drew1) | exact HB.out)⟩⟩
                      case round =>
                        clear H'
                        try clear c1
                        try clear p1
                        try clear q1
                        try clear hx1
                        try clear p2
                        try clear c4
                        try clear c4b0
                        try clear c4b1
                        try clear p6
                        try clear c7
                        try clear c7b0
                        try clear c8
                        try clear c9
                        try clear c9b0
                        try clear c10
                        try clear c10b0
                        try clear c10b1
                        try clear c11
                        try clear c11b0
                        try clear c11b1
                        try clear c16
                        try clear c16b0
                        try clear c17
                        try clear c17b0
                        try clear c18
                        try clear c18b0
                        try clear p19
                        try clear q19
                        try clear hx19
                        try clear hf19
                        try clear hx19_0
                        try clear p19
                        try clear p2
                        try clear q19
                        obtain ⟨x8_3, x9_3, x11_3, rfl, HA, HK3, HO_8, HO_9, HB⟩ := hrel
                        cases gk with
                        | zero => exact absurd HA.out (by simp [codewrightref11_Subsets.l1])
                        | succ k3 =>
                          have H := HA.out
                          clear HA
                          simp only [codewrightref11_Subsets.l1] at H
                          by_cases c22 : x11_3 < t216
                          · rw [if_pos c22] at H
                            have c22b0 : decide (x11_3 < t216) = true := decide_eq_true c22
                            clear c22
                            obtain ⟨y225, hy225⟩ : ∃ y_ : List Int, y_ = (([] : List Int)) := ⟨_, rfl⟩
                            replace H : (if y225.length + x9_3.length < 17592186044416 then (if x8_3.length < 5864062014805 then (codewrightref11_Subsets.l2 k3 a0 a1 t216 (x8_3 ++ [(y225 ++ x9_3)]) x9_3 x11_3 (wrap64 (a1 - 1))) else (none)) else (none)) = some (r1, r2) := by first | (rw [hy225]; with_reducible exact H) | (have H2_ := (Option.bind_some _ _).symm.trans H; rw [hy225]; with_reducible exact H2_) | (have H2_ := (Option.bind_some _ _).symm.trans H; with_reducible exact H2_) | with_reducible exact H | (rw [hy225]; exact H) | exact H
                            have Ny225 := Aside0.mk hy225
                            clear hy225
                            by_cases c23 : y225.length + x9_3.length < 17592186044416
                            · rw [if_pos c23] at H
                              have LMc23 := Aside0.mk c23
                              clear c23
                              obtain ⟨y228, hy228⟩ : ∃ y_ : List Int, y_ = (y225 ++ x9_3) := ⟨_, rfl⟩
                              replace H : (if x8_3.length < 5864062014805 then (codewrightref11_Subsets.l2 k3 a0 a1 t216 (x8_3 ++ [y228]) x9_3 x11_3 (wrap64 (a1 - 1))) else (none)) = some (r1, r2) := by first | (rw [hy228]; with_reducible exact H) | (have H2_ := (Option.bind_some _ _).symm.trans H; rw [hy228]; with_reducible exact H2_) | (have H2_ := (Option.bind_some _ _).symm.trans H; with_reducible exact H2_) | with_reducible exact H | (rw [hy228]; exact H) | exact H
                              have Ny228 := Aside0.mk hy228
                              clear hy228
                              by_cases c24 : x8_3.length < 5864062014805
                              · rw [if_pos c24] at H
                                have LMc24 := Aside0.mk c24
                                clear c24
                                obtain ⟨y231, hy231⟩ : ∃ y_ : List (List Int), y_ = (x8_3 ++ [y228]) := ⟨_, rfl⟩
                                replace H : (codewrightref11_Subsets.l2 k3 a0 a1 t216 y231 x9_3 x11_3 (wrap64 (a1 - 1))) = some (r1, r2) := by first | (rw [hy231]; with_reducible exact H) | (have H2_ := (Option.bind_some _ _).symm.trans H; rw [hy231]; with_reducible exact H2_) | (have H2_ := (Option.bind_some _ _).symm.trans H; with_reducible exact H2_) | with_reducible exact H | (rw [hy231]; exact H) | exact H
                                have Ny231 := Aside0.mk hy231
                                clear hy231
                                have HC25 := Aside0.mk H
                                clear H
                                go_upto_block 4 with (first | ((with_reducible refine gate_dst (N := 50) rfl ?_); refine Kd.R_lit (Kd.int .i64) _ 3 ?hg (N := 50) ?hd (xs := ([] : List Int)) (inner := []) (ok := fun _ => True) (okp := fun _ => True) ?hr ?hp (fun _ hk => hk) trivial (Below.refl _ _) (Nat.le_refl _) (by simp) ?_; (case hd => rfl); (case hg => rfl); (case hr => first | (go_simp; done) | (go_simp; rfl)); (case hp => exact (Reps.none _ _)); intro v226 w26 ho27 hb hg_ hnew_; clear hg_ hnew_; (first | rw [← Ny225.out] at ho27 | (simp only [Int.reduceToNat] at ho27; rw [← Ny225.out] at ho27)); have n0_ := Aside0.mk (Kd.S_elder' (by (with_reducible repeat (first | apply Kd.S_alloc | apply Kd.S_drewN | apply Kd.S_drew)); exact HO_8.out) (Kd.R_base ho27) hb); have n1_ := Aside0.mk (Kd.R_elder' (by (with_reducible repeat (first | apply Kd.R_alloc | apply Kd.R_drewN | apply Kd.R_drew)); exact HO_9.out) (Kd.R_base ho27) hb); have n2_ := Aside0.mk (Kd.R_lower (Kd.R_new' ho27 (Kd.R_lt (by (with_reducible repeat (first | apply Kd.R_alloc | apply Kd.R_drewN | apply Kd.R_drew)); exact HO_9.out))) (below_size (by repeat (first | (with_reducible first | exact HB.out | apply below_alloc | apply pw_below_drewN | apply below_drew1) | exact HB.out)))); have n3_ := Aside0.mk (below_step (by repeat (first | (with_reducible first | exact HB.out | apply below_alloc | apply pw_below_drewN | apply below_drew1) | exact HB.out)) hb); clear HO_8; clear HO_9; clear HB; have HO_8 := n0_; have HO_9 := n1_; have HO227 := n2_; have HB := n3_; clear n0_ n1_ n2_ n3_; clear hb ho27; obtain ⟨Ao29, co29, eo29⟩ := Kd.R_slice HO_9.out; subst eo29) | ((with_reducible refine gate_builtin (b := .append) (xs := #[.tmp 50, .tmp 51]) rfl ?_); at_builtin; refine Kd.R_append_rows (Kd.int .i64) (w0 := w) w.heap.size rfl (.tmp 50) (.tmp 51) 26 3 (.int .i64 0) 8 rfl Try.underlying26 info3 rfl (by decide) (by omega) v226 y225 x9_3 _ _ _ (fun k_ => some k_ ≠ (.slice Ao29 x9_3.length co29 : Value).ownBlock) (fun _ => False) rfl rfl ?aO ?aR (fun _ _ h => h) (fun _ h => h.elim) ?aF ?aB ?aS ?aL ?_; (case aR => repeat (first | exact (Kd.R_reads' HO_9.out).2.2 | (with_reducible refine Kd.C_alloc ?_ _) | (with_reducible refine Kd.C_drewN ?_ _) | (with_reducible refine Kd.C_drew ?_))); (case aB => exact (by repeat (first | (with_reducible first | exact HB.out | apply below_alloc | apply pw_below_drewN | apply below_drew1) | exact HB.out))); (case aF => exact (fun k_ hk => Kd.fresh' (Kd.R_lt (by (with_reducible repeat (first | apply Kd.R_alloc | apply Kd.R_drewN | apply Kd.R_drew)); exact HO_9.out)) k_ hk)); (case aO => exact (by (with_reducible repeat (first | apply Kd.R_alloc | apply Kd.R_drewN | apply Kd.R_drew)); exact Kd.R_mono HO227.out (fun _ hk => hk.2))); (case aS => exact (below_size (by repeat (first | (with_reducible first | exact HB.out | apply below_alloc | apply pw_below_drewN | apply below_drew1) | exact HB.out)))); (case aL => have := LMc23.out; omega); intro v229 w28 ho hb hg hat; rw [← Ny228.out] at ho; have n0_ := Aside0.mk (Kd.S_after (ok := (fun k_ => some k_ ≠ (.slice Ao29 x9_3.length co29 : Value).ownBlock)) (by (with_reducible repeat (first | apply Kd.S_alloc | apply Kd.S_drewN | apply Kd.S_drew)); exact HO_8.out) hg hat); have n1_ := Aside0.mk (Kd.R_after (ok := (fun _ => True)) (by (with_reducible repeat (first | apply Kd.R_alloc | apply Kd.R_drewN | apply Kd.R_drew)); exact HO_9.out) hg hat); have n2_ := Aside0.mk (hb); have n3_ := Aside0.mk (ho); clear HO_8; clear HO_9; clear HB; clear HO227; have HO_8 := n0_; have HO_9 := n1_; have HB := n2_; have HO230 := n3_; clear n0_ n1_ n2_ n3_; clear ho hb hg hat; obtain ⟨Ao31, co31, eo31⟩ := Kd.R_slice HO230.out; subst eo31) | ((with_reducible refine gate_builtin (b := .append) (xs := #[.tmp 49, .tmp 53]) rfl ?_); at_builtin; refine Kd.S_append (Kd.slice 3 (Kd.int .i64)) (w0 := w) w.heap.size rfl (.tmp 49) (.tmp 53) 35 26 (.slice none 0 0) 24 rfl Try.underlying35 info26 rfl (by decide) (by omega) u8 x8_3 y228 [.slice Ao31 y228.length co31] (fun k_ => some k_ ≠ (.slice Ao29 x9_3.length co29 : Value).ownBlock) (fun k_ => some k_ = (.slice Ao31 y228.length co31 : Value).ownBlock) rfl rfl ?aP (fun k_ hk_ => ((Kd.R_mono (ok' := fun k_ => ((fun k_ => some k_ ≠ (.slice Ao29 x9_3.length co29 : Value).ownBlock)) k_ ∧ some k_ ≠ (u8 : Value).ownBlock) (Kd.R_apart' (HO230.out) (Kd.S_typed HO_8.out) (by decide)) (fun k_ hk => ⟨hk.1, hk.2⟩))).1 k_ hk_.symm) ?aF ?aO ?aB ?aS ?aL ?_; (case aP => exact Kd.M_row (Kd.R_mono (Kd.R_tight rfl (Kd.R_mono (ok' := fun k_ => ((fun k_ => some k_ ≠ (.slice Ao29 x9_3.length co29 : Value).ownBlock)) k_ ∧ some k_ ≠ (u8 : Value).ownBlock) (Kd.R_apart' (HO230.out) (Kd.S_typed HO_8.out) (by decide)) (fun k_ hk => ⟨hk.1, hk.2⟩))) (fun _ h_ => h_))); (case aB => exact (by repeat (first | (with_reducible first | exact HB.out | apply below_alloc | apply pw_below_drewN | apply below_drew1) | exact HB.out))); (case aF => exact (fun k_ hk => Kd.fresh' (Kd.R_lt (by (with_reducible repeat (first | apply Kd.R_alloc | apply Kd.R_drewN | apply Kd.R_drew)); exact HO_9.out)) k_ hk)); (case aO => exact (by (with_reducible repeat (first | apply Kd.S_alloc | apply Kd.S_drewN | apply Kd.S_drew)); exact Kd.S_mono HO_8.out (fun k_ hk => ⟨hk.1, fun e_ => hk.2 e_⟩))); (case aS => exact (below_size (by repeat (first | (with_reducible first | exact HB.out | apply below_alloc | apply pw_below_drewN | apply below_drew1) | exact HB.out)))); (case aL => have := LMc24.out; omega); intro v232 w30 ho hb hg hat; rw [← Ny231.out] at ho; have n0_ := Aside0.mk (Kd.R_over' (by (with_reducible repeat (first | apply Kd.R_alloc | apply Kd.R_drewN | apply Kd.R_drew)); exact HO_9.out) (Kd.S_typed (by (with_reducible repeat (first | apply Kd.S_alloc | apply Kd.S_drewN | apply Kd.S_drew)); exact HO_8.out)) (by decide) hg); have n1_ := Aside0.mk (hb); have n2_ := Aside0.mk (ho); clear HO_9; clear HB; clear HO_8; clear HO230; have HO_9 := n0_; have HB := n1_; have HO233 := n2_; clear n0_ n1_ n2_; clear ho hb hg hat))
                                (try simp only [Act.put, List.setIfInBounds_toArray, List.set_cons_zero, List.set_cons_succ])
                                go_cut [12] (fun v12 wc => ∃ (kq : Nat) (x12_24 : Int), v12 = .int .i64 x12_24 ∧ Aside0 (codewrightref11_Subsets.j4 kq a0 a1 t216 y231 x9_3 x11_3 x12_24 = some (r1, r2)) ∧ Aside0 (kq ≤ k3) ∧ Aside0 (Kd.S (Kd.slice 3 (Kd.int .i64)) 26 wc w.heap.size (fun k_ => some k_ ≠ ((.slice Ao29 x9_3.length co29) : Value).ownBlock) v232 y231) ∧ Aside0 (Kd.R (Kd.int .i64) 3 wc w.heap.size (fun _ => True) (.slice Ao29 x9_3.length co29) x9_3) ∧ Aside0 (Below w.heap.size w wc))
                                case first =>
                                  have H := HC25.out
                                  clear HC25
                                  have H' := Aside0.mk H
                                  clear H
                                  go_wp2
                                  go_loopg [12] k3 (fun kq v12 w' => ∃ (x12_4 : Int), v12 = .int .i64 x12_4 ∧ Aside0 (codewrightref11_Subsets.l2 kq a0 a1 t216 y231 x9_3 x11_3 x12_4 = some (r1, r2)) ∧ Aside0 (kq ≤ k3) ∧ Aside0 (Kd.S (Kd.slice 3 (Kd.int .i64)) 26 w' w.heap.size (fun k_ => some k_ ≠ ((.slice Ao29 x9_3.length co29) : Value).ownBlock) v232 y231) ∧ Aside0 (Kd.R (Kd.int .i64) 3 w' w.heap.size (fun _ => True) (.slice Ao29 x9_3.length co29) x9_3) ∧ Aside0 (Below w.heap.size w w'))
                                  case atStart => exact ⟨(wrap64 (a1 - 1)), (by first | rfl | (simp; done) | (simp [*]; done)), H', ⟨Nat.le_refl _⟩, ⟨by (with_reducible repeat (first | apply Kd.S_alloc | apply Kd.S_drewN | apply Kd.S_drew)); exact HO233.out⟩, ⟨by (with_reducible repeat (first | apply Kd.R_alloc | apply Kd.R_drewN | apply Kd.R_drew)); exact Kd.R_mono HO_9.out (fun _ hk => trivial)⟩, ⟨by repeat (first | (with_reducible first | exact HB.out | apply below_alloc | apply pw_below_drewN | apply below_drew1) | exact HB.out)⟩⟩
                                  case round =>
                                    clear H'
                                    try clear c1
                                    try clear p1
                                    try clear q1
                                    try clear hx1
                                    try clear c2
                                    try clear p2
                                    try clear c4
                                    try clear c4b0
                                    try clear c4b1
                                    try clear p6
                                    try clear c7
                                    try clear c7b0
                                    try clear c8
                                    try clear c9
                                    try clear c9b0
                                    try clear c10
                                    try clear c10b0
                                    try clear c10b1
                                    try clear c11
                                    try clear c11b0
                                    try clear c11b1
                                    try clear c16
                                    try clear c16b0
                                    try clear c17
                                    try clear c17b0
                                    try clear c18
                                    try clear c18b0
                                    try clear p19
                                    try clear q19
                                    try clear hx19
                                    try clear hf19
                                    try clear c22
                                    try clear c22b0
                                    try clear c23
                                    try clear c24
                                    try clear hx19_0
                                    try clear p1
                                    try clear p19
                                    try clear p2
                                    try clear p6
                                    try clear q1
                                    try clear q19
                                    obtain ⟨x12_4, rfl, HA, HK4, HO_8, HO_9, HB⟩ := hrel
                                    cases gk with
                                    | zero => exact absurd HA.out (by simp [codewrightref11_Subsets.l2])
                                    | succ k4 =>
                                      have H := HA.out
                                      clear HA
                                      simp only [codewrightref11_Subsets.l2] at H
                                      by_cases c32 : x12_4 ≥ 0
                                      · rw [if_pos c32] at H
                                        have c32b0 : decide (0 ≤ x12_4) = true := decide_eq_true c32
                                        clear c32
                                        (first | rw [c32b0] | (simp only [i64_w, i32_w]; rw [c32b0]) | skip)
                                        by_cases c33 : 0 ≤ x12_4
                                        · rw [if_pos c33] at H
                                          have c33b0 : decide (0 ≤ x12_4) = true := decide_eq_true c33
                                          clear c33
                                          by_cases c34 : x12_4 < (x9_3.length : Int)
                                          · rw [if_pos c34] at H
                                            have c34b0 : decide (x12_4 < (x9_3.length : Int)) = true := decide_eq_true c34
                                            clear c34
                                            by_cases c35 : (rd x9_3 x12_4) = (wrap64 ((wrap64 (a0 - a1)) + x12_4))
                                            · rw [if_pos c35] at H
                                              have c35b0 : ((rd x9_3 x12_4) == (wrap64 ((wrap64 (a0 - a1)) + x12_4))) = true := beq_iff_eq.mpr c35
                                              have c35b1 : ((rd x9_3 x12_4) != (wrap64 ((wrap64 (a0 - a1)) + x12_4))) = false := bne_eq_false_iff_eq.mpr c35
                                              clear c35
                                              have H' := Aside0.mk H
                                              clear H
                                              have p234 : 0 ≤ (x12_4 : Int) := of_decide_eq_true (by first | (with_reducible assumption) | assumption)
                                              have q234 : x12_4 < (x9_3.length : Int) := of_decide_eq_true (by first | (with_reducible assumption) | assumption)
                                              obtain ⟨ad234, e234, hx234_0⟩ := Kd.at_int (Kd.R_reads' HO_9.out).2.2 x12_4 p234 q234
                                              cases e234
                                              replace p234 := eq_true p234
                                              replace q234 := eq_true q234
                                              go_wp2
                                              go_roundg k4
                                              case measure => have := HJ4.out; have := HK2.out; have := HK3.out; have := HK4.out; omega
                                              case rel => exact ⟨(wrap64 (x12_4 - 1)), (by first | rfl | (simp; done) | (simp [*]; done)), H', ⟨by have := HJ4.out; have := HK2.out; have := HK3.out; have := HK4.out; omega⟩, ⟨by (with_reducible repeat (first | apply Kd.S_alloc | apply Kd.S_drewN | apply Kd.S_drew)); exact HO_8.out⟩, ⟨by (with_reducible repeat (first | apply Kd.R_alloc | apply Kd.R_drewN | apply Kd.R_drew)); exact HO_9.out⟩, ⟨by repeat (first | (with_reducible first | exact HB.out | apply below_alloc | apply pw_below_drewN | apply below_drew1) | exact HB.out)⟩⟩
                                            · rw [if_neg c35] at H
                                              have c35b0 : ((rd x9_3 x12_4) == (wrap64 ((wrap64 (a0 - a1)) + x12_4))) = false := beq_eq_false_iff_ne.mpr c35
                                              have c35b1 : ((rd x9_3 x12_4) != (wrap64 ((wrap64 (a0 - a1)) + x12_4))) = true := bne_iff_ne.mpr c35
                                              have H' := Aside0.mk H
                                              clear H
                                              have p234 : 0 ≤ (x12_4 : Int) := of_decide_eq_true (by first | (with_reducible assumption) | assumption)
                                              have q234 : x12_4 < (x9_3.length : Int) := of_decide_eq_true (by first | (with_reducible assumption) | assumption)
                                              obtain ⟨ad234, e234, hx234_0⟩ := Kd.at_int (Kd.R_reads' HO_9.out).2.2 x12_4 p234 q234
                                              cases e234
                                              replace p234 := eq_true p234
                                              replace q234 := eq_true q234
                                              go_wp2
                                              go_meet
                                              case rel => exact ⟨_, (x12_4), (by first | rfl | (simp; done) | (simp [*]; done)), H', ⟨by have := HJ4.out; have := HK2.out; have := HK3.out; have := HK4.out; first | omega | exact Nat.le_refl _⟩, ⟨by (with_reducible repeat (first | apply Kd.S_alloc | apply Kd.S_drewN | apply Kd.S_drew)); exact HO_8.out⟩, ⟨by (with_reducible repeat (first | apply Kd.R_alloc | apply Kd.R_drewN | apply Kd.R_drew)); exact HO_9.out⟩, ⟨by repeat (first | (with_reducible first | exact HB.out | apply below_alloc | apply pw_below_drewN | apply below_drew1) | exact HB.out)⟩⟩
                                          · rw [if_neg c34] at H
                                            exact absurd H (by simp)
                                        · rw [if_neg c33] at H
                                          exact absurd H (by simp)
                                      · rw [if_neg c32] at H
                                        have c32b0 : decide (0 ≤ x12_4) = false := decide_eq_false c32
                                        clear c32
                                        (first | rw [c32b0] | (simp only [i64_w, i32_w]; rw [c32b0]) | skip)
                                        have H' := Aside0.mk H
                                        clear H
                                        go_wp2
                                        go_meet
                                        case rel => exact ⟨_, (x12_4), (by first | rfl | (simp; done) | (simp [*]; done)), H', ⟨by have := HJ4.out; have := HK2.out; have := HK3.out; have := HK4.out; first | omega | exact Nat.le_refl _⟩, ⟨by (with_reducible repeat (first | apply Kd.S_alloc | apply Kd.S_drewN | apply Kd.S_drew)); exact HO_8.out⟩, ⟨by (with_reducible repeat (first | apply Kd.R_alloc | apply Kd.R_drewN | apply Kd.R_drew)); exact HO_9.out⟩, ⟨by repeat (first | (with_reducible first | exact HB.out | apply below_alloc | apply pw_below_drewN | apply below_drew1) | exact HB.out)⟩⟩
                                case rest =>
                                  clear HC25
                                  try clear c1
                                  try clear p1
                                  try clear q1
                                  try clear hx1
                                  try clear c2
                                  try clear p2
                                  try clear q2
                                  try clear hx2
                                  try clear c3
                                  try clear c4
                                  try clear c4b0
                                  try clear c4b1
                                  try clear p6
                                  try clear c7
                                  try clear c7b0
                                  try clear c8
                                  try clear c9
                                  try clear c9b0
                                  try clear c10
                                  try clear c10b0
                                  try clear c10b1
                                  try clear c11
                                  try clear c11b0
                                  try clear c11b1
                                  try clear c16
                                  try clear c16b0
                                  try clear c17
                                  try clear c17b0
                                  try clear c18
                                  try clear c18b0
                                  try clear p19
                                  try clear q19
                                  try clear hx19
                                  try clear hf19
                                  try clear c22
                                  try clear c22b0
                                  try clear c23
                                  try clear p23
                                  try clear q23
                                  try clear hx23
                                  try clear c24
                                  try clear c32
                                  try clear c32b0
                                  try clear c33
                                  try clear c33b0
                                  try clear c34
                                  try clear c34b0
                                  try clear c35
                                  try clear c35b0
                                  try clear c35b1
                                  try clear hx19_0
                                  try clear hx234_0
                                  try clear p1
                                  try clear p19
                                  try clear p2
                                  try clear p234
                                  try clear p6
                                  try clear q1
                                  try clear q19
                                  try clear q234
                                  obtain ⟨kq, x12_24, rfl, HA, HJ24, HO_8, HO_9, HB⟩ := hcut
                                  cases kq with
                                  | zero => exact absurd HA.out (by simp [codewrightref11_Subsets.j4])
                                  | succ kj24 =>
                                    have H := HA.out
                                    clear HA
                                    simp only [codewrightref11_Subsets.j4] at H
                                    by_cases c36 : x12_24 ≥ 0
                                    · rw [if_pos c36] at H
                                      have c36b0 : decide (0 ≤ x12_24) = true := decide_eq_true c36
                                      clear c36
                                      by_cases c37 : 0 ≤ x12_24
                                      · rw [if_pos c37] at H
                                        have c37b0 : decide (0 ≤ x12_24) = true := decide_eq_true c37
                                        clear c37
                                        by_cases c38 : x12_24 < (x9_3.length : Int)
                                        · rw [if_pos c38] at H
                                          have c38b0 : decide (x12_24 < (x9_3.length : Int)) = true := decide_eq_true c38
                                          clear c38
                                          obtain ⟨y236, hy236⟩ : ∃ y_ : List Int, y_ = (x9_3.set (x12_24 : Int).toNat (wrap64 ((rd x9_3 x12_24) + 1))) := ⟨_, rfl⟩
                                          replace H : (codewrightref11_Subsets.l3 kj24 a0 a1 t216 y231 y236 x11_3 (wrap64 (x12_24 + 1))) = some (r1, r2) := by first | (rw [hy236]; with_reducible exact H) | (have H2_ := (Option.bind_some _ _).symm.trans H; rw [hy236]; with_reducible exact H2_) | (have H2_ := (Option.bind_some _ _).symm.trans H; with_reducible exact H2_) | with_reducible exact H | (rw [hy236]; exact H) | exact H
                                          have Ny236 := Aside0.mk hy236
                                          clear hy236
                                          have H' := Aside0.mk H
                                          clear H
                                          have p235 : 0 ≤ (x12_24 : Int) := of_decide_eq_true (by first | (with_reducible assumption) | assumption)
                                          have q235 : x12_24 < (x9_3.length : Int) := of_decide_eq_true (by first | (with_reducible assumption) | assumption)
                                          obtain ⟨ad235, e235, hx235_0⟩ := Kd.at_int (Kd.R_reads' HO_9.out).2.2 x12_24 p235 q235
                                          cases e235
                                          replace p235 := eq_true p235
                                          replace q235 := eq_true q235
                                          have p39 : 0 ≤ (x12_24 : Int) := of_decide_eq_true (by first | (with_reducible assumption) | assumption)
                                          have q39 : (x12_24 : Int) < ((x9_3.length : Int) : Int) := of_decide_eq_true (by first | (with_reducible assumption) | assumption)
                                          obtain ⟨go39, co39, eo39, gb39, gl39, cl39, HG39⟩ := Kd.R_form HO_9.out (by omega)
                                          (first | cases eo39 | (injection eo39 with ea_ en_ ec_; (first | subst ea_ | (injection ea_ with ea_; subst ea_)); subst ec_; clear en_))
                                          have GB39 := Aside0.mk gb39
                                          have GG39 := Aside0.mk HG39
                                          clear gb39 gl39 HG39
                                          (first | simp only [add_plain] at hx235_0 | skip)
                                          obtain ⟨hx39_0, hf39_0⟩ := Kd.R_celln 0 HO_9.out (x12_24 : Int) p39 q39
                                          replace p39 := eq_true p39
                                          replace q39 := eq_true q39
                                          have HP40 := Kd.R_putg HO_9.out (x12_24 : Int) (wrap64 ((rd x9_3 x12_24) + 1))
                                          go_wp2_with (first | ((with_reducible refine gate_store (t := 3) (p := 80) rfl ?_); refine store_event (t := 3) (p := 80) (v := ?vo_w41) (w1 := (wc.setCell ⟨go39, (x12_24 : Int).toNat, none⟩ (.int .i64 (wrap64 ((rd x9_3 x12_24) + 1))))) ?hg ?ho ?hn ?hr ?_; (case ho => rfl); (case hg => rfl); (case hn => rfl); (case hr => first | (go_simp; done) | (go_simp; rfl)); intro w41 hw; have hg : wc.grownBy w41 (some go39) := (by rw [hw]; exact HP40.2); have hp_ : Kd.R (Kd.int .i64) 3 w41 w.heap.size (fun _ => True) (.slice (some ⟨go39, 0, none⟩) x9_3.length co29) y236 := (by rw [hw, Ny236.out]; exact HP40.1); clear HP40; have n0_ := Aside0.mk (Kd.S_after (v := (.slice (some ⟨go39, 0, none⟩) x9_3.length co29)) (v1 := (.slice (some ⟨go39, 0, none⟩) x9_3.length co29)) (ok := (fun _ => True)) (by (with_reducible repeat (first | apply Kd.S_alloc | apply Kd.S_drewN | apply Kd.S_drew)); exact Kd.S_mono HO_8.out (fun _ hk => ⟨trivial, hk⟩)) hg (.inl rfl)); have n1_ := Aside0.mk (hp_); have n2_ := Aside0.mk ((by rw [hw]; exact below_set (HB.out) GB39.out : Below w.heap.size w w41)); clear HO_8; clear HO_9; clear HB; have HO_8 := n0_; have HO_9 := n1_; have HB := n2_; clear n0_ n1_ n2_; clear hg hw hp_))
                                          go_loopg [13] kj24 (fun kq v13 w' => ∃ (x9_5 : List Int) (x13_5 : Int), v13 = .int .i64 x13_5 ∧ Aside0 (codewrightref11_Subsets.l3 kq a0 a1 t216 y231 x9_5 x11_3 x13_5 = some (r1, r2)) ∧ Aside0 (kq ≤ kj24) ∧ Aside0 (Kd.S (Kd.slice 3 (Kd.int .i64)) 26 w' w.heap.size (fun k_ => some k_ ≠ ((.slice (some ⟨go39, 0, none⟩) x9_3.length co29) : Value).ownBlock) v232 y231) ∧ Aside0 (Kd.R (Kd.int .i64) 3 w' w.heap.size (fun _ => True) (.slice (some ⟨go39, 0, none⟩) x9_3.length co29) x9_5) ∧ Aside0 (Below w.heap.size w w'))
                                          case atStart => exact ⟨(y236), (wrap64 (x12_24 + 1)), (by first | rfl | (simp; done) | (simp [*]; done)), H', ⟨Nat.le_refl _⟩, ⟨by (with_reducible repeat (first | apply Kd.S_alloc | apply Kd.S_drewN | apply Kd.S_drew)); exact Kd.S_mono HO_8.out (fun _ hk => hk.2)⟩, ⟨by (with_reducible repeat (first | apply Kd.R_alloc | apply Kd.R_drewN | apply Kd.R_drew)); exact HO_9.out⟩, ⟨by repeat (first | (with_reducible first | exact HB.out | apply below_alloc | apply pw_below_drewN | apply below_drew1) | exact HB.out)⟩⟩
                                          case round =>
                                            clear H'
                                            try clear c1
                                            try clear p1
                                            try clear q1
                                            try clear hx1
                                            try clear c2
                                            try clear p2
                                            try clear q2
                                            try clear hx2
                                            try clear c3
                                            try clear p3
                                            try clear q3
                                            try clear hx3
                                            try clear hf3
                                            try clear c4
                                            try clear c4b0
                                            try clear c4b1
                                            try clear p6
                                            try clear c7
                                            try clear c7b0
                                            try clear c8
                                            try clear c9
                                            try clear c9b0
                                            try clear c10
                                            try clear c10b0
                                            try clear c10b1
                                            try clear c11
                                            try clear c11b0
                                            try clear c11b1
                                            try clear c16
                                            try clear c16b0
                                            try clear c17
                                            try clear c17b0
                                            try clear c18
                                            try clear c18b0
                                            try clear p19
                                            try clear q19
                                            try clear hx19
                                            try clear hf19
                                            try clear c22
                                            try clear c22b0
                                            try clear c23
                                            try clear p23
                                            try clear q23
                                            try clear hx23
                                            try clear c24
                                            try clear c32
                                            try clear c32b0
                                            try clear c33
                                            try clear c33b0
                                            try clear c34
                                            try clear c34b0
                                            try clear c35
                                            try clear c35b0
                                            try clear c35b1
                                            try clear c36
                                            try clear c36b0
                                            try clear c37
                                            try clear c37b0
                                            try clear c38
                                            try clear c38b0
                                            try clear p39
                                            try clear q39
                                            try clear hx39
                                            try clear hf39
                                            try clear hx19_0
                                            try clear hx234_0
                                            try clear hx235_0
                                            try clear hx39_0
                                            try clear p1
                                            try clear p19
                                            try clear p2
                                            try clear p23
                                            try clear p234
                                            try clear p235
                                            try clear p39
                                            try clear p6
                                            try clear q1
                                            try clear q19
                                            try clear q2
                                            try clear q23
                                            try clear q234
                                            try clear q235
                                            try clear q39
                                            obtain ⟨x9_5, x13_5, rfl, HA, HK5, HO_8, HO_9, HB⟩ := hrel
                                            have hl9_5 := (Kd.R_reads' HO_9.out).1
                                            rw [hl9_5] at HO_9
                                            (try simp only [hl9_5])
                                            (try simp only [hl9_5] at HO_8)
                                            cases gk with
                                            | zero => exact absurd HA.out (by simp [codewrightref11_Subsets.l3])
                                            | succ k5 =>
                                              have H := HA.out
                                              clear HA
                                              simp only [codewrightref11_Subsets.l3] at H
                                              by_cases c42 : x13_5 < a1
                                              · rw [if_pos c42] at H
                                                have c42b0 : decide (x13_5 < a1) = true := decide_eq_true c42
                                                clear c42
                                                obtain ⟨ji43, hji43⟩ : ∃ j_ : Int, (wrap64 (x13_5 - 1)) = j_ := ⟨_, rfl⟩
                                                replace H : (if 0 ≤ (ji43) then (if (ji43) < (x9_5.length : Int) then (if 0 ≤ x13_5 then (if x13_5 < (x9_5.length : Int) then (codewrightref11_Subsets.l3 k5 a0 a1 t216 y231 (x9_5.set (x13_5 : Int).toNat (wrap64 ((rd x9_5 (ji43)) + 1))) x11_3 (wrap64 (x13_5 + 1))) else (none)) else (none)) else (none)) else (none)) = some (r1, r2) := by first | (rw [hji43] at H; exact H) | (simp only [hji43] at H ⊢; exact H)
                                                have hji43w : (IntKind.i64.wrap (x13_5 - 1)) = ji43 := (i64_w _).trans hji43
                                                by_cases c44 : 0 ≤ (ji43)
                                                · rw [if_pos c44] at H
                                                  have c44b0 : decide (0 ≤ (ji43)) = true := decide_eq_true c44
                                                  clear c44
                                                  by_cases c45 : (ji43) < (x9_5.length : Int)
                                                  · rw [if_pos c45] at H
                                                    have c45b0 : decide ((ji43) < (x9_5.length : Int)) = true := decide_eq_true c45
                                                    (try (have c45b0h0 := c45b0; simp only [hl9_5] at c45b0h0))
                                                    clear c45
                                                    by_cases c46 : 0 ≤ x13_5
                                                    · rw [if_pos c46] at H
                                                      have c46b0 : decide (0 ≤ x13_5) = true := decide_eq_true c46
                                                      clear c46
                                                      by_cases c47 : x13_5 < (x9_5.length : Int)
                                                      · rw [if_pos c47] at H
                                                        have c47b0 : decide (x13_5 < (x9_5.length : Int)) = true := decide_eq_true c47
                                                        (try (have c47b0h0 := c47b0; simp only [hl9_5] at c47b0h0))
                                                        clear c47
                                                        obtain ⟨y238, hy238⟩ : ∃ y_ : List Int, y_ = (x9_5.set (x13_5 : Int).toNat (wrap64 ((rd x9_5 (ji43)) + 1))) := ⟨_, rfl⟩
                                                        replace H : (codewrightref11_Subsets.l3 k5 a0 a1 t216 y231 y238 x11_3 (wrap64 (x13_5 + 1))) = some (r1, r2) := by first | (rw [hy238]; with_reducible exact H) | (have H2_ := (Option.bind_some _ _).symm.trans H; rw [hy238]; with_reducible exact H2_) | (have H2_ := (Option.bind_some _ _).symm.trans H; with_reducible exact H2_) | with_reducible exact H | (rw [hy238]; exact H) | exact H
                                                        have Ny238 := Aside0.mk hy238
                                                        clear hy238
                                                        have H' := Aside0.mk H
                                                        clear H
                                                        have p237 : 0 ≤ ((ji43) : Int) := of_decide_eq_true (by first | (with_reducible assumption) | assumption)
                                                        have q237 : (ji43) < (x9_5.length : Int) := of_decide_eq_true (by first | (with_reducible assumption) | assumption)
                                                        obtain ⟨ad237, e237, hx237_0⟩ := Kd.at_int (Kd.R_reads' HO_9.out).2.2 (ji43) p237 q237
                                                        obtain rfl : (⟨go39, 0, none⟩ : Addr) = ad237 := (by injection e237)
                                                        (first | simp only [add_plain] at hx237_0 | simp only [add_at] at hx237_0 | simp only [Addr.add, Nat.zero_add] at hx237_0 | skip)
                                                        replace p237 := eq_true p237
                                                        replace q237 := eq_true q237
                                                        have p48 : 0 ≤ (x13_5 : Int) := of_decide_eq_true (by first | (with_reducible assumption) | assumption)
                                                        have q48 : (x13_5 : Int) < ((x9_5.length : Int) : Int) := of_decide_eq_true (by first | (with_reducible assumption) | assumption)
                                                        obtain ⟨hx48_0, hf48_0⟩ := Kd.R_celln 0 HO_9.out (x13_5 : Int) p48 q48
                                                        replace p48 := eq_true p48
                                                        replace q48 := eq_true q48
                                                        have HP49 := Kd.R_putg HO_9.out (x13_5 : Int) (wrap64 ((rd x9_5 (ji43)) + 1))
                                                        go_wp2_with (first | ((with_reducible refine gate_store (t := 3) (p := 96) rfl ?_); refine store_event (t := 3) (p := 96) (v := ?vo_w50) (w1 := (wr.setCell ⟨go39, (x13_5 : Int).toNat, none⟩ (.int .i64 (wrap64 ((rd x9_5 (ji43)) + 1))))) ?hg ?ho ?hn ?hr ?_; (case ho => rfl); (case hg => rfl); (case hn => rfl); (case hr => first | (go_simp; done) | (go_simp; rfl)); intro w50 hw; have hg : wr.grownBy w50 (some go39) := (by rw [hw]; exact HP49.2); have hp_ : Kd.R (Kd.int .i64) 3 w50 w.heap.size (fun _ => True) (.slice (some ⟨go39, 0, none⟩) x9_5.length co29) y238 := (by rw [hw, Ny238.out]; exact HP49.1); clear HP49; have n0_ := Aside0.mk (Kd.S_after (v := (.slice (some ⟨go39, 0, none⟩) x9_5.length co29)) (v1 := (.slice (some ⟨go39, 0, none⟩) x9_5.length co29)) (ok := (fun _ => True)) (by (with_reducible repeat (first | apply Kd.S_alloc | apply Kd.S_drewN | apply Kd.S_drew)); exact Kd.S_mono HO_8.out (fun _ hk => ⟨trivial, hk⟩)) hg (.inl rfl)); have n1_ := Aside0.mk (hp_); have n2_ := Aside0.mk ((by rw [hw]; exact below_set (HB.out) GB39.out : Below w.heap.size w w50)); clear HO_8; clear HO_9; clear HB; have HO_8 := n0_; have HO_9 := n1_; have HB := n2_; clear n0_ n1_ n2_; clear hg hw hp_))
                                                        (try simp only [← hl9_5])
                                                        go_roundg k5
                                                        case measure => have := HJ4.out; have := HK2.out; have := HK3.out; have := HJ24.out; have := HK5.out; omega
                                                        case rel => exact ⟨(y238), (wrap64 (x13_5 + 1)), (by first | rfl | (simp; done) | (simp [*]; done)), H', ⟨by have := HJ4.out; have := HK2.out; have := HK3.out; have := HJ24.out; have := HK5.out; omega⟩, ⟨by (try simp only [hl9_5]); (with_reducible repeat (first | apply Kd.S_alloc | apply Kd.S_drewN | apply Kd.S_drew)); exact Kd.S_mono HO_8.out (fun _ hk => hk.2)⟩, ⟨by (try simp only [hl9_5]); (with_reducible repeat (first | apply Kd.R_alloc | apply Kd.R_drewN | apply Kd.R_drew)); exact HO_9.out⟩, ⟨by repeat (first | (with_reducible first | exact HB.out | apply below_alloc | apply pw_below_drewN | apply below_drew1) | exact HB.out)⟩⟩
                                                      · rw [if_neg c47] at H
                                                        exact absurd H (by simp)
                                                    · rw [if_neg c46] at H
                                                      exact absurd H (by simp)
                                                  · rw [if_neg c45] at H
                                                    exact absurd H (by simp)
                                                · rw [if_neg c44] at H
                                                  exact absurd H (by simp)
                                              · rw [if_neg c42] at H
                                                have c42b0 : decide (x13_5 < a1) = false := decide_eq_false c42
                                                clear c42
                                                have H' := Aside0.mk H
                                                clear H
                                                go_wp2
                                                (try simp only [← hl9_5])
                                                go_roundg k5
                                                case measure => have := HJ4.out; have := HK2.out; have := HK3.out; have := HJ24.out; have := HK5.out; omega
                                                case rel => exact ⟨(y231), (x9_5), (wrap64 (x11_3 + 1)), (by first | rfl | (simp; done) | (simp [*]; done)), H', ⟨by have := HJ4.out; have := HK2.out; have := HK3.out; have := HJ24.out; have := HK5.out; omega⟩, ⟨by (try simp only [hl9_5]); (with_reducible repeat (first | apply Kd.S_alloc | apply Kd.S_drewN | apply Kd.S_drew)); exact HO_8.out⟩, ⟨by (try simp only [hl9_5]); (with_reducible repeat (first | apply Kd.R_alloc | apply Kd.R_drewN | apply Kd.R_drew)); exact HO_9.out⟩, ⟨by repeat (first | (with_reducible first | exact HB.out | apply below_alloc | apply pw_below_drewN | apply below_drew1) | exact HB.out)⟩⟩
                                        · rw [if_neg c38] at H
                                          exact absurd H (by simp)
                                      · rw [if_neg c37] at H
                                        exact absurd H (by simp)
                                    · rw [if_neg c36] at H
                                      have c36b0 : decide (0 ≤ x12_24) = false := decide_eq_false c36
                                      clear c36
                                      have H' := Aside0.mk H
                                      clear H
                                      go_wp2
                                      go_roundg kj24
                                      case measure => have := HJ4.out; have := HK2.out; have := HK3.out; have := HJ24.out; omega
                                      case rel => exact ⟨(y231), (x9_3), (wrap64 (x11_3 + 1)), (by first | rfl | (simp; done) | (simp [*]; done)), H', ⟨by have := HJ4.out; have := HK2.out; have := HK3.out; have := HJ24.out; omega⟩, ⟨by (with_reducible repeat (first | apply Kd.S_alloc | apply Kd.S_drewN | apply Kd.S_drew)); exact HO_8.out⟩, ⟨by (with_reducible repeat (first | apply Kd.R_alloc | apply Kd.R_drewN | apply Kd.R_drew)); exact HO_9.out⟩, ⟨by repeat (first | (with_reducible first | exact HB.out | apply below_alloc | apply pw_below_drewN | apply below_drew1) | exact HB.out)⟩⟩
                              · rw [if_neg c24] at H
                                exact absurd H (by simp)
                            · rw [if_neg c23] at H
                              exact absurd H (by simp)
                          · rw [if_neg c22] at H
                            have c22b0 : decide (x11_3 < t216) = false := decide_eq_false c22
                            clear c22
                            simp only [Option.some.injEq, Prod.mk.injEq] at H
                            obtain ⟨rfl, rfl⟩ := H
                            go_wp2
                            go_ret2
                            exact ⟨_, by first | rfl | (simp [errW_none, errW_some] <;> rfl) | (simp [*, errW_none, errW_some] <;> rfl), by (with_reducible repeat (first | apply Kd.S_alloc | apply Kd.S_drewN | apply Kd.S_drew)); exact Kd.S_mono HO_8.out (fun _ hk => trivial), by repeat (first | (with_reducible first | exact HB.out | apply below_alloc | apply pw_below_drewN | apply below_drew1) | exact HB.out)⟩
              · rw [if_neg c11] at H
                exact absurd H (by simp)
            · rw [if_neg c10] at H
              exact absurd H (by simp)
  · rw [if_neg c4] at H
    have c4b0 : (t217 == 0) = false := beq_eq_false_iff_ne.mpr c4
    have c4b1 : (t217 != 0) = true := bne_iff_ne.mpr c4
    simp only [Option.some.injEq, Prod.mk.injEq] at H
    obtain ⟨rfl, rfl⟩ := H
    go_enter Try.func18, Try.ntmps18
    go_wp2_with (first | ((with_reducible refine gate_callee (f := 9) rfl ?_); refine goesL_ (some 17) rfl rfl Try.func9 (by kernel_rfl) rfl #[.int .i64 a0, .int .i64 a1] rfl (by (try simp only [List.map_toArray, List.map_cons, List.map_nil]); first | done | rfl | (simp only [List.length_drop, List.length_take]; rfl)) ?_; (with_reducible refine (codewrightref11_Binomial.calls k a0 a1 t216 t217 _ A3.out).mono ?_); rintro e w51 ⟨rfl, hb⟩; refine ⟨_, rfl, ?_⟩; have n0_ := Aside0.mk (below_step (by repeat (first | (with_reducible first | exact HB.out | apply below_alloc | apply pw_below_drewN | apply below_drew1) | exact HB.out)) hb); clear HB; have HB := n0_; clear n0_; (try clear hb); (try clear hb2); (try clear hk); (try clear hi)))
    go_ret2
    exact ⟨_, by first | rfl | (simp [errW_none, errW_some] <;> rfl) | (simp [*, errW_none, errW_some] <;> rfl), by first | exact Kd.S_nil _ _ _ _ _ | exact Kd.N_nil _ _ _ _ _ | exact Kd.V_nil _ _ _ _ _ | exact Kd.Q_nil _ _ _ _ _ | exact Kd.R_nil _ _ _ _ _, by repeat (first | (with_reducible first | exact HB.out | apply below_alloc | apply pw_below_drewN | apply below_drew1) | exact HB.out)⟩

end Go.Proofs.Ytekojgilikoegaa.Q
