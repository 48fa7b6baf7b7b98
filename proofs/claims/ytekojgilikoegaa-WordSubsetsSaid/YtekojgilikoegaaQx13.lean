-- Written by a program of this work over the kit's printer; Lean checks it.
import Derived.Test.YtekojgilikoegaaQx0
import Derived.Test.YtekojgilikoegaaQx1
import Derived.Test.YtekojgilikoegaaQx12
namespace Go.Proofs.Ytekojgilikoegaa.Q
open Go.RowKit Go.Proofs.YtekojgilikoegaaW.PrintWords Go.Proofs.YtekojgilikoegaaW.PrintLast Go.Proofs.YtekojgilikoegaaW.PrintMore
attribute [local go_sem] max2_int min2_int max_two min_two max_three min_three max_four min_four   -- for this text's walks alone
set_option linter.unusedVariables false
set_option linter.unusedSimpArgs false

/-! ### word_Subsets: function 17 -/
mutual
def word_Subsets.j0 : Nat → Int → Int → Bool → Option ((List (List Int)) × Int)
  | 0, _, _, _ => none
  | k + 1, x0, x1, x26 => if x26 = true then (some (([] : List (List Int)), 6)) else ((word_choose.f k x0 x1).bind fun t197 => (if t197 > 65536 then (some (([] : List (List Int)), 8)) else (if 0 ≤ t197 then (if (t197 : Int).toNat ≤ 11728124029610 then (if 0 ≤ x1 then (if (x1 : Int).toNat ≤ 35184372088832 then ((some (List.replicate (x1 : Int).toNat 0 : List Int)).bind fun y201 => (word_Subsets.l0 k x0 x1 (([] : List (List Int))) y201 (y201.length : Int) 0)) else (none)) else (none)) else (none)) else (none))))
def word_Subsets.l0 : Nat → Int → Int → List (List Int) → List Int → Int → Int → Option ((List (List Int)) × Int)
  | 0, _, _, _, _, _, _ => none
  | k + 1, x0, x1, x7, x8, x37, x38 => if x38 < x37 then (if 0 ≤ x38 then (if x38 < (x8.length : Int) then (word_Subsets.l0 k x0 x1 x7 (x8.set (x38 : Int).toNat x38) x37 (wrap64 (x38 + 1))) else (none)) else (none)) else (word_Subsets.l1 k x0 x1 x7 x8)
def word_Subsets.l1 : Nat → Int → Int → List (List Int) → List Int → Option ((List (List Int)) × Int)
  | 0, _, _, _, _ => none
  | k + 1, x0, x1, x7, x8 => (slices_Clone_int_int.f x8).bind fun t205 => (if x7.length < 5864062014805 then (word_Subsets.l2 k x0 x1 (x7 ++ [t205]) x8 (wrap64 (x1 - 1))) else (none))
def word_Subsets.j4 : Nat → Int → Int → List (List Int) → List Int → Int → Option ((List (List Int)) × Int)
  | 0, _, _, _, _, _ => none
  | k + 1, x0, x1, x7, x8, x10 => if x10 < 0 then (some (x7, 0)) else (if 0 ≤ x10 then (if x10 < (x8.length : Int) then (word_Subsets.l3 k x0 x1 x7 (x8.set (x10 : Int).toNat (wrap64 ((rd x8 x10) + 1))) (wrap64 (x10 + 1))) else (none)) else (none))
def word_Subsets.l3 : Nat → Int → Int → List (List Int) → List Int → Int → Option ((List (List Int)) × Int)
  | 0, _, _, _, _, _ => none
  | k + 1, x0, x1, x7, x8, x11 => if x11 < x1 then (if 0 ≤ (wrap64 (x11 - 1)) then (if (wrap64 (x11 - 1)) < (x8.length : Int) then (if 0 ≤ x11 then (if x11 < (x8.length : Int) then (word_Subsets.l3 k x0 x1 x7 (x8.set (x11 : Int).toNat (wrap64 ((rd x8 (wrap64 (x11 - 1))) + 1))) (wrap64 (x11 + 1))) else (none)) else (none)) else (none)) else (none)) else (word_Subsets.l1 k x0 x1 x7 x8)
def word_Subsets.l2 : Nat → Int → Int → List (List Int) → List Int → Int → Option ((List (List Int)) × Int)
  | 0, _, _, _, _, _ => none
  | k + 1, x0, x1, x7, x8, x10 => if x10 ≥ 0 then (if 0 ≤ x10 then (if x10 < (x8.length : Int) then (if (rd x8 x10) = (wrap64 ((wrap64 (x0 - x1)) + x10)) then (word_Subsets.l2 k x0 x1 x7 x8 (wrap64 (x10 - 1))) else (word_Subsets.j4 k x0 x1 x7 x8 x10)) else (none)) else (none)) else (word_Subsets.j4 k x0 x1 x7 x8 x10)
end
def word_Subsets.f (k : Nat) (a0 : Int) (a1 : Int) : Option ((List (List Int)) × Int) := if a0 < 0 then (word_Subsets.j0 k a0 a1 true) else (if a0 > 64 then (word_Subsets.j0 k a0 a1 true) else (if a1 < 0 then (word_Subsets.j0 k a0 a1 true) else (word_Subsets.j0 k a0 a1 (decide (a1 > a0)))))
theorem word_Subsets.mono_l : ∀ k, (∀ y0 y1 y2, LeO (word_Subsets.j0 k y0 y1 y2) (word_Subsets.j0 (k + 1) y0 y1 y2)) ∧ (∀ y0 y1 y2 y3 y4 y5, LeO (word_Subsets.l0 k y0 y1 y2 y3 y4 y5) (word_Subsets.l0 (k + 1) y0 y1 y2 y3 y4 y5)) ∧ (∀ y0 y1 y2 y3, LeO (word_Subsets.l1 k y0 y1 y2 y3) (word_Subsets.l1 (k + 1) y0 y1 y2 y3)) ∧ (∀ y0 y1 y2 y3 y4, LeO (word_Subsets.j4 k y0 y1 y2 y3 y4) (word_Subsets.j4 (k + 1) y0 y1 y2 y3 y4)) ∧ (∀ y0 y1 y2 y3 y4, LeO (word_Subsets.l3 k y0 y1 y2 y3 y4) (word_Subsets.l3 (k + 1) y0 y1 y2 y3 y4)) ∧ (∀ y0 y1 y2 y3 y4, LeO (word_Subsets.l2 k y0 y1 y2 y3 y4) (word_Subsets.l2 (k + 1) y0 y1 y2 y3 y4))
  | 0 => ⟨fun _ _ _ r h => by simp [word_Subsets.j0] at h, fun _ _ _ _ _ _ r h => by simp [word_Subsets.l0] at h, fun _ _ _ _ r h => by simp [word_Subsets.l1] at h, fun _ _ _ _ _ r h => by simp [word_Subsets.j4] at h, fun _ _ _ _ _ r h => by simp [word_Subsets.l3] at h, fun _ _ _ _ _ r h => by simp [word_Subsets.l2] at h⟩
  | k + 1 => by
    obtain ⟨ih0, ih1, ih2, ih3, ih4, ih5⟩ := word_Subsets.mono_l k
    refine ⟨?_, ?_, ?_, ?_, ?_, ?_⟩
    · intro y0 y1 y2
      unfold word_Subsets.j0
      repeat' first
      | (with_reducible exact ih0 _ _ _)
      | (with_reducible exact ih1 _ _ _ _ _ _)
      | (with_reducible exact ih2 _ _ _ _)
      | (with_reducible exact ih3 _ _ _ _ _)
      | (with_reducible exact ih4 _ _ _ _ _)
      | (with_reducible exact ih5 _ _ _ _ _)
      | (with_reducible exact word_choose.mono _ _ _)
      | (with_reducible exact LeO.refl _)
      | (with_reducible exact LeO.none _)
      | (with_reducible refine LeO.ite ?_ ?_)
      | (with_reducible refine LeO.bind ?_ (fun _ => ?_))
      | exact ih0 _ _ _
      | exact ih1 _ _ _ _ _ _
      | exact ih2 _ _ _ _
      | exact ih3 _ _ _ _ _
      | exact ih4 _ _ _ _ _
      | exact ih5 _ _ _ _ _
      | exact word_choose.mono _ _ _
      | exact LeO.none _
      | refine LeO.ite ?_ ?_
      | refine LeO.bind ?_ (fun _ => ?_)
    · intro y0 y1 y2 y3 y4 y5
      unfold word_Subsets.l0
      repeat' first
      | (with_reducible exact ih0 _ _ _)
      | (with_reducible exact ih1 _ _ _ _ _ _)
      | (with_reducible exact ih2 _ _ _ _)
      | (with_reducible exact ih3 _ _ _ _ _)
      | (with_reducible exact ih4 _ _ _ _ _)
      | (with_reducible exact ih5 _ _ _ _ _)
      | (with_reducible exact word_choose.mono _ _ _)
      | (with_reducible exact LeO.refl _)
      | (with_reducible exact LeO.none _)
      | (with_reducible refine LeO.ite ?_ ?_)
      | (with_reducible refine LeO.bind ?_ (fun _ => ?_))
      | exact ih0 _ _ _
      | exact ih1 _ _ _ _ _ _
      | exact ih2 _ _ _ _
      | exact ih3 _ _ _ _ _
      | exact ih4 _ _ _ _ _
      | exact ih5 _ _ _ _ _
      | exact word_choose.mono _ _ _
      | exact LeO.none _
      | refine LeO.ite ?_ ?_
      | refine LeO.bind ?_ (fun _ => ?_)
    · intro y0 y1 y2 y3
      unfold word_Subsets.l1
      repeat' first
      | (with_reducible exact ih0 _ _ _)
      | (with_reducible exact ih1 _ _ _ _ _ _)
      | (with_reducible exact ih2 _ _ _ _)
      | (with_reducible exact ih3 _ _ _ _ _)
      | (with_reducible exact ih4 _ _ _ _ _)
      | (with_reducible exact ih5 _ _ _ _ _)
      | (with_reducible exact word_choose.mono _ _ _)
      | (with_reducible exact LeO.refl _)
      | (with_reducible exact LeO.none _)
      | (with_reducible refine LeO.ite ?_ ?_)
      | (with_reducible refine LeO.bind ?_ (fun _ => ?_))
      | exact ih0 _ _ _
      | exact ih1 _ _ _ _ _ _
      | exact ih2 _ _ _ _
      | exact ih3 _ _ _ _ _
      | exact ih4 _ _ _ _ _
      | exact ih5 _ _ _ _ _
      | exact word_choose.mono _ _ _
      | exact LeO.none _
      | refine LeO.ite ?_ ?_
      | refine LeO.bind ?_ (fun _ => ?_)
    · intro y0 y1 y2 y3 y4
      unfold word_Subsets.j4
      repeat' first
      | (with_reducible exact ih0 _ _ _)
      | (with_reducible exact ih1 _ _ _ _ _ _)
      | (with_reducible exact ih2 _ _ _ _)
      | (with_reducible exact ih3 _ _ _ _ _)
      | (with_reducible exact ih4 _ _ _ _ _)
      | (with_reducible exact ih5 _ _ _ _ _)
      | (with_reducible exact word_choose.mono _ _ _)
      | (with_reducible exact LeO.refl _)
      | (with_reducible exact LeO.none _)
      | (with_reducible refine LeO.ite ?_ ?_)
      | (with_reducible refine LeO.bind ?_ (fun _ => ?_))
      | exact ih0 _ _ _
      | exact ih1 _ _ _ _ _ _
      | exact ih2 _ _ _ _
      | exact ih3 _ _ _ _ _
      | exact ih4 _ _ _ _ _
      | exact ih5 _ _ _ _ _
      | exact word_choose.mono _ _ _
      | exact LeO.none _
      | refine LeO.ite ?_ ?_
      | refine LeO.bind ?_ (fun _ => ?_)
    · intro y0 y1 y2 y3 y4
      unfold word_Subsets.l3
      repeat' first
      | (with_reducible exact ih0 _ _ _)
      | (with_reducible exact ih1 _ _ _ _ _ _)
      | (with_reducible exact ih2 _ _ _ _)
      | (with_reducible exact ih3 _ _ _ _ _)
      | (with_reducible exact ih4 _ _ _ _ _)
      | (with_reducible exact ih5 _ _ _ _ _)
      | (with_reducible exact word_choose.mono _ _ _)
      | (with_reducible exact LeO.refl _)
      | (with_reducible exact LeO.none _)
      | (with_reducible refine LeO.ite ?_ ?_)
      | (with_reducible refine LeO.bind ?_ (fun _ => ?_))
      | exact ih0 _ _ _
      | exact ih1 _ _ _ _ _ _
      | exact ih2 _ _ _ _
      | exact ih3 _ _ _ _ _
      | exact ih4 _ _ _ _ _
      | exact ih5 _ _ _ _ _
      | exact word_choose.mono _ _ _
      | exact LeO.none _
      | refine LeO.ite ?_ ?_
      | refine LeO.bind ?_ (fun _ => ?_)
    · intro y0 y1 y2 y3 y4
      unfold word_Subsets.l2
      repeat' first
      | (with_reducible exact ih0 _ _ _)
      | (with_reducible exact ih1 _ _ _ _ _ _)
      | (with_reducible exact ih2 _ _ _ _)
      | (with_reducible exact ih3 _ _ _ _ _)
      | (with_reducible exact ih4 _ _ _ _ _)
      | (with_reducible exact ih5 _ _ _ _ _)
      | (with_reducible exact word_choose.mono _ _ _)
      | (with_reducible exact LeO.refl _)
      | (with_reducible exact LeO.none _)
      | (with_reducible refine LeO.ite ?_ ?_)
      | (with_reducible refine LeO.bind ?_ (fun _ => ?_))
      | exact ih0 _ _ _
      | exact ih1 _ _ _ _ _ _
      | exact ih2 _ _ _ _
      | exact ih3 _ _ _ _ _
      | exact ih4 _ _ _ _ _
      | exact ih5 _ _ _ _ _
      | exact word_choose.mono _ _ _
      | exact LeO.none _
      | refine LeO.ite ?_ ?_
      | refine LeO.bind ?_ (fun _ => ?_)
theorem word_Subsets.mono : ∀ a0 a1 k, LeO (word_Subsets.f k a0 a1) (word_Subsets.f (k + 1) a0 a1) := by
  intro a0 a1 k
  obtain ⟨ih0, ih1, ih2, ih3, ih4, ih5⟩ := word_Subsets.mono_l k
  unfold word_Subsets.f
  repeat' first
      | (with_reducible exact ih0 _ _ _)
      | (with_reducible exact ih1 _ _ _ _ _ _)
      | (with_reducible exact ih2 _ _ _ _)
      | (with_reducible exact ih3 _ _ _ _ _)
      | (with_reducible exact ih4 _ _ _ _ _)
      | (with_reducible exact ih5 _ _ _ _ _)
      | (with_reducible exact word_choose.mono _ _ _)
      | (with_reducible exact LeO.refl _)
      | (with_reducible exact LeO.none _)
      | (with_reducible refine LeO.ite ?_ ?_)
      | (with_reducible refine LeO.bind ?_ (fun _ => ?_))
      | exact ih0 _ _ _
      | exact ih1 _ _ _ _ _ _
      | exact ih2 _ _ _ _
      | exact ih3 _ _ _ _ _
      | exact ih4 _ _ _ _ _
      | exact ih5 _ _ _ _ _
      | exact word_choose.mono _ _ _
      | exact LeO.none _
      | refine LeO.ite ?_ ?_
      | refine LeO.bind ?_ (fun _ => ?_)
set_option maxHeartbeats 8000000 in
set_option maxRecDepth 100000 in
theorem word_Subsets.calls (k : Nat) (a0 : Int) (a1 : Int) (r1 : List (List Int)) (r2 : Int) (w : World) (h : word_Subsets.f k a0 a1 = some (r1, r2)) :
    Calls Try.prog 17 #[.int .i64 a0, .int .i64 a1] w fun e w' => ∃ v0_ : Value, e = .returned (.tuple #[v0_, .int .i64 r2]) ∧ Kd.S (Kd.slice 3 (Kd.int .i64)) 26 w' w.heap.size (fun _ => True) v0_ r1 ∧ Below w.heap.size w w' := by
  have HB := Aside0.mk (Below.refl w.heap.size w)
  have H : (if a0 < 0 then (word_Subsets.j0 k a0 a1 true) else (if a0 > 64 then (word_Subsets.j0 k a0 a1 true) else (if a1 < 0 then (word_Subsets.j0 k a0 a1 true) else (word_Subsets.j0 k a0 a1 (decide (a1 > a0)))))) = some (r1, r2) := h
  clear h
  have HC3 := Aside0.mk H
  clear H
  go_enter Try.func17, Try.ntmps17
  go_upto_region 1 with (fail)
  go_cut [26] (fun v26 wc => ∃ (kq : Nat) (x26_2 : Bool), v26 = .bool x26_2 ∧ Aside0 (word_Subsets.j0 kq a0 a1 x26_2 = some (r1, r2)) ∧ Aside0 (kq ≤ k) ∧ Aside0 (Below w.heap.size w wc))
  case first =>
    have H := HC3.out
    clear HC3
    by_cases c4 : a0 < 0
    · rw [if_pos c4] at H
      have c4b0 : decide (a0 < 0) = true := decide_eq_true c4
      clear c4
      (first | rw [c4b0] | (simp only [i64_w, i32_w]; rw [c4b0]) | skip)
      have H' := Aside0.mk H
      clear H
      go_wp2
      go_meet
      case rel => exact ⟨_, (true), (by first | rfl | (simp; done) | (simp [*]; done)), H', ⟨by first | omega | exact Nat.le_refl _⟩, ⟨by repeat (first | (with_reducible first | exact HB.out | apply below_alloc | apply pw_below_drewN | apply below_drew1) | exact HB.out)⟩⟩
    · rw [if_neg c4] at H
      have c4b0 : decide (a0 < 0) = false := decide_eq_false c4
      clear c4
      (first | rw [c4b0] | (simp only [i64_w, i32_w]; rw [c4b0]) | skip)
      by_cases c5 : a0 > 64
      · rw [if_pos c5] at H
        have c5b0 : decide (64 < a0) = true := decide_eq_true c5
        clear c5
        have H' := Aside0.mk H
        clear H
        go_wp2
        go_meet
        case rel => exact ⟨_, (true), (by first | rfl | (simp; done) | (simp [*]; done)), H', ⟨by first | omega | exact Nat.le_refl _⟩, ⟨by repeat (first | (with_reducible first | exact HB.out | apply below_alloc | apply pw_below_drewN | apply below_drew1) | exact HB.out)⟩⟩
      · rw [if_neg c5] at H
        have c5b0 : decide (64 < a0) = false := decide_eq_false c5
        clear c5
        by_cases c6 : a1 < 0
        · rw [if_pos c6] at H
          have c6b0 : decide (a1 < 0) = true := decide_eq_true c6
          clear c6
          have H' := Aside0.mk H
          clear H
          go_wp2
          go_meet
          case rel => exact ⟨_, (true), (by first | rfl | (simp; done) | (simp [*]; done)), H', ⟨by first | omega | exact Nat.le_refl _⟩, ⟨by repeat (first | (with_reducible first | exact HB.out | apply below_alloc | apply pw_below_drewN | apply below_drew1) | exact HB.out)⟩⟩
        · rw [if_neg c6] at H
          have c6b0 : decide (a1 < 0) = false := decide_eq_false c6
          clear c6
          have H' := Aside0.mk H
          clear H
          go_wp2
          go_meet
          case rel => exact ⟨_, (decide (a1 > a0)), (by first | rfl | (simp; done) | (simp [*]; done)), H', ⟨by first | omega | exact Nat.le_refl _⟩, ⟨by repeat (first | (with_reducible first | exact HB.out | apply below_alloc | apply pw_below_drewN | apply below_drew1) | exact HB.out)⟩⟩
  case rest =>
    clear HC3
    try clear c1
    try clear p2
    try clear c4
    try clear c4b0
    try clear c5
    try clear c5b0
    try clear c6
    try clear c6b0
    obtain ⟨kq, x26_2, rfl, HA, HJ2, HB⟩ := hcut
    cases kq with
    | zero => exact absurd HA.out (by simp [word_Subsets.j0])
    | succ kj2 =>
      have H := HA.out
      clear HA
      simp only [word_Subsets.j0] at H
      by_cases c7 : x26_2 = true
      · subst c7
        have H1 : (some (([] : List (List Int)), 6)) = some (r1, r2) := by rw [if_pos rfl] at H; exact H
        clear H
        have H := H1
        clear H1
        simp only [Option.some.injEq, Prod.mk.injEq] at H
        obtain ⟨rfl, rfl⟩ := H
        go_wp2
        go_ret2
        exact ⟨_, by first | rfl | (simp [errW_none, errW_some] <;> rfl) | (simp [*, errW_none, errW_some] <;> rfl), by first | exact Kd.S_nil _ _ _ _ _ | exact Kd.N_nil _ _ _ _ _ | exact Kd.V_nil _ _ _ _ _ | exact Kd.Q_nil _ _ _ _ _ | exact Kd.R_nil _ _ _ _ _, by repeat (first | (with_reducible first | exact HB.out | apply below_alloc | apply pw_below_drewN | apply below_drew1) | exact HB.out)⟩
      · replace c7 := Bool.eq_false_iff.mpr c7
        subst c7
        have H1 : ((word_choose.f kj2 a0 a1).bind fun t197 => (if t197 > 65536 then (some (([] : List (List Int)), 8)) else (if 0 ≤ t197 then (if (t197 : Int).toNat ≤ 11728124029610 then (if 0 ≤ a1 then (if (a1 : Int).toNat ≤ 35184372088832 then ((some (List.replicate (a1 : Int).toNat 0 : List Int)).bind fun y201 => (word_Subsets.l0 kj2 a0 a1 (([] : List (List Int))) y201 (y201.length : Int) 0)) else (none)) else (none)) else (none)) else (none)))) = some (r1, r2) := by rw [if_neg (show ¬ (false = true) by decide)] at H; exact H
        clear H
        have H := H1
        clear H1
        replace H := Option.bind_eq_some_iff.mp H
        obtain ⟨t197, A80, H⟩ := H
        replace H : (if t197 > 65536 then (some (([] : List (List Int)), 8)) else (if 0 ≤ t197 then (if (t197 : Int).toNat ≤ 11728124029610 then (if 0 ≤ a1 then (if (a1 : Int).toNat ≤ 35184372088832 then ((some (List.replicate (a1 : Int).toNat 0 : List Int)).bind fun y201 => (word_Subsets.l0 kj2 a0 a1 (([] : List (List Int))) y201 (y201.length : Int) 0)) else (none)) else (none)) else (none)) else (none))) = some (r1, r2) := H
        have A8 := Aside0.mk A80
        clear A80
        by_cases c9 : t197 > 65536
        · rw [if_pos c9] at H
          have c9b0 : decide (65536 < t197) = true := decide_eq_true c9
          clear c9
          simp only [Option.some.injEq, Prod.mk.injEq] at H
          obtain ⟨rfl, rfl⟩ := H
          go_wp2_with (first | ((with_reducible refine gate_callee (f := 20) rfl ?_); refine goesL_ (some 29) rfl rfl Try.func20 (by kernel_rfl) rfl #[.int .i64 a0, .int .i64 a1] rfl (by (try simp only [List.map_toArray, List.map_cons, List.map_nil]); first | done | rfl | (simp only [List.length_drop, List.length_take]; rfl)) ?_; (with_reducible refine (word_choose.calls kj2 a0 a1 t197 _ A8.out).mono ?_); rintro e w10 ⟨rfl, hb⟩; refine ⟨_, rfl, ?_⟩; have n0_ := Aside0.mk (below_step (by repeat (first | (with_reducible first | exact HB.out | apply below_alloc | apply pw_below_drewN | apply below_drew1) | exact HB.out)) hb); clear HB; have HB := n0_; clear n0_; (try clear hb); (try clear hb2); (try clear hk); (try clear hi)))
          go_ret2
          exact ⟨_, by first | rfl | (simp [errW_none, errW_some] <;> rfl) | (simp [*, errW_none, errW_some] <;> rfl), by first | exact Kd.S_nil _ _ _ _ _ | exact Kd.N_nil _ _ _ _ _ | exact Kd.V_nil _ _ _ _ _ | exact Kd.Q_nil _ _ _ _ _ | exact Kd.R_nil _ _ _ _ _, by repeat (first | (with_reducible first | exact HB.out | apply below_alloc | apply pw_below_drewN | apply below_drew1) | exact HB.out)⟩
        · rw [if_neg c9] at H
          have c9b0 : decide (65536 < t197) = false := decide_eq_false c9
          clear c9
          by_cases c11 : 0 ≤ t197
          · rw [if_pos c11] at H
            have c11b0 := eq_true c11
            have c11b1 : decide (0 ≤ t197) = true := decide_eq_true c11
            clear c11
            by_cases c12 : (t197 : Int).toNat ≤ 11728124029610
            · rw [if_pos c12] at H
              have c12b0 := eq_true c12
              have c12b1 : decide ((t197 : Int).toNat ≤ 11728124029610) = true := decide_eq_true c12
              clear c12
              obtain ⟨y198, hy198⟩ : ∃ y_ : List (List Int), y_ = (([] : List (List Int))) := ⟨_, rfl⟩
              replace H : (if 0 ≤ a1 then (if (a1 : Int).toNat ≤ 35184372088832 then ((some (List.replicate (a1 : Int).toNat 0 : List Int)).bind fun y201 => (word_Subsets.l0 kj2 a0 a1 y198 y201 (y201.length : Int) 0)) else (none)) else (none)) = some (r1, r2) := by first | (rw [hy198]; with_reducible exact H) | (have H2_ := (Option.bind_some _ _).symm.trans H; rw [hy198]; with_reducible exact H2_) | (have H2_ := (Option.bind_some _ _).symm.trans H; with_reducible exact H2_) | with_reducible exact H | (rw [hy198]; exact H) | exact H
              have Ny198 := Aside0.mk hy198
              clear hy198
              by_cases c13 : 0 ≤ a1
              · rw [if_pos c13] at H
                have c13b0 := eq_true c13
                have c13b1 : decide (0 ≤ a1) = true := decide_eq_true c13
                clear c13
                by_cases c14 : (a1 : Int).toNat ≤ 35184372088832
                · rw [if_pos c14] at H
                  have c14b0 := eq_true c14
                  have c14b1 : decide ((a1 : Int).toNat ≤ 35184372088832) = true := decide_eq_true c14
                  clear c14
                  obtain ⟨y201, hy201⟩ : ∃ y_ : List Int, y_ = (List.replicate (a1 : Int).toNat 0) := ⟨_, rfl⟩
                  replace H : (word_Subsets.l0 kj2 a0 a1 y198 y201 (y201.length : Int) 0) = some (r1, r2) := by first | (rw [hy201]; with_reducible exact H) | (have H2_ := (Option.bind_some _ _).symm.trans H; rw [hy201]; with_reducible exact H2_) | (have H2_ := (Option.bind_some _ _).symm.trans H; with_reducible exact H2_) | with_reducible exact H | (rw [hy201]; exact H) | exact H
                  have Ny201 := Aside0.mk hy201
                  clear hy201
                  have H' := Aside0.mk H
                  clear H
                  go_wp2_with (first | ((with_reducible refine gate_callee (f := 20) rfl ?_); refine goesL_ (some 29) rfl rfl Try.func20 (by kernel_rfl) rfl #[.int .i64 a0, .int .i64 a1] rfl (by (try simp only [List.map_toArray, List.map_cons, List.map_nil]); first | done | rfl | (simp only [List.length_drop, List.length_take]; rfl)) ?_; (with_reducible refine (word_choose.calls kj2 a0 a1 t197 _ A8.out).mono ?_); rintro e w15 ⟨rfl, hb⟩; refine ⟨_, rfl, ?_⟩; have n0_ := Aside0.mk (below_step (by repeat (first | (with_reducible first | exact HB.out | apply below_alloc | apply pw_below_drewN | apply below_drew1) | exact HB.out)) hb); clear HB; have HB := n0_; clear n0_; (try clear hb); (try clear hb2); (try clear hk); (try clear hi)) | ((with_reducible refine gate_dst (N := 33) rfl ?_); refine Kd.S_makec (Kd.slice 3 (Kd.int .i64)) _ 26 rfl (N := 33) rfl 35 _ _ rfl t197 rfl rfl Try.underlying35 (.slice none 0 0) 24 info26 rfl (by decide) (by omega) [] (ok := fun _ => True) (okp := fun _ => True) ⟨_, rfl, Kd.R_nil _ _ _ _ _⟩ (fun _ hk => hk) trivial (of_decide_eq_true (by first | (with_reducible assumption) | assumption)) (Nat.le_trans (Nat.mul_le_mul_right _ (of_decide_eq_true (by first | (with_reducible assumption) | assumption) : t197.toNat ≤ 11728124029610)) (by omega)) (Below.refl _ _) (Nat.le_refl _) ?_; intro v199 w16 ho17 hb hg_ hnew_; clear hg_ hnew_; (first | rw [← Ny198.out] at ho17 | (simp only [Int.reduceToNat] at ho17; rw [← Ny198.out] at ho17)); have n0_ := Aside0.mk (Kd.S_lower ho17 (below_size (by repeat (first | (with_reducible first | exact HB.out | apply below_alloc | apply pw_below_drewN | apply below_drew1) | exact HB.out)))); have n1_ := Aside0.mk (below_step (by repeat (first | (with_reducible first | exact HB.out | apply below_alloc | apply pw_below_drewN | apply below_drew1) | exact HB.out)) hb); clear HB; have HO200 := n0_; have HB := n1_; clear n0_ n1_; clear hb ho17) | ((with_reducible refine gate_dst (N := 35) rfl ?_); refine Kd.R_make (Kd.int .i64) _ 3 rfl (N := 35) rfl 26 _ _ rfl a1 rfl rfl Try.underlying26 (.int .i64 0) 8 info3 rfl (by decide) (by omega) 0 (ok := fun _ => True) (okp := fun _ => True) rfl (fun _ hk => hk) trivial (of_decide_eq_true (by first | (with_reducible assumption) | assumption)) (Nat.le_trans (Nat.mul_le_mul_right _ (of_decide_eq_true (by first | (with_reducible assumption) | assumption) : a1.toNat ≤ 35184372088832)) (by omega)) (Below.refl _ _) (Nat.le_refl _) ?_; intro v202 w18 ho19 hb hg_ hnew_; clear hg_ hnew_; (first | rw [← Ny201.out] at ho19 | (simp only [Int.reduceToNat] at ho19; rw [← Ny201.out] at ho19)); have n0_ := Aside0.mk (Kd.S_elder' (by (with_reducible repeat (first | apply Kd.S_alloc | apply Kd.S_drewN | apply Kd.S_drew)); exact HO200.out) (Kd.R_base ho19) hb); have n1_ := Aside0.mk (Kd.R_lower ho19 (below_size (by repeat (first | (with_reducible first | exact HB.out | apply below_alloc | apply pw_below_drewN | apply below_drew1) | exact HB.out)))); have n2_ := Aside0.mk (below_step (by repeat (first | (with_reducible first | exact HB.out | apply below_alloc | apply pw_below_drewN | apply below_drew1) | exact HB.out)) hb); clear HO200; clear HB; have HO200 := n0_; have HO203 := n1_; have HB := n2_; clear n0_ n1_ n2_; clear hb ho19; obtain ⟨Ao20, co20, eo20⟩ := Kd.R_slice HO203.out; subst eo20))
                  go_loopg [38] kj2 (fun kq v38 w' => ∃ (x8_2 : List Int) (x38_2 : Int), v38 = .int .i64 x38_2 ∧ Aside0 (word_Subsets.l0 kq a0 a1 y198 x8_2 (y201.length : Int) x38_2 = some (r1, r2)) ∧ Aside0 (kq ≤ kj2) ∧ Aside0 (Kd.S (Kd.slice 3 (Kd.int .i64)) 26 w' w.heap.size (fun k_ => some k_ ≠ ((.slice Ao20 y201.length co20) : Value).ownBlock) v199 y198) ∧ Aside0 (Kd.R (Kd.int .i64) 3 w' w.heap.size (fun _ => True) (.slice Ao20 y201.length co20) x8_2) ∧ Aside0 (Below w.heap.size w w'))
                  case atStart => exact ⟨(y201), (0), (by first | rfl | (simp; done) | (simp [*]; done)), H', ⟨Nat.le_refl _⟩, ⟨by (with_reducible repeat (first | apply Kd.S_alloc | apply Kd.S_drewN | apply Kd.S_drew)); exact Kd.S_mono HO200.out (fun _ hk => hk.2)⟩, ⟨by (with_reducible repeat (first | apply Kd.R_alloc | apply Kd.R_drewN | apply Kd.R_drew)); exact HO203.out⟩, ⟨by repeat (first | (with_reducible first | exact HB.out | apply below_alloc | apply pw_below_drewN | apply below_drew1) | exact HB.out)⟩⟩
                  case round =>
                    clear H'
                    try clear c1
                    try clear c2
                    try clear p2
                    try clear c4
                    try clear c4b0
                    try clear c5
                    try clear c5b0
                    try clear c6
                    try clear c6b0
                    try clear c7
                    try clear c9
                    try clear c9b0
                    try clear c11
                    try clear c11b0
                    try clear c11b1
                    try clear c12
                    try clear c12b0
                    try clear c12b1
                    try clear c13
                    try clear c13b0
                    try clear c13b1
                    try clear c14
                    try clear c14b0
                    try clear c14b1
                    try clear c17
                    try clear c20
                    try clear p2
                    obtain ⟨x8_2, x38_2, rfl, HA, HK2, HO_7, HO_8, HB⟩ := hrel
                    have hl8_2 := (Kd.R_reads' HO_8.out).1
                    rw [hl8_2] at HO_8
                    (try simp only [hl8_2])
                    (try simp only [hl8_2] at HO_7)
                    cases gk with
                    | zero => exact absurd HA.out (by simp [word_Subsets.l0])
                    | succ k2 =>
                      have H := HA.out
                      clear HA
                      simp only [word_Subsets.l0] at H
                      by_cases c21 : x38_2 < (y201.length : Int)
                      · rw [if_pos c21] at H
                        have c21b0 : decide (x38_2 < (y201.length : Int)) = true := decide_eq_true c21
                        (try (have c21b0h0 := c21b0; simp only [hl8_2] at c21b0h0))
                        clear c21
                        by_cases c22 : 0 ≤ x38_2
                        · rw [if_pos c22] at H
                          have c22b0 : decide (0 ≤ x38_2) = true := decide_eq_true c22
                          clear c22
                          by_cases c23 : x38_2 < (x8_2.length : Int)
                          · rw [if_pos c23] at H
                            have c23b0 : decide (x38_2 < (x8_2.length : Int)) = true := decide_eq_true c23
                            (try (have c23b0h0 := c23b0; simp only [hl8_2] at c23b0h0))
                            clear c23
                            obtain ⟨y204, hy204⟩ : ∃ y_ : List Int, y_ = (x8_2.set (x38_2 : Int).toNat x38_2) := ⟨_, rfl⟩
                            replace H : (word_Subsets.l0 k2 a0 a1 y198 y204 (y201.length : Int) (wrap64 (x38_2 + 1))) = some (r1, r2) := by first | (rw [hy204]; with_reducible exact H) | (have H2_ := (Option.bind_some _ _).symm.trans H; rw [hy204]; with_reducible exact H2_) | (have H2_ := (Option.bind_some _ _).symm.trans H; with_reducible exact H2_) | with_reducible exact H | (rw [hy204]; exact H) | exact H
                            have Ny204 := Aside0.mk hy204
                            clear hy204
                            have H' := Aside0.mk H
                            clear H
                            have p24 : 0 ≤ (x38_2 : Int) := of_decide_eq_true (by first | (with_reducible assumption) | assumption)
                            have q24 : (x38_2 : Int) < ((x8_2.length : Int) : Int) := of_decide_eq_true (by first | (with_reducible assumption) | assumption)
                            obtain ⟨go24, co24, eo24, gb24, gl24, cl24, HG24⟩ := Kd.R_form HO_8.out (by omega)
                            (first | cases eo24 | (injection eo24 with ea_ en_ ec_; (first | subst ea_ | (injection ea_ with ea_; subst ea_)); subst ec_; clear en_))
                            have GB24 := Aside0.mk gb24
                            have GG24 := Aside0.mk HG24
                            clear gb24 gl24 HG24
                            obtain ⟨hx24_0, hf24_0⟩ := Kd.R_celln 0 HO_8.out (x38_2 : Int) p24 q24
                            replace p24 := eq_true p24
                            replace q24 := eq_true q24
                            have HP25 := Kd.R_putg HO_8.out (x38_2 : Int) x38_2
                            go_wp2_with (first | ((with_reducible refine gate_store (t := 3) (p := 44) rfl ?_); refine store_event (t := 3) (p := 44) (v := ?vo_w26) (w1 := (wr.setCell ⟨go24, (x38_2 : Int).toNat, none⟩ (.int .i64 x38_2))) ?hg ?ho ?hn ?hr ?_; (case ho => rfl); (case hg => rfl); (case hn => rfl); (case hr => first | (go_simp; done) | (go_simp; rfl)); intro w26 hw; have hg : wr.grownBy w26 (some go24) := (by rw [hw]; exact HP25.2); have hp_ : Kd.R (Kd.int .i64) 3 w26 w.heap.size (fun _ => True) (.slice (some ⟨go24, 0, none⟩) x8_2.length co20) y204 := (by rw [hw, Ny204.out]; exact HP25.1); clear HP25; have n0_ := Aside0.mk (Kd.S_after (v := (.slice (some ⟨go24, 0, none⟩) x8_2.length co20)) (v1 := (.slice (some ⟨go24, 0, none⟩) x8_2.length co20)) (ok := (fun _ => True)) (by (with_reducible repeat (first | apply Kd.S_alloc | apply Kd.S_drewN | apply Kd.S_drew)); exact Kd.S_mono HO_7.out (fun _ hk => ⟨trivial, hk⟩)) hg (.inl rfl)); have n1_ := Aside0.mk (hp_); have n2_ := Aside0.mk ((by rw [hw]; exact below_set (HB.out) GB24.out : Below w.heap.size w w26)); clear HO_7; clear HO_8; clear HB; have HO_7 := n0_; have HO_8 := n1_; have HB := n2_; clear n0_ n1_ n2_; clear hg hw hp_))
                            (try simp only [← hl8_2])
                            go_roundg k2
                            case measure => have := HJ2.out; have := HK2.out; omega
                            case rel => exact ⟨(y204), (wrap64 (x38_2 + 1)), (by first | rfl | (simp; done) | (simp [*]; done)), H', ⟨by have := HJ2.out; have := HK2.out; omega⟩, ⟨by (try simp only [hl8_2]); (with_reducible repeat (first | apply Kd.S_alloc | apply Kd.S_drewN | apply Kd.S_drew)); exact Kd.S_mono HO_7.out (fun _ hk => hk.2)⟩, ⟨by (try simp only [hl8_2]); (with_reducible repeat (first | apply Kd.R_alloc | apply Kd.R_drewN | apply Kd.R_drew)); exact HO_8.out⟩, ⟨by repeat (first | (with_reducible first | exact HB.out | apply below_alloc | apply pw_below_drewN | apply below_drew1) | exact HB.out)⟩⟩
                          · rw [if_neg c23] at H
                            exact absurd H (by simp)
                        · rw [if_neg c22] at H
                          exact absurd H (by simp)
                      · rw [if_neg c21] at H
                        have c21b0 : decide (x38_2 < (y201.length : Int)) = false := decide_eq_false c21
                        (try (have c21b0h0 := c21b0; simp only [hl8_2] at c21b0h0))
                        clear c21
                        have H' := Aside0.mk H
                        clear H
                        go_wp2
                        go_loopg [7] k2 (fun kq v7 w' => ∃ (x7_3 : List (List Int)) (x8_3 : List Int), Aside0 (word_Subsets.l1 kq a0 a1 x7_3 x8_3 = some (r1, r2)) ∧ Aside0 (kq ≤ k2) ∧ Aside0 (Kd.S (Kd.slice 3 (Kd.int .i64)) 26 w' w.heap.size (fun k_ => some k_ ≠ ((.slice Ao20 x8_2.length co20) : Value).ownBlock) v7 x7_3) ∧ Aside0 (Kd.R (Kd.int .i64) 3 w' w.heap.size (fun _ => True) (.slice Ao20 x8_2.length co20) x8_3) ∧ Aside0 (Below w.heap.size w w'))
                        case atStart => exact ⟨(y198), (x8_2), H', ⟨Nat.le_refl _⟩, ⟨by (try simp only [hl8_2]); (with_reducible repeat (first | apply Kd.S_alloc | apply Kd.S_drewN | apply Kd.S_drew)); exact HO_7.out⟩, ⟨by (try simp only [hl8_2]); (with_reducible repeat (first | apply Kd.R_alloc | apply Kd.R_drewN | apply Kd.R_drew)); exact HO_8.out⟩, ⟨by repeat (first | (with_reducible first | exact HB.out | apply below_alloc | apply pw_below_drewN | apply below_drew1) | exact HB.out)⟩⟩
                        case round =>
                          clear H'
                          try clear c1
                          try clear c2
                          try clear p2
                          try clear q2
                          try clear hx2
                          try clear hf2
                          try clear c4
                          try clear c4b0
                          try clear c5
                          try clear c5b0
                          try clear c6
                          try clear c6b0
                          try clear p6
                          try clear c7
                          try clear c9
                          try clear c9b0
                          try clear c11
                          try clear c11b0
                          try clear c11b1
                          try clear c12
                          try clear c12b0
                          try clear c12b1
                          try clear c13
                          try clear c13b0
                          try clear c13b1
                          try clear c14
                          try clear c14b0
                          try clear c14b1
                          try clear c17
                          try clear c20
                          try clear c21
                          try clear c21b0
                          try clear c22
                          try clear c22b0
                          try clear c23
                          try clear c23b0
                          try clear p24
                          try clear q24
                          try clear hx24
                          try clear hf24
                          try clear hx24_0
                          try clear p2
                          try clear p24
                          try clear q24
                          obtain ⟨x7_3, x8_3, HA, HK3, HO_7, HO_8, HB⟩ := hrel
                          have hl8_3 := (Kd.R_reads' HO_8.out).1
                          rw [hl8_3] at HO_8
                          (try simp only [hl8_3])
                          (try simp only [hl8_3] at HO_7)
                          cases gk with
                          | zero => exact absurd HA.out (by simp [word_Subsets.l1])
                          | succ k3 =>
                            have H := HA.out
                            clear HA
                            simp only [word_Subsets.l1] at H
                            replace H := Option.bind_eq_some_iff.mp H
                            obtain ⟨t205, A270, H⟩ := H
                            replace H : (if x7_3.length < 5864062014805 then (word_Subsets.l2 k3 a0 a1 (x7_3 ++ [t205]) x8_3 (wrap64 (a1 - 1))) else (none)) = some (r1, r2) := H
                            have A27 := Aside0.mk A270
                            clear A270
                            by_cases c28 : x7_3.length < 5864062014805
                            · rw [if_pos c28] at H
                              have LMc28 := Aside0.mk c28
                              clear c28
                              obtain ⟨y208, hy208⟩ : ∃ y_ : List (List Int), y_ = (x7_3 ++ [t205]) := ⟨_, rfl⟩
                              replace H : (word_Subsets.l2 k3 a0 a1 y208 x8_3 (wrap64 (a1 - 1))) = some (r1, r2) := by first | (rw [hy208]; with_reducible exact H) | (have H2_ := (Option.bind_some _ _).symm.trans H; rw [hy208]; with_reducible exact H2_) | (have H2_ := (Option.bind_some _ _).symm.trans H; with_reducible exact H2_) | with_reducible exact H | (rw [hy208]; exact H) | exact H
                              have Ny208 := Aside0.mk hy208
                              clear hy208
                              have HC29 := Aside0.mk H
                              clear H
                              go_upto_block 4 with (first | ((with_reducible refine gate_callee (f := 23) rfl ?_); refine goesL_ (some 48) rfl rfl Try.func23 (by kernel_rfl) rfl #[.slice Ao20 x8_3.length co20] rfl (by (try simp only [List.map_toArray, List.map_cons, List.map_nil]); first | done | rfl | (simp only [List.length_drop, List.length_take]; rfl)) ?_; (with_reducible refine (slices_Clone_int_int.calls _ _ x8_3 t205 _ ?side1 ?side2 A27.out).mono ?_); (case side1 => repeat (first | exact (Kd.R_reads' HO_8.out).2.2 | (with_reducible refine Kd.C_alloc ?_ _) | (with_reducible refine Kd.C_drewN ?_ _) | (with_reducible refine Kd.C_drew ?_))); (case side2 => exact (Kd.R_reads' HO_8.out).2.1); rintro e w30 ⟨v206, rfl, ho0, hb⟩; refine ⟨_, rfl, ?_⟩; have n0_ := Aside0.mk (Kd.S_elder' (by (with_reducible repeat (first | apply Kd.S_alloc | apply Kd.S_drewN | apply Kd.S_drew)); exact HO_7.out) (Kd.R_base ho0) hb); have n1_ := Aside0.mk (Kd.R_elder' (by (with_reducible repeat (first | apply Kd.R_alloc | apply Kd.R_drewN | apply Kd.R_drew)); exact HO_8.out) (Kd.R_base ho0) hb); have n2_ := Aside0.mk (Kd.R_lower (Kd.R_new' ho0 (Kd.R_lt (by (with_reducible repeat (first | apply Kd.R_alloc | apply Kd.R_drewN | apply Kd.R_drew)); exact HO_8.out))) (below_size (by repeat (first | (with_reducible first | exact HB.out | apply below_alloc | apply pw_below_drewN | apply below_drew1) | exact HB.out)))); have n3_ := Aside0.mk (below_step (by repeat (first | (with_reducible first | exact HB.out | apply below_alloc | apply pw_below_drewN | apply below_drew1) | exact HB.out)) hb); clear HO_7; clear HO_8; clear HB; have HO_7 := n0_; have HO_8 := n1_; have HO207 := n2_; have HB := n3_; clear n0_ n1_ n2_ n3_; (try clear hb); (try clear hb2); (try clear hk); (try clear hi); (try clear ho0); obtain ⟨Ao32, co32, eo32⟩ := Kd.R_slice HO207.out; subst eo32) | ((with_reducible refine gate_builtin (b := .append) (xs := #[.tmp 46, .tmp 49]) rfl ?_); at_builtin; refine Kd.S_append (Kd.slice 3 (Kd.int .i64)) (w0 := w) w.heap.size rfl (.tmp 46) (.tmp 49) 35 26 (.slice none 0 0) 24 rfl Try.underlying35 info26 rfl (by decide) (by omega) u7 x7_3 t205 [.slice Ao32 t205.length co32] (fun k_ => some k_ ≠ (.slice Ao20 x8_3.length co20 : Value).ownBlock) (fun k_ => some k_ = (.slice Ao32 t205.length co32 : Value).ownBlock) rfl rfl ?aP (fun k_ hk_ => ((Kd.R_mono (ok' := fun k_ => ((fun k_ => some k_ ≠ (.slice Ao20 x8_3.length co20 : Value).ownBlock)) k_ ∧ some k_ ≠ (u7 : Value).ownBlock) (Kd.R_apart' (HO207.out) (Kd.S_typed HO_7.out) (by decide)) (fun k_ hk => ⟨hk.1.2, hk.2⟩))).1 k_ hk_.symm) ?aF ?aO ?aB ?aS ?aL ?_; (case aP => exact Kd.M_row (Kd.R_mono (Kd.R_tight rfl (Kd.R_mono (ok' := fun k_ => ((fun k_ => some k_ ≠ (.slice Ao20 x8_3.length co20 : Value).ownBlock)) k_ ∧ some k_ ≠ (u7 : Value).ownBlock) (Kd.R_apart' (HO207.out) (Kd.S_typed HO_7.out) (by decide)) (fun k_ hk => ⟨hk.1.2, hk.2⟩))) (fun _ h_ => h_))); (case aB => exact (by repeat (first | (with_reducible first | exact HB.out | apply below_alloc | apply pw_below_drewN | apply below_drew1) | exact HB.out))); (case aF => exact (fun k_ hk => Kd.fresh' (Kd.R_lt (by (with_reducible repeat (first | apply Kd.R_alloc | apply Kd.R_drewN | apply Kd.R_drew)); exact HO_8.out)) k_ hk)); (case aO => exact (by (with_reducible repeat (first | apply Kd.S_alloc | apply Kd.S_drewN | apply Kd.S_drew)); exact Kd.S_mono HO_7.out (fun k_ hk => ⟨hk.1, fun e_ => hk.2 e_⟩))); (case aS => exact (below_size (by repeat (first | (with_reducible first | exact HB.out | apply below_alloc | apply pw_below_drewN | apply below_drew1) | exact HB.out)))); (case aL => have := LMc28.out; omega); intro v209 w31 ho hb hg hat; rw [← Ny208.out] at ho; have n0_ := Aside0.mk (Kd.R_over' (by (with_reducible repeat (first | apply Kd.R_alloc | apply Kd.R_drewN | apply Kd.R_drew)); exact HO_8.out) (Kd.S_typed (by (with_reducible repeat (first | apply Kd.S_alloc | apply Kd.S_drewN | apply Kd.S_drew)); exact HO_7.out)) (by decide) hg); have n1_ := Aside0.mk (hb); have n2_ := Aside0.mk (ho); clear HO_8; clear HB; clear HO_7; clear HO207; have HO_8 := n0_; have HB := n1_; have HO210 := n2_; clear n0_ n1_ n2_; clear ho hb hg hat))
                              (try simp only [Act.put, List.setIfInBounds_toArray, List.set_cons_zero, List.set_cons_succ])
                              go_cut [10] (fun v10 wc => ∃ (kq : Nat) (x10_28 : Int), v10 = .int .i64 x10_28 ∧ Aside0 (word_Subsets.j4 kq a0 a1 y208 x8_3 x10_28 = some (r1, r2)) ∧ Aside0 (kq ≤ k3) ∧ Aside0 (Kd.S (Kd.slice 3 (Kd.int .i64)) 26 wc w.heap.size (fun k_ => some k_ ≠ ((.slice Ao20 x8_3.length co20) : Value).ownBlock) v209 y208) ∧ Aside0 (Kd.R (Kd.int .i64) 3 wc w.heap.size (fun _ => True) (.slice Ao20 x8_3.length co20) x8_3) ∧ Aside0 (Below w.heap.size w wc))
                              case first =>
                                have H := HC29.out
                                clear HC29
                                have H' := Aside0.mk H
                                clear H
                                go_wp2
                                go_loopg [10] k3 (fun kq v10 w' => ∃ (x10_4 : Int), v10 = .int .i64 x10_4 ∧ Aside0 (word_Subsets.l2 kq a0 a1 y208 x8_3 x10_4 = some (r1, r2)) ∧ Aside0 (kq ≤ k3) ∧ Aside0 (Kd.S (Kd.slice 3 (Kd.int .i64)) 26 w' w.heap.size (fun k_ => some k_ ≠ ((.slice Ao20 x8_3.length co20) : Value).ownBlock) v209 y208) ∧ Aside0 (Kd.R (Kd.int .i64) 3 w' w.heap.size (fun _ => True) (.slice Ao20 x8_3.length co20) x8_3) ∧ Aside0 (Below w.heap.size w w'))
                                case atStart => exact ⟨(wrap64 (a1 - 1)), (by first | rfl | (simp; done) | (simp [*]; done)), H', ⟨Nat.le_refl _⟩, ⟨by (try simp only [hl8_2]); (try simp only [hl8_3]); (with_reducible repeat (first | apply Kd.S_alloc | apply Kd.S_drewN | apply Kd.S_drew)); exact HO210.out⟩, ⟨by (try simp only [hl8_2]); (try simp only [hl8_3]); (with_reducible repeat (first | apply Kd.R_alloc | apply Kd.R_drewN | apply Kd.R_drew)); exact Kd.R_mono HO_8.out (fun _ hk => trivial)⟩, ⟨by repeat (first | (with_reducible first | exact HB.out | apply below_alloc | apply pw_below_drewN | apply below_drew1) | exact HB.out)⟩⟩
                                case round =>
                                  clear H'
                                  try clear c1
                                  try clear c2
                                  try clear p2
                                  try clear q2
                                  try clear hx2
                                  try clear hf2
                                  try clear c4
                                  try clear c4b0
                                  try clear c5
                                  try clear c5b0
                                  try clear c6
                                  try clear c6b0
                                  try clear p6
                                  try clear c7
                                  try clear c9
                                  try clear c9b0
                                  try clear c11
                                  try clear c11b0
                                  try clear c11b1
                                  try clear c12
                                  try clear c12b0
                                  try clear c12b1
                                  try clear c13
                                  try clear c13b0
                                  try clear c13b1
                                  try clear c14
                                  try clear c14b0
                                  try clear c14b1
                                  try clear c17
                                  try clear c20
                                  try clear c21
                                  try clear c21b0
                                  try clear c22
                                  try clear c22b0
                                  try clear c23
                                  try clear c23b0
                                  try clear p24
                                  try clear q24
                                  try clear hx24
                                  try clear hf24
                                  try clear c28
                                  try clear hx24_0
                                  try clear p2
                                  try clear p24
                                  try clear p6
                                  try clear q2
                                  try clear q24
                                  obtain ⟨x10_4, rfl, HA, HK4, HO_7, HO_8, HB⟩ := hrel
                                  cases gk with
                                  | zero => exact absurd HA.out (by simp [word_Subsets.l2])
                                  | succ k4 =>
                                    have H := HA.out
                                    clear HA
                                    simp only [word_Subsets.l2] at H
                                    by_cases c33 : x10_4 ≥ 0
                                    · rw [if_pos c33] at H
                                      have c33b0 : decide (0 ≤ x10_4) = true := decide_eq_true c33
                                      clear c33
                                      (first | rw [c33b0] | (simp only [i64_w, i32_w]; rw [c33b0]) | skip)
                                      by_cases c34 : 0 ≤ x10_4
                                      · rw [if_pos c34] at H
                                        have c34b0 : decide (0 ≤ x10_4) = true := decide_eq_true c34
                                        clear c34
                                        by_cases c35 : x10_4 < (x8_3.length : Int)
                                        · rw [if_pos c35] at H
                                          have c35b0 : decide (x10_4 < (x8_3.length : Int)) = true := decide_eq_true c35
                                          (try (have c35b0h0 := c35b0; simp only [hl8_2] at c35b0h0))
                                          (try (have c35b0h1 := c35b0; simp only [hl8_3] at c35b0h1))
                                          clear c35
                                          by_cases c36 : (rd x8_3 x10_4) = (wrap64 ((wrap64 (a0 - a1)) + x10_4))
                                          · rw [if_pos c36] at H
                                            have c36b0 : ((rd x8_3 x10_4) == (wrap64 ((wrap64 (a0 - a1)) + x10_4))) = true := beq_iff_eq.mpr c36
                                            have c36b1 : ((rd x8_3 x10_4) != (wrap64 ((wrap64 (a0 - a1)) + x10_4))) = false := bne_eq_false_iff_eq.mpr c36
                                            clear c36
                                            have H' := Aside0.mk H
                                            clear H
                                            have p211 : 0 ≤ (x10_4 : Int) := of_decide_eq_true (by first | (with_reducible assumption) | assumption)
                                            have q211 : x10_4 < (x8_3.length : Int) := of_decide_eq_true (by first | (with_reducible assumption) | assumption)
                                            obtain ⟨ad211, e211, hx211_0⟩ := Kd.at_int (Kd.R_reads' HO_8.out).2.2 x10_4 p211 q211
                                            cases e211
                                            replace p211 := eq_true p211
                                            replace q211 := eq_true q211
                                            go_wp2
                                            go_roundg k4
                                            case measure => have := HJ2.out; have := HK2.out; have := HK3.out; have := HK4.out; omega
                                            case rel => exact ⟨(wrap64 (x10_4 - 1)), (by first | rfl | (simp; done) | (simp [*]; done)), H', ⟨by have := HJ2.out; have := HK2.out; have := HK3.out; have := HK4.out; omega⟩, ⟨by (try simp only [hl8_2]); (try simp only [hl8_3]); (with_reducible repeat (first | apply Kd.S_alloc | apply Kd.S_drewN | apply Kd.S_drew)); exact HO_7.out⟩, ⟨by (try simp only [hl8_2]); (try simp only [hl8_3]); (with_reducible repeat (first | apply Kd.R_alloc | apply Kd.R_drewN | apply Kd.R_drew)); exact HO_8.out⟩, ⟨by repeat (first | (with_reducible first | exact HB.out | apply below_alloc | apply pw_below_drewN | apply below_drew1) | exact HB.out)⟩⟩
                                          · rw [if_neg c36] at H
                                            have c36b0 : ((rd x8_3 x10_4) == (wrap64 ((wrap64 (a0 - a1)) + x10_4))) = false := beq_eq_false_iff_ne.mpr c36
                                            have c36b1 : ((rd x8_3 x10_4) != (wrap64 ((wrap64 (a0 - a1)) + x10_4))) = true := bne_iff_ne.mpr c36
                                            have H' := Aside0.mk H
                                            clear H
                                            have p211 : 0 ≤ (x10_4 : Int) := of_decide_eq_true (by first | (with_reducible assumption) | assumption)
                                            have q211 : x10_4 < (x8_3.length : Int) := of_decide_eq_true (by first | (with_reducible assumption) | assumption)
                                            obtain ⟨ad211, e211, hx211_0⟩ := Kd.at_int (Kd.R_reads' HO_8.out).2.2 x10_4 p211 q211
                                            cases e211
                                            replace p211 := eq_true p211
                                            replace q211 := eq_true q211
                                            go_wp2
                                            go_meet
                                            case rel => exact ⟨_, (x10_4), (by first | rfl | (simp; done) | (simp [*]; done)), H', ⟨by have := HJ2.out; have := HK2.out; have := HK3.out; have := HK4.out; first | omega | exact Nat.le_refl _⟩, ⟨by (try simp only [hl8_2]); (try simp only [hl8_3]); (with_reducible repeat (first | apply Kd.S_alloc | apply Kd.S_drewN | apply Kd.S_drew)); exact HO_7.out⟩, ⟨by (try simp only [hl8_2]); (try simp only [hl8_3]); (with_reducible repeat (first | apply Kd.R_alloc | apply Kd.R_drewN | apply Kd.R_drew)); exact HO_8.out⟩, ⟨by repeat (first | (with_reducible first | exact HB.out | apply below_alloc | apply pw_below_drewN | apply below_drew1) | exact HB.out)⟩⟩
                                        · rw [if_neg c35] at H
                                          exact absurd H (by simp)
                                      · rw [if_neg c34] at H
                                        exact absurd H (by simp)
                                    · rw [if_neg c33] at H
                                      have c33b0 : decide (0 ≤ x10_4) = false := decide_eq_false c33
                                      clear c33
                                      (first | rw [c33b0] | (simp only [i64_w, i32_w]; rw [c33b0]) | skip)
                                      have H' := Aside0.mk H
                                      clear H
                                      go_wp2
                                      go_meet
                                      case rel => exact ⟨_, (x10_4), (by first | rfl | (simp; done) | (simp [*]; done)), H', ⟨by have := HJ2.out; have := HK2.out; have := HK3.out; have := HK4.out; first | omega | exact Nat.le_refl _⟩, ⟨by (try simp only [hl8_2]); (try simp only [hl8_3]); (with_reducible repeat (first | apply Kd.S_alloc | apply Kd.S_drewN | apply Kd.S_drew)); exact HO_7.out⟩, ⟨by (try simp only [hl8_2]); (try simp only [hl8_3]); (with_reducible repeat (first | apply Kd.R_alloc | apply Kd.R_drewN | apply Kd.R_drew)); exact HO_8.out⟩, ⟨by repeat (first | (with_reducible first | exact HB.out | apply below_alloc | apply pw_below_drewN | apply below_drew1) | exact HB.out)⟩⟩
                              case rest =>
                                clear HC29
                                try clear c1
                                try clear c2
                                try clear p2
                                try clear q2
                                try clear hx2
                                try clear hf2
                                try clear c3
                                try clear c4
                                try clear c4b0
                                try clear c5
                                try clear c5b0
                                try clear c6
                                try clear c6b0
                                try clear p6
                                try clear c7
                                try clear c9
                                try clear c9b0
                                try clear c11
                                try clear c11b0
                                try clear c11b1
                                try clear c12
                                try clear c12b0
                                try clear c12b1
                                try clear c13
                                try clear c13b0
                                try clear c13b1
                                try clear c14
                                try clear c14b0
                                try clear c14b1
                                try clear c17
                                try clear c20
                                try clear c21
                                try clear c21b0
                                try clear p21
                                try clear q21
                                try clear hx21
                                try clear c22
                                try clear c22b0
                                try clear c23
                                try clear c23b0
                                try clear p24
                                try clear q24
                                try clear hx24
                                try clear hf24
                                try clear c28
                                try clear c33
                                try clear c33b0
                                try clear c34
                                try clear c34b0
                                try clear c35
                                try clear c35b0
                                try clear c36
                                try clear c36b0
                                try clear c36b1
                                try clear hx211_0
                                try clear hx24_0
                                try clear p2
                                try clear p211
                                try clear p24
                                try clear p6
                                try clear q2
                                try clear q211
                                try clear q24
                                obtain ⟨kq, x10_28, rfl, HA, HJ28, HO_7, HO_8, HB⟩ := hcut
                                cases kq with
                                | zero => exact absurd HA.out (by simp [word_Subsets.j4])
                                | succ kj28 =>
                                  have H := HA.out
                                  clear HA
                                  simp only [word_Subsets.j4] at H
                                  by_cases c37 : x10_28 < 0
                                  · rw [if_pos c37] at H
                                    have c37b0 : decide (x10_28 < 0) = true := decide_eq_true c37
                                    clear c37
                                    simp only [Option.some.injEq, Prod.mk.injEq] at H
                                    obtain ⟨rfl, rfl⟩ := H
                                    go_wp2
                                    go_ret2
                                    exact ⟨_, by first | rfl | (simp [errW_none, errW_some] <;> rfl) | (simp [*, errW_none, errW_some] <;> rfl), by (with_reducible repeat (first | apply Kd.S_alloc | apply Kd.S_drewN | apply Kd.S_drew)); exact Kd.S_mono HO_7.out (fun _ hk => trivial), by repeat (first | (with_reducible first | exact HB.out | apply below_alloc | apply pw_below_drewN | apply below_drew1) | exact HB.out)⟩
                                  · rw [if_neg c37] at H
                                    have c37b0 : decide (x10_28 < 0) = false := decide_eq_false c37
                                    clear c37
                                    by_cases c38 : 0 ≤ x10_28
                                    · rw [if_pos c38] at H
                                      have c38b0 : decide (0 ≤ x10_28) = true := decide_eq_true c38
                                      clear c38
                                      by_cases c39 : x10_28 < (x8_3.length : Int)
                                      · rw [if_pos c39] at H
                                        have c39b0 : decide (x10_28 < (x8_3.length : Int)) = true := decide_eq_true c39
                                        (try (have c39b0h0 := c39b0; simp only [hl8_2] at c39b0h0))
                                        (try (have c39b0h1 := c39b0; simp only [hl8_3] at c39b0h1))
                                        clear c39
                                        obtain ⟨y213, hy213⟩ : ∃ y_ : List Int, y_ = (x8_3.set (x10_28 : Int).toNat (wrap64 ((rd x8_3 x10_28) + 1))) := ⟨_, rfl⟩
                                        replace H : (word_Subsets.l3 kj28 a0 a1 y208 y213 (wrap64 (x10_28 + 1))) = some (r1, r2) := by first | (rw [hy213]; with_reducible exact H) | (have H2_ := (Option.bind_some _ _).symm.trans H; rw [hy213]; with_reducible exact H2_) | (have H2_ := (Option.bind_some _ _).symm.trans H; with_reducible exact H2_) | with_reducible exact H | (rw [hy213]; exact H) | exact H
                                        have Ny213 := Aside0.mk hy213
                                        clear hy213
                                        have H' := Aside0.mk H
                                        clear H
                                        have p212 : 0 ≤ (x10_28 : Int) := of_decide_eq_true (by first | (with_reducible assumption) | assumption)
                                        have q212 : x10_28 < (x8_3.length : Int) := of_decide_eq_true (by first | (with_reducible assumption) | assumption)
                                        obtain ⟨ad212, e212, hx212_0⟩ := Kd.at_int (Kd.R_reads' HO_8.out).2.2 x10_28 p212 q212
                                        cases e212
                                        replace p212 := eq_true p212
                                        replace q212 := eq_true q212
                                        have p40 : 0 ≤ (x10_28 : Int) := of_decide_eq_true (by first | (with_reducible assumption) | assumption)
                                        have q40 : (x10_28 : Int) < ((x8_3.length : Int) : Int) := of_decide_eq_true (by first | (with_reducible assumption) | assumption)
                                        obtain ⟨go40, co40, eo40, gb40, gl40, cl40, HG40⟩ := Kd.R_form HO_8.out (by omega)
                                        (first | cases eo40 | (injection eo40 with ea_ en_ ec_; (first | subst ea_ | (injection ea_ with ea_; subst ea_)); subst ec_; clear en_))
                                        have GB40 := Aside0.mk gb40
                                        have GG40 := Aside0.mk HG40
                                        clear gb40 gl40 HG40
                                        (first | simp only [add_plain] at hx212_0 | skip)
                                        obtain ⟨hx40_0, hf40_0⟩ := Kd.R_celln 0 HO_8.out (x10_28 : Int) p40 q40
                                        replace p40 := eq_true p40
                                        replace q40 := eq_true q40
                                        have HP41 := Kd.R_putg HO_8.out (x10_28 : Int) (wrap64 ((rd x8_3 x10_28) + 1))
                                        go_wp2_with (first | ((with_reducible refine gate_store (t := 3) (p := 77) rfl ?_); refine store_event (t := 3) (p := 77) (v := ?vo_w42) (w1 := (wc.setCell ⟨go40, (x10_28 : Int).toNat, none⟩ (.int .i64 (wrap64 ((rd x8_3 x10_28) + 1))))) ?hg ?ho ?hn ?hr ?_; (case ho => rfl); (case hg => rfl); (case hn => rfl); (case hr => first | (go_simp; done) | (go_simp; rfl)); intro w42 hw; have hg : wc.grownBy w42 (some go40) := (by rw [hw]; exact HP41.2); have hp_ : Kd.R (Kd.int .i64) 3 w42 w.heap.size (fun _ => True) (.slice (some ⟨go40, 0, none⟩) x8_3.length co20) y213 := (by rw [hw, Ny213.out]; exact HP41.1); clear HP41; have n0_ := Aside0.mk (Kd.S_after (v := (.slice (some ⟨go40, 0, none⟩) x8_3.length co20)) (v1 := (.slice (some ⟨go40, 0, none⟩) x8_3.length co20)) (ok := (fun _ => True)) (by (with_reducible repeat (first | apply Kd.S_alloc | apply Kd.S_drewN | apply Kd.S_drew)); exact Kd.S_mono HO_7.out (fun _ hk => ⟨trivial, hk⟩)) hg (.inl rfl)); have n1_ := Aside0.mk (hp_); have n2_ := Aside0.mk ((by rw [hw]; exact below_set (HB.out) GB40.out : Below w.heap.size w w42)); clear HO_7; clear HO_8; clear HB; have HO_7 := n0_; have HO_8 := n1_; have HB := n2_; clear n0_ n1_ n2_; clear hg hw hp_))
                                        go_loopg [11] kj28 (fun kq v11 w' => ∃ (x8_5 : List Int) (x11_5 : Int), v11 = .int .i64 x11_5 ∧ Aside0 (word_Subsets.l3 kq a0 a1 y208 x8_5 x11_5 = some (r1, r2)) ∧ Aside0 (kq ≤ kj28) ∧ Aside0 (Kd.S (Kd.slice 3 (Kd.int .i64)) 26 w' w.heap.size (fun k_ => some k_ ≠ ((.slice (some ⟨go40, 0, none⟩) x8_3.length co20) : Value).ownBlock) v209 y208) ∧ Aside0 (Kd.R (Kd.int .i64) 3 w' w.heap.size (fun _ => True) (.slice (some ⟨go40, 0, none⟩) x8_3.length co20) x8_5) ∧ Aside0 (Below w.heap.size w w'))
                                        case atStart => exact ⟨(y213), (wrap64 (x10_28 + 1)), (by first | rfl | (simp; done) | (simp [*]; done)), H', ⟨Nat.le_refl _⟩, ⟨by (try simp only [hl8_2]); (try simp only [hl8_3]); (with_reducible repeat (first | apply Kd.S_alloc | apply Kd.S_drewN | apply Kd.S_drew)); exact Kd.S_mono HO_7.out (fun _ hk => hk.2)⟩, ⟨by (try simp only [hl8_2]); (try simp only [hl8_3]); (with_reducible repeat (first | apply Kd.R_alloc | apply Kd.R_drewN | apply Kd.R_drew)); exact HO_8.out⟩, ⟨by repeat (first | (with_reducible first | exact HB.out | apply below_alloc | apply pw_below_drewN | apply below_drew1) | exact HB.out)⟩⟩
                                        case round =>
                                          clear H'
                                          try clear c1
                                          try clear c2
                                          try clear p2
                                          try clear q2
                                          try clear hx2
                                          try clear hf2
                                          try clear c3
                                          try clear c4
                                          try clear c4b0
                                          try clear p4
                                          try clear q4
                                          try clear hx4
                                          try clear hf4
                                          try clear c5
                                          try clear c5b0
                                          try clear c6
                                          try clear c6b0
                                          try clear p6
                                          try clear c7
                                          try clear c9
                                          try clear c9b0
                                          try clear c11
                                          try clear c11b0
                                          try clear c11b1
                                          try clear c12
                                          try clear c12b0
                                          try clear c12b1
                                          try clear c13
                                          try clear c13b0
                                          try clear c13b1
                                          try clear c14
                                          try clear c14b0
                                          try clear c14b1
                                          try clear c17
                                          try clear c20
                                          try clear c21
                                          try clear c21b0
                                          try clear p21
                                          try clear q21
                                          try clear hx21
                                          try clear c22
                                          try clear c22b0
                                          try clear c23
                                          try clear c23b0
                                          try clear p24
                                          try clear q24
                                          try clear hx24
                                          try clear hf24
                                          try clear c28
                                          try clear c33
                                          try clear c33b0
                                          try clear c34
                                          try clear c34b0
                                          try clear c35
                                          try clear c35b0
                                          try clear c36
                                          try clear c36b0
                                          try clear c36b1
                                          try clear c37
                                          try clear c37b0
                                          try clear c38
                                          try clear c38b0
                                          try clear c39
                                          try clear c39b0
                                          try clear p40
                                          try clear q40
                                          try clear hx40
                                          try clear hf40
                                          try clear hx211_0
                                          try clear hx212_0
                                          try clear hx24_0
                                          try clear hx40_0
                                          try clear p2
                                          try clear p21
                                          try clear p211
                                          try clear p212
                                          try clear p24
                                          try clear p40
                                          try clear p6
                                          try clear q2
                                          try clear q21
                                          try clear q211
                                          try clear q212
                                          try clear q24
                                          try clear q40
                                          obtain ⟨x8_5, x11_5, rfl, HA, HK5, HO_7, HO_8, HB⟩ := hrel
                                          have hl8_5 := (Kd.R_reads' HO_8.out).1
                                          rw [hl8_5] at HO_8
                                          (try simp only [hl8_5])
                                          (try simp only [hl8_5] at HO_7)
                                          cases gk with
                                          | zero => exact absurd HA.out (by simp [word_Subsets.l3])
                                          | succ k5 =>
                                            have H := HA.out
                                            clear HA
                                            simp only [word_Subsets.l3] at H
                                            by_cases c43 : x11_5 < a1
                                            · rw [if_pos c43] at H
                                              have c43b0 : decide (x11_5 < a1) = true := decide_eq_true c43
                                              clear c43
                                              obtain ⟨ji44, hji44⟩ : ∃ j_ : Int, (wrap64 (x11_5 - 1)) = j_ := ⟨_, rfl⟩
                                              replace H : (if 0 ≤ (ji44) then (if (ji44) < (x8_5.length : Int) then (if 0 ≤ x11_5 then (if x11_5 < (x8_5.length : Int) then (word_Subsets.l3 k5 a0 a1 y208 (x8_5.set (x11_5 : Int).toNat (wrap64 ((rd x8_5 (ji44)) + 1))) (wrap64 (x11_5 + 1))) else (none)) else (none)) else (none)) else (none)) = some (r1, r2) := by first | (rw [hji44] at H; exact H) | (simp only [hji44] at H ⊢; exact H)
                                              have hji44w : (IntKind.i64.wrap (x11_5 - 1)) = ji44 := (i64_w _).trans hji44
                                              by_cases c45 : 0 ≤ (ji44)
                                              · rw [if_pos c45] at H
                                                have c45b0 : decide (0 ≤ (ji44)) = true := decide_eq_true c45
                                                clear c45
                                                by_cases c46 : (ji44) < (x8_5.length : Int)
                                                · rw [if_pos c46] at H
                                                  have c46b0 : decide ((ji44) < (x8_5.length : Int)) = true := decide_eq_true c46
                                                  (try (have c46b0h0 := c46b0; simp only [hl8_2] at c46b0h0))
                                                  (try (have c46b0h1 := c46b0; simp only [hl8_3] at c46b0h1))
                                                  (try (have c46b0h2 := c46b0; simp only [hl8_5] at c46b0h2))
                                                  clear c46
                                                  by_cases c47 : 0 ≤ x11_5
                                                  · rw [if_pos c47] at H
                                                    have c47b0 : decide (0 ≤ x11_5) = true := decide_eq_true c47
                                                    clear c47
                                                    by_cases c48 : x11_5 < (x8_5.length : Int)
                                                    · rw [if_pos c48] at H
                                                      have c48b0 : decide (x11_5 < (x8_5.length : Int)) = true := decide_eq_true c48
                                                      (try (have c48b0h0 := c48b0; simp only [hl8_2] at c48b0h0))
                                                      (try (have c48b0h1 := c48b0; simp only [hl8_3] at c48b0h1))
                                                      (try (have c48b0h2 := c48b0; simp only [hl8_5] at c48b0h2))
                                                      clear c48
                                                      obtain ⟨y215, hy215⟩ : ∃ y_ : List Int, y_ = (x8_5.set (x11_5 : Int).toNat (wrap64 ((rd x8_5 (ji44)) + 1))) := ⟨_, rfl⟩
                                                      replace H : (word_Subsets.l3 k5 a0 a1 y208 y215 (wrap64 (x11_5 + 1))) = some (r1, r2) := by first | (rw [hy215]; with_reducible exact H) | (have H2_ := (Option.bind_some _ _).symm.trans H; rw [hy215]; with_reducible exact H2_) | (have H2_ := (Option.bind_some _ _).symm.trans H; with_reducible exact H2_) | with_reducible exact H | (rw [hy215]; exact H) | exact H
                                                      have Ny215 := Aside0.mk hy215
                                                      clear hy215
                                                      have H' := Aside0.mk H
                                                      clear H
                                                      have p214 : 0 ≤ ((ji44) : Int) := of_decide_eq_true (by first | (with_reducible assumption) | assumption)
                                                      have q214 : (ji44) < (x8_5.length : Int) := of_decide_eq_true (by first | (with_reducible assumption) | assumption)
                                                      obtain ⟨ad214, e214, hx214_0⟩ := Kd.at_int (Kd.R_reads' HO_8.out).2.2 (ji44) p214 q214
                                                      obtain rfl : (⟨go40, 0, none⟩ : Addr) = ad214 := (by injection e214)
                                                      (first | simp only [add_plain] at hx214_0 | simp only [add_at] at hx214_0 | simp only [Addr.add, Nat.zero_add] at hx214_0 | skip)
                                                      replace p214 := eq_true p214
                                                      replace q214 := eq_true q214
                                                      have p49 : 0 ≤ (x11_5 : Int) := of_decide_eq_true (by first | (with_reducible assumption) | assumption)
                                                      have q49 : (x11_5 : Int) < ((x8_5.length : Int) : Int) := of_decide_eq_true (by first | (with_reducible assumption) | assumption)
                                                      obtain ⟨hx49_0, hf49_0⟩ := Kd.R_celln 0 HO_8.out (x11_5 : Int) p49 q49
                                                      replace p49 := eq_true p49
                                                      replace q49 := eq_true q49
                                                      have HP50 := Kd.R_putg HO_8.out (x11_5 : Int) (wrap64 ((rd x8_5 (ji44)) + 1))
                                                      go_wp2_with (first | ((with_reducible refine gate_store (t := 3) (p := 93) rfl ?_); refine store_event (t := 3) (p := 93) (v := ?vo_w51) (w1 := (wr.setCell ⟨go40, (x11_5 : Int).toNat, none⟩ (.int .i64 (wrap64 ((rd x8_5 (ji44)) + 1))))) ?hg ?ho ?hn ?hr ?_; (case ho => rfl); (case hg => rfl); (case hn => rfl); (case hr => first | (go_simp; done) | (go_simp; rfl)); intro w51 hw; have hg : wr.grownBy w51 (some go40) := (by rw [hw]; exact HP50.2); have hp_ : Kd.R (Kd.int .i64) 3 w51 w.heap.size (fun _ => True) (.slice (some ⟨go40, 0, none⟩) x8_5.length co20) y215 := (by rw [hw, Ny215.out]; exact HP50.1); clear HP50; have n0_ := Aside0.mk (Kd.S_after (v := (.slice (some ⟨go40, 0, none⟩) x8_5.length co20)) (v1 := (.slice (some ⟨go40, 0, none⟩) x8_5.length co20)) (ok := (fun _ => True)) (by (with_reducible repeat (first | apply Kd.S_alloc | apply Kd.S_drewN | apply Kd.S_drew)); exact Kd.S_mono HO_7.out (fun _ hk => ⟨trivial, hk⟩)) hg (.inl rfl)); have n1_ := Aside0.mk (hp_); have n2_ := Aside0.mk ((by rw [hw]; exact below_set (HB.out) GB40.out : Below w.heap.size w w51)); clear HO_7; clear HO_8; clear HB; have HO_7 := n0_; have HO_8 := n1_; have HB := n2_; clear n0_ n1_ n2_; clear hg hw hp_))
                                                      (try simp only [← hl8_5])
                                                      go_roundg k5
                                                      case measure => have := HJ2.out; have := HK2.out; have := HK3.out; have := HJ28.out; have := HK5.out; omega
                                                      case rel => exact ⟨(y215), (wrap64 (x11_5 + 1)), (by first | rfl | (simp; done) | (simp [*]; done)), H', ⟨by have := HJ2.out; have := HK2.out; have := HK3.out; have := HJ28.out; have := HK5.out; omega⟩, ⟨by (try simp only [hl8_2]); (try simp only [hl8_3]); (try simp only [hl8_5]); (with_reducible repeat (first | apply Kd.S_alloc | apply Kd.S_drewN | apply Kd.S_drew)); exact Kd.S_mono HO_7.out (fun _ hk => hk.2)⟩, ⟨by (try simp only [hl8_2]); (try simp only [hl8_3]); (try simp only [hl8_5]); (with_reducible repeat (first | apply Kd.R_alloc | apply Kd.R_drewN | apply Kd.R_drew)); exact HO_8.out⟩, ⟨by repeat (first | (with_reducible first | exact HB.out | apply below_alloc | apply pw_below_drewN | apply below_drew1) | exact HB.out)⟩⟩
                                                    · rw [if_neg c48] at H
                                                      exact absurd H (by simp)
                                                  · rw [if_neg c47] at H
                                                    exact absurd H (by simp)
                                                · rw [if_neg c46] at H
                                                  exact absurd H (by simp)
                                              · rw [if_neg c45] at H
                                                exact absurd H (by simp)
                                            · rw [if_neg c43] at H
                                              have c43b0 : decide (x11_5 < a1) = false := decide_eq_false c43
                                              clear c43
                                              have H' := Aside0.mk H
                                              clear H
                                              go_wp2
                                              (try simp only [← hl8_3, ← hl8_5])
                                              go_roundg k5
                                              case measure => have := HJ2.out; have := HK2.out; have := HK3.out; have := HJ28.out; have := HK5.out; omega
                                              case rel => exact ⟨(y208), (x8_5), H', ⟨by have := HJ2.out; have := HK2.out; have := HK3.out; have := HJ28.out; have := HK5.out; omega⟩, ⟨by (try simp only [hl8_2]); (try simp only [hl8_3]); (try simp only [hl8_5]); (with_reducible repeat (first | apply Kd.S_alloc | apply Kd.S_drewN | apply Kd.S_drew)); exact HO_7.out⟩, ⟨by (try simp only [hl8_2]); (try simp only [hl8_3]); (try simp only [hl8_5]); (with_reducible repeat (first | apply Kd.R_alloc | apply Kd.R_drewN | apply Kd.R_drew)); exact HO_8.out⟩, ⟨by repeat (first | (with_reducible first | exact HB.out | apply below_alloc | apply pw_below_drewN | apply below_drew1) | exact HB.out)⟩⟩
                                      · rw [if_neg c39] at H
                                        exact absurd H (by simp)
                                    · rw [if_neg c38] at H
                                      exact absurd H (by simp)
                            · rw [if_neg c28] at H
                              exact absurd H (by simp)
                · rw [if_neg c14] at H
                  exact absurd H (by simp)
              · rw [if_neg c13] at H
                exact absurd H (by simp)
            · rw [if_neg c12] at H
              exact absurd H (by simp)
          · rw [if_neg c11] at H
            exact absurd H (by simp)

end Go.Proofs.Ytekojgilikoegaa.Q
