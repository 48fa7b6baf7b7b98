-- Written by a program of this work over the kit's printer; Lean checks it.
import Derived.Test.YtekojgilikoegaaQx0
namespace Go.Proofs.Ytekojgilikoegaa.Q
open Go.RowKit Go.Proofs.YtekojgilikoegaaW.PrintWords Go.Proofs.YtekojgilikoegaaW.PrintLast Go.Proofs.YtekojgilikoegaaW.PrintMore
attribute [local go_sem] max2_int min2_int max_two min_two max_three min_three max_four min_four   -- for this text's walks alone
set_option linter.unusedVariables false
set_option linter.unusedSimpArgs false

/-! ### codewrightref11_Binomial: function 9 -/
mutual
def codewrightref11_Binomial.j0 : Nat → Int → Int → Bool → Option (Int × Int)
  | 0, _, _, _ => none
  | k + 1, x0, x1, x14 => if x14 = true then (some (0, 6)) else (if x1 < 0 then (codewrightref11_Binomial.j1 k x0 x1 true) else (codewrightref11_Binomial.j1 k x0 x1 (decide (x1 > x0))))
def codewrightref11_Binomial.j1 : Nat → Int → Int → Bool → Option (Int × Int)
  | 0, _, _, _ => none
  | k + 1, x0, x1, x21 => if x21 = true then (some (0, 0)) else (if 0 ≤ (wrap64 (x0 + 1)) then (if (wrap64 (x0 + 1) : Int).toNat ≤ 35184372088832 then ((some (List.replicate (wrap64 (x0 + 1) : Int).toNat 0 : List Int)).bind fun y111 => (if 0 < (y111.length : Int) then (codewrightref11_Binomial.l0 k x0 x1 (y111.set (0 : Int).toNat 1) 1) else (none))) else (none)) else (none))
def codewrightref11_Binomial.l0 : Nat → Int → Int → List Int → Int → Option (Int × Int)
  | 0, _, _, _, _ => none
  | k + 1, x0, x1, x6, x7 => if x7 ≤ x0 then (codewrightref11_Binomial.l1 k x0 x1 x6 x7 x7) else (if 0 ≤ x1 then (if x1 < (x6.length : Int) then (some (rd x6 x1, 0)) else (none)) else (none))
def codewrightref11_Binomial.l1 : Nat → Int → Int → List Int → Int → Int → Option (Int × Int)
  | 0, _, _, _, _, _ => none
  | k + 1, x0, x1, x6, x7, x8 => if x8 ≥ 1 then (if 0 ≤ x8 then (if x8 < (x6.length : Int) then (if 0 ≤ (wrap64 (x8 - 1)) then (if (wrap64 (x8 - 1)) < (x6.length : Int) then (codewrightref11_Binomial.l1 k x0 x1 (x6.set (x8 : Int).toNat (wrap64 ((rd x6 x8) + (rd x6 (wrap64 (x8 - 1)))))) x7 (wrap64 (x8 - 1))) else (none)) else (none)) else (none)) else (none)) else (codewrightref11_Binomial.l0 k x0 x1 x6 (wrap64 (x7 + 1)))
end
def codewrightref11_Binomial.f (k : Nat) (a0 : Int) (a1 : Int) : Option (Int × Int) := if a0 < 0 then (codewrightref11_Binomial.j0 k a0 a1 true) else (codewrightref11_Binomial.j0 k a0 a1 (decide (a0 > 64)))
theorem codewrightref11_Binomial.mono_l : ∀ k, (∀ y0 y1 y2, LeO (codewrightref11_Binomial.j0 k y0 y1 y2) (codewrightref11_Binomial.j0 (k + 1) y0 y1 y2)) ∧ (∀ y0 y1 y2, LeO (codewrightref11_Binomial.j1 k y0 y1 y2) (codewrightref11_Binomial.j1 (k + 1) y0 y1 y2)) ∧ (∀ y0 y1 y2 y3, LeO (codewrightref11_Binomial.l0 k y0 y1 y2 y3) (codewrightref11_Binomial.l0 (k + 1) y0 y1 y2 y3)) ∧ (∀ y0 y1 y2 y3 y4, LeO (codewrightref11_Binomial.l1 k y0 y1 y2 y3 y4) (codewrightref11_Binomial.l1 (k + 1) y0 y1 y2 y3 y4))
  | 0 => ⟨fun _ _ _ r h => by simp [codewrightref11_Binomial.j0] at h, fun _ _ _ r h => by simp [codewrightref11_Binomial.j1] at h, fun _ _ _ _ r h => by simp [codewrightref11_Binomial.l0] at h, fun _ _ _ _ _ r h => by simp [codewrightref11_Binomial.l1] at h⟩
  | k + 1 => by
    obtain ⟨ih0, ih1, ih2, ih3⟩ := codewrightref11_Binomial.mono_l k
    refine ⟨?_, ?_, ?_, ?_⟩
    · intro y0 y1 y2
      unfold codewrightref11_Binomial.j0
      repeat' first
      | (with_reducible exact ih0 _ _ _)
      | (with_reducible exact ih1 _ _ _)
      | (with_reducible exact ih2 _ _ _ _)
      | (with_reducible exact ih3 _ _ _ _ _)
      | (with_reducible exact LeO.refl _)
      | (with_reducible exact LeO.none _)
      | (with_reducible refine LeO.ite ?_ ?_)
      | (with_reducible refine LeO.bind ?_ (fun _ => ?_))
      | exact ih0 _ _ _
      | exact ih1 _ _ _
      | exact ih2 _ _ _ _
      | exact ih3 _ _ _ _ _
      | exact LeO.none _
      | refine LeO.ite ?_ ?_
      | refine LeO.bind ?_ (fun _ => ?_)
    · intro y0 y1 y2
      unfold codewrightref11_Binomial.j1
      repeat' first
      | (with_reducible exact ih0 _ _ _)
      | (with_reducible exact ih1 _ _ _)
      | (with_reducible exact ih2 _ _ _ _)
      | (with_reducible exact ih3 _ _ _ _ _)
      | (with_reducible exact LeO.refl _)
      | (with_reducible exact LeO.none _)
      | (with_reducible refine LeO.ite ?_ ?_)
      | (with_reducible refine LeO.bind ?_ (fun _ => ?_))
      | exact ih0 _ _ _
      | exact ih1 _ _ _
      | exact ih2 _ _ _ _
      | exact ih3 _ _ _ _ _
      | exact LeO.none _
      | refine LeO.ite ?_ ?_
      | refine LeO.bind ?_ (fun _ => ?_)
    · intro y0 y1 y2 y3
      unfold codewrightref11_Binomial.l0
      repeat' first
      | (with_reducible exact ih0 _ _ _)
      | (with_reducible exact ih1 _ _ _)
      | (with_reducible exact ih2 _ _ _ _)
      | (with_reducible exact ih3 _ _ _ _ _)
      | (with_reducible exact LeO.refl _)
      | (with_reducible exact LeO.none _)
      | (with_reducible refine LeO.ite ?_ ?_)
      | (with_reducible refine LeO.bind ?_ (fun _ => ?_))
      | exact ih0 _ _ _
      | exact ih1 _ _ _
      | exact ih2 _ _ _ _
      | exact ih3 _ _ _ _ _
      | exact LeO.none _
      | refine LeO.ite ?_ ?_
      | refine LeO.bind ?_ (fun _ => ?_)
    · intro y0 y1 y2 y3 y4
      unfold codewrightref11_Binomial.l1
      repeat' first
      | (with_reducible exact ih0 _ _ _)
      | (with_reducible exact ih1 _ _ _)
      | (with_reducible exact ih2 _ _ _ _)
      | (with_reducible exact ih3 _ _ _ _ _)
      | (with_reducible exact LeO.refl _)
      | (with_reducible exact LeO.none _)
      | (with_reducible refine LeO.ite ?_ ?_)
      | (with_reducible refine LeO.bind ?_ (fun _ => ?_))
      | exact ih0 _ _ _
      | exact ih1 _ _ _
      | exact ih2 _ _ _ _
      | exact ih3 _ _ _ _ _
      | exact LeO.none _
      | refine LeO.ite ?_ ?_
      | refine LeO.bind ?_ (fun _ => ?_)
theorem codewrightref11_Binomial.mono : ∀ a0 a1 k, LeO (codewrightref11_Binomial.f k a0 a1) (codewrightref11_Binomial.f (k + 1) a0 a1) := by
  intro a0 a1 k
  obtain ⟨ih0, ih1, ih2, ih3⟩ := codewrightref11_Binomial.mono_l k
  unfold codewrightref11_Binomial.f
  repeat' first
      | (with_reducible exact ih0 _ _ _)
      | (with_reducible exact ih1 _ _ _)
      | (with_reducible exact ih2 _ _ _ _)
      | (with_reducible exact ih3 _ _ _ _ _)
      | (with_reducible exact LeO.refl _)
      | (with_reducible exact LeO.none _)
      | (with_reducible refine LeO.ite ?_ ?_)
      | (with_reducible refine LeO.bind ?_ (fun _ => ?_))
      | exact ih0 _ _ _
      | exact ih1 _ _ _
      | exact ih2 _ _ _ _
      | exact ih3 _ _ _ _ _
      | exact LeO.none _
      | refine LeO.ite ?_ ?_
      | refine LeO.bind ?_ (fun _ => ?_)
def codewrightref11_Binomial.T13 : Bool × List (List Nat × List Nat) := (true, [([], []), ([], []), ([0, 1], [0, 1]), ([2], [2]), ([], []), ([], []), ([5], [5]), ([4, 6], [4, 6]), ([7], [7]), ([3, 8], [3, 8]), ([0, 1, 0, 1, 2, 3, 4, 5, 6, 7, 8, 9], [0, 1]), ([10, 9, 0, 1, 2, 3, 4, 5, 6, 7, 8, 9], [9, 10])])
def codewrightref11_Binomial.B13 : List Nat := [0, 0, 3, 7, 0, 0, 32, 112, 240, 511, 1023, 2047]
theorem codewrightref11_Binomial.tab13 : rtab .any (opsOf Try.f9 13) = codewrightref11_Binomial.T13 := by kernel_rfl
theorem codewrightref11_Binomial.bits13 : waitsOk codewrightref11_Binomial.T13.2 codewrightref11_Binomial.B13 = true := by kernel_rfl
set_option maxHeartbeats 8000000 in
set_option maxRecDepth 100000 in
theorem codewrightref11_Binomial.calls (k : Nat) (a0 : Int) (a1 : Int) (r1 : Int) (r2 : Int) (w : World) (h : codewrightref11_Binomial.f k a0 a1 = some (r1, r2)) :
    Calls Try.prog 9 #[.int .i64 a0, .int .i64 a1] w fun e w' => e = .returned (.tuple #[.int .i64 r1, .int .i64 r2]) ∧ Below w.heap.size w w' := by
  have HB := Aside0.mk (Below.refl w.heap.size w)
  have H : (if a0 < 0 then (codewrightref11_Binomial.j0 k a0 a1 true) else (codewrightref11_Binomial.j0 k a0 a1 (decide (a0 > 64)))) = some (r1, r2) := h
  clear h
  have HC3 := Aside0.mk H
  clear H
  go_enter Try.func9, Try.ntmps9
  go_upto_region 1 with (fail)
  go_cut [14] (fun v14 wc => ∃ (kq : Nat) (x14_2 : Bool), v14 = .bool x14_2 ∧ Aside0 (codewrightref11_Binomial.j0 kq a0 a1 x14_2 = some (r1, r2)) ∧ Aside0 (kq ≤ k) ∧ Aside0 (Below w.heap.size w wc))
  case first =>
    have H := HC3.out
    clear HC3
    by_cases c4 : a0 < 0
    · rw [if_pos c4] at H
      have c4b0 : decide (a0 < 0) = true := decide_eq_true c4
      clear c4
      (first | rw [c4b0] | (simp only [i64_w, i32_w]; rw [c4b0]) | skip)
      have H' := Aside0.mk H
      clear H
      go_wp2
      go_meet
      case rel => exact ⟨_, (true), (by first | rfl | (simp; done) | (simp [*]; done)), H', ⟨by first | omega | exact Nat.le_refl _⟩, ⟨by repeat (first | (with_reducible first | exact HB.out | apply below_alloc | apply pw_below_drewN | apply below_drew1) | exact HB.out)⟩⟩
    · rw [if_neg c4] at H
      have c4b0 : decide (a0 < 0) = false := decide_eq_false c4
      clear c4
      (first | rw [c4b0] | (simp only [i64_w, i32_w]; rw [c4b0]) | skip)
      have H' := Aside0.mk H
      clear H
      go_wp2
      go_meet
      case rel => exact ⟨_, (decide (a0 > 64)), (by first | rfl | (simp; done) | (simp [*]; done)), H', ⟨by first | omega | exact Nat.le_refl _⟩, ⟨by repeat (first | (with_reducible first | exact HB.out | apply below_alloc | apply pw_below_drewN | apply below_drew1) | exact HB.out)⟩⟩
  case rest =>
    clear HC3
    try clear p2
    try clear c4
    try clear c4b0
    obtain ⟨kq, x14_2, rfl, HA, HJ2, HB⟩ := hcut
    cases kq with
    | zero => exact absurd HA.out (by simp [codewrightref11_Binomial.j0])
    | succ kj2 =>
      have H := HA.out
      clear HA
      simp only [codewrightref11_Binomial.j0] at H
      by_cases c5 : x14_2 = true
      · subst c5
        have H1 : (some (0, 6)) = some (r1, r2) := by rw [if_pos rfl] at H; exact H
        clear H
        have H := H1
        clear H1
        simp only [Option.some.injEq, Prod.mk.injEq] at H
        obtain ⟨rfl, rfl⟩ := H
        go_wp2
        go_ret2
        exact ⟨by first | rfl | (simp [errW_none, errW_some] <;> rfl) | (simp [*, errW_none, errW_some] <;> rfl), by repeat (first | (with_reducible first | exact HB.out | apply below_alloc | apply pw_below_drewN | apply below_drew1) | exact HB.out)⟩
      · replace c5 := Bool.eq_false_iff.mpr c5
        subst c5
        have H1 : (if a1 < 0 then (codewrightref11_Binomial.j1 kj2 a0 a1 true) else (codewrightref11_Binomial.j1 kj2 a0 a1 (decide (a1 > a0)))) = some (r1, r2) := by rw [if_neg (show ¬ (false = true) by decide)] at H; exact H
        clear H
        have H := H1
        clear H1
        have HC6 := Aside0.mk H
        clear H
        go_upto_region 3 with (fail)
        go_cut [21] (fun v21 wc => ∃ (kq : Nat) (x21_5 : Bool), v21 = .bool x21_5 ∧ Aside0 (codewrightref11_Binomial.j1 kq a0 a1 x21_5 = some (r1, r2)) ∧ Aside0 (kq ≤ kj2) ∧ Aside0 (Below w.heap.size w wc))
        case first =>
          have H := HC6.out
          clear HC6
          by_cases c7 : a1 < 0
          · rw [if_pos c7] at H
            have c7b0 : decide (a1 < 0) = true := decide_eq_true c7
            clear c7
            (first | rw [c7b0] | (simp only [i64_w, i32_w]; rw [c7b0]) | skip)
            have H' := Aside0.mk H
            clear H
            go_wp2
            go_meet
            case rel => exact ⟨_, (true), (by first | rfl | (simp; done) | (simp [*]; done)), H', ⟨by have := HJ2.out; first | omega | exact Nat.le_refl _⟩, ⟨by repeat (first | (with_reducible first | exact HB.out | apply below_alloc | apply pw_below_drewN | apply below_drew1) | exact HB.out)⟩⟩
          · rw [if_neg c7] at H
            have c7b0 : decide (a1 < 0) = false := decide_eq_false c7
            clear c7
            (first | rw [c7b0] | (simp only [i64_w, i32_w]; rw [c7b0]) | skip)
            have H' := Aside0.mk H
            clear H
            go_wp2
            go_meet
            case rel => exact ⟨_, (decide (a1 > a0)), (by first | rfl | (simp; done) | (simp [*]; done)), H', ⟨by have := HJ2.out; first | omega | exact Nat.le_refl _⟩, ⟨by repeat (first | (with_reducible first | exact HB.out | apply below_alloc | apply pw_below_drewN | apply below_drew1) | exact HB.out)⟩⟩
        case rest =>
          clear HC6
          try clear p2
          try clear c4
          try clear c4b0
          try clear c5
          try clear c7
          try clear c7b0
          try clear p2
          obtain ⟨kq, x21_5, rfl, HA, HJ5, HB⟩ := hcut
          cases kq with
          | zero => exact absurd HA.out (by simp [codewrightref11_Binomial.j1])
          | succ kj5 =>
            have H := HA.out
            clear HA
            simp only [codewrightref11_Binomial.j1] at H
            by_cases c8 : x21_5 = true
            · subst c8
              have H1 : (some (0, 0)) = some (r1, r2) := by rw [if_pos rfl] at H; exact H
              clear H
              have H := H1
              clear H1
              simp only [Option.some.injEq, Prod.mk.injEq] at H
              obtain ⟨rfl, rfl⟩ := H
              go_wp2
              go_ret2
              exact ⟨by first | rfl | (simp [errW_none, errW_some] <;> rfl) | (simp [*, errW_none, errW_some] <;> rfl), by repeat (first | (with_reducible first | exact HB.out | apply below_alloc | apply pw_below_drewN | apply below_drew1) | exact HB.out)⟩
            · replace c8 := Bool.eq_false_iff.mpr c8
              subst c8
              have H1 : (if 0 ≤ (wrap64 (a0 + 1)) then (if (wrap64 (a0 + 1) : Int).toNat ≤ 35184372088832 then ((some (List.replicate (wrap64 (a0 + 1) : Int).toNat 0 : List Int)).bind fun y111 => (if 0 < (y111.length : Int) then (codewrightref11_Binomial.l0 kj5 a0 a1 (y111.set (0 : Int).toNat 1) 1) else (none))) else (none)) else (none)) = some (r1, r2) := by rw [if_neg (show ¬ (false = true) by decide)] at H; exact H
              clear H
              have H := H1
              clear H1
              obtain ⟨ji9, hji9⟩ : ∃ j_ : Int, (wrap64 (a0 + 1)) = j_ := ⟨_, rfl⟩
              replace H : (if 0 ≤ (ji9) then (if (ji9 : Int).toNat ≤ 35184372088832 then ((some (List.replicate (ji9 : Int).toNat 0 : List Int)).bind fun y111 => (if 0 < (y111.length : Int) then (codewrightref11_Binomial.l0 kj5 a0 a1 (y111.set (0 : Int).toNat 1) 1) else (none))) else (none)) else (none)) = some (r1, r2) := by first | (rw [hji9] at H; exact H) | (simp only [hji9] at H ⊢; exact H)
              have hji9w : (IntKind.i64.wrap (a0 + 1)) = ji9 := (i64_w _).trans hji9
              by_cases c10 : 0 ≤ (ji9)
              · rw [if_pos c10] at H
                have c10b0 := eq_true c10
                have c10b1 : decide (0 ≤ (ji9)) = true := decide_eq_true c10
                clear c10
                by_cases c11 : (ji9 : Int).toNat ≤ 35184372088832
                · rw [if_pos c11] at H
                  have c11b0 := eq_true c11
                  have c11b1 : decide ((ji9 : Int).toNat ≤ 35184372088832) = true := decide_eq_true c11
                  clear c11
                  obtain ⟨y111, hy111⟩ : ∃ y_ : List Int, y_ = (List.replicate (ji9 : Int).toNat 0) := ⟨_, rfl⟩
                  replace H : (if 0 < (y111.length : Int) then (codewrightref11_Binomial.l0 kj5 a0 a1 (y111.set (0 : Int).toNat 1) 1) else (none)) = some (r1, r2) := by first | (rw [hy111]; with_reducible exact H) | (have H2_ := (Option.bind_some _ _).symm.trans H; rw [hy111]; with_reducible exact H2_) | (have H2_ := (Option.bind_some _ _).symm.trans H; with_reducible exact H2_) | with_reducible exact H | (rw [hy111]; exact H) | exact H
                  have Ny111 := Aside0.mk hy111
                  clear hy111
                  by_cases c12 : 0 < (y111.length : Int)
                  · rw [if_pos c12] at H
                    have c12b0 : decide (0 < (y111.length : Int)) = true := decide_eq_true c12
                    have c12b1 : decide (0 < y111.length) = true := decide_eq_true (by omega)
                    clear c12
                    obtain ⟨y114, hy114⟩ : ∃ y_ : List Int, y_ = (y111.set (0 : Int).toNat 1) := ⟨_, rfl⟩
                    replace H : (codewrightref11_Binomial.l0 kj5 a0 a1 y114 1) = some (r1, r2) := by first | (rw [hy114]; with_reducible exact H) | (have H2_ := (Option.bind_some _ _).symm.trans H; rw [hy114]; with_reducible exact H2_) | (have H2_ := (Option.bind_some _ _).symm.trans H; with_reducible exact H2_) | with_reducible exact H | (rw [hy114]; exact H) | exact H
                    have Ny114 := Aside0.mk hy114
                    clear hy114
                    have H' := Aside0.mk H
                    clear H
                    go_wp2_with (first | ((with_reducible refine gate_dst (N := 24) rfl ?_); refine Kd.R_make (Kd.int .i64) _ 3 rfl (N := 24) rfl 26 _ _ rfl ji9 rfl rfl Try.underlying26 (.int .i64 0) 8 info3 rfl (by decide) (by omega) 0 (ok := fun _ => True) (okp := fun _ => True) rfl (fun _ hk => hk) trivial (of_decide_eq_true (by first | (with_reducible assumption) | assumption)) (Nat.le_trans (Nat.mul_le_mul_right _ (of_decide_eq_true (by first | (with_reducible assumption) | assumption) : ji9.toNat ≤ 35184372088832)) (by omega)) (Below.refl _ _) (Nat.le_refl _) ?_; intro v112 w14 ho15 hb hg_ hnew_; clear hg_ hnew_; (first | rw [← Ny111.out] at ho15 | (simp only [Int.reduceToNat] at ho15; rw [← Ny111.out] at ho15)); have n0_ := Aside0.mk (Kd.R_lower ho15 (below_size (by repeat (first | (with_reducible first | exact HB.out | apply below_alloc | apply pw_below_drewN | apply below_drew1) | exact HB.out)))); have n1_ := Aside0.mk (below_step (by repeat (first | (with_reducible first | exact HB.out | apply below_alloc | apply pw_below_drewN | apply below_drew1) | exact HB.out)) hb); clear HB; have HO113 := n0_; have HB := n1_; clear n0_ n1_; clear hb ho15; have p13 : 0 ≤ (0 : Int) := (by omega); have q13 : (0 : Int) < ((y111.length : Int) : Int) := of_decide_eq_true (by first | (with_reducible assumption) | assumption); have qi13 : (0 < y111.length) = True := eq_true (by omega); obtain ⟨go13, co13, eo13, gb13, gl13, cl13, HG13⟩ := Kd.R_form HO113.out (by omega); (first | cases eo13 | (injection eo13 with ea_ en_ ec_; (first | subst ea_ | (injection ea_ with ea_; subst ea_)); subst ec_; clear en_)); have GB13 := Aside0.mk gb13; have GG13 := Aside0.mk HG13; clear gb13 gl13 HG13; obtain ⟨hx13_0, hf13_0⟩ := Kd.R_celln 0 HO113.out (0 : Int) p13 q13; (try rw [show ((0 : Int)).toNat = 0 from rfl] at hx13_0); (try simp only [Nat.reduceMul, Nat.zero_mul, Nat.zero_add, Nat.reduceAdd] at hx13_0); (try rw [show ((0 : Int)).toNat = 0 from rfl] at hf13_0); (try simp only [Nat.reduceMul, Nat.zero_mul, Nat.zero_add, Nat.reduceAdd] at hf13_0); replace p13 := eq_true p13; replace q13 := eq_true q13; obtain ⟨hy16_, hz16_⟩ := Kd.R_celln 0 HO113.out (0 : Int) (by omega) (of_decide_eq_true (by first | (with_reducible assumption) | assumption)); (try simp only [Int.reduceToNat, Int.toNat_zero, Int.toNat_ofNat, Nat.reduceMul, Nat.zero_mul, Nat.zero_add] at hy16_ hz16_); (try rw [show ((0 : Int)).toNat = 0 from rfl] at hy16_); (try rw [show ((0 : Int)).toNat = 0 from rfl] at hz16_); have HP16 := Kd.R_putg HO113.out (0 : Int) 1) | ((with_reducible refine gate_store (t := 3) (p := 26) rfl ?_); refine store_event (t := 3) (p := 26) (v := ?vo_w17) (w1 := (w14.setCell ⟨go13, (0 : Int).toNat, none⟩ (.int .i64 1))) ?hg ?ho ?hn ?hr ?_; (case ho => rfl); (case hg => rfl); (case hn => rfl); (case hr => first | (go_simp; done) | (go_simp; rfl)); intro w17 hw; have hg : w14.grownBy w17 (some go13) := (by rw [hw]; exact HP16.2); have hp_ : Kd.R (Kd.int .i64) 3 w17 w.heap.size (fun _ => True) (.slice (some ⟨go13, 0, none⟩) y111.length co13) y114 := (by rw [hw, Ny114.out]; exact HP16.1); clear HP16; have n0_ := Aside0.mk (hp_); have n1_ := Aside0.mk ((by rw [hw]; exact below_set (HB.out) GB13.out : Below w.heap.size w w17)); clear HO113; clear HB; have HO113 := n0_; have HB := n1_; clear n0_ n1_; clear hg hw hp_))
                    go_loopg [7] kj5 (fun kq v7 w' => ∃ (x6_3 : List Int) (x7_3 : Int), v7 = .int .i64 x7_3 ∧ Aside0 (codewrightref11_Binomial.l0 kq a0 a1 x6_3 x7_3 = some (r1, r2)) ∧ Aside0 (kq ≤ kj5) ∧ Aside0 (Kd.R (Kd.int .i64) 3 w' w.heap.size (fun _ => True) (.slice (some ⟨go13, 0, none⟩) y111.length co13) x6_3) ∧ Aside0 (Below w.heap.size w w'))
                    case atStart => exact ⟨(y114), (1), (by first | rfl | (simp; done) | (simp [*]; done)), H', ⟨Nat.le_refl _⟩, ⟨by (with_reducible repeat (first | apply Kd.R_alloc | apply Kd.R_drewN | apply Kd.R_drew)); exact HO113.out⟩, ⟨by repeat (first | (with_reducible first | exact HB.out | apply below_alloc | apply pw_below_drewN | apply below_drew1) | exact HB.out)⟩⟩
                    case round =>
                      clear H'
                      try clear c1
                      try clear p1
                      try clear q1
                      try clear hx1
                      try clear qi1
                      try clear p2
                      try clear c4
                      try clear c4b0
                      try clear c5
                      try clear p6
                      try clear c7
                      try clear c7b0
                      try clear c8
                      try clear c9
                      try clear c10
                      try clear c10b0
                      try clear c10b1
                      try clear c11
                      try clear c11b0
                      try clear c11b1
                      try clear c12
                      try clear c12b0
                      try clear c12b1
                      try clear p13
                      try clear q13
                      try clear hx13
                      try clear qi13
                      try clear hf13
                      try clear hx13_0
                      try clear p13
                      try clear p2
                      try clear q13
                      obtain ⟨x6_3, x7_3, rfl, HA, HK3, HO_6, HB⟩ := hrel
                      have hl6_3 := (Kd.R_reads' HO_6.out).1
                      rw [hl6_3] at HO_6
                      (try simp only [hl6_3])
                      cases gk with
                      | zero => exact absurd HA.out (by simp [codewrightref11_Binomial.l0])
                      | succ k3 =>
                        have H := HA.out
                        clear HA
                        simp only [codewrightref11_Binomial.l0] at H
                        by_cases c18 : x7_3 ≤ a0
                        · rw [if_pos c18] at H
                          have c18b0 : decide (x7_3 ≤ a0) = true := decide_eq_true c18
                          clear c18
                          have H' := Aside0.mk H
                          clear H
                          go_wp2
                          go_loopg [8] k3 (fun kq v8 w' => ∃ (x6_4 : List Int) (x8_4 : Int), v8 = .int .i64 x8_4 ∧ Aside0 (codewrightref11_Binomial.l1 kq a0 a1 x6_4 x7_3 x8_4 = some (r1, r2)) ∧ Aside0 (kq ≤ k3) ∧ Aside0 (Kd.R (Kd.int .i64) 3 w' w.heap.size (fun _ => True) (.slice (some ⟨go13, 0, none⟩) x6_3.length co13) x6_4) ∧ Aside0 (Below w.heap.size w w'))
                          case atStart => exact ⟨(x6_3), (x7_3), (by first | rfl | (simp; done) | (simp [*]; done)), H', ⟨Nat.le_refl _⟩, ⟨by (try simp only [hl6_3]); (with_reducible repeat (first | apply Kd.R_alloc | apply Kd.R_drewN | apply Kd.R_drew)); exact HO_6.out⟩, ⟨by repeat (first | (with_reducible first | exact HB.out | apply below_alloc | apply pw_below_drewN | apply below_drew1) | exact HB.out)⟩⟩
                          case round =>
                            clear H'
                            try clear c1
                            try clear p1
                            try clear q1
                            try clear hx1
                            try clear qi1
                            try clear p2
                            try clear c4
                            try clear c4b0
                            try clear c5
                            try clear p6
                            try clear c7
                            try clear c7b0
                            try clear c8
                            try clear c9
                            try clear c10
                            try clear c10b0
                            try clear c10b1
                            try clear c11
                            try clear c11b0
                            try clear c11b1
                            try clear c12
                            try clear c12b0
                            try clear c12b1
                            try clear p13
                            try clear q13
                            try clear hx13
                            try clear qi13
                            try clear hf13
                            try clear c18
                            try clear c18b0
                            try clear hx13_0
                            try clear p1
                            try clear p13
                            try clear p2
                            try clear p6
                            try clear q1
                            try clear q13
                            obtain ⟨x6_4, x8_4, rfl, HA, HK4, HO_6, HB⟩ := hrel
                            have hl6_4 := (Kd.R_reads' HO_6.out).1
                            rw [hl6_4] at HO_6
                            (try simp only [hl6_4])
                            cases gk with
                            | zero => exact absurd HA.out (by simp [codewrightref11_Binomial.l1])
                            | succ k4 =>
                              have H := HA.out
                              clear HA
                              simp only [codewrightref11_Binomial.l1] at H
                              by_cases c19 : x8_4 ≥ 1
                              · rw [if_pos c19] at H
                                have c19b0 : decide (1 ≤ x8_4) = true := decide_eq_true c19
                                clear c19
                                by_cases c20 : 0 ≤ x8_4
                                · rw [if_pos c20] at H
                                  have c20b0 : decide (0 ≤ x8_4) = true := decide_eq_true c20
                                  clear c20
                                  by_cases c21 : x8_4 < (x6_4.length : Int)
                                  · rw [if_pos c21] at H
                                    have c21b0 : decide (x8_4 < (x6_4.length : Int)) = true := decide_eq_true c21
                                    (try (have c21b0h0 := c21b0; simp only [hl6_3] at c21b0h0))
                                    (try (have c21b0h1 := c21b0; simp only [hl6_4] at c21b0h1))
                                    clear c21
                                    obtain ⟨ji22, hji22⟩ : ∃ j_ : Int, (wrap64 (x8_4 - 1)) = j_ := ⟨_, rfl⟩
                                    replace H : (if 0 ≤ (ji22) then (if (ji22) < (x6_4.length : Int) then (codewrightref11_Binomial.l1 k4 a0 a1 (x6_4.set (x8_4 : Int).toNat (wrap64 ((rd x6_4 x8_4) + (rd x6_4 (ji22))))) x7_3 ji22) else (none)) else (none)) = some (r1, r2) := by first | (rw [hji22] at H; exact H) | (simp only [hji22] at H ⊢; exact H)
                                    have hji22w : (IntKind.i64.wrap (x8_4 - 1)) = ji22 := (i64_w _).trans hji22
                                    by_cases c23 : 0 ≤ (ji22)
                                    · rw [if_pos c23] at H
                                      have c23b0 : decide (0 ≤ (ji22)) = true := decide_eq_true c23
                                      clear c23
                                      by_cases c24 : (ji22) < (x6_4.length : Int)
                                      · rw [if_pos c24] at H
                                        have c24b0 : decide ((ji22) < (x6_4.length : Int)) = true := decide_eq_true c24
                                        (try (have c24b0h0 := c24b0; simp only [hl6_3] at c24b0h0))
                                        (try (have c24b0h1 := c24b0; simp only [hl6_4] at c24b0h1))
                                        clear c24
                                        obtain ⟨y118, hy118⟩ : ∃ y_ : List Int, y_ = (x6_4.set (x8_4 : Int).toNat (wrap64 ((rd x6_4 x8_4) + (rd x6_4 (ji22))))) := ⟨_, rfl⟩
                                        replace H : (codewrightref11_Binomial.l1 k4 a0 a1 y118 x7_3 ji22) = some (r1, r2) := by first | (rw [hy118]; with_reducible exact H) | (have H2_ := (Option.bind_some _ _).symm.trans H; rw [hy118]; with_reducible exact H2_) | (have H2_ := (Option.bind_some _ _).symm.trans H; with_reducible exact H2_) | with_reducible exact H | (rw [hy118]; exact H) | exact H
                                        have Ny118 := Aside0.mk hy118
                                        clear hy118
                                        have H' := Aside0.mk H
                                        clear H
                                        try go_wp2
                                        have n0_ := Aside0.mk (Kd.R_drew HO_6.out)
                                        have n1_ := Aside0.mk (below_drew1 HB.out)
                                        clear HO_6
                                        clear HB
                                        have HO_6 := n0_
                                        have HB := n1_
                                        clear n0_ n1_
                                        have p116 : 0 ≤ (x8_4 : Int) := of_decide_eq_true (by first | (with_reducible assumption) | assumption)
                                        have q116 : x8_4 < (x6_4.length : Int) := of_decide_eq_true (by first | (with_reducible assumption) | assumption)
                                        obtain ⟨ad116, e116, hx116_0⟩ := Kd.at_int (Kd.R_reads' HO_6.out).2.2 x8_4 p116 q116
                                        obtain rfl : (⟨go13, 0, none⟩ : Addr) = ad116 := (by injection e116)
                                        (first | simp only [add_plain] at hx116_0 | simp only [add_at] at hx116_0 | simp only [Addr.add, Nat.zero_add] at hx116_0 | skip)
                                        replace p116 := eq_true p116
                                        replace q116 := eq_true q116
                                        have p117 : 0 ≤ ((ji22) : Int) := of_decide_eq_true (by first | (with_reducible assumption) | assumption)
                                        have q117 : (ji22) < (x6_4.length : Int) := of_decide_eq_true (by first | (with_reducible assumption) | assumption)
                                        obtain ⟨ad117, e117, hx117_0⟩ := Kd.at_int (Kd.R_reads' HO_6.out).2.2 (ji22) p117 q117
                                        obtain rfl : (⟨go13, 0, none⟩ : Addr) = ad117 := (by injection e117)
                                        (first | simp only [add_plain] at hx117_0 | simp only [add_at] at hx117_0 | simp only [Addr.add, Nat.zero_add] at hx117_0 | skip)
                                        replace p117 := eq_true p117
                                        replace q117 := eq_true q117
                                        have p25 : 0 ≤ (x8_4 : Int) := of_decide_eq_true (by first | (with_reducible assumption) | assumption)
                                        have q25 : (x8_4 : Int) < ((x6_4.length : Int) : Int) := of_decide_eq_true (by first | (with_reducible assumption) | assumption)
                                        obtain ⟨hx25_0, hf25_0⟩ := Kd.R_celln 0 HO_6.out (x8_4 : Int) p25 q25
                                        replace p25 := eq_true p25
                                        replace q25 := eq_true q25
                                        have HP27 := Kd.R_putn HO_6.out (x8_4 : Int) (wrap64 ((rd x6_4 x8_4) + (rd x6_4 (ji22))))
                                        rw [← Ny118.out] at HP27
                                        have HQ27 := Aside0.mk HP27
                                        clear HP27
                                        refine start_ (n := 12) (S := fun w' => w'.cell? ⟨go13, (x8_4).toNat, none⟩ = some (.int .i64 (rd x6_4 x8_4)) ∧ w'.cell? ⟨go13, ((ji22)).toNat, none⟩ = some (.int .i64 (rd x6_4 (ji22)))) (ds := [11]) #[false, false, false, false, false, false, false, false, false, false, false, false] (by kernel_rfl) rfl rfl ⟨hx116_0, hx117_0⟩ (fun hHeld => ?_); refine with_tabW codewrightref11_Binomial.tab13 codewrightref11_Binomial.bits13 (fun HT_ HW_ => ?_)
                                        generalize wr.drew = w26 at HO_6 HB HQ27 hf25_0 hx116_0 hx117_0 hx25_0 hHeld ⊢
                                        refine pure_ (i := 0) (N := some 37) (v := ?_) (a' := ?_) #[true, false, false, false, false, false, false, false, false, false, false, false] rfl rfl (any_of HT_.out (by kernel_rfl)) (fun _ _ _ h => h) (Or.inl ⟨by rfl, ?_⟩) ?_ ?_
                                        rotate_left
                                        · intro w'
                                          go_simp
                                          with_reducible rfl
                                        rotate_left
                                        · simp only [Act.put, List.setIfInBounds_toArray, List.set_cons_zero, List.set_cons_succ, i64_w, i32_w]
                                          rfl
                                        refine pure_ (i := 1) (N := some 38) (v := ?_) (a' := ?_) #[true, true, false, false, false, false, false, false, false, false, false, false] rfl rfl (any_of HT_.out (by kernel_rfl)) (fun _ _ _ h => h) (Or.inl ⟨by rfl, ?_⟩) ?_ ?_
                                        rotate_left
                                        · intro w'
                                          go_simp
                                          with_reducible rfl
                                        rotate_left
                                        · simp only [Act.put, List.setIfInBounds_toArray, List.set_cons_zero, List.set_cons_succ, i64_w, i32_w]
                                          rfl
                                        refine pure_ (i := 2) (N := some 39) (v := ?_) (a' := ?_) #[true, true, true, false, false, false, false, false, false, false, false, false] rfl rfl (any_of HT_.out (by kernel_rfl)) (fun _ _ _ h => h) (Or.inl ⟨by rfl, ?_⟩) ?_ ?_
                                        rotate_left
                                        · intro w'
                                          go_simp
                                          with_reducible rfl
                                        rotate_left
                                        · simp only [Act.put, List.setIfInBounds_toArray, List.set_cons_zero, List.set_cons_succ, i64_w, i32_w]
                                          rfl
                                        refine pure_ (i := 4) (N := some 41) (v := ?_) (a' := ?_) #[true, true, true, false, true, false, false, false, false, false, false, false] rfl rfl (any_of HT_.out (by kernel_rfl)) (fun _ _ _ h => h) (Or.inl ⟨by rfl, ?_⟩) ?_ ?_
                                        rotate_left
                                        · intro w'
                                          go_simp
                                          with_reducible rfl
                                        rotate_left
                                        · simp only [Act.put, List.setIfInBounds_toArray, List.set_cons_zero, List.set_cons_succ, i64_w, i32_w]
                                          rfl
                                        refine pure_ (i := 5) (N := some 42) (v := ?_) (a' := ?_) #[true, true, true, false, true, true, false, false, false, false, false, false] rfl rfl (any_of HT_.out (by kernel_rfl)) (fun _ _ _ h => h) (Or.inl ⟨by rfl, ?_⟩) ?_ ?_
                                        rotate_left
                                        · intro w'
                                          go_simp
                                          with_reducible rfl
                                        rotate_left
                                        · simp only [Act.put, List.setIfInBounds_toArray, List.set_cons_zero, List.set_cons_succ, i64_w, i32_w]
                                          rfl
                                        refine pure_ (i := 6) (N := some 43) (v := ?_) (a' := ?_) #[true, true, true, false, true, true, true, false, false, false, false, false] rfl rfl (any_of HT_.out (by kernel_rfl)) (fun _ _ _ h => h) (Or.inl ⟨by rfl, ?_⟩) ?_ ?_
                                        rotate_left
                                        · intro w'
                                          go_simp
                                          with_reducible rfl
                                        rotate_left
                                        · simp only [Act.put, List.setIfInBounds_toArray, List.set_cons_zero, List.set_cons_succ, i64_w, i32_w]
                                          rfl
                                        refine pure_ (i := 7) (N := some 44) (v := ?_) (a' := ?_) #[true, true, true, false, true, true, true, true, false, false, false, false] rfl rfl (any_of HT_.out (by kernel_rfl)) (fun _ _ _ h => h) (Or.inl ⟨by rfl, ?_⟩) ?_ ?_
                                        rotate_left
                                        · intro w'
                                          go_simp
                                          with_reducible rfl
                                        rotate_left
                                        · simp only [Act.put, List.setIfInBounds_toArray, List.set_cons_zero, List.set_cons_succ, i64_w, i32_w]
                                          rfl
                                        refine take_ (i := 3) (N := some 40) (v := ?_) (a' := ?_) #[true, true, true, true, true, true, true, true, false, false, false, false] rfl rfl (take_ofW HT_.out HW_.out (by kernel_rfl)) (fun _ _ _ h => h) (Or.inl ⟨by rfl, ?_⟩) hHeld ?_ ?_
                                        rotate_left
                                        · rintro w' ⟨s0, s1⟩
                                          go_simp
                                          with_reducible rfl
                                        rotate_left
                                        · simp only [Act.put, List.setIfInBounds_toArray, List.set_cons_zero, List.set_cons_succ, i64_w, i32_w]
                                          rfl
                                        refine take_ (i := 8) (N := some 45) (v := ?_) (a' := ?_) #[true, true, true, true, true, true, true, true, true, false, false, false] rfl rfl (take_ofW HT_.out HW_.out (by kernel_rfl)) (fun _ _ _ h => h) (Or.inl ⟨by rfl, ?_⟩) hHeld ?_ ?_
                                        rotate_left
                                        · rintro w' ⟨s0, s1⟩
                                          go_simp
                                          with_reducible rfl
                                        rotate_left
                                        · simp only [Act.put, List.setIfInBounds_toArray, List.set_cons_zero, List.set_cons_succ, i64_w, i32_w]
                                          rfl
                                        refine pure_ (i := 9) (N := some 46) (v := ?_) (a' := ?_) #[true, true, true, true, true, true, true, true, true, true, false, false] rfl rfl (any_of HT_.out (by kernel_rfl)) (fun _ _ _ h => h) (Or.inl ⟨by rfl, ?_⟩) ?_ ?_
                                        rotate_left
                                        · intro w'
                                          go_simp
                                          with_reducible rfl
                                        rotate_left
                                        · simp only [Act.put, List.setIfInBounds_toArray, List.set_cons_zero, List.set_cons_succ, i64_w, i32_w]
                                          rfl
                                        refine pure_ (i := 10) (N := some 47) (v := ?_) (a' := ?_) #[true, true, true, true, true, true, true, true, true, true, true, false] rfl rfl (any_of HT_.out (by kernel_rfl)) (fun _ _ _ h => h) (Or.inl ⟨by rfl, ?_⟩) ?_ ?_
                                        rotate_left
                                        · intro w'
                                          go_simp
                                          with_reducible rfl
                                        rotate_left
                                        · simp only [Act.put, List.setIfInBounds_toArray, List.set_cons_zero, List.set_cons_succ, i64_w, i32_w]
                                          rfl
                                        refine last_ (i := 11) (N := none) #[true, true, true, true, true, true, true, true, true, true, true, true] rfl rfl (one_of HT_.out (by kernel_rfl)) (by decide) (fun K hK => ?_)
                                        refine skip_ (w1 := ?_) (by rfl) rfl ?_ ?_
                                        rotate_left
                                        · go_simp
                                          rfl
                                        refine hK.out _ _ ?_
                                        clear hK K
                                        refine done_ (done_of HT_.out (by kernel_rfl)) ?_
                                        try go_wp2
                                        (try simp only [← hl6_4])
                                        go_roundg k4
                                        case measure => have := HJ2.out; have := HJ5.out; have := HK3.out; have := HK4.out; omega
                                        case rel => exact ⟨(y118), (ji22), (by first | rfl | (simp; done) | (simp only [← hji22] <;> (first | rfl | simp)) | (simp [*]; done)), H', ⟨by have := HJ2.out; have := HJ5.out; have := HK3.out; have := HK4.out; omega⟩, ⟨by (try simp only [hl6_3]); (try simp only [hl6_4]); (with_reducible repeat (first | apply Kd.R_alloc | apply Kd.R_drewN | apply Kd.R_drew)); exact HQ27.out⟩, ⟨by repeat (first | (with_reducible first | exact HB.out | apply below_alloc | apply pw_below_drewN | apply below_drew1 | refine below_set ?_ GB13.out) | exact HB.out)⟩⟩
                                      · rw [if_neg c24] at H
                                        exact absurd H (by simp)
                                    · rw [if_neg c23] at H
                                      exact absurd H (by simp)
                                  · rw [if_neg c21] at H
                                    exact absurd H (by simp)
                                · rw [if_neg c20] at H
                                  exact absurd H (by simp)
                              · rw [if_neg c19] at H
                                have c19b0 : decide (1 ≤ x8_4) = false := decide_eq_false c19
                                clear c19
                                have H' := Aside0.mk H
                                clear H
                                go_wp2
                                (try simp only [← hl6_3, ← hl6_4])
                                go_roundg k4
                                case measure => have := HJ2.out; have := HJ5.out; have := HK3.out; have := HK4.out; omega
                                case rel => exact ⟨(x6_4), (wrap64 (x7_3 + 1)), (by first | rfl | (simp; done) | (simp [*]; done)), H', ⟨by have := HJ2.out; have := HJ5.out; have := HK3.out; have := HK4.out; omega⟩, ⟨by (try simp only [hl6_3]); (try simp only [hl6_4]); (with_reducible repeat (first | apply Kd.R_alloc | apply Kd.R_drewN | apply Kd.R_drew)); exact HO_6.out⟩, ⟨by repeat (first | (with_reducible first | exact HB.out | apply below_alloc | apply pw_below_drewN | apply below_drew1) | exact HB.out)⟩⟩
                        · rw [if_neg c18] at H
                          have c18b0 : decide (x7_3 ≤ a0) = false := decide_eq_false c18
                          clear c18
                          by_cases c28 : 0 ≤ a1
                          · rw [if_pos c28] at H
                            have c28b0 : decide (0 ≤ a1) = true := decide_eq_true c28
                            clear c28
                            by_cases c29 : a1 < (x6_3.length : Int)
                            · rw [if_pos c29] at H
                              have c29b0 : decide (a1 < (x6_3.length : Int)) = true := decide_eq_true c29
                              (try (have c29b0h0 := c29b0; simp only [hl6_3] at c29b0h0))
                              clear c29
                              simp only [Option.some.injEq, Prod.mk.injEq] at H
                              obtain ⟨rfl, rfl⟩ := H
                              have p115 : 0 ≤ (a1 : Int) := of_decide_eq_true (by first | (with_reducible assumption) | assumption)
                              have q115 : a1 < (x6_3.length : Int) := of_decide_eq_true (by first | (with_reducible assumption) | assumption)
                              obtain ⟨ad115, e115, hx115_0⟩ := Kd.at_int (Kd.R_reads' HO_6.out).2.2 a1 p115 q115
                              obtain rfl : (⟨go13, 0, none⟩ : Addr) = ad115 := (by injection e115)
                              (first | simp only [add_plain] at hx115_0 | simp only [add_at] at hx115_0 | simp only [Addr.add, Nat.zero_add] at hx115_0 | skip)
                              replace p115 := eq_true p115
                              replace q115 := eq_true q115
                              go_wp2
                              go_ret2
                              exact ⟨by first | rfl | (simp [errW_none, errW_some] <;> rfl) | (simp only [← hji9]; first | rfl | (simp [errW_none, errW_some] <;> rfl)) | (simp [*, errW_none, errW_some] <;> rfl), by repeat (first | (with_reducible first | exact HB.out | apply below_alloc | apply pw_below_drewN | apply below_drew1) | exact HB.out)⟩
                            · rw [if_neg c29] at H
                              exact absurd H (by simp)
                          · rw [if_neg c28] at H
                            exact absurd H (by simp)
                  · rw [if_neg c12] at H
                    exact absurd H (by simp)
                · rw [if_neg c11] at H
                  exact absurd H (by simp)
              · rw [if_neg c10] at H
                exact absurd H (by simp)

end Go.Proofs.Ytekojgilikoegaa.Q
