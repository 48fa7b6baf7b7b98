-- Written by a program of this work over the kit's printer; Lean checks it.
import Derived.Test.YtekojgilikoegaaQx0
import Derived.Test.YtekojgilikoegaaQx1
namespace Go.Proofs.Ytekojgilikoegaa.Q
open Go.RowKit Go.Proofs.YtekojgilikoegaaW.PrintWords Go.Proofs.YtekojgilikoegaaW.PrintLast Go.Proofs.YtekojgilikoegaaW.PrintMore
attribute [local go_sem] max2_int min2_int max_two min_two max_three min_three max_four min_four   -- for this text's walks alone
set_option linter.unusedVariables false
set_option linter.unusedSimpArgs false

/-! ### word_Unrank: function 14 -/
mutual
def word_Unrank.j0 : Nat → Int → Int → Int → Bool → Option (List Int × Int)
  | 0, _, _, _, _ => none
  | k + 1, x0, x1, x2, x36 => if x36 = true then (some (([] : List Int), 6)) else (if 0 ≤ x1 then (if (x1 : Int).toNat ≤ 35184372088832 then (word_Unrank.l0 k x0 x1 x2 (([] : List Int)) 0) else (none)) else (none))
def word_Unrank.l0 : Nat → Int → Int → Int → List Int → Int → Option (List Int × Int)
  | 0, _, _, _, _, _ => none
  | k + 1, x0, x1, x2, x8, x9 => if (x8.length : Int) < x1 then ((word_choose.f k (wrap64 ((wrap64 (x0 - 1)) - x9)) (wrap64 ((wrap64 (x1 - 1)) - (x8.length : Int)))).bind fun t132 => (if x2 < t132 then (if x8.length < 17592186044416 then (word_Unrank.l0 k x0 x1 x2 (x8 ++ [x9]) (wrap64 (x9 + 1))) else (none)) else (word_Unrank.l0 k x0 x1 (wrap64 (x2 - t132)) x8 (wrap64 (x9 + 1))))) else (some (x8, 0))
end
def word_Unrank.f (k : Nat) (a0 : Int) (a1 : Int) (a2 : Int) : Option (List Int × Int) := if a0 < 0 then (word_Unrank.j0 k a0 a1 a2 true) else (if a0 > 64 then (word_Unrank.j0 k a0 a1 a2 true) else (if a1 < 0 then (word_Unrank.j0 k a0 a1 a2 true) else (if a1 > a0 then (word_Unrank.j0 k a0 a1 a2 true) else (if a2 < 0 then (word_Unrank.j0 k a0 a1 a2 true) else ((word_choose.f k a0 a1).bind fun t128 => (word_Unrank.j0 k a0 a1 a2 (decide (a2 ≥ t128))))))))
theorem word_Unrank.mono_l : ∀ k, (∀ y0 y1 y2 y3, LeO (word_Unrank.j0 k y0 y1 y2 y3) (word_Unrank.j0 (k + 1) y0 y1 y2 y3)) ∧ (∀ y0 y1 y2 y3 y4, LeO (word_Unrank.l0 k y0 y1 y2 y3 y4) (word_Unrank.l0 (k + 1) y0 y1 y2 y3 y4))
  | 0 => ⟨fun _ _ _ _ r h => by simp [word_Unrank.j0] at h, fun _ _ _ _ _ r h => by simp [word_Unrank.l0] at h⟩
  | k + 1 => by
    obtain ⟨ih0, ih1⟩ := word_Unrank.mono_l k
    refine ⟨?_, ?_⟩
    · intro y0 y1 y2 y3
      unfold word_Unrank.j0
      repeat' first
      | (with_reducible exact ih0 _ _ _ _)
      | (with_reducible exact ih1 _ _ _ _ _)
      | (with_reducible exact word_choose.mono _ _ _)
      | (with_reducible exact LeO.refl _)
      | (with_reducible exact LeO.none _)
      | (with_reducible refine LeO.ite ?_ ?_)
      | (with_reducible refine LeO.bind ?_ (fun _ => ?_))
      | exact ih0 _ _ _ _
      | exact ih1 _ _ _ _ _
      | exact word_choose.mono _ _ _
      | exact LeO.none _
      | refine LeO.ite ?_ ?_
      | refine LeO.bind ?_ (fun _ => ?_)
    · intro y0 y1 y2 y3 y4
      unfold word_Unrank.l0
      repeat' first
      | (with_reducible exact ih0 _ _ _ _)
      | (with_reducible exact ih1 _ _ _ _ _)
      | (with_reducible exact word_choose.mono _ _ _)
      | (with_reducible exact LeO.refl _)
      | (with_reducible exact LeO.none _)
      | (with_reducible refine LeO.ite ?_ ?_)
      | (with_reducible refine LeO.bind ?_ (fun _ => ?_))
      | exact ih0 _ _ _ _
      | exact ih1 _ _ _ _ _
      | exact word_choose.mono _ _ _
      | exact LeO.none _
      | refine LeO.ite ?_ ?_
      | refine LeO.bind ?_ (fun _ => ?_)
theorem word_Unrank.mono : ∀ a0 a1 a2 k, LeO (word_Unrank.f k a0 a1 a2) (word_Unrank.f (k + 1) a0 a1 a2) := by
  intro a0 a1 a2 k
  obtain ⟨ih0, ih1⟩ := word_Unrank.mono_l k
  unfold word_Unrank.f
  repeat' first
      | (with_reducible exact ih0 _ _ _ _)
      | (with_reducible exact ih1 _ _ _ _ _)
      | (with_reducible exact word_choose.mono _ _ _)
      | (with_reducible exact LeO.refl _)
      | (with_reducible exact LeO.none _)
      | (with_reducible refine LeO.ite ?_ ?_)
      | (with_reducible refine LeO.bind ?_ (fun _ => ?_))
      | exact ih0 _ _ _ _
      | exact ih1 _ _ _ _ _
      | exact word_choose.mono _ _ _
      | exact LeO.none _
      | refine LeO.ite ?_ ?_
      | refine LeO.bind ?_ (fun _ => ?_)
set_option maxHeartbeats 8000000 in
set_option maxRecDepth 100000 in
theorem word_Unrank.calls (k : Nat) (a0 : Int) (a1 : Int) (a2 : Int) (r1 : List Int) (r2 : Int) (w : World) (h : word_Unrank.f k a0 a1 a2 = some (r1, r2)) :
    Calls Try.prog 14 #[.int .i64 a0, .int .i64 a1, .int .i64 a2] w fun e w' => ∃ v0_ : Value, e = .returned (.tuple #[v0_, .int .i64 r2]) ∧ Kd.R (Kd.int .i64) 3 w' w.heap.size (fun _ => True) v0_ r1 ∧ Below w.heap.size w w' := by
  have HB := Aside0.mk (Below.refl w.heap.size w)
  have H : (if a0 < 0 then (word_Unrank.j0 k a0 a1 a2 true) else (if a0 > 64 then (word_Unrank.j0 k a0 a1 a2 true) else (if a1 < 0 then (word_Unrank.j0 k a0 a1 a2 true) else (if a1 > a0 then (word_Unrank.j0 k a0 a1 a2 true) else (if a2 < 0 then (word_Unrank.j0 k a0 a1 a2 true) else ((word_choose.f k a0 a1).bind fun t128 => (word_Unrank.j0 k a0 a1 a2 (decide (a2 ≥ t128))))))))) = some (r1, r2) := h
  clear h
  have HC4 := Aside0.mk H
  clear H
  go_enter Try.func14, Try.ntmps14
  go_upto_region 1 with (fail)
  go_cut [36] (fun v36 wc => ∃ (kq : Nat) (x36_3 : Bool), v36 = .bool x36_3 ∧ Aside0 (word_Unrank.j0 kq a0 a1 a2 x36_3 = some (r1, r2)) ∧ Aside0 (kq ≤ k) ∧ Aside0 (Below w.heap.size w wc))
  case first =>
    have H := HC4.out
    clear HC4
    by_cases c5 : a0 < 0
    · rw [if_pos c5] at H
      have c5b0 : decide (a0 < 0) = true := decide_eq_true c5
      clear c5
      (first | rw [c5b0] | (simp only [i64_w, i32_w]; rw [c5b0]) | skip)
      have H' := Aside0.mk H
      clear H
      go_wp2
      go_meet
      case rel => exact ⟨_, (true), (by first | rfl | (simp; done) | (simp [*]; done)), H', ⟨by first | omega | exact Nat.le_refl _⟩, ⟨by repeat (first | (with_reducible first | exact HB.out | apply below_alloc | apply pw_below_drewN | apply below_drew1) | exact HB.out)⟩⟩
    · rw [if_neg c5] at H
      have c5b0 : decide (a0 < 0) = false := decide_eq_false c5
      clear c5
      (first | rw [c5b0] | (simp only [i64_w, i32_w]; rw [c5b0]) | skip)
      by_cases c6 : a0 > 64
      · rw [if_pos c6] at H
        have c6b0 : decide (64 < a0) = true := decide_eq_true c6
        clear c6
        have H' := Aside0.mk H
        clear H
        go_wp2
        go_meet
        case rel => exact ⟨_, (true), (by first | rfl | (simp; done) | (simp [*]; done)), H', ⟨by first | omega | exact Nat.le_refl _⟩, ⟨by repeat (first | (with_reducible first | exact HB.out | apply below_alloc | apply pw_below_drewN | apply below_drew1) | exact HB.out)⟩⟩
      · rw [if_neg c6] at H
        have c6b0 : decide (64 < a0) = false := decide_eq_false c6
        clear c6
        by_cases c7 : a1 < 0
        · rw [if_pos c7] at H
          have c7b0 : decide (a1 < 0) = true := decide_eq_true c7
          clear c7
          have H' := Aside0.mk H
          clear H
          go_wp2
          go_meet
          case rel => exact ⟨_, (true), (by first | rfl | (simp; done) | (simp [*]; done)), H', ⟨by first | omega | exact Nat.le_refl _⟩, ⟨by repeat (first | (with_reducible first | exact HB.out | apply below_alloc | apply pw_below_drewN | apply below_drew1) | exact HB.out)⟩⟩
        · rw [if_neg c7] at H
          have c7b0 : decide (a1 < 0) = false := decide_eq_false c7
          clear c7
          by_cases c8 : a1 > a0
          · rw [if_pos c8] at H
            have c8b0 : decide (a0 < a1) = true := decide_eq_true c8
            clear c8
            have H' := Aside0.mk H
            clear H
            go_wp2
            go_meet
            case rel => exact ⟨_, (true), (by first | rfl | (simp; done) | (simp [*]; done)), H', ⟨by first | omega | exact Nat.le_refl _⟩, ⟨by repeat (first | (with_reducible first | exact HB.out | apply below_alloc | apply pw_below_drewN | apply below_drew1) | exact HB.out)⟩⟩
          · rw [if_neg c8] at H
            have c8b0 : decide (a0 < a1) = false := decide_eq_false c8
            clear c8
            by_cases c9 : a2 < 0
            · rw [if_pos c9] at H
              have c9b0 : decide (a2 < 0) = true := decide_eq_true c9
              clear c9
              have H' := Aside0.mk H
              clear H
              go_wp2
              go_meet
              case rel => exact ⟨_, (true), (by first | rfl | (simp; done) | (simp [*]; done)), H', ⟨by first | omega | exact Nat.le_refl _⟩, ⟨by repeat (first | (with_reducible first | exact HB.out | apply below_alloc | apply pw_below_drewN | apply below_drew1) | exact HB.out)⟩⟩
            · rw [if_neg c9] at H
              have c9b0 : decide (a2 < 0) = false := decide_eq_false c9
              clear c9
              replace H := Option.bind_eq_some_iff.mp H
              obtain ⟨t128, A100, H⟩ := H
              replace H : (word_Unrank.j0 k a0 a1 a2 (decide (a2 ≥ t128))) = some (r1, r2) := H
              have A10 := Aside0.mk A100
              clear A100
              have H' := Aside0.mk H
              clear H
              go_wp2_with (first | (go_at_call 20; (with_reducible refine (word_choose.calls k a0 a1 t128 _ A10.out).mono ?_); rintro e w11 ⟨rfl, hb⟩; have n0_ := Aside0.mk (below_step (by repeat (first | (with_reducible first | exact HB.out | apply below_alloc | apply pw_below_drewN | apply below_drew1) | exact HB.out)) hb); clear HB; have HB := n0_; clear n0_; (try clear hb); (try clear hb2); (try clear hk); (try clear hi)))
              go_meet
              case rel => exact ⟨_, (decide (a2 ≥ t128)), (by first | rfl | (simp; done) | (simp [*]; done)), H', ⟨by first | omega | exact Nat.le_refl _⟩, ⟨by repeat (first | (with_reducible first | exact HB.out | apply below_alloc | apply pw_below_drewN | apply below_drew1) | exact HB.out)⟩⟩
  case rest =>
    clear HC4
    try clear c1
    try clear p2
    try clear c5
    try clear c5b0
    try clear c6
    try clear c6b0
    try clear c7
    try clear c7b0
    try clear c8
    try clear c8b0
    try clear c9
    try clear c9b0
    obtain ⟨kq, x36_3, rfl, HA, HJ3, HB⟩ := hcut
    cases kq with
    | zero => exact absurd HA.out (by simp [word_Unrank.j0])
    | succ kj3 =>
      have H := HA.out
      clear HA
      simp only [word_Unrank.j0] at H
      by_cases c12 : x36_3 = true
      · subst c12
        have H1 : (some (([] : List Int), 6)) = some (r1, r2) := by rw [if_pos rfl] at H; exact H
        clear H
        have H := H1
        clear H1
        simp only [Option.some.injEq, Prod.mk.injEq] at H
        obtain ⟨rfl, rfl⟩ := H
        go_wp2
        go_ret2
        exact ⟨_, by first | rfl | (simp [errW_none, errW_some] <;> rfl) | (simp [*, errW_none, errW_some] <;> rfl), by first | exact Kd.R_nil _ _ _ _ _ | exact Kd.N_nil _ _ _ _ _ | exact Kd.V_nil _ _ _ _ _ | exact Kd.Q_nil _ _ _ _ _ | exact Kd.S_nil _ _ _ _ _, by repeat (first | (with_reducible first | exact HB.out | apply below_alloc | apply pw_below_drewN | apply below_drew1) | exact HB.out)⟩
      · replace c12 := Bool.eq_false_iff.mpr c12
        subst c12
        have H1 : (if 0 ≤ a1 then (if (a1 : Int).toNat ≤ 35184372088832 then (word_Unrank.l0 kj3 a0 a1 a2 (([] : List Int)) 0) else (none)) else (none)) = some (r1, r2) := by rw [if_neg (show ¬ (false = true) by decide)] at H; exact H
        clear H
        have H := H1
        clear H1
        by_cases c13 : 0 ≤ a1
        · rw [if_pos c13] at H
          have c13b0 := eq_true c13
          have c13b1 : decide (0 ≤ a1) = true := decide_eq_true c13
          clear c13
          by_cases c14 : (a1 : Int).toNat ≤ 35184372088832
          · rw [if_pos c14] at H
            have c14b0 := eq_true c14
            have c14b1 : decide ((a1 : Int).toNat ≤ 35184372088832) = true := decide_eq_true c14
            clear c14
            obtain ⟨y129, hy129⟩ : ∃ y_ : List Int, y_ = (([] : List Int)) := ⟨_, rfl⟩
            replace H : (word_Unrank.l0 kj3 a0 a1 a2 y129 0) = some (r1, r2) := by first | (rw [hy129]; with_reducible exact H) | (have H2_ := (Option.bind_some _ _).symm.trans H; rw [hy129]; with_reducible exact H2_) | (have H2_ := (Option.bind_some _ _).symm.trans H; with_reducible exact H2_) | with_reducible exact H | (rw [hy129]; exact H) | exact H
            have Ny129 := Aside0.mk hy129
            clear hy129
            have H' := Aside0.mk H
            clear H
            go_wp2_with (first | ((with_reducible refine gate_dst (N := 38) rfl ?_); refine Kd.R_makec (Kd.int .i64) _ 3 rfl (N := 38) rfl 26 _ _ rfl a1 rfl rfl Try.underlying26 (.int .i64 0) 8 info3 rfl (by decide) (by omega) 0 (ok := fun _ => True) (okp := fun _ => True) rfl (fun _ hk => hk) trivial (of_decide_eq_true (by first | (with_reducible assumption) | assumption)) (Nat.le_trans (Nat.mul_le_mul_right _ (of_decide_eq_true (by first | (with_reducible assumption) | assumption) : a1.toNat ≤ 35184372088832)) (by omega)) (Below.refl _ _) (Nat.le_refl _) ?_; intro v130 w15 ho16 hb hg_ hnew_; clear hg_ hnew_; (first | rw [← Ny129.out] at ho16 | (simp only [Int.reduceToNat] at ho16; rw [← Ny129.out] at ho16)); have n0_ := Aside0.mk (Kd.R_lower ho16 (below_size (by repeat (first | (with_reducible first | exact HB.out | apply below_alloc | apply pw_below_drewN | apply below_drew1) | exact HB.out)))); have n1_ := Aside0.mk (below_step (by repeat (first | (with_reducible first | exact HB.out | apply below_alloc | apply pw_below_drewN | apply below_drew1) | exact HB.out)) hb); clear HB; have HO131 := n0_; have HB := n1_; clear n0_ n1_; clear hb ho16))
            go_loopg [2, 8, 9] kj3 (fun kq v2 v8 v9 w' => ∃ (x2_2 : Int) (x8_2 : List Int) (x9_2 : Int), v2 = .int .i64 x2_2 ∧ v9 = .int .i64 x9_2 ∧ Aside0 (word_Unrank.l0 kq a0 a1 x2_2 x8_2 x9_2 = some (r1, r2)) ∧ Aside0 (kq ≤ kj3) ∧ Aside0 (Kd.R (Kd.int .i64) 3 w' w.heap.size (fun _ => True) v8 x8_2) ∧ Aside0 (Below w.heap.size w w'))
            case atStart => exact ⟨(a2), (y129), (0), (by first | rfl | (simp; done) | (simp [*]; done)), (by first | rfl | (simp; done) | (simp [*]; done)), H', ⟨Nat.le_refl _⟩, ⟨by (with_reducible repeat (first | apply Kd.R_alloc | apply Kd.R_drewN | apply Kd.R_drew)); exact HO131.out⟩, ⟨by repeat (first | (with_reducible first | exact HB.out | apply below_alloc | apply pw_below_drewN | apply below_drew1) | exact HB.out)⟩⟩
            case round =>
              clear H'
              try clear c1
              try clear p2
              try clear c5
              try clear c5b0
              try clear c6
              try clear c6b0
              try clear c7
              try clear c7b0
              try clear c8
              try clear c8b0
              try clear c9
              try clear c9b0
              try clear c12
              try clear c13
              try clear c13b0
              try clear c13b1
              try clear c14
              try clear c14b0
              try clear c14b1
              try clear p2
              obtain ⟨x2_2, x8_2, x9_2, rfl, rfl, HA, HK2, HO_8, HB⟩ := hrel
              cases gk with
              | zero => exact absurd HA.out (by simp [word_Unrank.l0])
              | succ k2 =>
                have H := HA.out
                clear HA
                simp only [word_Unrank.l0] at H
                by_cases c17 : (x8_2.length : Int) < a1
                · rw [if_pos c17] at H
                  have c17b0 : decide ((x8_2.length : Int) < a1) = true := decide_eq_true c17
                  clear c17
                  replace H := Option.bind_eq_some_iff.mp H
                  obtain ⟨t132, A180, H⟩ := H
                  replace H : (if x2_2 < t132 then (if x8_2.length < 17592186044416 then (word_Unrank.l0 k2 a0 a1 x2_2 (x8_2 ++ [x9_2]) (wrap64 (x9_2 + 1))) else (none)) else (word_Unrank.l0 k2 a0 a1 (wrap64 (x2_2 - t132)) x8_2 (wrap64 (x9_2 + 1)))) = some (r1, r2) := H
                  have A18 := Aside0.mk A180
                  clear A180
                  by_cases c19 : x2_2 < t132
                  · rw [if_pos c19] at H
                    have c19b0 : decide (x2_2 < t132) = true := decide_eq_true c19
                    clear c19
                    by_cases c20 : x8_2.length < 17592186044416
                    · rw [if_pos c20] at H
                      have LMc20 := Aside0.mk c20
                      clear c20
                      obtain ⟨y133, hy133⟩ : ∃ y_ : List Int, y_ = (x8_2 ++ [x9_2]) := ⟨_, rfl⟩
                      replace H : (word_Unrank.l0 k2 a0 a1 x2_2 y133 (wrap64 (x9_2 + 1))) = some (r1, r2) := by first | (rw [hy133]; with_reducible exact H) | (have H2_ := (Option.bind_some _ _).symm.trans H; rw [hy133]; with_reducible exact H2_) | (have H2_ := (Option.bind_some _ _).symm.trans H; with_reducible exact H2_) | with_reducible exact H | (rw [hy133]; exact H) | exact H
                      have Ny133 := Aside0.mk hy133
                      clear hy133
                      have H' := Aside0.mk H
                      clear H
                      obtain ⟨Ao21, co21, eo21⟩ := Kd.R_slice HO_8.out
                      subst eo21
                      go_wp2_with (first | ((with_reducible refine gate_callee (f := 20) rfl ?_); refine goesL_ (some 54) rfl rfl Try.func20 (by kernel_rfl) rfl #[.int .i64 (wrap64 ((wrap64 (a0 - 1)) - x9_2)), .int .i64 (wrap64 ((wrap64 (a1 - 1)) - (x8_2.length : Int)))] rfl (by (try simp only [List.map_toArray, List.map_cons, List.map_nil]); first | done | rfl | (simp only [List.length_drop, List.length_take]; rfl)) ?_; (with_reducible refine (word_choose.calls k2 (wrap64 ((wrap64 (a0 - 1)) - x9_2)) (wrap64 ((wrap64 (a1 - 1)) - (x8_2.length : Int))) t132 _ A18.out).mono ?_); rintro e w22 ⟨rfl, hb⟩; refine ⟨_, rfl, ?_⟩; have n0_ := Aside0.mk (Kd.R_below (by (with_reducible repeat (first | apply Kd.R_alloc | apply Kd.R_drewN | apply Kd.R_drew)); exact HO_8.out) hb); have n1_ := Aside0.mk (below_step (by repeat (first | (with_reducible first | exact HB.out | apply below_alloc | apply pw_below_drewN | apply below_drew1) | exact HB.out)) hb); clear HO_8; clear HB; have HO_8 := n0_; have HB := n1_; clear n0_ n1_; (try clear hb); (try clear hb2); (try clear hk); (try clear hi)) | ((with_reducible refine gate_builtin (b := .append) (xs := #[.tmp 58, .tmp 60]) rfl ?_); at_builtin; refine Kd.R_append (Kd.int .i64) (w0 := w) w.heap.size rfl (.tmp 58) (.tmp 60) 26 3 (.int .i64 0) 8 rfl Try.underlying26 info3 rfl (by decide) (by omega) (.slice Ao21 x8_2.length co21) x8_2 x9_2 [.int .i64 x9_2] (fun _ => True) (fun _ => False) rfl rfl ?aP (fun _ hk => hk.elim) ?aF ?aO ?aB ?aS ?aL ?_; (case aP => exact rfl); (case aB => exact (by repeat (first | (with_reducible first | exact HB.out | apply below_alloc | apply pw_below_drewN | apply below_drew1) | exact HB.out))); (case aF => exact (fun _ _ => trivial)); (case aO => exact (by (with_reducible repeat (first | apply Kd.R_alloc | apply Kd.R_drewN | apply Kd.R_drew)); exact HO_8.out)); (case aS => exact (below_size (by repeat (first | (with_reducible first | exact HB.out | apply below_alloc | apply pw_below_drewN | apply below_drew1) | exact HB.out)))); (case aL => have := LMc20.out; omega); intro v134 w23 ho hb hg hat; rw [← Ny133.out] at ho; have n0_ := Aside0.mk (hb); have n1_ := Aside0.mk (ho); clear HB; clear HO_8; have HB := n0_; have HO135 := n1_; clear n0_ n1_; clear ho hb hg hat))
                      go_roundg k2
                      case measure => have := HJ3.out; have := HK2.out; omega
                      case rel => exact ⟨(x2_2), (y133), (wrap64 (x9_2 + 1)), (by first | rfl | (simp; done) | (simp [*]; done)), (by first | rfl | (simp; done) | (simp [*]; done)), H', ⟨by have := HJ3.out; have := HK2.out; omega⟩, ⟨by (with_reducible repeat (first | apply Kd.R_alloc | apply Kd.R_drewN | apply Kd.R_drew)); exact HO135.out⟩, ⟨by repeat (first | (with_reducible first | exact HB.out | apply below_alloc | apply pw_below_drewN | apply below_drew1) | exact HB.out)⟩⟩
                    · rw [if_neg c20] at H
                      exact absurd H (by simp)
                  · rw [if_neg c19] at H
                    have c19b0 : decide (x2_2 < t132) = false := decide_eq_false c19
                    clear c19
                    have H' := Aside0.mk H
                    clear H
                    obtain ⟨Ao24, co24, eo24⟩ := Kd.R_slice HO_8.out
                    subst eo24
                    go_wp2_with (first | ((with_reducible refine gate_callee (f := 20) rfl ?_); refine goesL_ (some 54) rfl rfl Try.func20 (by kernel_rfl) rfl #[.int .i64 (wrap64 ((wrap64 (a0 - 1)) - x9_2)), .int .i64 (wrap64 ((wrap64 (a1 - 1)) - (x8_2.length : Int)))] rfl (by (try simp only [List.map_toArray, List.map_cons, List.map_nil]); first | done | rfl | (simp only [List.length_drop, List.length_take]; rfl)) ?_; (with_reducible refine (word_choose.calls k2 (wrap64 ((wrap64 (a0 - 1)) - x9_2)) (wrap64 ((wrap64 (a1 - 1)) - (x8_2.length : Int))) t132 _ A18.out).mono ?_); rintro e w25 ⟨rfl, hb⟩; refine ⟨_, rfl, ?_⟩; have n0_ := Aside0.mk (Kd.R_below (by (with_reducible repeat (first | apply Kd.R_alloc | apply Kd.R_drewN | apply Kd.R_drew)); exact HO_8.out) hb); have n1_ := Aside0.mk (below_step (by repeat (first | (with_reducible first | exact HB.out | apply below_alloc | apply pw_below_drewN | apply below_drew1) | exact HB.out)) hb); clear HO_8; clear HB; have HO_8 := n0_; have HB := n1_; clear n0_ n1_; (try clear hb); (try clear hb2); (try clear hk); (try clear hi)))
                    go_roundg k2
                    case measure => have := HJ3.out; have := HK2.out; omega
                    case rel => exact ⟨(wrap64 (x2_2 - t132)), (x8_2), (wrap64 (x9_2 + 1)), (by first | rfl | (simp; done) | (simp [*]; done)), (by first | rfl | (simp; done) | (simp [*]; done)), H', ⟨by have := HJ3.out; have := HK2.out; omega⟩, ⟨by (with_reducible repeat (first | apply Kd.R_alloc | apply Kd.R_drewN | apply Kd.R_drew)); exact HO_8.out⟩, ⟨by repeat (first | (with_reducible first | exact HB.out | apply below_alloc | apply pw_below_drewN | apply below_drew1) | exact HB.out)⟩⟩
                · rw [if_neg c17] at H
                  have c17b0 : decide ((x8_2.length : Int) < a1) = false := decide_eq_false c17
                  clear c17
                  simp only [Option.some.injEq, Prod.mk.injEq] at H
                  obtain ⟨rfl, rfl⟩ := H
                  obtain ⟨Ao26, co26, eo26⟩ := Kd.R_slice HO_8.out
                  subst eo26
                  go_wp2
                  go_ret2
                  exact ⟨_, by first | rfl | (simp [errW_none, errW_some] <;> rfl) | (simp [*, errW_none, errW_some] <;> rfl), by (with_reducible repeat (first | apply Kd.R_alloc | apply Kd.R_drewN | apply Kd.R_drew)); exact HO_8.out, by repeat (first | (with_reducible first | exact HB.out | apply below_alloc | apply pw_below_drewN | apply below_drew1) | exact HB.out)⟩
          · rw [if_neg c14] at H
            exact absurd H (by simp)
        · rw [if_neg c13] at H
          exact absurd H (by simp)

end Go.Proofs.Ytekojgilikoegaa.Q
