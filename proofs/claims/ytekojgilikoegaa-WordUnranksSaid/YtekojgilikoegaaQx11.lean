-- Written by a program of this work over the kit's printer; Lean checks it.
import Derived.Test.YtekojgilikoegaaQx0
import Derived.Test.YtekojgilikoegaaQx2
import Derived.Test.YtekojgilikoegaaQx6
import Derived.Test.YtekojgilikoegaaQx8
import Derived.Test.YtekojgilikoegaaQx10
namespace Go.Proofs.Ytekojgilikoegaa.Q
open Go.RowKit Go.Proofs.YtekojgilikoegaaW.PrintWords Go.Proofs.YtekojgilikoegaaW.PrintLast Go.Proofs.YtekojgilikoegaaW.PrintMore
attribute [local go_sem] max2_int min2_int max_two min_two max_three min_three max_four min_four   -- for this text's walks alone
set_option linter.unusedVariables false
set_option linter.unusedSimpArgs false

/-! ### codewrightlaw11_WordUnranks: function 6 -/
mutual
def codewrightlaw11_WordUnranks.j0 : Nat → Int → Int → List Int → Int → Bool → Option (Bool)
  | 0, _, _, _, _, _ => none
  | k + 1, x0, x2, x7, x10, x37 => if x37 = true then (some false) else (if x10 = 0 then ((word_Rank.f k x0 x7).bind fun bt179 => (if bt179.2 = 0 then (codewrightlaw11_WordUnranks.j1 k (bt179.1 != x2)) else (codewrightlaw11_WordUnranks.j1 k true))) else ((word_Unrank.f k 4 2 3).bind fun bt189 => (if bt189.2 = 0 then ((codewrightref11_Same.f k bt189.1 (([1, 2] : List Int))).bind fun t196 => (some t196)) else (some false))))
def codewrightlaw11_WordUnranks.j1 : Nat → Bool → Option (Bool)
  | 0, _ => none
  | k + 1, x52 => if x52 = true then (some false) else ((word_Unrank.f k 4 2 3).bind fun bt181 => (if bt181.2 = 0 then ((codewrightref11_Same.f k bt181.1 (([1, 2] : List Int))).bind fun t188 => (some t188)) else (some false)))
end
def codewrightlaw11_WordUnranks.f (k : Nat) (a0 : Int) (a1 : Int) (a2 : Int) : Option (Bool) := (word_Unrank.f k a0 a1 a2).bind fun bt170 => ((codewrightref11_Unrank.f k a0 a1 a2).bind fun bt174 => (if bt170.2 = bt174.2 then ((codewrightref11_Same.f k bt170.1 bt174.1).bind fun t178 => (codewrightlaw11_WordUnranks.j0 k a0 a2 bt170.1 bt174.2 (!t178))) else (codewrightlaw11_WordUnranks.j0 k a0 a2 bt170.1 bt174.2 true)))
theorem codewrightlaw11_WordUnranks.mono_l : ∀ k, (∀ y0 y1 y2 y3 y4, LeO (codewrightlaw11_WordUnranks.j0 k y0 y1 y2 y3 y4) (codewrightlaw11_WordUnranks.j0 (k + 1) y0 y1 y2 y3 y4)) ∧ (∀ y0, LeO (codewrightlaw11_WordUnranks.j1 k y0) (codewrightlaw11_WordUnranks.j1 (k + 1) y0))
  | 0 => ⟨fun _ _ _ _ _ r h => by simp [codewrightlaw11_WordUnranks.j0] at h, fun _ r h => by simp [codewrightlaw11_WordUnranks.j1] at h⟩
  | k + 1 => by
    obtain ⟨ih0, ih1⟩ := codewrightlaw11_WordUnranks.mono_l k
    refine ⟨?_, ?_⟩
    · intro y0 y1 y2 y3 y4
      unfold codewrightlaw11_WordUnranks.j0
      repeat' first
      | (with_reducible exact ih0 _ _ _ _ _)
      | (with_reducible exact ih1 _)
      | (with_reducible exact codewrightref11_Same.mono _ _ _)
      | (with_reducible exact codewrightref11_Unrank.mono _ _ _ _)
      | (with_reducible exact word_Rank.mono _ _ _)
      | (with_reducible exact word_Unrank.mono _ _ _ _)
      | (with_reducible exact LeO.refl _)
      | (with_reducible exact LeO.none _)
      | (with_reducible refine LeO.ite ?_ ?_)
      | (with_reducible refine LeO.bind ?_ (fun _ => ?_))
      | exact ih0 _ _ _ _ _
      | exact ih1 _
      | exact codewrightref11_Same.mono _ _ _
      | exact codewrightref11_Unrank.mono _ _ _ _
      | exact word_Rank.mono _ _ _
      | exact word_Unrank.mono _ _ _ _
      | exact LeO.none _
      | refine LeO.ite ?_ ?_
      | refine LeO.bind ?_ (fun _ => ?_)
    · intro y0
      unfold codewrightlaw11_WordUnranks.j1
      repeat' first
      | (with_reducible exact ih0 _ _ _ _ _)
      | (with_reducible exact ih1 _)
      | (with_reducible exact codewrightref11_Same.mono _ _ _)
      | (with_reducible exact codewrightref11_Unrank.mono _ _ _ _)
      | (with_reducible exact word_Rank.mono _ _ _)
      | (with_reducible exact word_Unrank.mono _ _ _ _)
      | (with_reducible exact LeO.refl _)
      | (with_reducible exact LeO.none _)
      | (with_reducible refine LeO.ite ?_ ?_)
      | (with_reducible refine LeO.bind ?_ (fun _ => ?_))
      | exact ih0 _ _ _ _ _
      | exact ih1 _
      | exact codewrightref11_Same.mono _ _ _
      | exact codewrightref11_Unrank.mono _ _ _ _
      | exact word_Rank.mono _ _ _
      | exact word_Unrank.mono _ _ _ _
      | exact LeO.none _
      | refine LeO.ite ?_ ?_
      | refine LeO.bind ?_ (fun _ => ?_)
theorem codewrightlaw11_WordUnranks.mono : ∀ a0 a1 a2 k, LeO (codewrightlaw11_WordUnranks.f k a0 a1 a2) (codewrightlaw11_WordUnranks.f (k + 1) a0 a1 a2) := by
  intro a0 a1 a2 k
  obtain ⟨ih0, ih1⟩ := codewrightlaw11_WordUnranks.mono_l k
  unfold codewrightlaw11_WordUnranks.f
  repeat' first
      | (with_reducible exact ih0 _ _ _ _ _)
      | (with_reducible exact ih1 _)
      | (with_reducible exact codewrightref11_Same.mono _ _ _)
      | (with_reducible exact codewrightref11_Unrank.mono _ _ _ _)
      | (with_reducible exact word_Rank.mono _ _ _)
      | (with_reducible exact word_Unrank.mono _ _ _ _)
      | (with_reducible exact LeO.refl _)
      | (with_reducible exact LeO.none _)
      | (with_reducible refine LeO.ite ?_ ?_)
      | (with_reducible refine LeO.bind ?_ (fun _ => ?_))
      | exact ih0 _ _ _ _ _
      | exact ih1 _
      | exact codewrightref11_Same.mono _ _ _
      | exact codewrightref11_Unrank.mono _ _ _ _
      | exact word_Rank.mono _ _ _
      | exact word_Unrank.mono _ _ _ _
      | exact LeO.none _
      | refine LeO.ite ?_ ?_
      | refine LeO.bind ?_ (fun _ => ?_)
set_option maxHeartbeats 8000000 in
set_option maxRecDepth 100000 in
theorem codewrightlaw11_WordUnranks.calls (k : Nat) (a0 : Int) (a1 : Int) (a2 : Int) (r : Bool) (w : World) (h : codewrightlaw11_WordUnranks.f k a0 a1 a2 = some r) :
    Calls Try.prog 6 #[.int .i64 a0, .int .i64 a1, .int .i64 a2] w fun e w' => e = .returned (.bool r) ∧ Below w.heap.size w w' := by
  have HB := Aside0.mk (Below.refl w.heap.size w)
  have H : ((word_Unrank.f k a0 a1 a2).bind fun bt170 => ((codewrightref11_Unrank.f k a0 a1 a2).bind fun bt174 => (if bt170.2 = bt174.2 then ((codewrightref11_Same.f k bt170.1 bt174.1).bind fun t178 => (codewrightlaw11_WordUnranks.j0 k a0 a2 bt170.1 bt174.2 (!t178))) else (codewrightlaw11_WordUnranks.j0 k a0 a2 bt170.1 bt174.2 true)))) = some r := h
  clear h
  replace H := Option.bind_eq_some_iff.mp H
  obtain ⟨⟨t170, t171⟩, A40, H⟩ := H
  replace H : ((codewrightref11_Unrank.f k a0 a1 a2).bind fun bt174 => (if t171 = bt174.2 then ((codewrightref11_Same.f k t170 bt174.1).bind fun t178 => (codewrightlaw11_WordUnranks.j0 k a0 a2 t170 bt174.2 (!t178))) else (codewrightlaw11_WordUnranks.j0 k a0 a2 t170 bt174.2 true))) = some r := H
  have A4 := Aside0.mk A40
  clear A40
  replace H := Option.bind_eq_some_iff.mp H
  obtain ⟨⟨t174, t175⟩, A50, H⟩ := H
  replace H : (if t171 = t175 then ((codewrightref11_Same.f k t170 t174).bind fun t178 => (codewrightlaw11_WordUnranks.j0 k a0 a2 t170 t175 (!t178))) else (codewrightlaw11_WordUnranks.j0 k a0 a2 t170 t175 true)) = some r := H
  have A5 := Aside0.mk A50
  clear A50
  have HC6 := Aside0.mk H
  clear H
  go_enter Try.func6, Try.ntmps6
  go_upto_region 3 with (first | ((with_reducible refine gate_callee (f := 14) rfl ?_); refine goesL_ (some 19) rfl rfl Try.func14 (by kernel_rfl) rfl #[.int .i64 a0, .int .i64 a1, .int .i64 a2] rfl (by (try simp only [List.map_toArray, List.map_cons, List.map_nil]); first | done | rfl | (simp only [List.length_drop, List.length_take]; rfl)) ?_; (with_reducible refine (word_Unrank.calls k a0 a1 a2 t170 t171 _ A4.out).mono ?_); rintro e w7 ⟨v172, rfl, ho0, hb⟩; refine ⟨_, rfl, ?_⟩; have n0_ := Aside0.mk (Kd.R_lower ho0 (below_size (by repeat (first | (with_reducible first | exact HB.out | apply below_alloc | apply pw_below_drewN | apply below_drew1) | exact HB.out)))); have n1_ := Aside0.mk (below_step (by repeat (first | (with_reducible first | exact HB.out | apply below_alloc | apply pw_below_drewN | apply below_drew1) | exact HB.out)) hb); clear HB; have HO173 := n0_; have HB := n1_; clear n0_ n1_; (try clear hb); (try clear hb2); (try clear hk); (try clear hi); (try clear ho0)) | ((with_reducible refine gate_callee (f := 16) rfl ?_); refine goesL_ (some 26) rfl rfl Try.func16 (by kernel_rfl) rfl #[.int .i64 a0, .int .i64 a1, .int .i64 a2] rfl (by (try simp only [List.map_toArray, List.map_cons, List.map_nil]); first | done | rfl | (simp only [List.length_drop, List.length_take]; rfl)) ?_; (with_reducible refine (codewrightref11_Unrank.calls k a0 a1 a2 t174 t175 _ A5.out).mono ?_); rintro e w8 ⟨v176, rfl, ho0, hb⟩; refine ⟨_, rfl, ?_⟩; have n0_ := Aside0.mk (Kd.R_elder' (by (with_reducible repeat (first | apply Kd.R_alloc | apply Kd.R_drewN | apply Kd.R_drew)); exact HO173.out) (Kd.R_base ho0) hb); have n1_ := Aside0.mk (Kd.R_lower (Kd.R_new' ho0 (Kd.R_lt (by (with_reducible repeat (first | apply Kd.R_alloc | apply Kd.R_drewN | apply Kd.R_drew)); exact HO173.out))) (below_size (by repeat (first | (with_reducible first | exact HB.out | apply below_alloc | apply pw_below_drewN | apply below_drew1) | exact HB.out)))); have n2_ := Aside0.mk (below_step (by repeat (first | (with_reducible first | exact HB.out | apply below_alloc | apply pw_below_drewN | apply below_drew1) | exact HB.out)) hb); clear HO173; clear HB; have HO173 := n0_; have HO177 := n1_; have HB := n2_; clear n0_ n1_ n2_; (try clear hb); (try clear hb2); (try clear hk); (try clear hi); (try clear ho0)))
  (try simp only [Act.put, List.setIfInBounds_toArray, List.set_cons_zero, List.set_cons_succ])
  go_cut [37] (fun v37 wc => ∃ (kq : Nat) (x37_5 : Bool), v37 = .bool x37_5 ∧ Aside0 (codewrightlaw11_WordUnranks.j0 kq a0 a2 t170 t175 x37_5 = some r) ∧ Aside0 (kq ≤ k) ∧ Aside0 (Kd.R (Kd.int .i64) 3 wc w.heap.size (fun _ => True) v172 t170) ∧ Aside0 (Below w.heap.size w wc))
  case first =>
    have H := HC6.out
    clear HC6
    by_cases c9 : t171 = t175
    · rw [if_pos c9] at H
      have c9b0 : (t171 == t175) = true := beq_iff_eq.mpr c9
      have c9b1 : (t171 != t175) = false := bne_eq_false_iff_eq.mpr c9
      clear c9
      (first | rw [c9b0] | (simp only [i64_w, i32_w]; rw [c9b0]) | skip)
      replace H := Option.bind_eq_some_iff.mp H
      obtain ⟨t178, A100, H⟩ := H
      replace H : (codewrightlaw11_WordUnranks.j0 k a0 a2 t170 t175 (!t178)) = some r := H
      have A10 := Aside0.mk A100
      clear A100
      have H' := Aside0.mk H
      clear H
      obtain ⟨Ao11, co11, eo11⟩ := Kd.R_slice HO173.out
      subst eo11
      obtain ⟨Ao12, co12, eo12⟩ := Kd.R_slice HO177.out
      subst eo12
      go_wp2_with (first | (go_at_call 15; (with_reducible refine (codewrightref11_Same.calls k _ _ t170 _ _ t174 t178 _ ?side1 ?side2 ?side3 ?side4 A10.out).mono ?_); (case side1 => repeat (first | exact (Kd.R_reads' HO173.out).2.2 | (with_reducible refine Kd.C_alloc ?_ _) | (with_reducible refine Kd.C_drewN ?_ _) | (with_reducible refine Kd.C_drew ?_))); (case side2 => exact (Kd.R_reads' HO173.out).2.1); (case side3 => repeat (first | exact (Kd.R_reads' HO177.out).2.2 | (with_reducible refine Kd.C_alloc ?_ _) | (with_reducible refine Kd.C_drewN ?_ _) | (with_reducible refine Kd.C_drew ?_))); (case side4 => exact (Kd.R_reads' HO177.out).2.1); rintro e w' ⟨rfl, ⟨nd, rfl⟩⟩))
      go_meet
      case rel => exact ⟨_, (!t178), (by first | rfl | (simp; done) | (simp [*]; done)), H', ⟨by first | omega | exact Nat.le_refl _⟩, ⟨by (with_reducible repeat (first | apply Kd.R_alloc | apply Kd.R_drewN | apply Kd.R_drew)); exact Kd.R_mono HO173.out (fun _ hk => trivial)⟩, ⟨by repeat (first | (with_reducible first | exact HB.out | apply below_alloc | apply pw_below_drewN | apply below_drew1) | exact HB.out)⟩⟩
    · rw [if_neg c9] at H
      have c9b0 : (t171 == t175) = false := beq_eq_false_iff_ne.mpr c9
      have c9b1 : (t171 != t175) = true := bne_iff_ne.mpr c9
      (first | rw [c9b0] | (simp only [i64_w, i32_w]; rw [c9b0]) | skip)
      have H' := Aside0.mk H
      clear H
      go_wp2
      go_meet
      case rel => exact ⟨_, (true), (by first | rfl | (simp; done) | (simp [*]; done)), H', ⟨by first | omega | exact Nat.le_refl _⟩, ⟨by (with_reducible repeat (first | apply Kd.R_alloc | apply Kd.R_drewN | apply Kd.R_drew)); exact Kd.R_mono HO173.out (fun _ hk => trivial)⟩, ⟨by repeat (first | (with_reducible first | exact HB.out | apply below_alloc | apply pw_below_drewN | apply below_drew1) | exact HB.out)⟩⟩
  case rest =>
    clear HC6
    try clear c1
    try clear p2
    try clear c6
    try clear c9
    try clear c9b0
    try clear c9b1
    obtain ⟨kq, x37_5, rfl, HA, HJ5, HO_7, HB⟩ := hcut
    cases kq with
    | zero => exact absurd HA.out (by simp [codewrightlaw11_WordUnranks.j0])
    | succ kj5 =>
      have H := HA.out
      clear HA
      simp only [codewrightlaw11_WordUnranks.j0] at H
      by_cases c13 : x37_5 = true
      · subst c13
        have H1 : (some false) = some r := by rw [if_pos rfl] at H; exact H
        clear H
        have H := H1
        clear H1
        obtain rfl := Option.some.inj H
        go_wp2
        go_ret
        exact ⟨by first | rfl | (simp [errW_none, errW_some] <;> rfl) | (simp [*, errW_none, errW_some] <;> rfl), by repeat (first | (with_reducible first | exact HB.out | apply below_alloc | apply pw_below_drewN | apply below_drew1) | exact HB.out)⟩
      · replace c13 := Bool.eq_false_iff.mpr c13
        subst c13
        have H1 : (if t175 = 0 then ((word_Rank.f kj5 a0 t170).bind fun bt179 => (if bt179.2 = 0 then (codewrightlaw11_WordUnranks.j1 kj5 (bt179.1 != a2)) else (codewrightlaw11_WordUnranks.j1 kj5 true))) else ((word_Unrank.f kj5 4 2 3).bind fun bt189 => (if bt189.2 = 0 then ((codewrightref11_Same.f kj5 bt189.1 (([1, 2] : List Int))).bind fun t196 => (some t196)) else (some false)))) = some r := by rw [if_neg (show ¬ (false = true) by decide)] at H; exact H
        clear H
        have H := H1
        clear H1
        by_cases c14 : t175 = 0
        · rw [if_pos c14] at H
          have c14b0 : (t175 == 0) = true := beq_iff_eq.mpr c14
          have c14b1 : (t175 != 0) = false := bne_eq_false_iff_eq.mpr c14
          clear c14
          replace H := Option.bind_eq_some_iff.mp H
          obtain ⟨⟨t179, t180⟩, A150, H⟩ := H
          replace H : (if t180 = 0 then (codewrightlaw11_WordUnranks.j1 kj5 (t179 != a2)) else (codewrightlaw11_WordUnranks.j1 kj5 true)) = some r := H
          have A15 := Aside0.mk A150
          clear A150
          have HC16 := Aside0.mk H
          clear H
          obtain ⟨Ao17, co17, eo17⟩ := Kd.R_slice HO_7.out
          subst eo17
          go_upto_region 7 with (first | ((with_reducible refine gate_callee (f := 12) rfl ?_); refine goesL_ (some 43) rfl rfl Try.func12 (by kernel_rfl) rfl #[.int .i64 a0, .slice Ao17 t170.length co17] rfl (by (try simp only [List.map_toArray, List.map_cons, List.map_nil]); first | done | rfl | (simp only [List.length_drop, List.length_take]; rfl)) ?_; (with_reducible refine (word_Rank.calls kj5 a0 _ _ t170 t179 t180 _ ?side1 ?side2 A15.out).mono ?_); (case side1 => repeat (first | exact (Kd.R_reads' HO_7.out).2.2 | (with_reducible refine Kd.C_alloc ?_ _) | (with_reducible refine Kd.C_drewN ?_ _) | (with_reducible refine Kd.C_drew ?_))); (case side2 => exact (Kd.R_reads' HO_7.out).2.1); rintro e w18 ⟨rfl, hb⟩; refine ⟨_, rfl, ?_⟩; have n0_ := Aside0.mk (Kd.R_below (by (with_reducible repeat (first | apply Kd.R_alloc | apply Kd.R_drewN | apply Kd.R_drew)); exact HO_7.out) hb); have n1_ := Aside0.mk (below_step (by repeat (first | (with_reducible first | exact HB.out | apply below_alloc | apply pw_below_drewN | apply below_drew1) | exact HB.out)) hb); clear HO_7; clear HB; have HO_7 := n0_; have HB := n1_; clear n0_ n1_; (try clear hb); (try clear hb2); (try clear hk); (try clear hi)))
          (try simp only [Act.put, List.setIfInBounds_toArray, List.set_cons_zero, List.set_cons_succ])
          go_cut [52] (fun v52 wc => ∃ (kq : Nat) (x52_15 : Bool), v52 = .bool x52_15 ∧ Aside0 (codewrightlaw11_WordUnranks.j1 kq x52_15 = some r) ∧ Aside0 (kq ≤ kj5) ∧ Aside0 (Below w.heap.size w wc))
          case first =>
            have H := HC16.out
            clear HC16
            by_cases c19 : t180 = 0
            · rw [if_pos c19] at H
              have c19b0 : (t180 == 0) = true := beq_iff_eq.mpr c19
              have c19b1 : (t180 != 0) = false := bne_eq_false_iff_eq.mpr c19
              clear c19
              (first | rw [c19b0] | (simp only [i64_w, i32_w]; rw [c19b0]) | skip)
              have H' := Aside0.mk H
              clear H
              go_wp2
              go_meet
              case rel => exact ⟨_, ((t179 != a2)), (by first | rfl | (simp; done) | (simp [*]; done)), H', ⟨by have := HJ5.out; first | omega | exact Nat.le_refl _⟩, ⟨by repeat (first | (with_reducible first | exact HB.out | apply below_alloc | apply pw_below_drewN | apply below_drew1) | exact HB.out)⟩⟩
            · rw [if_neg c19] at H
              have c19b0 : (t180 == 0) = false := beq_eq_false_iff_ne.mpr c19
              have c19b1 : (t180 != 0) = true := bne_iff_ne.mpr c19
              (first | rw [c19b0] | (simp only [i64_w, i32_w]; rw [c19b0]) | skip)
              have H' := Aside0.mk H
              clear H
              go_wp2
              go_meet
              case rel => exact ⟨_, (true), (by first | rfl | (simp; done) | (simp [*]; done)), H', ⟨by have := HJ5.out; first | omega | exact Nat.le_refl _⟩, ⟨by repeat (first | (with_reducible first | exact HB.out | apply below_alloc | apply pw_below_drewN | apply below_drew1) | exact HB.out)⟩⟩
          case rest =>
            clear HC16
            try clear c1
            try clear p2
            try clear c6
            try clear c9
            try clear c9b0
            try clear c9b1
            try clear c12
            try clear c13
            try clear c14
            try clear c14b0
            try clear c14b1
            try clear c16
            try clear c19
            try clear c19b0
            try clear c19b1
            try clear p2
            obtain ⟨kq, x52_15, rfl, HA, HJ15, HB⟩ := hcut
            cases kq with
            | zero => exact absurd HA.out (by simp [codewrightlaw11_WordUnranks.j1])
            | succ kj15 =>
              have H := HA.out
              clear HA
              simp only [codewrightlaw11_WordUnranks.j1] at H
              by_cases c20 : x52_15 = true
              · subst c20
                have H1 : (some false) = some r := by rw [if_pos rfl] at H; exact H
                clear H
                have H := H1
                clear H1
                obtain rfl := Option.some.inj H
                go_wp2
                go_ret
                exact ⟨by first | rfl | (simp [errW_none, errW_some] <;> rfl) | (simp [*, errW_none, errW_some] <;> rfl), by repeat (first | (with_reducible first | exact HB.out | apply below_alloc | apply pw_below_drewN | apply below_drew1) | exact HB.out)⟩
              · replace c20 := Bool.eq_false_iff.mpr c20
                subst c20
                have H1 : ((word_Unrank.f kj15 4 2 3).bind fun bt181 => (if bt181.2 = 0 then ((codewrightref11_Same.f kj15 bt181.1 (([1, 2] : List Int))).bind fun t188 => (some t188)) else (some false))) = some r := by rw [if_neg (show ¬ (false = true) by decide)] at H; exact H
                clear H
                have H := H1
                clear H1
                replace H := Option.bind_eq_some_iff.mp H
                obtain ⟨⟨t181, t182⟩, A210, H⟩ := H
                replace H : (if t182 = 0 then ((codewrightref11_Same.f kj15 t181 (([1, 2] : List Int))).bind fun t188 => (some t188)) else (some false)) = some r := H
                have A21 := Aside0.mk A210
                clear A210
                by_cases c22 : t182 = 0
                · rw [if_pos c22] at H
                  have c22b0 : (t182 == 0) = true := beq_iff_eq.mpr c22
                  have c22b1 : (t182 != 0) = false := bne_eq_false_iff_eq.mpr c22
                  clear c22
                  obtain ⟨y185, hy185⟩ : ∃ y_ : List Int, y_ = (([1, 2] : List Int)) := ⟨_, rfl⟩
                  replace H : ((codewrightref11_Same.f kj15 t181 y185).bind fun t188 => (some t188)) = some r := by first | (rw [hy185]; with_reducible exact H) | (have H2_ := (Option.bind_some _ _).symm.trans H; rw [hy185]; with_reducible exact H2_) | (have H2_ := (Option.bind_some _ _).symm.trans H; with_reducible exact H2_) | with_reducible exact H | (rw [hy185]; exact H) | exact H
                  have Ny185 := Aside0.mk hy185
                  clear hy185
                  replace H := Option.bind_eq_some_iff.mp H
                  obtain ⟨t188, A230, H⟩ := H
                  replace H : (some t188) = some r := H
                  have A23 := Aside0.mk A230
                  clear A230
                  obtain rfl := Option.some.inj H
                  go_wp2_with (first | ((with_reducible refine gate_callee (f := 14) rfl ?_); refine goesL_ (some 54) rfl rfl Try.func14 (by kernel_rfl) rfl #[.int .i64 4, .int .i64 2, .int .i64 3] rfl (by (try simp only [List.map_toArray, List.map_cons, List.map_nil]); first | done | rfl | (simp only [List.length_drop, List.length_take]; rfl)) ?_; (with_reducible refine (word_Unrank.calls kj15 4 2 3 t181 t182 _ A21.out).mono ?_); rintro e w24 ⟨v183, rfl, ho0, hb⟩; refine ⟨_, rfl, ?_⟩; have n0_ := Aside0.mk (Kd.R_lower ho0 (below_size (by repeat (first | (with_reducible first | exact HB.out | apply below_alloc | apply pw_below_drewN | apply below_drew1) | exact HB.out)))); have n1_ := Aside0.mk (below_step (by repeat (first | (with_reducible first | exact HB.out | apply below_alloc | apply pw_below_drewN | apply below_drew1) | exact HB.out)) hb); clear HB; have HO184 := n0_; have HB := n1_; clear n0_ n1_; (try clear hb); (try clear hb2); (try clear hk); (try clear hi); (try clear ho0)) | ((with_reducible refine gate_dst (N := 61) rfl ?_); (try (refine gate_guard (by rfl) ?_; dsimp only)); refine Kd.R_lit (Kd.int .i64) _ 3 ?hg (N := 61) ?hd (xs := ([1, 2] : List Int)) (inner := [.int .i64 1, .int .i64 2]) (ok := fun _ => True) (okp := fun _ => True) ?hr ?hp (fun _ hk => hk) trivial (Below.refl _ _) (Nat.le_refl _) (by simp) ?_; (case hd => rfl); (case hg => rfl); (case hr => first | (go_simp; done) | (go_simp; rfl)); (case hp => exact (Reps.one (show Kd.M (Kd.int .i64) _ _ _ 1 [.int .i64 1] from rfl) (Reps.one (show Kd.M (Kd.int .i64) _ _ _ 2 [.int .i64 2] from rfl) (Reps.none _ _)))); intro v186 w25 ho26 hb hg_ hnew_; clear hg_ hnew_; (first | rw [← Ny185.out] at ho26 | (simp only [Int.reduceToNat] at ho26; rw [← Ny185.out] at ho26)); have n0_ := Aside0.mk (Kd.R_elder' (by (with_reducible repeat (first | apply Kd.R_alloc | apply Kd.R_drewN | apply Kd.R_drew)); exact HO184.out) (Kd.R_base ho26) hb); have n1_ := Aside0.mk (Kd.R_lower (Kd.R_new' ho26 (Kd.R_lt (by (with_reducible repeat (first | apply Kd.R_alloc | apply Kd.R_drewN | apply Kd.R_drew)); exact HO184.out))) (below_size (by repeat (first | (with_reducible first | exact HB.out | apply below_alloc | apply pw_below_drewN | apply below_drew1) | exact HB.out)))); have n2_ := Aside0.mk (below_step (by repeat (first | (with_reducible first | exact HB.out | apply below_alloc | apply pw_below_drewN | apply below_drew1) | exact HB.out)) hb); clear HO184; clear HB; have HO184 := n0_; have HO187 := n1_; have HB := n2_; clear n0_ n1_ n2_; clear hb ho26; obtain ⟨Ao27, co27, eo27⟩ := Kd.R_slice HO184.out; subst eo27; obtain ⟨Ao28, co28, eo28⟩ := Kd.R_slice HO187.out; subst eo28) | (go_at_call 15; (with_reducible refine (codewrightref11_Same.calls kj15 _ _ t181 _ _ y185 t188 _ ?side1 ?side2 ?side3 ?side4 A23.out).mono ?_); (case side1 => repeat (first | exact (Kd.R_reads' HO184.out).2.2 | (with_reducible refine Kd.C_alloc ?_ _) | (with_reducible refine Kd.C_drewN ?_ _) | (with_reducible refine Kd.C_drew ?_))); (case side2 => exact (Kd.R_reads' HO184.out).2.1); (case side3 => repeat (first | exact (Kd.R_reads' HO187.out).2.2 | (with_reducible refine Kd.C_alloc ?_ _) | (with_reducible refine Kd.C_drewN ?_ _) | (with_reducible refine Kd.C_drew ?_))); (case side4 => exact (Kd.R_reads' HO187.out).2.1); rintro e w' ⟨rfl, ⟨nd, rfl⟩⟩))
                  go_ret
                  exact ⟨by first | rfl | (simp [errW_none, errW_some] <;> rfl) | (simp [*, errW_none, errW_some] <;> rfl), by repeat (first | (with_reducible first | exact HB.out | apply below_alloc | apply pw_below_drewN | apply below_drew1) | exact HB.out)⟩
                · rw [if_neg c22] at H
                  have c22b0 : (t182 == 0) = false := beq_eq_false_iff_ne.mpr c22
                  have c22b1 : (t182 != 0) = true := bne_iff_ne.mpr c22
                  obtain rfl := Option.some.inj H
                  go_wp2_with (first | ((with_reducible refine gate_callee (f := 14) rfl ?_); refine goesL_ (some 54) rfl rfl Try.func14 (by kernel_rfl) rfl #[.int .i64 4, .int .i64 2, .int .i64 3] rfl (by (try simp only [List.map_toArray, List.map_cons, List.map_nil]); first | done | rfl | (simp only [List.length_drop, List.length_take]; rfl)) ?_; (with_reducible refine (word_Unrank.calls kj15 4 2 3 t181 t182 _ A21.out).mono ?_); rintro e w29 ⟨v183, rfl, ho0, hb⟩; refine ⟨_, rfl, ?_⟩; have n0_ := Aside0.mk (Kd.R_lower ho0 (below_size (by repeat (first | (with_reducible first | exact HB.out | apply below_alloc | apply pw_below_drewN | apply below_drew1) | exact HB.out)))); have n1_ := Aside0.mk (below_step (by repeat (first | (with_reducible first | exact HB.out | apply below_alloc | apply pw_below_drewN | apply below_drew1) | exact HB.out)) hb); clear HB; have HO184 := n0_; have HB := n1_; clear n0_ n1_; (try clear hb); (try clear hb2); (try clear hk); (try clear hi); (try clear ho0)))
                  go_ret
                  exact ⟨by first | rfl | (simp [errW_none, errW_some] <;> rfl) | (simp [*, errW_none, errW_some] <;> rfl), by repeat (first | (with_reducible first | exact HB.out | apply below_alloc | apply pw_below_drewN | apply below_drew1) | exact HB.out)⟩
        · rw [if_neg c14] at H
          have c14b0 : (t175 == 0) = false := beq_eq_false_iff_ne.mpr c14
          have c14b1 : (t175 != 0) = true := bne_iff_ne.mpr c14
          replace H := Option.bind_eq_some_iff.mp H
          obtain ⟨⟨t189, t190⟩, A300, H⟩ := H
          replace H : (if t190 = 0 then ((codewrightref11_Same.f kj5 t189 (([1, 2] : List Int))).bind fun t196 => (some t196)) else (some false)) = some r := H
          have A30 := Aside0.mk A300
          clear A300
          by_cases c31 : t190 = 0
          · rw [if_pos c31] at H
            have c31b0 : (t190 == 0) = true := beq_iff_eq.mpr c31
            have c31b1 : (t190 != 0) = false := bne_eq_false_iff_eq.mpr c31
            clear c31
            obtain ⟨y193, hy193⟩ : ∃ y_ : List Int, y_ = (([1, 2] : List Int)) := ⟨_, rfl⟩
            replace H : ((codewrightref11_Same.f kj5 t189 y193).bind fun t196 => (some t196)) = some r := by first | (rw [hy193]; with_reducible exact H) | (have H2_ := (Option.bind_some _ _).symm.trans H; rw [hy193]; with_reducible exact H2_) | (have H2_ := (Option.bind_some _ _).symm.trans H; with_reducible exact H2_) | with_reducible exact H | (rw [hy193]; exact H) | exact H
            have Ny193 := Aside0.mk hy193
            clear hy193
            replace H := Option.bind_eq_some_iff.mp H
            obtain ⟨t196, A320, H⟩ := H
            replace H : (some t196) = some r := H
            have A32 := Aside0.mk A320
            clear A320
            obtain rfl := Option.some.inj H
            go_wp2_with (first | ((with_reducible refine gate_callee (f := 14) rfl ?_); refine goesL_ (some 54) rfl rfl Try.func14 (by kernel_rfl) rfl #[.int .i64 4, .int .i64 2, .int .i64 3] rfl (by (try simp only [List.map_toArray, List.map_cons, List.map_nil]); first | done | rfl | (simp only [List.length_drop, List.length_take]; rfl)) ?_; (with_reducible refine (word_Unrank.calls kj5 4 2 3 t189 t190 _ A30.out).mono ?_); rintro e w33 ⟨v191, rfl, ho0, hb⟩; refine ⟨_, rfl, ?_⟩; have n0_ := Aside0.mk (Kd.R_elder' (by (with_reducible repeat (first | apply Kd.R_alloc | apply Kd.R_drewN | apply Kd.R_drew)); exact HO_7.out) (Kd.R_base ho0) hb); have n1_ := Aside0.mk (Kd.R_lower (Kd.R_new' ho0 (Kd.R_lt (by (with_reducible repeat (first | apply Kd.R_alloc | apply Kd.R_drewN | apply Kd.R_drew)); exact HO_7.out))) (below_size (by repeat (first | (with_reducible first | exact HB.out | apply below_alloc | apply pw_below_drewN | apply below_drew1) | exact HB.out)))); have n2_ := Aside0.mk (below_step (by repeat (first | (with_reducible first | exact HB.out | apply below_alloc | apply pw_below_drewN | apply below_drew1) | exact HB.out)) hb); clear HO_7; clear HB; have HO_7 := n0_; have HO192 := n1_; have HB := n2_; clear n0_ n1_ n2_; (try clear hb); (try clear hb2); (try clear hk); (try clear hi); (try clear ho0)) | ((with_reducible refine gate_dst (N := 61) rfl ?_); (try (refine gate_guard (by rfl) ?_; dsimp only)); refine Kd.R_lit (Kd.int .i64) _ 3 ?hg (N := 61) ?hd (xs := ([1, 2] : List Int)) (inner := [.int .i64 1, .int .i64 2]) (ok := fun _ => True) (okp := fun _ => True) ?hr ?hp (fun _ hk => hk) trivial (Below.refl _ _) (Nat.le_refl _) (by simp) ?_; (case hd => rfl); (case hg => rfl); (case hr => first | (go_simp; done) | (go_simp; rfl)); (case hp => exact (Reps.one (show Kd.M (Kd.int .i64) _ _ _ 1 [.int .i64 1] from rfl) (Reps.one (show Kd.M (Kd.int .i64) _ _ _ 2 [.int .i64 2] from rfl) (Reps.none _ _)))); intro v194 w34 ho35 hb hg_ hnew_; clear hg_ hnew_; (first | rw [← Ny193.out] at ho35 | (simp only [Int.reduceToNat] at ho35; rw [← Ny193.out] at ho35)); have n0_ := Aside0.mk (Kd.R_elder' (by (with_reducible repeat (first | apply Kd.R_alloc | apply Kd.R_drewN | apply Kd.R_drew)); exact HO_7.out) (Kd.R_base ho35) hb); have n1_ := Aside0.mk (Kd.R_elder' (by (with_reducible repeat (first | apply Kd.R_alloc | apply Kd.R_drewN | apply Kd.R_drew)); exact HO192.out) (Kd.R_base ho35) hb); have n2_ := Aside0.mk (Kd.R_lower (Kd.R_new' (Kd.R_new' ho35 (Kd.R_lt (by (with_reducible repeat (first | apply Kd.R_alloc | apply Kd.R_drewN | apply Kd.R_drew)); exact HO_7.out))) (Kd.R_lt (by (with_reducible repeat (first | apply Kd.R_alloc | apply Kd.R_drewN | apply Kd.R_drew)); exact HO192.out))) (below_size (by repeat (first | (with_reducible first | exact HB.out | apply below_alloc | apply pw_below_drewN | apply below_drew1) | exact HB.out)))); have n3_ := Aside0.mk (below_step (by repeat (first | (with_reducible first | exact HB.out | apply below_alloc | apply pw_below_drewN | apply below_drew1) | exact HB.out)) hb); clear HO_7; clear HO192; clear HB; have HO_7 := n0_; have HO192 := n1_; have HO195 := n2_; have HB := n3_; clear n0_ n1_ n2_ n3_; clear hb ho35; obtain ⟨Ao36, co36, eo36⟩ := Kd.R_slice HO192.out; subst eo36; obtain ⟨Ao37, co37, eo37⟩ := Kd.R_slice HO195.out; subst eo37) | (go_at_call 15; (with_reducible refine (codewrightref11_Same.calls kj5 _ _ t189 _ _ y193 t196 _ ?side1 ?side2 ?side3 ?side4 A32.out).mono ?_); (case side1 => repeat (first | exact (Kd.R_reads' HO192.out).2.2 | (with_reducible refine Kd.C_alloc ?_ _) | (with_reducible refine Kd.C_drewN ?_ _) | (with_reducible refine Kd.C_drew ?_))); (case side2 => exact (Kd.R_reads' HO192.out).2.1); (case side3 => repeat (first | exact (Kd.R_reads' HO195.out).2.2 | (with_reducible refine Kd.C_alloc ?_ _) | (with_reducible refine Kd.C_drewN ?_ _) | (with_reducible refine Kd.C_drew ?_))); (case side4 => exact (Kd.R_reads' HO195.out).2.1); rintro e w' ⟨rfl, ⟨nd, rfl⟩⟩))
            go_ret
            exact ⟨by first | rfl | (simp [errW_none, errW_some] <;> rfl) | (simp [*, errW_none, errW_some] <;> rfl), by repeat (first | (with_reducible first | exact HB.out | apply below_alloc | apply pw_below_drewN | apply below_drew1) | exact HB.out)⟩
          · rw [if_neg c31] at H
            have c31b0 : (t190 == 0) = false := beq_eq_false_iff_ne.mpr c31
            have c31b1 : (t190 != 0) = true := bne_iff_ne.mpr c31
            obtain rfl := Option.some.inj H
            go_wp2_with (first | ((with_reducible refine gate_callee (f := 14) rfl ?_); refine goesL_ (some 54) rfl rfl Try.func14 (by kernel_rfl) rfl #[.int .i64 4, .int .i64 2, .int .i64 3] rfl (by (try simp only [List.map_toArray, List.map_cons, List.map_nil]); first | done | rfl | (simp only [List.length_drop, List.length_take]; rfl)) ?_; (with_reducible refine (word_Unrank.calls kj5 4 2 3 t189 t190 _ A30.out).mono ?_); rintro e w38 ⟨v191, rfl, ho0, hb⟩; refine ⟨_, rfl, ?_⟩; have n0_ := Aside0.mk (Kd.R_elder' (by (with_reducible repeat (first | apply Kd.R_alloc | apply Kd.R_drewN | apply Kd.R_drew)); exact HO_7.out) (Kd.R_base ho0) hb); have n1_ := Aside0.mk (Kd.R_lower (Kd.R_new' ho0 (Kd.R_lt (by (with_reducible repeat (first | apply Kd.R_alloc | apply Kd.R_drewN | apply Kd.R_drew)); exact HO_7.out))) (below_size (by repeat (first | (with_reducible first | exact HB.out | apply below_alloc | apply pw_below_drewN | apply below_drew1) | exact HB.out)))); have n2_ := Aside0.mk (below_step (by repeat (first | (with_reducible first | exact HB.out | apply below_alloc | apply pw_below_drewN | apply below_drew1) | exact HB.out)) hb); clear HO_7; clear HB; have HO_7 := n0_; have HO192 := n1_; have HB := n2_; clear n0_ n1_ n2_; (try clear hb); (try clear hb2); (try clear hk); (try clear hi); (try clear ho0)))
            go_ret
            exact ⟨by first | rfl | (simp [errW_none, errW_some] <;> rfl) | (simp [*, errW_none, errW_some] <;> rfl), by repeat (first | (with_reducible first | exact HB.out | apply below_alloc | apply pw_below_drewN | apply below_drew1) | exact HB.out)⟩

/-- THE ONE PURE STATEMENT of codewrightlaw11_WordUnranks: yours. -/
def codewrightlaw11_WordUnranks.Pure : Prop := ∀ (a0 : Int) (a1 : Int) (a2 : Int), (Lit.int .i64 a0).wf = true → (Lit.int .i64 a1).wf = true → (Lit.int .i64 a2).wf = true → ∃ k, codewrightlaw11_WordUnranks.f k a0 a1 a2 = some true
theorem codewrightlaw11_WordUnranks.walk (P : codewrightlaw11_WordUnranks.Pure) (a0 : Int) (a1 : Int) (a2 : Int) (w : World) (w0 : (Lit.int .i64 a0).wf = true) (w1 : (Lit.int .i64 a1).wf = true) (w2 : (Lit.int .i64 a2).wf = true) :
    Calls Try.prog 6 #[.int .i64 a0, .int .i64 a1, .int .i64 a2] w fun e w' => e = .returned (.bool true) ∧ Below w.heap.size w w' := by
  obtain ⟨k, h⟩ := P a0 a1 a2 w0 w1 w2
  refine (codewrightlaw11_WordUnranks.calls k a0 a1 a2 true w h).mono ?_
  rintro e w' ⟨rfl, hd⟩
  exact ⟨rfl, hd⟩

end Go.Proofs.Ytekojgilikoegaa.Q
