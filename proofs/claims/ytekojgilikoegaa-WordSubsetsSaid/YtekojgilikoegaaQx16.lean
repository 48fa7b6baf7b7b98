-- Written by a program of this work over the kit's printer; Lean checks it.
import Derived.Test.YtekojgilikoegaaQx0
import Derived.Test.YtekojgilikoegaaQx8
import Derived.Test.YtekojgilikoegaaQx13
import Derived.Test.YtekojgilikoegaaQx14
import Derived.Test.YtekojgilikoegaaQx15
namespace Go.Proofs.Ytekojgilikoegaa.Q
open Go.RowKit Go.Proofs.YtekojgilikoegaaW.PrintWords Go.Proofs.YtekojgilikoegaaW.PrintLast Go.Proofs.YtekojgilikoegaaW.PrintMore
attribute [local go_sem] max2_int min2_int max_two min_two max_three min_three max_four min_four   -- for this text's walks alone
set_option linter.unusedVariables false
set_option linter.unusedSimpArgs false

/-! ### codewrightlaw11_WordSubsets: function 7 -/
def codewrightlaw11_WordSubsets.j0 : Nat → Bool → Option (Bool)
  | 0, _ => none
  | k + 1, x31 => if x31 = true then (some false) else ((word_Subsets.f k 3 2).bind fun bt251 => (if bt251.2 = 0 then (if (bt251.1.length : Int) = 3 then (if 1 < (bt251.1.length : Int) then ((codewrightref11_Same.f k (rd_L1 bt251.1 1) (([0, 2] : List Int))).bind fun t259 => (some t259)) else (none)) else (some false)) else (some false)))
def codewrightlaw11_WordSubsets.f (k : Nat) (a0 : Int) (a1 : Int) : Option (Bool) := (word_Subsets.f k a0 a1).bind fun bt242 => ((codewrightref11_Subsets.f k a0 a1).bind fun bt246 => (if bt242.2 = bt246.2 then ((codewrightref11_SameLists.f k bt242.1 bt246.1).bind fun t250 => (codewrightlaw11_WordSubsets.j0 k (!t250))) else (codewrightlaw11_WordSubsets.j0 k true)))
theorem codewrightlaw11_WordSubsets.mono_l : ∀ k, (∀ y0, LeO (codewrightlaw11_WordSubsets.j0 k y0) (codewrightlaw11_WordSubsets.j0 (k + 1) y0))
  | 0 => fun _ r h => by simp [codewrightlaw11_WordSubsets.j0] at h
  | k + 1 => by
    have ih0 := codewrightlaw11_WordSubsets.mono_l k
    · intro y0
      unfold codewrightlaw11_WordSubsets.j0
      repeat' first
      | (with_reducible exact ih0 _)
      | (with_reducible exact codewrightref11_Same.mono _ _ _)
      | (with_reducible exact codewrightref11_SameLists.mono _ _ _)
      | (with_reducible exact codewrightref11_Subsets.mono _ _ _)
      | (with_reducible exact word_Subsets.mono _ _ _)
      | (with_reducible exact LeO.refl _)
      | (with_reducible exact LeO.none _)
      | (with_reducible refine LeO.ite ?_ ?_)
      | (with_reducible refine LeO.bind ?_ (fun _ => ?_))
      | exact ih0 _
      | exact codewrightref11_Same.mono _ _ _
      | exact codewrightref11_SameLists.mono _ _ _
      | exact codewrightref11_Subsets.mono _ _ _
      | exact word_Subsets.mono _ _ _
      | exact LeO.none _
      | refine LeO.ite ?_ ?_
      | refine LeO.bind ?_ (fun _ => ?_)
theorem codewrightlaw11_WordSubsets.mono : ∀ a0 a1 k, LeO (codewrightlaw11_WordSubsets.f k a0 a1) (codewrightlaw11_WordSubsets.f (k + 1) a0 a1) := by
  intro a0 a1 k
  have ih0 := codewrightlaw11_WordSubsets.mono_l k
  unfold codewrightlaw11_WordSubsets.f
  repeat' first
      | (with_reducible exact ih0 _)
      | (with_reducible exact codewrightref11_Same.mono _ _ _)
      | (with_reducible exact codewrightref11_SameLists.mono _ _ _)
      | (with_reducible exact codewrightref11_Subsets.mono _ _ _)
      | (with_reducible exact word_Subsets.mono _ _ _)
      | (with_reducible exact LeO.refl _)
      | (with_reducible exact LeO.none _)
      | (with_reducible refine LeO.ite ?_ ?_)
      | (with_reducible refine LeO.bind ?_ (fun _ => ?_))
      | exact ih0 _
      | exact codewrightref11_Same.mono _ _ _
      | exact codewrightref11_SameLists.mono _ _ _
      | exact codewrightref11_Subsets.mono _ _ _
      | exact word_Subsets.mono _ _ _
      | exact LeO.none _
      | refine LeO.ite ?_ ?_
      | refine LeO.bind ?_ (fun _ => ?_)
set_option maxHeartbeats 8000000 in
set_option maxRecDepth 100000 in
theorem codewrightlaw11_WordSubsets.calls (k : Nat) (a0 : Int) (a1 : Int) (r : Bool) (w : World) (h : codewrightlaw11_WordSubsets.f k a0 a1 = some r) :
    Calls Try.prog 7 #[.int .i64 a0, .int .i64 a1] w fun e w' => e = .returned (.bool r) ∧ Below w.heap.size w w' := by
  have HB := Aside0.mk (Below.refl w.heap.size w)
  have H : ((word_Subsets.f k a0 a1).bind fun bt242 => ((codewrightref11_Subsets.f k a0 a1).bind fun bt246 => (if bt242.2 = bt246.2 then ((codewrightref11_SameLists.f k bt242.1 bt246.1).bind fun t250 => (codewrightlaw11_WordSubsets.j0 k (!t250))) else (codewrightlaw11_WordSubsets.j0 k true)))) = some r := h
  clear h
  replace H := Option.bind_eq_some_iff.mp H
  obtain ⟨⟨t242, t243⟩, A30, H⟩ := H
  replace H : ((codewrightref11_Subsets.f k a0 a1).bind fun bt246 => (if t243 = bt246.2 then ((codewrightref11_SameLists.f k t242 bt246.1).bind fun t250 => (codewrightlaw11_WordSubsets.j0 k (!t250))) else (codewrightlaw11_WordSubsets.j0 k true))) = some r := H
  have A3 := Aside0.mk A30
  clear A30
  replace H := Option.bind_eq_some_iff.mp H
  obtain ⟨⟨t246, t247⟩, A40, H⟩ := H
  replace H : (if t243 = t247 then ((codewrightref11_SameLists.f k t242 t246).bind fun t250 => (codewrightlaw11_WordSubsets.j0 k (!t250))) else (codewrightlaw11_WordSubsets.j0 k true)) = some r := H
  have A4 := Aside0.mk A40
  clear A40
  have HC5 := Aside0.mk H
  clear H
  go_enter Try.func7, Try.ntmps7
  go_upto_region 3 with (first | ((with_reducible refine gate_callee (f := 17) rfl ?_); refine goesL_ (some 14) rfl rfl Try.func17 (by kernel_rfl) rfl #[.int .i64 a0, .int .i64 a1] rfl (by (try simp only [List.map_toArray, List.map_cons, List.map_nil]); first | done | rfl | (simp only [List.length_drop, List.length_take]; rfl)) ?_; (with_reducible refine (word_Subsets.calls k a0 a1 t242 t243 _ A3.out).mono ?_); rintro e w6 ⟨v244, rfl, ho0, hb⟩; refine ⟨_, rfl, ?_⟩; have n0_ := Aside0.mk (Kd.S_lower ho0 (below_size (by repeat (first | (with_reducible first | exact HB.out | apply below_alloc | apply pw_below_drewN | apply below_drew1) | exact HB.out)))); have n1_ := Aside0.mk (below_step (by repeat (first | (with_reducible first | exact HB.out | apply below_alloc | apply pw_below_drewN | apply below_drew1) | exact HB.out)) hb); clear HB; have HO245 := n0_; have HB := n1_; clear n0_ n1_; (try clear hb); (try clear hb2); (try clear hk); (try clear hi); (try clear ho0)) | ((with_reducible refine gate_callee (f := 18) rfl ?_); refine goesL_ (some 20) rfl rfl Try.func18 (by kernel_rfl) rfl #[.int .i64 a0, .int .i64 a1] rfl (by (try simp only [List.map_toArray, List.map_cons, List.map_nil]); first | done | rfl | (simp only [List.length_drop, List.length_take]; rfl)) ?_; (with_reducible refine (codewrightref11_Subsets.calls k a0 a1 t246 t247 _ A4.out).mono ?_); rintro e w7 ⟨v248, rfl, ho0, hb⟩; refine ⟨_, rfl, ?_⟩; have n0_ := Aside0.mk (Kd.S_elder' (by (with_reducible repeat (first | apply Kd.S_alloc | apply Kd.S_drewN | apply Kd.S_drew)); exact HO245.out) (Kd.S_base ho0) hb); have n1_ := Aside0.mk (Kd.S_lower (Kd.S_new' ho0 (Kd.S_lt (by (with_reducible repeat (first | apply Kd.S_alloc | apply Kd.S_drewN | apply Kd.S_drew)); exact HO245.out))) (below_size (by repeat (first | (with_reducible first | exact HB.out | apply below_alloc | apply pw_below_drewN | apply below_drew1) | exact HB.out)))); have n2_ := Aside0.mk (below_step (by repeat (first | (with_reducible first | exact HB.out | apply below_alloc | apply pw_below_drewN | apply below_drew1) | exact HB.out)) hb); clear HO245; clear HB; have HO245 := n0_; have HO249 := n1_; have HB := n2_; clear n0_ n1_ n2_; (try clear hb); (try clear hb2); (try clear hk); (try clear hi); (try clear ho0)))
  (try simp only [Act.put, List.setIfInBounds_toArray, List.set_cons_zero, List.set_cons_succ])
  go_cut [31] (fun v31 wc => ∃ (kq : Nat) (x31_4 : Bool), v31 = .bool x31_4 ∧ Aside0 (codewrightlaw11_WordSubsets.j0 kq x31_4 = some r) ∧ Aside0 (kq ≤ k) ∧ Aside0 (Below w.heap.size w wc))
  case first =>
    have H := HC5.out
    clear HC5
    by_cases c8 : t243 = t247
    · rw [if_pos c8] at H
      have c8b0 : (t243 == t247) = true := beq_iff_eq.mpr c8
      have c8b1 : (t243 != t247) = false := bne_eq_false_iff_eq.mpr c8
      clear c8
      (first | rw [c8b0] | (simp only [i64_w, i32_w]; rw [c8b0]) | skip)
      replace H := Option.bind_eq_some_iff.mp H
      obtain ⟨t250, A90, H⟩ := H
      replace H : (codewrightlaw11_WordSubsets.j0 k (!t250)) = some r := H
      have A9 := Aside0.mk A90
      clear A90
      have H' := Aside0.mk H
      clear H
      obtain ⟨Ao10, co10, eo10⟩ := Kd.S_slice HO245.out
      subst eo10
      obtain ⟨Ao11, co11, eo11⟩ := Kd.S_slice HO249.out
      subst eo11
      go_wp2_with (first | (go_at_call 19; (with_reducible refine (codewrightref11_SameLists.calls k _ _ t242 _ _ t246 t250 _ ?side1 ?side2 ?side3 ?side4 A9.out).mono ?_); (case side1 => repeat (first | exact (Kd.S_reads' HO245.out).2.2 | (with_reducible refine Kd.C_alloc ?_ _) | (with_reducible refine Kd.C_drewN ?_ _) | (with_reducible refine Kd.C_drew ?_))); (case side2 => exact (Kd.S_reads' HO245.out).2.1); (case side3 => repeat (first | exact (Kd.S_reads' HO249.out).2.2 | (with_reducible refine Kd.C_alloc ?_ _) | (with_reducible refine Kd.C_drewN ?_ _) | (with_reducible refine Kd.C_drew ?_))); (case side4 => exact (Kd.S_reads' HO249.out).2.1); rintro e w' ⟨rfl, ⟨nd, rfl⟩⟩))
      go_meet
      case rel => exact ⟨_, (!t250), (by first | rfl | (simp; done) | (simp [*]; done)), H', ⟨by first | omega | exact Nat.le_refl _⟩, ⟨by repeat (first | (with_reducible first | exact HB.out | apply below_alloc | apply pw_below_drewN | apply below_drew1) | exact HB.out)⟩⟩
    · rw [if_neg c8] at H
      have c8b0 : (t243 == t247) = false := beq_eq_false_iff_ne.mpr c8
      have c8b1 : (t243 != t247) = true := bne_iff_ne.mpr c8
      (first | rw [c8b0] | (simp only [i64_w, i32_w]; rw [c8b0]) | skip)
      have H' := Aside0.mk H
      clear H
      go_wp2
      go_meet
      case rel => exact ⟨_, (true), (by first | rfl | (simp; done) | (simp [*]; done)), H', ⟨by first | omega | exact Nat.le_refl _⟩, ⟨by repeat (first | (with_reducible first | exact HB.out | apply below_alloc | apply pw_below_drewN | apply below_drew1) | exact HB.out)⟩⟩
  case rest =>
    clear HC5
    try clear c1
    try clear p2
    try clear c7
    try clear c8
    try clear c8b0
    try clear c8b1
    obtain ⟨kq, x31_4, rfl, HA, HJ4, HB⟩ := hcut
    cases kq with
    | zero => exact absurd HA.out (by simp [codewrightlaw11_WordSubsets.j0])
    | succ kj4 =>
      have H := HA.out
      clear HA
      simp only [codewrightlaw11_WordSubsets.j0] at H
      by_cases c12 : x31_4 = true
      · subst c12
        have H1 : (some false) = some r := by rw [if_pos rfl] at H; exact H
        clear H
        have H := H1
        clear H1
        obtain rfl := Option.some.inj H
        go_wp2
        go_ret
        exact ⟨by first | rfl | (simp [errW_none, errW_some] <;> rfl) | (simp [*, errW_none, errW_some] <;> rfl), by repeat (first | (with_reducible first | exact HB.out | apply below_alloc | apply pw_below_drewN | apply below_drew1) | exact HB.out)⟩
      · replace c12 := Bool.eq_false_iff.mpr c12
        subst c12
        have H1 : ((word_Subsets.f kj4 3 2).bind fun bt251 => (if bt251.2 = 0 then (if (bt251.1.length : Int) = 3 then (if 1 < (bt251.1.length : Int) then ((codewrightref11_Same.f kj4 (rd_L1 bt251.1 1) (([0, 2] : List Int))).bind fun t259 => (some t259)) else (none)) else (some false)) else (some false))) = some r := by rw [if_neg (show ¬ (false = true) by decide)] at H; exact H
        clear H
        have H := H1
        clear H1
        replace H := Option.bind_eq_some_iff.mp H
        obtain ⟨⟨t251, t252⟩, A130, H⟩ := H
        replace H : (if t252 = 0 then (if (t251.length : Int) = 3 then (if 1 < (t251.length : Int) then ((codewrightref11_Same.f kj4 (rd_L1 t251 1) (([0, 2] : List Int))).bind fun t259 => (some t259)) else (none)) else (some false)) else (some false)) = some r := H
        have A13 := Aside0.mk A130
        clear A130
        by_cases c14 : t252 = 0
        · rw [if_pos c14] at H
          have c14b0 : (t252 == 0) = true := beq_iff_eq.mpr c14
          have c14b1 : (t252 != 0) = false := bne_eq_false_iff_eq.mpr c14
          clear c14
          by_cases c15 : (t251.length : Int) = 3
          · rw [if_pos c15] at H
            have c15b0 : ((t251.length : Int) == 3) = true := beq_iff_eq.mpr c15
            have c15b1 : ((t251.length : Int) != 3) = false := bne_eq_false_iff_eq.mpr c15
            clear c15
            by_cases c16 : 1 < (t251.length : Int)
            · rw [if_pos c16] at H
              have c16b0 : decide (1 < (t251.length : Int)) = true := decide_eq_true c16
              have c16b1 : decide (1 < t251.length) = true := decide_eq_true (by omega)
              clear c16
              obtain ⟨y256, hy256⟩ : ∃ y_ : List Int, y_ = (([0, 2] : List Int)) := ⟨_, rfl⟩
              replace H : ((codewrightref11_Same.f kj4 (rd_L1 t251 1) y256).bind fun t259 => (some t259)) = some r := by first | (rw [hy256]; with_reducible exact H) | (have H2_ := (Option.bind_some _ _).symm.trans H; rw [hy256]; with_reducible exact H2_) | (have H2_ := (Option.bind_some _ _).symm.trans H; with_reducible exact H2_) | with_reducible exact H | (rw [hy256]; exact H) | exact H
              have Ny256 := Aside0.mk hy256
              clear hy256
              replace H := Option.bind_eq_some_iff.mp H
              obtain ⟨t259, A170, H⟩ := H
              replace H : (some t259) = some r := H
              have A17 := Aside0.mk A170
              clear A170
              obtain rfl := Option.some.inj H
              go_wp2_with (first | ((with_reducible refine gate_callee (f := 17) rfl ?_); refine goesL_ (some 33) rfl rfl Try.func17 (by kernel_rfl) rfl #[.int .i64 3, .int .i64 2] rfl (by (try simp only [List.map_toArray, List.map_cons, List.map_nil]); first | done | rfl | (simp only [List.length_drop, List.length_take]; rfl)) ?_; (with_reducible refine (word_Subsets.calls kj4 3 2 t251 t252 _ A13.out).mono ?_); rintro e w18 ⟨v253, rfl, ho0, hb⟩; refine ⟨_, rfl, ?_⟩; have n0_ := Aside0.mk (Kd.S_lower ho0 (below_size (by repeat (first | (with_reducible first | exact HB.out | apply below_alloc | apply pw_below_drewN | apply below_drew1) | exact HB.out)))); have n1_ := Aside0.mk (below_step (by repeat (first | (with_reducible first | exact HB.out | apply below_alloc | apply pw_below_drewN | apply below_drew1) | exact HB.out)) hb); clear HB; have HO254 := n0_; have HB := n1_; clear n0_ n1_; (try clear hb); (try clear hb2); (try clear hk); (try clear hi); (try clear ho0); obtain ⟨Ao19, co19, eo19⟩ := Kd.S_slice HO254.out; subst eo19; have p255 : 0 ≤ (1 : Int) := (by omega); have q255 : 1 < (t251.length : Int) := of_decide_eq_true (by first | (with_reducible assumption) | assumption); obtain ⟨ad255, A255_0, c255_0, e255, hx255_0, hl255_0, hi255_0⟩ := at_L1 (Kd.S_reads' HO254.out).2.2 1 p255 q255; cases e255; obtain ⟨ce255, hce255, hMe255, hcc255⟩ := Kd.S_get HO254.out [] 1 p255 (by first | exact q255 | exact of_decide_eq_true (by first | (with_reducible assumption) | assumption) | (have e_ := (Kd.S_reads' HO254.out).1; omega)); obtain ⟨ve255_0, rfl, ge255_0⟩ := hMe255; have hv255_0 := hcc255 0 _ rfl; rw [Nat.add_zero, show ((Kd.slice 3 (Kd.int .i64))).sz = 1 from rfl, Nat.mul_one] at hv255_0; replace hv255_0 := Option.some.inj (hv255_0.symm.trans hx255_0); rw [hv255_0] at ge255_0; have HL255_0 := Aside0.mk (show Kd.R (Kd.int .i64) 3 _ _ _ _ (rd_L1 t251 1) from ge255_0); clear hv255_0 ge255_0; clear hcc255 hce255; (try simp only [show (1 : Int).toNat = 1 from rfl, Nat.reduceMul, Nat.reduceEqDiff, Go.Addr.add, ↓reduceIte] at hx255_0); have qi255 : (1 < t251.length) = True := eq_true (by omega); (try rw [show ((1 : Int)).toNat = 1 from rfl] at hx255_0); have HR255_0 := Aside0.mk hi255_0; have HC255_0 := Aside0.mk hl255_0; clear hi255_0 hl255_0; replace p255 := eq_true p255; replace q255 := eq_true q255) | ((with_reducible refine gate_dst (N := 47) rfl ?_); (try (refine gate_guard (by rfl) ?_; dsimp only)); refine Kd.R_lit (Kd.int .i64) _ 3 ?hg (N := 47) ?hd (xs := ([0, 2] : List Int)) (inner := [.int .i64 0, .int .i64 2]) (ok := fun _ => True) (okp := fun _ => True) ?hr ?hp (fun _ hk => hk) trivial (Below.refl _ _) (Nat.le_refl _) (by simp) ?_; (case hd => rfl); (case hg => rfl); (case hr => first | (go_simp; done) | (go_simp; rfl)); (case hp => exact (Reps.one (show Kd.M (Kd.int .i64) _ _ _ 0 [.int .i64 0] from rfl) (Reps.one (show Kd.M (Kd.int .i64) _ _ _ 2 [.int .i64 2] from rfl) (Reps.none _ _)))); intro v257 w20 ho21 hb hg_ hnew_; clear hg_ hnew_; (first | rw [← Ny256.out] at ho21 | (simp only [Int.reduceToNat] at ho21; rw [← Ny256.out] at ho21)); have n0_ := Aside0.mk (Kd.S_elder' (by (with_reducible repeat (first | apply Kd.S_alloc | apply Kd.S_drewN | apply Kd.S_drew)); exact HO254.out) (Kd.R_base ho21) hb); have n1_ := Aside0.mk (Kd.R_elder' (by (with_reducible repeat (first | apply Kd.R_alloc | apply Kd.R_drewN | apply Kd.R_drew)); exact HL255_0.out) (Kd.R_base ho21) hb); have n2_ := Aside0.mk (Kd.R_lower (Kd.R_new' ho21 (Kd.R_lt (by (with_reducible repeat (first | apply Kd.R_alloc | apply Kd.R_drewN | apply Kd.R_drew)); exact HL255_0.out))) (below_size (by repeat (first | (with_reducible first | exact HB.out | apply below_alloc | apply pw_below_drewN | apply below_drew1) | exact HB.out)))); have n3_ := Aside0.mk (Kd.C_below (by repeat (first | (with_reducible exact HR255_0.out) | (with_reducible refine Kd.C_alloc ?_ _) | (with_reducible refine Kd.C_drewN ?_ _) | (with_reducible refine Kd.C_drew ?_) | exact HR255_0.out)) hb); have n4_ := Aside0.mk (below_step (by repeat (first | (with_reducible first | exact HB.out | apply below_alloc | apply pw_below_drewN | apply below_drew1) | exact HB.out)) hb); clear HO254; clear HL255_0; clear HR255_0; clear HB; have HO254 := n0_; have HL255_0 := n1_; have HO258 := n2_; have HR255_0 := n3_; have HB := n4_; clear n0_ n1_ n2_ n3_ n4_; clear hb ho21; obtain ⟨Ao22, co22, eo22⟩ := Kd.R_slice HO258.out; subst eo22) | (go_at_call 15; (with_reducible refine (codewrightref11_Same.calls kj4 _ _ (rd_L1 t251 1) _ _ y256 t259 _ ?side1 ?side2 ?side3 ?side4 A17.out).mono ?_); (case side1 => repeat (first | exact (by repeat (first | (with_reducible exact HR255_0.out) | (with_reducible refine Kd.C_alloc ?_ _) | (with_reducible refine Kd.C_drewN ?_ _) | (with_reducible refine Kd.C_drew ?_) | exact HR255_0.out)) | (with_reducible refine Kd.C_alloc ?_ _) | (with_reducible refine Kd.C_drewN ?_ _) | (with_reducible refine Kd.C_drew ?_))); (case side2 => exact HC255_0.out); (case side3 => repeat (first | exact (Kd.R_reads' HO258.out).2.2 | (with_reducible refine Kd.C_alloc ?_ _) | (with_reducible refine Kd.C_drewN ?_ _) | (with_reducible refine Kd.C_drew ?_))); (case side4 => exact (Kd.R_reads' HO258.out).2.1); rintro e w' ⟨rfl, ⟨nd, rfl⟩⟩))
              go_ret
              exact ⟨by first | rfl | (simp [errW_none, errW_some] <;> rfl) | (simp [*, errW_none, errW_some] <;> rfl), by repeat (first | (with_reducible first | exact HB.out | apply below_alloc | apply pw_below_drewN | apply below_drew1) | exact HB.out)⟩
            · rw [if_neg c16] at H
              exact absurd H (by simp)
          · rw [if_neg c15] at H
            have c15b0 : ((t251.length : Int) == 3) = false := beq_eq_false_iff_ne.mpr c15
            have c15b1 : ((t251.length : Int) != 3) = true := bne_iff_ne.mpr c15
            obtain rfl := Option.some.inj H
            go_wp2_with (first | ((with_reducible refine gate_callee (f := 17) rfl ?_); refine goesL_ (some 33) rfl rfl Try.func17 (by kernel_rfl) rfl #[.int .i64 3, .int .i64 2] rfl (by (try simp only [List.map_toArray, List.map_cons, List.map_nil]); first | done | rfl | (simp only [List.length_drop, List.length_take]; rfl)) ?_; (with_reducible refine (word_Subsets.calls kj4 3 2 t251 t252 _ A13.out).mono ?_); rintro e w23 ⟨v253, rfl, ho0, hb⟩; refine ⟨_, rfl, ?_⟩; have n0_ := Aside0.mk (Kd.S_lower ho0 (below_size (by repeat (first | (with_reducible first | exact HB.out | apply below_alloc | apply pw_below_drewN | apply below_drew1) | exact HB.out)))); have n1_ := Aside0.mk (below_step (by repeat (first | (with_reducible first | exact HB.out | apply below_alloc | apply pw_below_drewN | apply below_drew1) | exact HB.out)) hb); clear HB; have HO254 := n0_; have HB := n1_; clear n0_ n1_; (try clear hb); (try clear hb2); (try clear hk); (try clear hi); (try clear ho0); obtain ⟨Ao24, co24, eo24⟩ := Kd.S_slice HO254.out; subst eo24))
            go_ret
            exact ⟨by first | rfl | (simp [errW_none, errW_some] <;> rfl) | (simp [*, errW_none, errW_some] <;> rfl), by repeat (first | (with_reducible first | exact HB.out | apply below_alloc | apply pw_below_drewN | apply below_drew1) | exact HB.out)⟩
        · rw [if_neg c14] at H
          have c14b0 : (t252 == 0) = false := beq_eq_false_iff_ne.mpr c14
          have c14b1 : (t252 != 0) = true := bne_iff_ne.mpr c14
          obtain rfl := Option.some.inj H
          go_wp2_with (first | ((with_reducible refine gate_callee (f := 17) rfl ?_); refine goesL_ (some 33) rfl rfl Try.func17 (by kernel_rfl) rfl #[.int .i64 3, .int .i64 2] rfl (by (try simp only [List.map_toArray, List.map_cons, List.map_nil]); first | done | rfl | (simp only [List.length_drop, List.length_take]; rfl)) ?_; (with_reducible refine (word_Subsets.calls kj4 3 2 t251 t252 _ A13.out).mono ?_); rintro e w25 ⟨v253, rfl, ho0, hb⟩; refine ⟨_, rfl, ?_⟩; have n0_ := Aside0.mk (Kd.S_lower ho0 (below_size (by repeat (first | (with_reducible first | exact HB.out | apply below_alloc | apply pw_below_drewN | apply below_drew1) | exact HB.out)))); have n1_ := Aside0.mk (below_step (by repeat (first | (with_reducible first | exact HB.out | apply below_alloc | apply pw_below_drewN | apply below_drew1) | exact HB.out)) hb); clear HB; have HO254 := n0_; have HB := n1_; clear n0_ n1_; (try clear hb); (try clear hb2); (try clear hk); (try clear hi); (try clear ho0)))
          go_ret
          exact ⟨by first | rfl | (simp [errW_none, errW_some] <;> rfl) | (simp [*, errW_none, errW_some] <;> rfl), by repeat (first | (with_reducible first | exact HB.out | apply below_alloc | apply pw_below_drewN | apply below_drew1) | exact HB.out)⟩

/-- THE ONE PURE STATEMENT of codewrightlaw11_WordSubsets: yours. -/
def codewrightlaw11_WordSubsets.Pure : Prop := ∀ (a0 : Int) (a1 : Int), (Lit.int .i64 a0).wf = true → (Lit.int .i64 a1).wf = true → ∃ k, codewrightlaw11_WordSubsets.f k a0 a1 = some true
theorem codewrightlaw11_WordSubsets.walk (P : codewrightlaw11_WordSubsets.Pure) (a0 : Int) (a1 : Int) (w : World) (w0 : (Lit.int .i64 a0).wf = true) (w1 : (Lit.int .i64 a1).wf = true) :
    Calls Try.prog 7 #[.int .i64 a0, .int .i64 a1] w fun e w' => e = .returned (.bool true) ∧ Below w.heap.size w w' := by
  obtain ⟨k, h⟩ := P a0 a1 w0 w1
  refine (codewrightlaw11_WordSubsets.calls k a0 a1 true w h).mono ?_
  rintro e w' ⟨rfl, hd⟩
  exact ⟨rfl, hd⟩

end Go.Proofs.Ytekojgilikoegaa.Q
