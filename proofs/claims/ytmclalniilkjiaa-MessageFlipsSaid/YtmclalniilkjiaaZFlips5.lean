-- Joined by pack.py, a program of this work: Qx79 Fl Qx68 Qx26 Fw Qx80 PureMessageFlips Rw WSized
import Derived.Test.YtmclalniilkjiaaZFlips0
import Derived.Test.YtmclalniilkjiaaZFlips4
import Derived.Test.YtmclalniilkjiaaZFlips3
import Derived.Deep.Matrix
import Derived.Lib.SmallJoins
import Derived.SizedLaws
import Derived.ChangeSlices
namespace Go.Proofs.Ytmclalniilkjiaa.Q
open Go.RowKit Go.Proofs.YtmclalniilkjiaaW.PrintWords Go.Proofs.YtmclalniilkjiaaW.PrintLast Go.Proofs.YtmclalniilkjiaaW.PrintMore
attribute [local go_sem] max2_int min2_int max_two min_two max_three min_three max_four min_four
set_option linter.unusedVariables false
set_option linter.unusedSimpArgs false
def crM_Flip.l0 : Nat → List Int → List Int → Int → Int → List (List Int) → Option (List Int × List Int)
 | 0, _, _, _, _, _ => none
 | k + 1, x6, x7, x8, x455000, x455001 => if x8 ≥ 0 then (if 0 ≤ x8 then (if x8 < (x6.length : Int) then ((some (x6.set (x8 : Int).toNat (wrap64 (1 - (rd x6 x8))) : List Int)).bind fun y463 => (if x7.length < 17592186044416 then ((crM_Next.f k x455000 x455001 y463).bind fun t467 => (crM_Flip.l0 k y463 (x7 ++ [x8]) t467 x455000 x455001)) else (none))) else (none)) else (none)) else (some (x6, x7))
def crM_Flip.f (k : Nat) (a0_0 : Int) (l0_1 : List (List Int)) (l1 : List Int) : Option (List Int × List Int) := (some (([] : List Int) : List Int)).bind fun y455 => (if y455.length + l1.length < 17592186044416 then ((some (y455 ++ l1 : List Int)).bind fun y458 => ((crM_Next.f k a0_0 l0_1 y458).bind fun t461 => (crM_Flip.l0 k y458 ([] : List Int) t461 a0_0 l0_1))) else (none))
theorem crM_Flip.mono_l : ∀ k, (∀ y0 y1 y2 y3 y4, LeO (crM_Flip.l0 k y0 y1 y2 y3 y4) (crM_Flip.l0 (k + 1) y0 y1 y2 y3 y4))
 | 0 => fun _ _ _ _ _ r h => by simp [crM_Flip.l0] at h
 | k + 1 => by
  have ih0 := crM_Flip.mono_l k
  ·intro y0 y1 y2 y3 y4;unfold crM_Flip.l0
   repeat' first
   | (with_reducible exact ih0 _ _ _ _ _)
   | (with_reducible exact crM_Next.mono _ _ _ _)
   | (with_reducible exact LeO.refl _)
   | (with_reducible exact LeO.none _)
   | (with_reducible refine LeO.ite ?_ ?_)
   | (with_reducible refine LeO.bind ?_ (fun _ => ?_))
   | exact ih0 _ _ _ _ _
   | exact crM_Next.mono _ _ _ _
   | exact LeO.none _
   | refine LeO.ite ?_ ?_
   | refine LeO.bind ?_ (fun _ => ?_)
theorem crM_Flip.mono : ∀ a0 a1 a2 k, LeO (crM_Flip.f k a0 a1 a2) (crM_Flip.f (k + 1) a0 a1 a2) := by
 intro a0 a1 a2 k;have ih0 := crM_Flip.mono_l k;unfold crM_Flip.f
 repeat' first
   | (with_reducible exact ih0 _ _ _ _ _)
   | (with_reducible exact crM_Next.mono _ _ _ _)
   | (with_reducible exact LeO.refl _)
   | (with_reducible exact LeO.none _)
   | (with_reducible refine LeO.ite ?_ ?_)
   | (with_reducible refine LeO.bind ?_ (fun _ => ?_))
   | exact ih0 _ _ _ _ _
   | exact crM_Next.mono _ _ _ _
   | exact LeO.none _
   | refine LeO.ite ?_ ?_
   | refine LeO.bind ?_ (fun _ => ?_)
set_option maxHeartbeats 8000000 in
set_option maxRecDepth 100000 in
theorem crM_Flip.calls (k : Nat) (a0_0 : Int) (A0_1 : Option Addr) (c0_1 : Nat) (l0_1 : List (List Int)) (A1 : Option Addr) (c1 : Nat) (l1 : List Int) (r1 : List Int) (r2 : List Int) (w : World) (hr0_1 : Kd.C (Kd.slice 3 (Kd.int .i64)) w A0_1 l0_1.length l0_1) (hc0_1 : l0_1.length ≤ c0_1) (hr1 : Kd.C (Kd.int .i64) w A1 l1.length l1) (hc1 : l1.length ≤ c1) (h : crM_Flip.f k a0_0 l0_1 l1 = some (r1, r2)) :
  Calls Try.prog 34 #[.agg #[.int .i64 a0_0, .slice A0_1 l0_1.length c0_1], .slice A1 l1.length c1] w fun e w' => ∃ v0_ v1_ : Value, e = .returned (.tuple #[v0_, v1_]) ∧ Kd.R (Kd.int .i64) 3 w' w.heap.size (fun k_ => some k_ ≠ (v1_ : Value).ownBlock) v0_ r1 ∧ Kd.R (Kd.int .i64) 3 w' w.heap.size (fun k_ => some k_ ≠ (v0_ : Value).ownBlock) v1_ r2 ∧ Below w.heap.size w w' := by
 have hu24 := Try.underlying24;have HR0_1 := Aside0.mk hr0_1;have HC0_1 := Aside0.mk hc0_1;clear hr0_1 hc0_1;have HR1 := Aside0.mk hr1;have HC1 := Aside0.mk hc1;clear hr1 hc1;have HB := Aside0.mk (Below.refl w.heap.size w);have H : ((some (([] : List Int) : List Int)).bind fun y455 => (if y455.length + l1.length < 17592186044416 then ((some (y455 ++ l1 : List Int)).bind fun y458 => ((crM_Next.f k a0_0 l0_1 y458).bind fun t461 => (crM_Flip.l0 k y458 ([] : List Int) t461 a0_0 l0_1))) else (none))) = some (r1, r2) := h;clear h;obtain ⟨y455, hy455⟩ : ∃ y_ : List Int, y_ = (([] : List Int)) := ⟨_, rfl⟩
 replace H : (if y455.length + l1.length < 17592186044416 then ((some (y455 ++ l1 : List Int)).bind fun y458 => ((crM_Next.f k a0_0 l0_1 y458).bind fun t461 => (crM_Flip.l0 k y458 ([] : List Int) t461 a0_0 l0_1))) else (none)) = some (r1, r2) := by first | (rw [hy455]; with_reducible exact H) | (have H2_ := (Option.bind_some _ _).symm.trans H; rw [hy455]; with_reducible exact H2_) | (have H2_ := (Option.bind_some _ _).symm.trans H; with_reducible exact H2_) | with_reducible exact H | (rw [hy455]; exact H) | exact H
 have Ny455 := Aside0.mk hy455;clear hy455;by_cases c3 : y455.length + l1.length < 17592186044416
 ·rw [if_pos c3] at H;have LMc3 := Aside0.mk c3;clear c3;obtain ⟨y458, hy458⟩ : ∃ y_ : List Int, y_ = (y455 ++ l1) := ⟨_, rfl⟩
  replace H : ((crM_Next.f k a0_0 l0_1 y458).bind fun t461 => (crM_Flip.l0 k y458 ([] : List Int) t461 a0_0 l0_1)) = some (r1, r2) := by first | (rw [hy458]; with_reducible exact H) | (have H2_ := (Option.bind_some _ _).symm.trans H; rw [hy458]; with_reducible exact H2_) | (have H2_ := (Option.bind_some _ _).symm.trans H; with_reducible exact H2_) | with_reducible exact H | (rw [hy458]; exact H) | exact H
  have Ny458 := Aside0.mk hy458;clear hy458;replace H := Option.bind_eq_some_iff.mp H;obtain ⟨t461, A40, H⟩ := H;replace H : (crM_Flip.l0 k y458 ([] : List Int) t461 a0_0 l0_1) = some (r1, r2) := H;have A4 := Aside0.mk A40;clear A40;have H' := Aside0.mk H;clear H;go_enter Try.func34, Try.ntmps34
  go_wp2_with (first | ((with_reducible refine gate_dst (N := 2) rfl ?_); refine box_event ?hg (N := 2) ?hd (cs := #[.int .i64 a0_0, .slice A0_1 l0_1.length c0_1]) (t := 24) ?hr ?_; (case hd => rfl); (case hg => rfl); (case hr => first | (go_simp; done) | (go_simp; rfl)); intro gb454 hg w5 hbox hb; have n0_ := Aside0.mk (below_step (by repeat (first | (with_reducible first | exact HB.out | apply below_alloc | apply pbN | apply below_drew1) | exact HB.out)) hb); have n1_ := Aside0.mk (hbox); have n2_ := Aside0.mk ((by rw [hg]; exact (below_size (by repeat (first | (with_reducible first | exact HB.out | apply below_alloc | apply pbN | apply below_drew1) | exact HB.out))) : w.heap.size ≤ gb454)); have n3_ := Aside0.mk ((by rw [hg]; exact (below_size (by repeat (first | (with_reducible first | exact HB.out | apply below_alloc | apply pbN | apply below_drew1) | exact HB.out))) : w.heap.size ≤ gb454)); clear HB; have HB := n0_; have BK454 := n1_; have GW454 := n2_; have GE454 := n3_; clear n0_ n1_ n2_ n3_; clear hb hbox hg) | ((with_reducible refine gate_dst (N := 9) rfl ?_); refine Kd.R_lit (Kd.int .i64) _ 3 ?hg (N := 9) ?hd (xs := ([] : List Int)) (inner := []) (ok := fun _ => True) (okp := fun _ => True) ?hr ?hp (fun _ hk => hk) trivial (Below.refl _ _) (Nat.le_refl _) (by simp) ?_; (case hd => rfl); (case hg => rfl); (case hr => first | (go_simp; done) | (go_simp; rfl)); (case hp => exact (Reps.none _ _)); intro v456 w6 ho7 hb hg_ hnew_; clear hg_ hnew_; (first | rw [← Ny455.out] at ho7 | (simp only [Int.reduceToNat] at ho7; rw [← Ny455.out] at ho7)); have n0_ := Aside0.mk (Kd.R_lower ho7 (below_size (by repeat (first | (with_reducible first | exact HB.out | apply below_alloc | apply pbN | apply below_drew1 | refine below_set ?_ GE454.out) | exact HB.out)))); have n1_ := Aside0.mk (blk_below (g := gb454) (o := .cells #[.int .i64 a0_0, .slice A0_1 l0_1.length c0_1] 24 (0, 0)) (by (with_reducible repeat (first | refine blk_drewN ?_ _ | refine blk_drew ?_ | refine blk_alloc ?_ _)); exact BK454.out) hb); have n2_ := Aside0.mk (below_step (by repeat (first | (with_reducible first | exact HB.out | apply below_alloc | apply pbN | apply below_drew1 | refine below_set ?_ GE454.out) | exact HB.out)) hb); clear BK454; clear HB; have HO457 := n0_; have BK454 := n1_; have HB := n2_; clear n0_ n1_ n2_; clear hb ho7) | ((with_reducible refine gate_builtin (b := .append) (xs := #[.tmp 9, .tmp 10]) rfl ?_); at_builtin; refine Kd.R_append_rows (Kd.int .i64) (w0 := w) w.heap.size rfl (.tmp 9) (.tmp 10) 25 3 (.int .i64 0) 8 rfl Try.underlying25 info3 rfl (by decide) (by omega) v456 y455 l1 _ _ _ (fun _ => True) (fun _ => False) rfl rfl ?aO ?aR (fun _ _ h => h) (fun _ h => h.elim) ?aF ?aB ?aS ?aL ?_; (case aR => repeat (first | exact (Kd.C_below HR1.out HB.out) | (with_reducible refine Kd.C_alloc ?_ _) | (with_reducible refine Kd.C_drewN ?_ _) | (with_reducible refine Kd.C_drew ?_))); (case aB => exact (by repeat (first | (with_reducible first | exact HB.out | apply below_alloc | apply pbN | apply below_drew1 | refine below_set ?_ GE454.out) | exact HB.out))); (case aF => exact (fun _ _ => trivial)); (case aO => exact (by (with_reducible repeat (first | apply Kd.R_alloc | apply Kd.R_drewN | apply Kd.R_drew)); exact HO457.out)); (case aS => exact (below_size (by repeat (first | (with_reducible first | exact HB.out | apply below_alloc | apply pbN | apply below_drew1 | refine below_set ?_ GE454.out) | exact HB.out)))); (case aL => have := LMc3.out; omega); intro v459 w8 ho hb hg hat; rw [← Ny458.out] at ho; have n0_ := Aside0.mk (blk_grown (g := gb454) (o := .cells #[.int .i64 a0_0, .slice A0_1 l0_1.length c0_1] 24 (0, 0)) (by (with_reducible repeat (first | refine blk_drewN ?_ _ | refine blk_drew ?_ | refine blk_alloc ?_ _)); exact BK454.out) hg (Kd.R_ne HO457.out BK454.out (by decide))); have n1_ := Aside0.mk (hb); have n2_ := Aside0.mk (ho); clear BK454; clear HB; clear HO457; have BK454 := n0_; have HB := n1_; have HO460 := n2_; clear n0_ n1_ n2_; clear ho hb hg hat; have hcz9_0 : w8.cell? ⟨gb454, 0, none⟩ = some (.int .i64 a0_0) := (blk_cell BK454.out 0).trans rfl; have hcz9_1 : w8.cell? ⟨gb454, 1, none⟩ = some (.slice A0_1 l0_1.length c0_1) := (blk_cell BK454.out 1).trans rfl; have hfz9_0 := blk_frozen BK454.out 0; have hfz9_1 := blk_frozen BK454.out 1; obtain ⟨Ao10, co10, eo10⟩ := Kd.R_slice HO460.out; subst eo10) | ((with_reducible refine gate_callee (f := 36) rfl ?_); refine goesL_ (some 14) rfl rfl Try.func36 (by kernel_rfl) rfl #[.agg #[.int .i64 a0_0, .slice A0_1 l0_1.length c0_1], .slice Ao10 y458.length co10] rfl (by (try simp only [List.map_toArray, List.map_cons, List.map_nil]); first | done | rfl | (simp only [List.length_drop, List.length_take]; rfl)) ?_; (with_reducible refine (crM_Next.calls k a0_0 _ _ l0_1 _ _ y458 t461 _ ?side1 ?side2 ?side3 ?side4 A4.out).mono ?_); (case side1 => repeat (first | exact (Kd.C_below HR0_1.out HB.out) | (with_reducible refine Kd.C_alloc ?_ _) | (with_reducible refine Kd.C_drewN ?_ _) | (with_reducible refine Kd.C_drew ?_))); (case side2 => exact HC0_1.out); (case side3 => repeat (first | exact (Kd.R_reads' HO460.out).2.2 | (with_reducible refine Kd.C_alloc ?_ _) | (with_reducible refine Kd.C_drewN ?_ _) | (with_reducible refine Kd.C_drew ?_))); (case side4 => exact (Kd.R_reads' HO460.out).2.1); rintro e w11 ⟨rfl, hb⟩; refine ⟨_, rfl, ?_⟩; have n0_ := Aside0.mk (Kd.R_below (by (with_reducible repeat (first | apply Kd.R_alloc | apply Kd.R_drewN | apply Kd.R_drew)); exact HO460.out) hb); have n1_ := Aside0.mk (blk_below (g := gb454) (o := .cells #[.int .i64 a0_0, .slice A0_1 l0_1.length c0_1] 24 (0, 0)) (by (with_reducible repeat (first | refine blk_drewN ?_ _ | refine blk_drew ?_ | refine blk_alloc ?_ _)); exact BK454.out) hb); have n2_ := Aside0.mk (below_step (by repeat (first | (with_reducible first | exact HB.out | apply below_alloc | apply pbN | apply below_drew1 | refine below_set ?_ GE454.out) | exact HB.out)) hb); clear HO460; clear BK454; clear HB; have HO460 := n0_; have BK454 := n1_; have HB := n2_; clear n0_ n1_ n2_; (try clear hb); (try clear hb2); (try clear hk); (try clear hi)))
  go_loopg [7, 8] k (fun kq v7 v8 w' => ∃ (x6_1 : List Int) (x7_1 : List Int) (x8_1 : Int), v8 = .int .i64 x8_1 ∧ Aside0 (crM_Flip.l0 kq x6_1 x7_1 x8_1 a0_0 l0_1 = some (r1, r2)) ∧ Aside0 (kq ≤ k) ∧ Aside0 (Kd.R (Kd.int .i64) 3 w' w.heap.size (fun k_ => some k_ ≠ (v7 : Value).ownBlock) (.slice Ao10 y458.length co10) x6_1) ∧ Aside0 (Kd.R (Kd.int .i64) 3 w' w.heap.size (fun k_ => some k_ ≠ ((.slice Ao10 y458.length co10) : Value).ownBlock) v7 x7_1) ∧ Aside0 (w'.heap[gb454]? = some (.cells #[.int .i64 a0_0, (.slice A0_1 l0_1.length c0_1)] 24 (0, 0))) ∧ Aside0 (Below w.heap.size w w'))
  case atStart => exact ⟨(y458), (([] : List Int)), (t461), (by first | rfl | (simp; done) | (simp [*]; done)), H', ⟨Nat.le_refl _⟩, ⟨by (with_reducible repeat (first | apply Kd.R_alloc | apply Kd.R_drewN | apply Kd.R_drew)); exact Kd.R_mono HO460.out (fun _ hk => (by simp [Value.ownBlock]))⟩, ⟨by first | exact Kd.R_nil _ _ _ _ _ | exact Kd.N_nil _ _ _ _ _ | exact Kd.V_nil _ _ _ _ _ | exact Kd.Q_nil _ _ _ _ _ | exact Kd.S_nil _ _ _ _ _⟩, ⟨by (with_reducible repeat (first | refine blk_drewN ?_ _ | refine blk_drew ?_ | refine blk_alloc ?_ _)); exact BK454.out⟩, ⟨by repeat (first | (with_reducible first | exact HB.out | apply below_alloc | apply pbN | apply below_drew1 | refine below_set ?_ GE454.out) | exact HB.out)⟩⟩
  case round =>
   clear H'
   try clear c1
   try clear p2
   try clear c3
   try clear hcz9_0
   try clear hcz9_1
   try clear hfz9_0
   try clear hfz9_1
   obtain ⟨x6_1, x7_1, x8_1, rfl, HA, HK1, HO_6, HO_7, BK454, HB⟩ := hrel;have hl6_1 := (Kd.R_reads' HO_6.out).1;rw [hl6_1] at HO_6;(try simp only [hl6_1]);(try simp only [hl6_1] at BK454);(try simp only [hl6_1] at HO_7)
   cases gk with
   | zero => exact absurd HA.out (by simp [crM_Flip.l0])
   | succ k1 =>
    have H := HA.out;clear HA;simp only [crM_Flip.l0] at H;by_cases c12 : x8_1 ≥ 0
    ·rw [if_pos c12] at H;have c12b0 : decide (0 ≤ x8_1) = true := decide_eq_true c12;clear c12;by_cases c13 : 0 ≤ x8_1
     ·rw [if_pos c13] at H;have c13b0 : decide (0 ≤ x8_1) = true := decide_eq_true c13;clear c13;by_cases c14 : x8_1 < (x6_1.length : Int)
      ·rw [if_pos c14] at H;have c14b0 : decide (x8_1 < (x6_1.length : Int)) = true := decide_eq_true c14;(try (have c14b0h0 := c14b0; simp only [hl6_1] at c14b0h0));clear c14;(obtain ⟨y463, hy463⟩ : ∃ y_ : List Int, y_ = (x6_1.set (x8_1 : Int).toNat (wrap64 (1 - (rd x6_1 x8_1)))) := ⟨_, rfl⟩);(replace H : (if x7_1.length < 17592186044416 then ((crM_Next.f k1 a0_0 l0_1 y463).bind fun t467 => (crM_Flip.l0 k1 y463 (x7_1 ++ [x8_1]) t467 a0_0 l0_1)) else (none)) = some (r1, r2) := by first | (rw [hy463]; with_reducible exact H) | (have H2_ := (Option.bind_some _ _).symm.trans H; rw [hy463]; with_reducible exact H2_) | (have H2_ := (Option.bind_some _ _).symm.trans H; with_reducible exact H2_) | with_reducible exact H | (rw [hy463]; exact H) | exact H);have Ny463 := Aside0.mk hy463;clear hy463;by_cases c16 : x7_1.length < 17592186044416
       ·rw [if_pos c16] at H;have LMc16 := Aside0.mk c16;clear c16;(obtain ⟨y464, hy464⟩ : ∃ y_ : List Int, y_ = (x7_1 ++ [x8_1]) := ⟨_, rfl⟩);(replace H : ((crM_Next.f k1 a0_0 l0_1 y463).bind fun t467 => (crM_Flip.l0 k1 y463 y464 t467 a0_0 l0_1)) = some (r1, r2) := by first | (rw [hy464]; with_reducible exact H) | (have H2_ := (Option.bind_some _ _).symm.trans H; rw [hy464]; with_reducible exact H2_) | (have H2_ := (Option.bind_some _ _).symm.trans H; with_reducible exact H2_) | with_reducible exact H | (rw [hy464]; exact H) | exact H);have Ny464 := Aside0.mk hy464;clear hy464;replace H := Option.bind_eq_some_iff.mp H;obtain ⟨t467, A170, H⟩ := H;replace H : (crM_Flip.l0 k1 y463 y464 t467 a0_0 l0_1) = some (r1, r2) := H;have A17 := Aside0.mk A170;clear A170;have H' := Aside0.mk H;clear H;have p462 : 0 ≤ (x8_1 : Int) := of_decide_eq_true (by first | (with_reducible assumption) | assumption);have q462 : x8_1 < (x6_1.length : Int) := of_decide_eq_true (by first | (with_reducible assumption) | assumption);obtain ⟨ad462, e462, hx462_0⟩ := Kd.at_int (Kd.R_reads' HO_6.out).2.2 x8_1 p462 q462;cases e462;replace p462 := eq_true p462;replace q462 := eq_true q462;have p15 : 0 ≤ (x8_1 : Int) := of_decide_eq_true (by first | (with_reducible assumption) | assumption);have q15 : (x8_1 : Int) < ((x6_1.length : Int) : Int) := of_decide_eq_true (by first | (with_reducible assumption) | assumption);obtain ⟨go15, co15, eo15, gb15, gl15, cl15, HG15⟩ := Kd.R_form HO_6.out (by omega);(first | cases eo15 | (injection eo15 with ea_ en_ ec_; (first | subst ea_ | (injection ea_ with ea_; subst ea_)); subst ec_; clear en_));have GB15 := Aside0.mk gb15;have GG15 := Aside0.mk HG15;clear gb15 gl15 HG15;(first | simp only [add_plain] at hx462_0 | skip);obtain ⟨hx15_0, hf15_0⟩ := Kd.R_celln 0 HO_6.out (x8_1 : Int) p15 q15;replace p15 := eq_true p15;replace q15 := eq_true q15;have HP18 := Kd.R_putg HO_6.out (x8_1 : Int) (wrap64 (1 - (rd x6_1 x8_1)))
        go_wp2_with (first | ((with_reducible refine gate_store (t := 3) (p := 27) rfl ?_); refine store_event (t := 3) (p := 27) (v := ?vo_w19) (w1 := (wr.setCell ⟨go15, (x8_1 : Int).toNat, none⟩ (.int .i64 (wrap64 (1 - (rd x6_1 x8_1)))))) ?hg ?ho ?hn ?hr ?_; (case ho => rfl); (case hg => rfl); (case hn => rfl); (case hr => first | (go_simp; done) | (go_simp; rfl)); intro w19 hw; have hg : wr.grownBy w19 (some go15) := (by rw [hw]; exact HP18.2); have hp_ : Kd.R (Kd.int .i64) 3 w19 w.heap.size (fun k_ => some k_ ≠ (u7 : Value).ownBlock) (.slice (some ⟨go15, 0, none⟩) x6_1.length co10) y463 := (by rw [hw, Ny463.out]; exact HP18.1); clear HP18; have n0_ := Aside0.mk (hp_); have n1_ := Aside0.mk (Kd.R_after (v := (.slice (some ⟨go15, 0, none⟩) x6_1.length co10)) (v1 := (.slice (some ⟨go15, 0, none⟩) x6_1.length co10)) (ok := (fun _ => True)) (by (with_reducible repeat (first | apply Kd.R_alloc | apply Kd.R_drewN | apply Kd.R_drew)); exact Kd.R_mono HO_7.out (fun _ hk => ⟨trivial, hk⟩)) hg (.inl rfl)); have n2_ := Aside0.mk (blk_grown (g := gb454) (o := .cells #[.int .i64 a0_0, .slice A0_1 l0_1.length c0_1] 24 (0, 0)) (by (with_reducible repeat (first | refine blk_drewN ?_ _ | refine blk_drew ?_ | refine blk_alloc ?_ _)); exact BK454.out) hg (Kd.R_ne HO_6.out BK454.out (by decide))); have n3_ := Aside0.mk ((by rw [hw]; exact below_set (HB.out) GB15.out : Below w.heap.size w w19)); clear HO_6; clear HO_7; clear BK454; clear HB; have HO_6 := n0_; have HO_7 := n1_; have BK454 := n2_; have HB := n3_; clear n0_ n1_ n2_ n3_; clear hg hw hp_) | ((with_reducible refine gate_builtin (b := .append) (xs := #[.tmp 28, .tmp 30]) rfl ?_); at_builtin; refine Kd.R_append (Kd.int .i64) (w0 := w) w.heap.size rfl (.tmp 28) (.tmp 30) 25 3 (.int .i64 0) 8 rfl Try.underlying25 info3 rfl (by decide) (by omega) u7 x7_1 x8_1 [.int .i64 x8_1] (fun k_ => some k_ ≠ (.slice (some ⟨go15, 0, none⟩) x6_1.length co10 : Value).ownBlock) (fun _ => False) rfl rfl ?aP (fun _ hk => hk.elim) ?aF ?aO ?aB ?aS ?aL ?_; (case aP => exact rfl); (case aB => exact (by repeat (first | (with_reducible first | exact HB.out | apply below_alloc | apply pbN | apply below_drew1 | refine below_set ?_ GE454.out) | exact HB.out))); (case aF => exact (fun k_ hk => Kd.fresh' (Kd.R_lt (by (with_reducible repeat (first | apply Kd.R_alloc | apply Kd.R_drewN | apply Kd.R_drew)); exact HO_6.out)) k_ hk)); (case aO => exact (by (with_reducible repeat (first | apply Kd.R_alloc | apply Kd.R_drewN | apply Kd.R_drew)); exact Kd.R_mono HO_7.out (fun _ hk => hk.2))); (case aS => exact (below_size (by repeat (first | (with_reducible first | exact HB.out | apply below_alloc | apply pbN | apply below_drew1 | refine below_set ?_ GE454.out) | exact HB.out)))); (case aL => have := LMc16.out; omega); intro v465 w20 ho hb hg hat; rw [← Ny464.out] at ho; have n0_ := Aside0.mk (Kd.R_after (ok := (fun _ => True)) (by (with_reducible repeat (first | apply Kd.R_alloc | apply Kd.R_drewN | apply Kd.R_drew)); exact Kd.R_mono HO_6.out (fun _ hk => ⟨trivial, hk⟩)) hg hat); have n1_ := Aside0.mk (blk_grown (g := gb454) (o := .cells #[.int .i64 a0_0, .slice A0_1 l0_1.length c0_1] 24 (0, 0)) (by (with_reducible repeat (first | refine blk_drewN ?_ _ | refine blk_drew ?_ | refine blk_alloc ?_ _)); exact BK454.out) hg (Kd.R_ne HO_7.out BK454.out (by decide))); have n2_ := Aside0.mk (hb); have n3_ := Aside0.mk (ho); clear HO_6; clear BK454; clear HB; clear HO_7; have HO_6 := n0_; have BK454 := n1_; have HB := n2_; have HO466 := n3_; clear n0_ n1_ n2_ n3_; clear ho hb hg hat; have hcz21_0 : w20.cell? ⟨gb454, 0, none⟩ = some (.int .i64 a0_0) := (blk_cell BK454.out 0).trans rfl; have hcz21_1 : w20.cell? ⟨gb454, 1, none⟩ = some (.slice A0_1 l0_1.length c0_1) := (blk_cell BK454.out 1).trans rfl; have hfz21_0 := blk_frozen BK454.out 0; have hfz21_1 := blk_frozen BK454.out 1) | ((with_reducible refine gate_callee (f := 36) rfl ?_); refine goesL_ (some 19) rfl rfl Try.func36 (by kernel_rfl) rfl #[.agg #[.int .i64 a0_0, .slice A0_1 l0_1.length c0_1], .slice (some ⟨go15, 0, none⟩) y463.length co10] rfl (by (try simp only [List.map_toArray, List.map_cons, List.map_nil]); first | done | (rw [show y463.length = x6_1.length from (Kd.R_reads' HO_6.out).1.symm] <;> rfl) | rfl | (simp only [List.length_drop, List.length_take]; rfl)) ?_; (with_reducible refine (crM_Next.calls k1 a0_0 _ _ l0_1 _ _ y463 t467 _ ?side1 ?side2 ?side3 ?side4 A17.out).mono ?_); (case side1 => repeat (first | exact (Kd.C_below HR0_1.out HB.out) | (with_reducible refine Kd.C_alloc ?_ _) | (with_reducible refine Kd.C_drewN ?_ _) | (with_reducible refine Kd.C_drew ?_))); (case side2 => exact HC0_1.out); (case side3 => repeat (first | exact (Kd.R_reads' HO_6.out).2.2 | (with_reducible refine Kd.C_alloc ?_ _) | (with_reducible refine Kd.C_drewN ?_ _) | (with_reducible refine Kd.C_drew ?_))); (case side4 => rw [show y463.length = x6_1.length from (Kd.R_reads' HO_6.out).1.symm]; exact (Kd.R_reads' HO_6.out).2.1); rintro e w22 ⟨rfl, hb⟩; refine ⟨_, rfl, ?_⟩; have n0_ := Aside0.mk (Kd.R_below (by (with_reducible repeat (first | apply Kd.R_alloc | apply Kd.R_drewN | apply Kd.R_drew)); exact HO_6.out) hb); have n1_ := Aside0.mk (Kd.R_below (by (with_reducible repeat (first | apply Kd.R_alloc | apply Kd.R_drewN | apply Kd.R_drew)); exact HO466.out) hb); have n2_ := Aside0.mk (blk_below (g := gb454) (o := .cells #[.int .i64 a0_0, .slice A0_1 l0_1.length c0_1] 24 (0, 0)) (by (with_reducible repeat (first | refine blk_drewN ?_ _ | refine blk_drew ?_ | refine blk_alloc ?_ _)); exact BK454.out) hb); have n3_ := Aside0.mk (below_step (by repeat (first | (with_reducible first | exact HB.out | apply below_alloc | apply pbN | apply below_drew1 | refine below_set ?_ GE454.out) | exact HB.out)) hb); clear HO_6; clear HO466; clear BK454; clear HB; have HO_6 := n0_; have HO466 := n1_; have BK454 := n2_; have HB := n3_; clear n0_ n1_ n2_ n3_; (try clear hb); (try clear hb2); (try clear hk); (try clear hi)))
        (try simp only [← hl6_1])
        go_roundg k1
        case measure => have := HK1.out; omega
        case rel => exact ⟨(y463), (y464), (t467), (by first | rfl | (simp; done) | (simp [*]; done)), H', ⟨by have := HK1.out; omega⟩, ⟨by (try simp only [hl6_1]); (with_reducible repeat (first | apply Kd.R_alloc | apply Kd.R_drewN | apply Kd.R_drew)); exact Kd.R_mono HO_6.out (fun _ hk => hk.2)⟩, ⟨by (try simp only [hl6_1]); (with_reducible repeat (first | apply Kd.R_alloc | apply Kd.R_drewN | apply Kd.R_drew)); exact HO466.out⟩, ⟨by (try simp only [hl6_1]); (with_reducible repeat (first | refine blk_drewN ?_ _ | refine blk_drew ?_ | refine blk_alloc ?_ _)); exact BK454.out⟩, ⟨by repeat (first | (with_reducible first | exact HB.out | apply below_alloc | apply pbN | apply below_drew1 | refine below_set ?_ GE454.out) | exact HB.out)⟩⟩
       ·rw [if_neg c16] at H;exact absurd H (by simp)
      ·rw [if_neg c14] at H;exact absurd H (by simp)
     ·rw [if_neg c13] at H;exact absurd H (by simp)
    ·rw [if_neg c12] at H;have c12b0 : decide (0 ≤ x8_1) = false := decide_eq_false c12;clear c12;simp only [Option.some.injEq, Prod.mk.injEq] at H;obtain ⟨rfl, rfl⟩ := H
     go_wp2
     go_ret2
     exact ⟨_, _, by first | rfl | (simp [errW_none, errW_some] <;> rfl) | (simp [*, errW_none, errW_some] <;> rfl), by (with_reducible repeat (first | apply Kd.R_alloc | apply Kd.R_drewN | apply Kd.R_drew)); exact HO_6.out, by (with_reducible repeat (first | apply Kd.R_alloc | apply Kd.R_drewN | apply Kd.R_drew)); exact HO_7.out, by repeat (first | (with_reducible first | exact HB.out | apply below_alloc | apply pbN | apply below_drew1 | refine below_set ?_ GE454.out) | exact HB.out)⟩
 ·rw [if_neg c3] at H;exact absurd H (by simp)
end Go.Proofs.Ytmclalniilkjiaa.Q
/- What the printed Flip and the document's Next, Flip compute: the same changes. Condition: the matrix and the word have no fault. -/
namespace Go.Proofs.Ytmclalniilkjiaa.Fl
open Go.RowKit Go.Proofs.Ytmclalniilkjiaa.Q Go.Proofs.YtmclalniilkjiaaW.PrintWords Go.Proofs.YtmclalniilkjiaaW.PrintLast Go.Proofs.Ytmclalniilkjiaa.Ba Go.Proofs.Ytmclalniilkjiaa.Ck Go.Proofs.Ytmclalniilkjiaa.Gr Go.Proofs.Ytmclalniilkjiaa.Un

theorem PG_succ {α : Type} {e : Nat → α} {p : Nat → Bool} {m : Nat} (h : p m = true) : PG e p (m + 1) = PG e p m ++ [e m] := if_pos h
theorem PG_skip {α : Type} {e : Nat → α} {p : Nat → Bool} {m : Nat} (h : ¬ p m = true) : PG e p (m + 1) = PG e p m := if_neg h
theorem PG_lt {α : Type} (e : Nat → α) (p : Nat → Bool) (m : Nat) (h : p m = true) : ∀ n, m < n → (PG e p m).length < (PG e p n).length
 | 0, hn => by omega
 | n + 1, hn => by
  by_cases e1 : m = n
  ·subst e1; rw [PG_succ h, List.length_append, List.length_singleton]; omega
  ·have := PG_lt e p m h n (by omega)
   by_cases h2 : p n = true
   ·rw [PG_succ h2, List.length_append, List.length_singleton]; omega
   ·rw [PG_skip h2]; exact this
theorem PG_at {α : Type} (d : α) (e : Nat → α) (p : Nat → Bool) (m : Nat) (h : p m = true) : ∀ n, m < n → (PG e p n).getD (PG e p m).length d = e m
 | 0, hn => by omega
 | n + 1, hn => by
  by_cases e1 : m = n
  ·subst e1
   rw [PG_succ h, List.getD_eq_getElem?_getD, List.getElem?_append_right (Nat.le_refl _)]; simp
  ·have ih := PG_at d e p m h n (by omega)
   have hl := PG_lt e p m h n (by omega)
   by_cases h2 : p n = true
   ·rw [PG_succ h2, List.getD_eq_getElem?_getD, List.getElem?_append_left hl, ← List.getD_eq_getElem?_getD]; exact ih
   ·rw [PG_skip h2]; exact ih
/-- The unsatisfied checks of position p less the satisfied ones, below n. -/
def sc (rows : List (List Int)) (w : List Int) (C p n : Nat) : Int := sumTo (fun j => if bit rows j p = true then (if od rows w C j = true then 1 else -1) else 0) n
theorem sc_succ (rows : List (List Int)) (w : List Int) (C p j : Nat) : sc rows w C p (j + 1) = sc rows w C p j + (if bit rows j p = true then (if od rows w C j = true then 1 else -1) else 0) := rfl
/-- The first of the d positions from p on with a score above 0, or -1. -/
def nx (s : Nat → Int) : Nat → Nat → Int
 | 0, _ => -1
 | d + 1, p => if s p > 0 then (p : Int) else nx s d (p + 1)
theorem nx_or (s : Nat → Int) : ∀ d p, nx s d p = -1 ∨ ∃ q : Nat, q < p + d ∧ nx s d p = (q : Int) ∧ s q > 0
 | 0, _ => Or.inl rfl
 | d + 1, p => by
  simp only [nx]
  by_cases h : s p > 0
  ·rw [if_pos h]; exact Or.inr ⟨p, by omega, rfl, h⟩
  ·rw [if_neg h]
   rcases nx_or s d (p + 1) with h1 | ⟨q, h1, h2, h3⟩
   ·exact Or.inl h1
   ·exact Or.inr ⟨q, by omega, h2, h3⟩
def nxt (rows : List (List Int)) (w : List Int) (C : Nat) : Int := nx (fun p => sc rows w C p rows.length) C 0
theorem sc_bound (rows : List (List Int)) (w : List Int) (C p n : Nat) : -(n : Int) ≤ sc rows w C p n ∧ sc rows w C p n ≤ (n : Int) :=
 sumTo_11 _ _ (fun j _ => by
  show -1 ≤ (if bit rows j p = true then (if od rows w C j = true then (1 : Int) else -1) else 0) ∧ (if bit rows j p = true then (if od rows w C j = true then (1 : Int) else -1) else 0) ≤ 1
  split
  ·split <;> omega
  ·omega)
/-- The marks of the unsatisfied checks. -/
def bad (rows : List (List Int)) (w : List Int) (C : Nat) : List Bool := LL rows.length (od rows w C)
theorem bad_len (rows : List (List Int)) (w : List Int) (C : Nat) : (bad rows w C).length = rows.length := LL_length _ _
theorem edg_at (rows : List (List Int)) (p n t : Nat) (h : t < (edg rows p n).length) : ∃ j, j < n ∧ (rd_T77 (edg rows p n) (t : Int)).f0 = (j : Int) := by
 obtain ⟨i, h1, _, h3⟩ := PG_mem _ _ _ _ (getD_mem (edg rows p n) z77 t h)
 refine ⟨i, h1, ?_⟩
 unfold rd_T77
 rw [Int.toNat_natCast, h3]
section
variable (rows : List (List Int)) (w : List Int) (C : Nat) (hC : C ≤ 256) (hr : rows.length ≤ 256)
include hC hr
omit hC in
theorem worst_l1 (p : Nat) {r : Int} (ats : List (List S77)) (hn : sc rows w C p rows.length ≤ 0 → Ev (fun k => mg_worst.l0 k (bad rows w C) ats (C : Int) (wrap64 ((p : Int) + 1))) r) (hp : sc rows w C p rows.length > 0 → r = (p : Int)) : ∀ d i : Nat, i + d = (edg rows p rows.length).length →
  Ev (fun k => mg_worst.l1 k (bad rows w C) (p : Int) (sumTo (fun t => if rdOf false (bad rows w C) (rd_T77 (edg rows p rows.length) (t : Int)).f0 = true then 1 else -1) i) ats (C : Int) (p : Int) (edg rows p rows.length) ((edg rows p rows.length).length : Int) (i : Int)) r
 | 0, i, h => by
  obtain rfl : i = (edg rows p rows.length).length := by omega
  have e : sumTo (fun t => if rdOf false (bad rows w C) (rd_T77 (edg rows p rows.length) (t : Int)).f0 = true then (1 : Int) else -1) (edg rows p rows.length).length = sc rows w C p rows.length := by
   have := sum_PG (fun x : S77 => if rdOf false (bad rows w C) x.f0 = true then (1 : Int) else -1) z77 (fun j => (⟨(j : Int), ((one rows j p).length : Int)⟩ : S77)) (fun j => bit rows j p) rows.length
   rw [sumTo_congr _ (fun t => if rdOf false (bad rows w C) ((edg rows p rows.length).getD t z77).f0 = true then (1 : Int) else -1) _ (fun t _ => by unfold rd_T77; rw [Int.toNat_natCast])]
   refine this.trans (sumTo_congr _ _ _ (fun j hj => ?_))
   show (if bit rows j p = true then (if rdOf false (bad rows w C) (j : Int) = true then (1 : Int) else -1) else 0) = _
   unfold bad
   rw [rdOf_LL _ _ _ _ hj]
  rw [e]
  by_cases h0 : sc rows w C p rows.length > 0
  ·rw [hp h0]
   refine Ev.step (f := fun _ => some _) (fun k => ?_) (Ev.now _)
   simp only [mg_worst.l1]
   rw [if_neg (by omega), if_pos h0]
  ·refine Ev.step (fun k => ?_) (hn (by omega))
   simp only [mg_worst.l1]
   rw [if_neg (by omega), if_neg h0]
 | d + 1, i, h => by
  have ih := worst_l1 p ats hn hp d (i + 1) (by omega)
  have hle := edg_le rows p rows.length
  have hb := sumTo_11 (fun t => if rdOf false (bad rows w C) (rd_T77 (edg rows p rows.length) (t : Int)).f0 = true then (1 : Int) else -1) i (fun t _ => by split <;> omega)
  obtain ⟨j, hj, ej⟩ := edg_at rows p rows.length i (by omega)
  have hbl := bad_len rows w C
  refine Ev.step (fun k => ?_) ih
  simp only [mg_worst.l1]
  rw [if_pos (by omega), if_pos (by omega), if_pos (by omega), if_pos (by omega), if_pos (by omega), w64_id (n := (i : Int) + 1) (by omega) (by omega)]
  by_cases h0 : rdOf false (bad rows w C) (rd_T77 (edg rows p rows.length) (i : Int)).f0 = true
  ·rw [if_pos h0, w64_id (by omega) (by omega)]
   simp only [sumTo]
   rw [if_pos h0]; rfl
  ·rw [if_neg h0, w64_id (by omega) (by omega)]
   simp only [sumTo]
   rw [if_neg h0]; rfl
theorem worst_l0 : ∀ d p : Nat, p + d = C → Ev (fun k => mg_worst.l0 k (bad rows w C) (at_ rows C rows.length) (C : Int) (p : Int)) (nx (fun p => sc rows w C p rows.length) d p)
 | 0, p, h => by
  refine Ev.step (f := fun _ => some (-1)) (fun k => ?_) (Ev.now _)
  simp only [mg_worst.l0]
  rw [if_neg (by omega)]
 | d + 1, p, h => by
  have ih := worst_l0 d (p + 1) (by omega)
  have hal : (at_ rows C rows.length).length = C := LL_length _ _
  have h9 : rd_L9 (at_ rows C rows.length) (p : Int) = edg rows p rows.length := by unfold rd_L9; rw [Int.toNat_natCast]; exact LL_at _ _ _ _ (by omega)
  have h1 := worst_l1 rows w C hr p (r := nx (fun p => sc rows w C p rows.length) (d + 1) p) (at_ rows C rows.length) (fun h0 => by
   rw [w64_id (by omega) (by omega)]
   simp only [nx]
   rw [if_neg (by omega)]
   exact ih) (fun h0 => by simp only [nx]; rw [if_pos h0]) (edg rows p rows.length).length 0 (by omega)
  refine Ev.step (fun k => ?_) h1
  simp only [mg_worst.l0]
  rw [if_pos (by omega), if_pos (by omega), if_pos (by omega), h9]
  rfl
theorem worst_ev : Ev (fun k => mg_worst.f k (checks rows C rows.length) (at_ rows C rows.length) (bad rows w C)) (nxt rows w C) := by
 have h := worst_l0 rows w C hC hr C 0 (by omega)
 have hal : (at_ rows C rows.length).length = C := LL_length _ _
 refine Ev.congr (fun k => ?_) h
 unfold mg_worst.f
 rw [hal]; rfl
end
theorem next_l1 {c : Int} {rows : List (List Int)} {w : List Int} {C : Nat} (ok : Ok c rows w C) (p : Nat) (hp : p < C) {r : Int} (hn : sc rows w C p rows.length ≤ 0 → Ev (fun k => crM_Next.l0 k w (wrap64 ((p : Int) + 1)) c rows) r) (hq : sc rows w C p rows.length > 0 → r = (p : Int)) : ∀ d j : Nat, j + d = rows.length →
  Ev (fun k => crM_Next.l1 k w (p : Int) (sc rows w C p j) (j : Int) c rows) r
 | 0, j, h => by
  obtain rfl : j = rows.length := by omega
  by_cases h0 : sc rows w C p rows.length > 0
  ·rw [hq h0]
   refine Ev.step (f := fun _ => some _) (fun k => ?_) (Ev.now _)
   simp only [crM_Next.l1]
   rw [if_neg (by omega), if_pos h0]
  ·refine Ev.step (fun k => ?_) (hn (by omega))
   simp only [crM_Next.l1]
   rw [if_neg (by omega), if_neg h0]
 | d + 1, j, h => by
  have ih := next_l1 ok p hp hn hq d (j + 1) (by omega)
  have hr := ok.hr
  have hl := ok.hrl j (by omega)
  have hb := sc_bound rows w C p j
  by_cases hx : rd (rows.getD j []) (p : Int) = 1
  ·have hbit : bit rows j p = true := decide_eq_true hx
   refine Ev.step (f := fun k => (crM_Odd.f k (rows.getD j []) w).bind fun t => crM_Next.j2 k w (p : Int) (sc rows w C p j) (j : Int) t c rows) (fun k => ?_) ?_
   ·simp only [crM_Next.l1, rd_L1_nat]
    rw [if_pos (by omega), if_pos (by omega), if_pos (by omega), if_pos (by omega), if_pos hx]
   refine (rodd_ev rows ok.hw C j ok.hC ok.hlen (ok.hrow j (by omega)) hl).bind ?_
   by_cases ho : od rows w C j = true
   ·have e : sc rows w C p (j + 1) = sc rows w C p j + 1 := by rw [sc_succ, if_pos hbit, if_pos ho]
    rw [e] at ih
    refine Ev.step (fun k => ?_) ih
    simp only [crM_Next.j2]
    rw [if_pos ho, w64_id (by omega) (by omega), w64_id (by omega) (by omega)]
    rfl
   ·have e : sc rows w C p (j + 1) = sc rows w C p j - 1 := by rw [sc_succ, if_pos hbit, if_neg ho]; rfl
    rw [e] at ih
    refine Ev.step (fun k => ?_) ih
    simp only [crM_Next.j2, rd_L1_nat]
    rw [if_neg ho, if_pos (by omega), if_pos (by omega), if_pos (by omega), if_pos (by omega), if_pos hx, w64_id (by omega) (by omega), w64_id (by omega) (by omega)]
    rfl
  ·have hbit : ¬ bit rows j p = true := by unfold bit; rw [decide_eq_false hx]; decide
   have e : sc rows w C p (j + 1) = sc rows w C p j := by rw [sc_succ, if_neg hbit, Int.add_zero]
   rw [e] at ih
   refine Ev.step (f := fun k => crM_Next.j2 k w (p : Int) (sc rows w C p j) (j : Int) false c rows) (fun k => ?_) (Ev.step (fun k => ?_) ih)
   ·simp only [crM_Next.l1, rd_L1_nat]
    rw [if_pos (by omega), if_pos (by omega), if_pos (by omega), if_pos (by omega), if_neg hx]
   ·simp only [crM_Next.j2, rd_L1_nat]
    rw [if_neg Bool.false_ne_true, if_pos (by omega), if_pos (by omega), if_pos (by omega), if_pos (by omega), if_neg hx, w64_id (by omega) (by omega)]
    rfl
theorem next_l0 {c : Int} {rows : List (List Int)} {w : List Int} {C : Nat} (ok : Ok c rows w C) : ∀ d p : Nat, p + d = C → Ev (fun k => crM_Next.l0 k w (p : Int) c rows) (nx (fun p => sc rows w C p rows.length) d p)
 | 0, p, h => by
  have := ok.c
  refine Ev.step (f := fun _ => some (-1)) (fun k => ?_) (Ev.now _)
  simp only [crM_Next.l0]
  rw [if_neg (by omega)]
 | d + 1, p, h => by
  have ih := next_l0 ok d (p + 1) (by omega)
  have := ok.c
  have hC := ok.hC
  have h1 := next_l1 ok p (by omega) (r := nx (fun p => sc rows w C p rows.length) (d + 1) p) (fun h0 => by
   rw [w64_id (by omega) (by omega)]
   simp only [nx]
   rw [if_neg (by omega)]
   exact ih) (fun h0 => by simp only [nx]; rw [if_pos h0]) rows.length 0 (by omega)
  refine Ev.step (fun k => ?_) h1
  simp only [crM_Next.l0]
  rw [if_pos (by omega)]
  rfl
theorem next_ev {c : Int} {rows : List (List Int)} {w : List Int} {C : Nat} (ok : Ok c rows w C) : Ev (fun k => crM_Next.f k c rows w) (nxt rows w C) := next_l0 ok C 0 (by omega)
/-- The word with position p changed. -/
def fl (w : List Int) (p : Nat) : List Int := w.set p (1 - rd w (p : Int))
theorem rd_fl (w : List Int) (p i : Nat) (hp : p < w.length) : rd (fl w p) (i : Int) = if i = p then 1 - rd w (p : Int) else rd w (i : Int) := by
 rw [rd_nat, rd_nat w i]
 unfold fl
 rw [List.getD_eq_getElem?_getD, List.getElem?_set]
 by_cases e : i = p
 ·subst e; rw [if_pos rfl, if_pos rfl, if_pos hp]; rfl
 ·rw [if_neg (Ne.symm e), if_neg e, ← List.getD_eq_getElem?_getD]
theorem ok_fl {c : Int} {rows : List (List Int)} {w : List Int} {C : Nat} (ok : Ok c rows w C) (p : Nat) : Ok c rows (fl w p) C := by
 refine { ok with hlen := by unfold fl; rw [List.length_set]; exact ok.hlen, hw := ?_ }
 refine List.all_eq_true.2 (fun x hx => ?_)
 rcases List.mem_or_eq_of_mem_set hx with h | h
 ·exact List.all_eq_true.1 ok.hw x h
 ·rw [h]
  rcases okb_at ok.hw p with h | h <;> rw [h] <;> decide
theorem par_fl {c : Int} {rows : List (List Int)} {w : List Int} {C : Nat} (ok : Ok c rows w C) (p j : Nat) (hp : p < C) : par rows (fl w p) C j = par rows w C j + (if bit rows j p = true then 1 - 2 * rd w (p : Int) else 0) := by
 have h1 := sumTo_one (fun i => if i = p then (if bit rows j p = true then 1 - 2 * rd w (p : Int) else 0) else 0) p _ C hp (fun i hi => if_neg hi) (if_pos rfl)
 rw [← h1]
 unfold par
 rw [← sumTo_add]
 refine sumTo_congr _ _ _ (fun i _ => ?_)
 rw [rd_fl w p i (by have := ok.hlen; omega)]
 by_cases e : i = p
 ·subst e
  rw [if_pos rfl, if_pos rfl]
  by_cases hb : bit rows j i = true
  ·rw [if_pos hb, if_pos hb, if_pos hb]; omega
  ·rw [if_neg hb, if_neg hb, if_neg hb]; omega
 ·rw [if_neg e, if_neg e]; omega
theorem od_fl {c : Int} {rows : List (List Int)} {w : List Int} {C : Nat} (ok : Ok c rows w C) (p j : Nat) (hp : p < C) : od rows (fl w p) C j = if bit rows j p = true then !(od rows w C j) else od rows w C j := by
 have h1 := par_fl ok p j hp
 have h2 := (par_bound rows ok.hw C j).1
 have h3 := (par_bound rows (ok_fl ok p).hw C j).1
 have h4 := okb_at ok.hw p
 unfold od
 rw [Int.tmod_eq_emod_of_nonneg h2, Int.tmod_eq_emod_of_nonneg h3]
 by_cases hb : bit rows j p = true
 ·rw [if_pos hb] at h1 ⊢
  by_cases he : par rows w C j % 2 = 1
  ·rw [he, beq_iff_eq.2 rfl]
   have : par rows (fl w p) C j % 2 = 0 := by omega
   rw [this]; rfl
  ·have e0 : par rows w C j % 2 = 0 := by omega
   have : par rows (fl w p) C j % 2 = 1 := by omega
   rw [this, e0]; rfl
 ·rw [if_neg hb] at h1 ⊢
  rw [h1, Int.add_zero]
/-- The number of unsatisfied checks. -/
theorem uns_fl {c : Int} {rows : List (List Int)} {w : List Int} {C : Nat} (ok : Ok c rows w C) (p : Nat) (hp : p < C) : ((uns rows (fl w p) C rows.length).length : Int) = ((uns rows w C rows.length).length : Int) - sc rows w C p rows.length := by
 unfold uns
 rw [PG_len, PG_len]
 unfold sc
 rw [← sumTo_sub]
 refine sumTo_congr _ _ _ (fun j _ => ?_)
 rw [od_fl ok p j hp]
 by_cases hb : bit rows j p = true
 ·rw [if_pos hb, if_pos hb]
  cases od rows w C j <;> rfl
 ·rw [if_neg hb, if_neg hb]; omega
/-- From w the changes l lead to e, where none is left. -/
def Run (rows : List (List Int)) (C : Nat) : List Int → List Int → List Int → Prop
 | w, [], e => nxt rows w C = -1 ∧ e = w
 | w, p :: l, e => (∃ q : Nat, p = (q : Int) ∧ q < C ∧ nxt rows w C = (q : Int) ∧ sc rows w C q rows.length > 0 ∧ Run rows C (fl w q) l e)
theorem run_ex {c : Int} {rows : List (List Int)} {C : Nat} : ∀ (u : Nat) (w : List Int), Ok c rows w C → (uns rows w C rows.length).length ≤ u → ∃ l e, Run rows C w l e ∧ l.length ≤ u ∧ Ok c rows e C := by
 intro u
 induction u with
 | zero =>
  intro w ok hu
  rcases nx_or (fun p => sc rows w C p rows.length) C 0 with h | ⟨q, h1, h2, h3⟩
  ·exact ⟨[], w, ⟨h, rfl⟩, Nat.le_refl _, ok⟩
  ·have := uns_fl ok q (by omega)
   omega
 | succ u ih =>
  intro w ok hu
  rcases nx_or (fun p => sc rows w C p rows.length) C 0 with h | ⟨q, h1, h2, h3⟩
  ·exact ⟨[], w, ⟨h, rfl⟩, Nat.zero_le _, ok⟩
  ·have := uns_fl ok q (by omega)
   obtain ⟨l, e, h4, h5, h6⟩ := ih (fl w q) (ok_fl ok q) (by omega)
   exact ⟨(q : Int) :: l, e, ⟨q, rfl, by omega, h2, h3, h4⟩, by simp; omega, h6⟩
section
variable {c : Int} {rows : List (List Int)} {C : Nat}
/-- The marks while the edges of position p are gone through, up to row m. -/
def mid (rows : List (List Int)) (w : List Int) (C p m : Nat) : List Bool := LL rows.length (fun j => if j < m ∧ bit rows j p = true then !(od rows w C j) else od rows w C j)
theorem l2_ev {w : List Int} (ok : Ok c rows w C) (w' fls : List Int) (p : Nat) {r : List Int × List Int × Int} (h : Ev (fun k => message_Flip.l1 k w' fls (mid rows w C p rows.length) (checks rows C rows.length) (at_ rows C rows.length)) r) : ∀ d m : Nat, m + d = rows.length →
  Ev (fun k => message_Flip.l2 k w' fls (mid rows w C p m) (edg rows p rows.length) ((edg rows p rows.length).length : Int) ((edg rows p m).length : Int) (checks rows C rows.length) (at_ rows C rows.length)) r
 | 0, m, hm => by
  obtain rfl : m = rows.length := by omega
  refine Ev.step (fun k => ?_) h
  simp only [message_Flip.l2]
  rw [if_neg (by omega)]
 | d + 1, m, hm => by
  have ih := l2_ev ok w' fls p h d (m + 1) (by omega)
  have hr := ok.hr
  by_cases hb : bit rows m p = true
  ·have hlt : (edg rows p m).length < (edg rows p rows.length).length := PG_lt _ (fun j => bit rows j p) m hb rows.length (by omega)
   have hat : rd_T77 (edg rows p rows.length) ((edg rows p m).length : Int) = ⟨(m : Int), ((one rows m p).length : Int)⟩ := by
    unfold rd_T77; rw [Int.toNat_natCast]; exact PG_at _ _ (fun j => bit rows j p) m hb rows.length (by omega)
   have hl : (edg rows p (m + 1)).length = (edg rows p m).length + 1 := by
    have : edg rows p (m + 1) = edg rows p m ++ [⟨(m : Int), ((one rows m p).length : Int)⟩] := PG_succ (p := fun j => bit rows j p) hb
    rw [this, List.length_append, List.length_singleton]
   have hle := edg_le rows p rows.length
   have hml : (mid rows w C p m).length = rows.length := LL_length _ _
   refine Ev.step (fun k => ?_) ih
   simp only [message_Flip.l2]
   rw [if_pos (by omega), if_pos (by omega), if_pos (by omega), hat, if_pos (by show (0 : Int) ≤ (m : Int); omega), if_pos (by show (m : Int) < _; omega), w64_id (by omega) (by omega), hl]
   show message_Flip.l2 k w' fls ((mid rows w C p m).set ((m : Nat) : Int).toNat (!(rdOf false (mid rows w C p m) ((m : Nat) : Int)))) _ _ _ _ _ = _
   have e : (mid rows w C p m).set ((m : Nat) : Int).toNat (!(rdOf false (mid rows w C p m) ((m : Nat) : Int))) = mid rows w C p (m + 1) := by
    unfold mid
    rw [rdOf_LL _ _ _ _ (by omega), Int.toNat_natCast, LL_set]
    refine LL_congr _ _ _ (fun j hj => ?_)
    by_cases e : j = m
    ·subst e; rw [if_pos rfl, if_neg (by omega), if_pos ⟨by omega, hb⟩]
    ·rw [if_neg e]
     by_cases e2 : j < m ∧ bit rows j p = true
     ·rw [if_pos e2, if_pos ⟨by omega, e2.2⟩]
     ·rw [if_neg e2, if_neg (fun hh => e2 ⟨by omega, hh.2⟩)]
   rw [e]; rfl
  ·have hl : edg rows p (m + 1) = edg rows p m := PG_skip (p := fun j => bit rows j p) hb
   have e : mid rows w C p (m + 1) = mid rows w C p m := by
    refine LL_congr _ _ _ (fun j hj => ?_)
    by_cases e2 : j < m ∧ bit rows j p = true
    ·rw [if_pos e2, if_pos ⟨by omega, e2.2⟩]
    ·rw [if_neg e2, if_neg (fun hh => e2 ⟨by by_cases ej : j = m; (· subst ej; exact absurd hh.2 hb); (· omega), hh.2⟩)]
   rw [hl, e] at ih
   exact ih
def turn (k : Nat) (x4 x5 : List Int) (x9 : List Bool) (x295000 : List (List Int)) (x295001 : List (List S77)) (t307 : Int) : Option (List Int × List Int × Int) := (if t307 < 0 then (some (x4, x5, 0)) else (if 0 ≤ t307 then (if t307 < (x4.length : Int) then (if x5.length < 17592186044416 then (if t307 < (x295001.length : Int) then (message_Flip.l2 k (x4.set (t307 : Int).toNat (wrap64 (1 - (rd x4 t307)))) (x5 ++ [t307]) x9 (rd_L9 x295001 t307) ((rd_L9 x295001 t307).length : Int) 0 x295000 x295001) else (none)) else (none)) else (none)) else (none)))
theorem l1_turn (k : Nat) (x4 x5 : List Int) (x9 : List Bool) (a : List (List Int)) (b : List (List S77)) : message_Flip.l1 (k + 1) x4 x5 x9 a b = (mg_worst.f k a b x9).bind (turn k x4 x5 x9 a b) := by
 simp only [message_Flip.l1]; rfl
theorem l1_ev : ∀ (l w e fls : List Int), Ok c rows w C → Run rows C w l e → fls.length + l.length ≤ 1000 →
  Ev (fun k => message_Flip.l1 k w fls (bad rows w C) (checks rows C rows.length) (at_ rows C rows.length)) (e, fls ++ l, 0)
 | [], w, e, fls, ok, hrun, hl => by
  obtain ⟨h1, rfl⟩ := hrun
  refine Ev.step (fun k => l1_turn k e fls _ _ _) ?_
  refine (worst_ev rows e C ok.hC ok.hr).bind ?_
  rw [h1]
  refine Ev.congr (fun k => if_pos (by omega)) ?_
  rw [List.append_nil]
  exact Ev.now _
 | p :: l, w, e, fls, ok, hrun, hl => by
  obtain ⟨q, rfl, h1, h2, h3, h4⟩ := hrun
  have hlen := ok.hlen
  have hal : (at_ rows C rows.length).length = C := LL_length _ _
  have h9 : rd_L9 (at_ rows C rows.length) (q : Int) = edg rows q rows.length := by unfold rd_L9; rw [Int.toNat_natCast]; exact LL_at _ _ _ _ (by omega)
  have ih := l1_ev l (fl w q) e (fls ++ [(q : Int)]) (ok_fl ok q) h4 (by simp at hl ⊢; omega)
  have hl' : fls.length + (l.length + 1) ≤ 1000 := hl
  refine Ev.step (fun k => l1_turn k w fls _ _ _) ?_
  refine (worst_ev rows w C ok.hC ok.hr).bind ?_
  rw [h2]
  refine Ev.congr (fun k => if_neg (by omega)) (Ev.congr (fun k => if_pos (by omega)) (Ev.congr (fun k => if_pos (by omega)) (Ev.congr (fun k => if_pos (by omega)) (Ev.congr (fun k => if_pos (by omega)) ?_))))
  rw [h9, Int.toNat_natCast]
  have hwv : wrap64 (1 - rd w (q : Int)) = 1 - rd w (q : Int) := by rcases okb_at ok.hw q with h | h <;> rw [h] <;> exact w64_id (by omega) (by omega)
  rw [hwv]
  have em : bad rows w C = mid rows w C q 0 := LL_congr _ _ _ (fun j hj => by rw [if_neg (by omega)])
  rw [em, show fls ++ (q : Int) :: l = (fls ++ [(q : Int)]) ++ l by simp]
  refine l2_ev ok (fl w q) (fls ++ [(q : Int)]) q ?_ rows.length 0 (by omega)
  have en : mid rows w C q rows.length = bad rows (fl w q) C := LL_congr _ _ _ (fun j hj => by
   rw [od_fl ok q j h1]
   by_cases hb : bit rows j q = true
   ·rw [if_pos ⟨hj, hb⟩, if_pos hb]
   ·rw [if_neg (fun hh => hb hh.2), if_neg hb])
  rw [en]
  exact ih
/-- The marks while the list of unsatisfied checks is gone through, up to row m. -/
def ini (rows : List (List Int)) (w : List Int) (C m : Nat) : List Bool := LL rows.length (fun j => decide (j < m) && od rows w C j)
theorem l0_ev {w : List Int} (ok : Ok c rows w C) {r : List Int × List Int × Int} (h : Ev (fun k => message_Flip.l1 k w [] (bad rows w C) (checks rows C rows.length) (at_ rows C rows.length)) r) : ∀ d m : Nat, m + d = rows.length →
  Ev (fun k => message_Flip.l0 k w (ini rows w C m) (uns rows w C rows.length) ((uns rows w C rows.length).length : Int) ((uns rows w C m).length : Int) (checks rows C rows.length) (at_ rows C rows.length)) r
 | 0, m, hm => by
  obtain rfl : m = rows.length := by omega
  refine Ev.step (fun k => ?_) h
  simp only [message_Flip.l0]
  rw [if_neg (by omega)]
  congr 1
  exact LL_congr _ _ _ (fun j hj => by rw [decide_eq_true hj, Bool.true_and])
 | d + 1, m, hm => by
  have ih := l0_ev ok h d (m + 1) (by omega)
  have hr := ok.hr
  by_cases hb : od rows w C m = true
  ·have hlt : (uns rows w C m).length < (uns rows w C rows.length).length := PG_lt _ (od rows w C) m hb rows.length (by omega)
   have hat : rd (uns rows w C rows.length) ((uns rows w C m).length : Int) = (m : Int) := by
    rw [rd_nat]; exact PG_at _ _ (od rows w C) m hb rows.length (by omega)
   have hl : (uns rows w C (m + 1)).length = (uns rows w C m).length + 1 := by
    have : uns rows w C (m + 1) = uns rows w C m ++ [(m : Int)] := PG_succ (p := od rows w C) hb
    rw [this, List.length_append, List.length_singleton]
   have hle := uns_le rows w C rows.length
   have hml : (ini rows w C m).length = rows.length := LL_length _ _
   refine Ev.step (fun k => ?_) ih
   simp only [message_Flip.l0]
   rw [if_pos (by omega), if_pos (by omega), if_pos (by omega), hat, if_pos (by omega), if_pos (by omega), w64_id (by omega) (by omega), hl]
   have e : (ini rows w C m).set ((m : Nat) : Int).toNat true = ini rows w C (m + 1) := by
    unfold ini
    rw [Int.toNat_natCast, LL_set]
    refine LL_congr _ _ _ (fun j hj => ?_)
    by_cases e : j = m
    ·subst e; rw [if_pos rfl, hb, decide_eq_true (by omega)]; rfl
    ·rw [if_neg e]
     congr 1
     by_cases e2 : j < m
     ·rw [decide_eq_true e2, decide_eq_true (by omega)]
     ·rw [decide_eq_false e2, decide_eq_false (by omega)]
   rw [e]; rfl
  ·have hl : uns rows w C (m + 1) = uns rows w C m := PG_skip (p := od rows w C) hb
   have e : ini rows w C (m + 1) = ini rows w C m := by
    refine LL_congr _ _ _ (fun j hj => ?_)
    by_cases ej : j = m
    ·subst ej; rw [Bool.eq_false_iff.2 hb, Bool.and_false, Bool.and_false]
    ·congr 1
     by_cases e2 : j < m
     ·rw [decide_eq_true e2, decide_eq_true (by omega)]
     ·rw [decide_eq_false e2, decide_eq_false (by omega)]
   rw [hl, e] at ih
   exact ih
theorem Flip_ok {w l e : List Int} (ok : Ok c rows w C) (hrun : Run rows C w l e) (hl : l.length ≤ 256) : Ev (fun k => message_Flip.f k c rows w) (e, l, 0) := by
 have hr := ok.hr
 have hlen := ok.hlen
 have hC := ok.hC
 have hcl : (checks rows C rows.length).length = rows.length := LL_length _ _
 unfold message_Flip.f
 refine (build_C ok).bind (Ev.congr (fun k => if_pos rfl) ((bitsOf_C ok).bind (Ev.congr (fun k => if_pos rfl) ?_)))
 simp only
 rw [hcl]
 refine Ev.congr (fun k => if_pos (by simp; omega)) (Ev.congr (fun k => if_pos (by omega)) (Ev.congr (fun k => if_pos (by omega)) ?_))
 refine (unsat_ev rows ok.hw C ok.hC ok.hlen ok.hr _).bind ?_
 rw [Int.toNat_natCast, List.nil_append]
 have e0 : List.replicate rows.length false = ini rows w C 0 := by
  rw [LL_rep]
  exact LL_congr _ _ _ (fun j hj => by rw [decide_eq_false (by omega)]; rfl)
 rw [e0]
 have h1 := l1_ev l w e [] ok hrun (by simp; omega)
 rw [List.nil_append] at h1
 exact l0_ev ok h1 rows.length 0 (by omega)
theorem rflip_l0 : ∀ (l w e fls : List Int), Ok c rows w C → Run rows C w l e → fls.length + l.length ≤ 1000 → Ev (fun k => crM_Flip.l0 k w fls (nxt rows w C) c rows) (e, fls ++ l)
 | [], w, e, fls, ok, hrun, hl => by
  obtain ⟨h1, rfl⟩ := hrun
  rw [h1, List.append_nil]
  refine Ev.step (f := fun _ => some _) (fun k => ?_) (Ev.now _)
  simp only [crM_Flip.l0]
  rw [if_neg (by omega)]
 | p :: l, w, e, fls, ok, hrun, hl => by
  obtain ⟨q, rfl, h1, h2, h3, h4⟩ := hrun
  have hlen := ok.hlen
  have ih := rflip_l0 l (fl w q) e (fls ++ [(q : Int)]) (ok_fl ok q) h4 (by simp at hl ⊢; omega)
  have hl' : fls.length + (l.length + 1) ≤ 1000 := hl
  have hwv : wrap64 (1 - rd w (q : Int)) = 1 - rd w (q : Int) := by rcases okb_at ok.hw q with h | h <;> rw [h] <;> exact w64_id (by omega) (by omega)
  rw [h2, show fls ++ (q : Int) :: l = (fls ++ [(q : Int)]) ++ l by simp]
  refine Ev.step (f := fun k => (crM_Next.f k c rows (fl w q)).bind fun t => crM_Flip.l0 k (fl w q) (fls ++ [(q : Int)]) t c rows) (fun k => ?_) ((next_ev (ok_fl ok q)).bind ih)
  simp only [crM_Flip.l0]
  rw [if_pos (by omega), if_pos (by omega), if_pos (by omega), Option.bind_some, if_pos (by omega), hwv, Int.toNat_natCast]
  rfl
theorem rFlip_ok {w l e : List Int} (ok : Ok c rows w C) (hrun : Run rows C w l e) (hl : l.length ≤ 256) : Ev (fun k => crM_Flip.f k c rows w) (e, l) := by
 have hlen := ok.hlen
 have hC := ok.hC
 unfold crM_Flip.f
 refine Ev.congr (fun k => by rw [Option.bind_some]) ?_
 refine Ev.congr (fun k => if_pos (by simp; omega)) ?_
 refine Ev.congr (fun k => by rw [Option.bind_some, List.nil_append]) ((next_ev ok).bind ?_)
 have h1 := rflip_l0 l w e [] ok hrun (by simp; omega)
 rw [List.nil_append] at h1
 exact h1
theorem Flip_no {w : List Int} (h : wrd c rows w ≠ 0) : Ev (fun k => message_Flip.f k c rows w) ([], [], wrd c rows w) := by
 unfold message_Flip.f
 by_cases hk : chk c rows = 0
 ·have e : wrd c rows w = wb c w := if_pos hk
  rw [e] at h ⊢
  have hk2 := chk_ok hk
  refine (build_ok hk).bind (Ev.congr (fun k => if_pos rfl) ((bitsOf_ev c hk2.2.1 rows w).bind ?_))
  exact Ev.congr (fun k => if_neg h) (Ev.now _)
 ·have e : wrd c rows w = chk c rows := if_neg hk
  rw [e]
  exact (build_no hk).bind (Ev.congr (fun k => if_neg hk) (Ev.now _))
end
end Go.Proofs.Ytmclalniilkjiaa.Fl
namespace Go.Proofs.Ytmclalniilkjiaa.Q
open Go.RowKit Go.Proofs.YtmclalniilkjiaaW.PrintWords Go.Proofs.YtmclalniilkjiaaW.PrintLast Go.Proofs.YtmclalniilkjiaaW.PrintMore
attribute [local go_sem] max2_int min2_int max_two min_two max_three min_three max_four min_four
set_option linter.unusedVariables false
set_option linter.unusedSimpArgs false
mutual
def cr9_Few.j0 : Nat → Int → Bool → Int → List (List Int) → Option (Bool)
 | 0, _, _, _, _ => none
 | k + 1, x1, x16, x424000, x424001 => if x16 = true then (some false) else (cr9_Few.l0 k (wrap64 (x1 - (x424001.length : Int))) 0 x424000 x424001)
def cr9_Few.l0 : Nat → Int → Int → Int → List (List Int) → Option (Bool)
 | 0, _, _, _, _ => none
 | k + 1, x5, x6, x424000, x424001 => if x6 < (x424001.length : Int) then (if 0 ≤ x6 then (if ((rd_L1 x424001 x6).length : Int) > x5 then (some false) else (cr9_Few.l0 k (wrap64 (x5 - ((rd_L1 x424001 x6).length : Int))) (wrap64 (x6 + 1)) x424000 x424001)) else (none)) else (some true)
end
def cr9_Few.f (k : Nat) (a0_0 : Int) (l0_1 : List (List Int)) (a1 : Int) : Option (Bool) := if a0_0 > 260 then (cr9_Few.j0 k a1 true a0_0 l0_1) else (cr9_Few.j0 k a1 (decide ((l0_1.length : Int) > a1)) a0_0 l0_1)
theorem cr9_Few.mono_l : ∀ k, (∀ y0 y1 y2 y3, LeO (cr9_Few.j0 k y0 y1 y2 y3) (cr9_Few.j0 (k + 1) y0 y1 y2 y3)) ∧ (∀ y0 y1 y2 y3, LeO (cr9_Few.l0 k y0 y1 y2 y3) (cr9_Few.l0 (k + 1) y0 y1 y2 y3))
 | 0 => ⟨fun _ _ _ _ r h => by simp [cr9_Few.j0] at h, fun _ _ _ _ r h => by simp [cr9_Few.l0] at h⟩
 | k + 1 => by
  obtain ⟨ih0, ih1⟩ := cr9_Few.mono_l k;refine ⟨?_, ?_⟩
  ·intro y0 y1 y2 y3;unfold cr9_Few.j0
   repeat' first
   | (with_reducible exact ih0 _ _ _ _)
   | (with_reducible exact ih1 _ _ _ _)
   | (with_reducible exact LeO.refl _)
   | (with_reducible exact LeO.none _)
   | (with_reducible refine LeO.ite ?_ ?_)
   | (with_reducible refine LeO.bind ?_ (fun _ => ?_))
   | exact ih0 _ _ _ _
   | exact ih1 _ _ _ _
   | exact LeO.none _
   | refine LeO.ite ?_ ?_
   | refine LeO.bind ?_ (fun _ => ?_)
  ·intro y0 y1 y2 y3;unfold cr9_Few.l0
   repeat' first
   | (with_reducible exact ih0 _ _ _ _)
   | (with_reducible exact ih1 _ _ _ _)
   | (with_reducible exact LeO.refl _)
   | (with_reducible exact LeO.none _)
   | (with_reducible refine LeO.ite ?_ ?_)
   | (with_reducible refine LeO.bind ?_ (fun _ => ?_))
   | exact ih0 _ _ _ _
   | exact ih1 _ _ _ _
   | exact LeO.none _
   | refine LeO.ite ?_ ?_
   | refine LeO.bind ?_ (fun _ => ?_)
theorem cr9_Few.mono : ∀ a0 a1 a2 k, LeO (cr9_Few.f k a0 a1 a2) (cr9_Few.f (k + 1) a0 a1 a2) := by
 intro a0 a1 a2 k;obtain ⟨ih0, ih1⟩ := cr9_Few.mono_l k;unfold cr9_Few.f
 repeat' first
   | (with_reducible exact ih0 _ _ _ _)
   | (with_reducible exact ih1 _ _ _ _)
   | (with_reducible exact LeO.refl _)
   | (with_reducible exact LeO.none _)
   | (with_reducible refine LeO.ite ?_ ?_)
   | (with_reducible refine LeO.bind ?_ (fun _ => ?_))
   | exact ih0 _ _ _ _
   | exact ih1 _ _ _ _
   | exact LeO.none _
   | refine LeO.ite ?_ ?_
   | refine LeO.bind ?_ (fun _ => ?_)
set_option maxHeartbeats 8000000 in
set_option maxRecDepth 100000 in
theorem cr9_Few.calls (k : Nat) (a0_0 : Int) (A0_1 : Option Addr) (c0_1 : Nat) (l0_1 : List (List Int)) (a1 : Int) (r : Bool) (w : World) (hr0_1 : Kd.C (Kd.slice 3 (Kd.int .i64)) w A0_1 l0_1.length l0_1) (hc0_1 : l0_1.length ≤ c0_1) (h : cr9_Few.f k a0_0 l0_1 a1 = some r) :
  Calls Try.prog 28 #[.agg #[.int .i64 a0_0, .slice A0_1 l0_1.length c0_1], .int .i64 a1] w fun e w' => e = .returned (.bool r) ∧ Below w.heap.size w w' := by
 have hu24 := Try.underlying24;have HR0_1 := Aside0.mk hr0_1;have HC0_1 := Aside0.mk hc0_1;clear hr0_1 hc0_1;have HB := Aside0.mk (Below.refl w.heap.size w);have H : (if a0_0 > 260 then (cr9_Few.j0 k a1 true a0_0 l0_1) else (cr9_Few.j0 k a1 (decide ((l0_1.length : Int) > a1)) a0_0 l0_1)) = some r := h;clear h;have HC3 := Aside0.mk H;clear H;go_enter Try.func28, Try.ntmps28
 go_upto_region 1 with (first | ((with_reducible refine gate_dst (N := 2) rfl ?_); (try (refine gate_guard (by rfl) ?_; dsimp only)); refine box_event ?hg (N := 2) ?hd (cs := #[.int .i64 a0_0, .slice A0_1 l0_1.length c0_1]) (t := 24) ?hr ?_; (case hd => rfl); (case hg => rfl); (case hr => first | (go_simp; done) | (go_simp; rfl)); intro gb423 hg w4 hbox hb; have n0_ := Aside0.mk (below_step (by repeat (first | (with_reducible first | exact HB.out | apply below_alloc | apply pbN | apply below_drew1) | exact HB.out)) hb); have n1_ := Aside0.mk (hbox); have n2_ := Aside0.mk ((by rw [hg]; exact (below_size (by repeat (first | (with_reducible first | exact HB.out | apply below_alloc | apply pbN | apply below_drew1) | exact HB.out))) : w.heap.size ≤ gb423)); have n3_ := Aside0.mk ((by rw [hg]; exact (below_size (by repeat (first | (with_reducible first | exact HB.out | apply below_alloc | apply pbN | apply below_drew1) | exact HB.out))) : w.heap.size ≤ gb423)); clear HB; have HB := n0_; have BK423 := n1_; have GW423 := n2_; have GE423 := n3_; clear n0_ n1_ n2_ n3_; clear hb hbox hg))
 (try simp only [Act.put, List.setIfInBounds_toArray, List.set_cons_zero, List.set_cons_succ])
 go_cut [16] (fun v16 wc => ∃ (kq : Nat) (x16_2 : Bool), v16 = .bool x16_2 ∧ Aside0 (cr9_Few.j0 kq a1 x16_2 a0_0 l0_1 = some r) ∧ Aside0 (kq ≤ k) ∧ Aside0 (wc.heap[gb423]? = some (.cells #[.int .i64 a0_0, (.slice A0_1 l0_1.length c0_1)] 24 (0, 0))) ∧ Aside0 (Below w.heap.size w wc))
 case first =>
  have H := HC3.out;clear HC3;by_cases c5 : a0_0 > 260
  ·rw [if_pos c5] at H;have c5b0 : decide (260 < a0_0) = true := decide_eq_true c5;clear c5;(first | rw [c5b0] | (simp only [i64_w, i32_w]; rw [c5b0]) | skip);have H' := Aside0.mk H;clear H;have hcz6_0 : w4.cell? ⟨gb423, 0, none⟩ = some (.int .i64 a0_0) := (blk_cell BK423.out 0).trans rfl;have hcz6_1 : w4.cell? ⟨gb423, 1, none⟩ = some (.slice A0_1 l0_1.length c0_1) := (blk_cell BK423.out 1).trans rfl;have hfz6_0 := blk_frozen BK423.out 0;have hfz6_1 := blk_frozen BK423.out 1
   go_wp2
   go_meet
   case rel => exact ⟨_, (true), (by first | rfl | (simp; done) | (simp [*]; done)), H', ⟨by first | omega | exact Nat.le_refl _⟩, ⟨by (with_reducible repeat (first | refine blk_drewN ?_ _ | refine blk_drew ?_ | refine blk_alloc ?_ _)); exact BK423.out⟩, ⟨by repeat (first | (with_reducible first | exact HB.out | apply below_alloc | apply pbN | apply below_drew1 | refine below_set ?_ GE423.out) | exact HB.out)⟩⟩
  ·rw [if_neg c5] at H;have c5b0 : decide (260 < a0_0) = false := decide_eq_false c5;clear c5;(first | rw [c5b0] | (simp only [i64_w, i32_w]; rw [c5b0]) | skip);have H' := Aside0.mk H;clear H;have hcz7_0 : w4.cell? ⟨gb423, 0, none⟩ = some (.int .i64 a0_0) := (blk_cell BK423.out 0).trans rfl;have hcz7_1 : w4.cell? ⟨gb423, 1, none⟩ = some (.slice A0_1 l0_1.length c0_1) := (blk_cell BK423.out 1).trans rfl;have hfz7_0 := blk_frozen BK423.out 0;have hfz7_1 := blk_frozen BK423.out 1
   go_wp2
   go_meet
   case rel => exact ⟨_, (decide ((l0_1.length : Int) > a1)), (by first | rfl | (simp; done) | (simp [*]; done)), H', ⟨by first | omega | exact Nat.le_refl _⟩, ⟨by (with_reducible repeat (first | refine blk_drewN ?_ _ | refine blk_drew ?_ | refine blk_alloc ?_ _)); exact BK423.out⟩, ⟨by repeat (first | (with_reducible first | exact HB.out | apply below_alloc | apply pbN | apply below_drew1 | refine below_set ?_ GE423.out) | exact HB.out)⟩⟩
 case rest =>
  clear HC3
  try clear c2
  try clear p2
  try clear c5
  try clear c5b0
  try clear hcz6_0
  try clear hcz6_1
  try clear hcz7_0
  try clear hcz7_1
  try clear hfz6_0
  try clear hfz6_1
  try clear hfz7_0
  try clear hfz7_1
  obtain ⟨kq, x16_2, rfl, HA, HJ2, BK423, HB⟩ := hcut
  cases kq with
  | zero => exact absurd HA.out (by simp [cr9_Few.j0])
  | succ kj2 =>
   have H := HA.out;clear HA;simp only [cr9_Few.j0] at H;by_cases c8 : x16_2 = true
   ·subst c8;(have H1 : (some false) = some r := by rw [if_pos rfl] at H; exact H);clear H;have H := H1;clear H1;obtain rfl := Option.some.inj H
    go_wp2
    go_ret
    exact ⟨by first | rfl | (simp [errW_none, errW_some] <;> rfl) | (simp [*, errW_none, errW_some] <;> rfl), by repeat (first | (with_reducible first | exact HB.out | apply below_alloc | apply pbN | apply below_drew1 | refine below_set ?_ GE423.out) | exact HB.out)⟩
   ·replace c8 := Bool.eq_false_iff.mpr c8;subst c8;(have H1 : (cr9_Few.l0 kj2 (wrap64 (a1 - (l0_1.length : Int))) 0 a0_0 l0_1) = some r := by rw [if_neg (show ¬ (false = true) by decide)] at H; exact H);clear H;have H := H1;clear H1;have H' := Aside0.mk H;clear H;have hcz9_0 : wc.cell? ⟨gb423, 0, none⟩ = some (.int .i64 a0_0) := (blk_cell BK423.out 0).trans rfl;have hcz9_1 : wc.cell? ⟨gb423, 1, none⟩ = some (.slice A0_1 l0_1.length c0_1) := (blk_cell BK423.out 1).trans rfl;have hfz9_0 := blk_frozen BK423.out 0;have hfz9_1 := blk_frozen BK423.out 1
    go_wp2
    go_loopg [5, 6] kj2 (fun kq v5 v6 w' => ∃ (x5_2 : Int) (x6_2 : Int), v5 = .int .i64 x5_2 ∧ v6 = .int .i64 x6_2 ∧ Aside0 (cr9_Few.l0 kq x5_2 x6_2 a0_0 l0_1 = some r) ∧ Aside0 (kq ≤ kj2) ∧ Aside0 (w'.heap[gb423]? = some (.cells #[.int .i64 a0_0, (.slice A0_1 l0_1.length c0_1)] 24 (0, 0))) ∧ Aside0 (Below w.heap.size w w'))
    case atStart => exact ⟨(wrap64 (a1 - (l0_1.length : Int))), (0), (by first | rfl | (simp; done) | (simp [*]; done)), (by first | rfl | (simp; done) | (simp [*]; done)), H', ⟨Nat.le_refl _⟩, ⟨by (with_reducible repeat (first | refine blk_drewN ?_ _ | refine blk_drew ?_ | refine blk_alloc ?_ _)); exact BK423.out⟩, ⟨by repeat (first | (with_reducible first | exact HB.out | apply below_alloc | apply pbN | apply below_drew1 | refine below_set ?_ GE423.out) | exact HB.out)⟩⟩
    case round =>
     clear H'
     try clear c2
     try clear p2
     try clear c5
     try clear c5b0
     try clear p6
     try clear c8
     try clear hcz6_0
     try clear hcz6_1
     try clear hcz7_0
     try clear hcz7_1
     try clear hcz9_0
     try clear hcz9_1
     try clear hfz6_0
     try clear hfz6_1
     try clear hfz7_0
     try clear hfz7_1
     try clear hfz9_0
     try clear hfz9_1
     try clear p2
     obtain ⟨x5_2, x6_2, rfl, rfl, HA, HK2, BK423, HB⟩ := hrel
     cases gk with
     | zero => exact absurd HA.out (by simp [cr9_Few.l0])
     | succ k2 =>
      have H := HA.out;clear HA;simp only [cr9_Few.l0] at H;by_cases c10 : x6_2 < (l0_1.length : Int)
      ·rw [if_pos c10] at H;have c10b0 : decide (x6_2 < (l0_1.length : Int)) = true := decide_eq_true c10;clear c10;by_cases c11 : 0 ≤ x6_2
       ·rw [if_pos c11] at H;have c11b0 : decide (0 ≤ x6_2) = true := decide_eq_true c11;clear c11;by_cases c12 : ((rd_L1 l0_1 x6_2).length : Int) > x5_2
        ·rw [if_pos c12] at H;have c12b0 : decide (x5_2 < ((rd_L1 l0_1 x6_2).length : Int)) = true := decide_eq_true c12;clear c12;obtain rfl := Option.some.inj H;have hcz13_0 : wr.cell? ⟨gb423, 0, none⟩ = some (.int .i64 a0_0) := (blk_cell BK423.out 0).trans rfl;have hcz13_1 : wr.cell? ⟨gb423, 1, none⟩ = some (.slice A0_1 l0_1.length c0_1) := (blk_cell BK423.out 1).trans rfl;have hfz13_0 := blk_frozen BK423.out 0;have hfz13_1 := blk_frozen BK423.out 1;have p424 : 0 ≤ (x6_2 : Int) := of_decide_eq_true (by first | (with_reducible assumption) | assumption);have q424 : x6_2 < (l0_1.length : Int) := of_decide_eq_true (by first | (with_reducible assumption) | assumption);obtain ⟨ad424, A424_0, c424_0, e424, hx424_0, hl424_0, hi424_0⟩ := at_L1 HR0_1.out x6_2 p424 q424;cases e424;replace hx424_0 := (HB.out.cell (World.block_lt_of_cell? w _ hx424_0)).trans hx424_0;have HR424_0 := Aside0.mk hi424_0;have HC424_0 := Aside0.mk hl424_0;clear hi424_0 hl424_0;replace p424 := eq_true p424;replace q424 := eq_true q424
         go_wp2
         go_ret
         exact ⟨by first | rfl | (simp [errW_none, errW_some] <;> rfl) | (simp [*, errW_none, errW_some] <;> rfl), by repeat (first | (with_reducible first | exact HB.out | apply below_alloc | apply pbN | apply below_drew1 | refine below_set ?_ GE423.out) | exact HB.out)⟩
        ·rw [if_neg c12] at H;have c12b0 : decide (x5_2 < ((rd_L1 l0_1 x6_2).length : Int)) = false := decide_eq_false c12;clear c12;have H' := Aside0.mk H;clear H;have hcz14_0 : wr.cell? ⟨gb423, 0, none⟩ = some (.int .i64 a0_0) := (blk_cell BK423.out 0).trans rfl;have hcz14_1 : wr.cell? ⟨gb423, 1, none⟩ = some (.slice A0_1 l0_1.length c0_1) := (blk_cell BK423.out 1).trans rfl;have hfz14_0 := blk_frozen BK423.out 0;have hfz14_1 := blk_frozen BK423.out 1;have p424 : 0 ≤ (x6_2 : Int) := of_decide_eq_true (by first | (with_reducible assumption) | assumption);have q424 : x6_2 < (l0_1.length : Int) := of_decide_eq_true (by first | (with_reducible assumption) | assumption);obtain ⟨ad424, A424_0, c424_0, e424, hx424_0, hl424_0, hi424_0⟩ := at_L1 HR0_1.out x6_2 p424 q424;cases e424;replace hx424_0 := (HB.out.cell (World.block_lt_of_cell? w _ hx424_0)).trans hx424_0;have HR424_0 := Aside0.mk hi424_0;have HC424_0 := Aside0.mk hl424_0;clear hi424_0 hl424_0;replace p424 := eq_true p424;replace q424 := eq_true q424;have p425 : 0 ≤ (x6_2 : Int) := of_decide_eq_true (by first | (with_reducible assumption) | assumption);have q425 : x6_2 < (l0_1.length : Int) := of_decide_eq_true (by first | (with_reducible assumption) | assumption);obtain ⟨ad425, A425_0, c425_0, e425, hx425_0, hl425_0, hi425_0⟩ := at_L1 HR0_1.out x6_2 p425 q425;obtain rfl : ad424 = ad425 := (by injection e425);replace hx425_0 := (HB.out.cell (World.block_lt_of_cell? w _ hx425_0)).trans hx425_0;have HR425_0 := Aside0.mk hi425_0;have HC425_0 := Aside0.mk hl425_0;clear hi425_0 hl425_0;replace p425 := eq_true p425;replace q425 := eq_true q425;have ea_ := Option.some.inj (hx424_0.symm.trans hx425_0)
         injection ea_ with ea_ en_ ec_
         subst ea_;subst ec_;clear en_
         go_wp2
         go_roundg k2
         case measure => have := HJ2.out; have := HK2.out; omega
         case rel => exact ⟨(wrap64 (x5_2 - ((rd_L1 l0_1 x6_2).length : Int))), (wrap64 (x6_2 + 1)), (by first | rfl | (simp; done) | (simp [*]; done)), (by first | rfl | (simp; done) | (simp [*]; done)), H', ⟨by have := HJ2.out; have := HK2.out; omega⟩, ⟨by (with_reducible repeat (first | refine blk_drewN ?_ _ | refine blk_drew ?_ | refine blk_alloc ?_ _)); exact BK423.out⟩, ⟨by repeat (first | (with_reducible first | exact HB.out | apply below_alloc | apply pbN | apply below_drew1 | refine below_set ?_ GE423.out) | exact HB.out)⟩⟩
       ·rw [if_neg c11] at H;exact absurd H (by simp)
      ·rw [if_neg c10] at H;have c10b0 : decide (x6_2 < (l0_1.length : Int)) = false := decide_eq_false c10;clear c10;obtain rfl := Option.some.inj H;have hcz15_0 : wr.cell? ⟨gb423, 0, none⟩ = some (.int .i64 a0_0) := (blk_cell BK423.out 0).trans rfl;have hcz15_1 : wr.cell? ⟨gb423, 1, none⟩ = some (.slice A0_1 l0_1.length c0_1) := (blk_cell BK423.out 1).trans rfl;have hfz15_0 := blk_frozen BK423.out 0;have hfz15_1 := blk_frozen BK423.out 1
       go_wp2
       go_ret
       exact ⟨by first | rfl | (simp [errW_none, errW_some] <;> rfl) | (simp [*, errW_none, errW_some] <;> rfl), by repeat (first | (with_reducible first | exact HB.out | apply below_alloc | apply pbN | apply below_drew1 | refine below_set ?_ GE423.out) | exact HB.out)⟩
mutual
def crM_Few.j0 : Nat → Int → Bool → Int → List (List Int) → Option (Bool)
 | 0, _, _, _, _ => none
 | k + 1, x2, x18, x155000, x155001 => if x18 = true then (some false) else (crM_Few.l0 k x2 0 x155000 x155001)
def crM_Few.l0 : Nat → Int → Int → Int → List (List Int) → Option (Bool)
 | 0, _, _, _, _ => none
 | k + 1, x2, x7, x155000, x155001 => if x7 < (x155001.length : Int) then (if 0 ≤ x7 then (if ((rd_L1 x155001 x7).length : Int) > x2 then (some false) else (crM_Few.l0 k x2 (wrap64 (x7 + 1)) x155000 x155001)) else (none)) else (some true)
end
def crM_Few.f (k : Nat) (a0_0 : Int) (l0_1 : List (List Int)) (a1 : Int) (a2 : Int) : Option (Bool) := if (l0_1.length : Int) > a1 then (crM_Few.j0 k a2 true a0_0 l0_1) else (crM_Few.j0 k a2 (decide (a0_0 > a2)) a0_0 l0_1)
theorem crM_Few.mono_l : ∀ k, (∀ y0 y1 y2 y3, LeO (crM_Few.j0 k y0 y1 y2 y3) (crM_Few.j0 (k + 1) y0 y1 y2 y3)) ∧ (∀ y0 y1 y2 y3, LeO (crM_Few.l0 k y0 y1 y2 y3) (crM_Few.l0 (k + 1) y0 y1 y2 y3))
 | 0 => ⟨fun _ _ _ _ r h => by simp [crM_Few.j0] at h, fun _ _ _ _ r h => by simp [crM_Few.l0] at h⟩
 | k + 1 => by
  obtain ⟨ih0, ih1⟩ := crM_Few.mono_l k;refine ⟨?_, ?_⟩
  ·intro y0 y1 y2 y3;unfold crM_Few.j0
   repeat' first
   | (with_reducible exact ih0 _ _ _ _)
   | (with_reducible exact ih1 _ _ _ _)
   | (with_reducible exact LeO.refl _)
   | (with_reducible exact LeO.none _)
   | (with_reducible refine LeO.ite ?_ ?_)
   | (with_reducible refine LeO.bind ?_ (fun _ => ?_))
   | exact ih0 _ _ _ _
   | exact ih1 _ _ _ _
   | exact LeO.none _
   | refine LeO.ite ?_ ?_
   | refine LeO.bind ?_ (fun _ => ?_)
  ·intro y0 y1 y2 y3;unfold crM_Few.l0
   repeat' first
   | (with_reducible exact ih0 _ _ _ _)
   | (with_reducible exact ih1 _ _ _ _)
   | (with_reducible exact LeO.refl _)
   | (with_reducible exact LeO.none _)
   | (with_reducible refine LeO.ite ?_ ?_)
   | (with_reducible refine LeO.bind ?_ (fun _ => ?_))
   | exact ih0 _ _ _ _
   | exact ih1 _ _ _ _
   | exact LeO.none _
   | refine LeO.ite ?_ ?_
   | refine LeO.bind ?_ (fun _ => ?_)
theorem crM_Few.mono : ∀ a0 a1 a2 a3 k, LeO (crM_Few.f k a0 a1 a2 a3) (crM_Few.f (k + 1) a0 a1 a2 a3) := by
 intro a0 a1 a2 a3 k;obtain ⟨ih0, ih1⟩ := crM_Few.mono_l k;unfold crM_Few.f
 repeat' first
   | (with_reducible exact ih0 _ _ _ _)
   | (with_reducible exact ih1 _ _ _ _)
   | (with_reducible exact LeO.refl _)
   | (with_reducible exact LeO.none _)
   | (with_reducible refine LeO.ite ?_ ?_)
   | (with_reducible refine LeO.bind ?_ (fun _ => ?_))
   | exact ih0 _ _ _ _
   | exact ih1 _ _ _ _
   | exact LeO.none _
   | refine LeO.ite ?_ ?_
   | refine LeO.bind ?_ (fun _ => ?_)
set_option maxHeartbeats 8000000 in
set_option maxRecDepth 100000 in
theorem crM_Few.calls (k : Nat) (a0_0 : Int) (A0_1 : Option Addr) (c0_1 : Nat) (l0_1 : List (List Int)) (a1 : Int) (a2 : Int) (r : Bool) (w : World) (hr0_1 : Kd.C (Kd.slice 3 (Kd.int .i64)) w A0_1 l0_1.length l0_1) (hc0_1 : l0_1.length ≤ c0_1) (h : crM_Few.f k a0_0 l0_1 a1 a2 = some r) :
  Calls Try.prog 14 #[.agg #[.int .i64 a0_0, .slice A0_1 l0_1.length c0_1], .int .i64 a1, .int .i64 a2] w fun e w' => e = .returned (.bool r) ∧ Below w.heap.size w w' := by
 have hu24 := Try.underlying24;have HR0_1 := Aside0.mk hr0_1;have HC0_1 := Aside0.mk hc0_1;clear hr0_1 hc0_1;have HB := Aside0.mk (Below.refl w.heap.size w);have H : (if (l0_1.length : Int) > a1 then (crM_Few.j0 k a2 true a0_0 l0_1) else (crM_Few.j0 k a2 (decide (a0_0 > a2)) a0_0 l0_1)) = some r := h;clear h;have HC4 := Aside0.mk H;clear H;go_enter Try.func14, Try.ntmps14
 go_upto_region 1 with (first | ((with_reducible refine gate_dst (N := 3) rfl ?_); refine box_event ?hg (N := 3) ?hd (cs := #[.int .i64 a0_0, .slice A0_1 l0_1.length c0_1]) (t := 24) ?hr ?_; (case hd => rfl); (case hg => rfl); (case hr => first | (go_simp; done) | (go_simp; rfl)); intro gb154 hg w5 hbox hb; have n0_ := Aside0.mk (below_step (by repeat (first | (with_reducible first | exact HB.out | apply below_alloc | apply pbN | apply below_drew1) | exact HB.out)) hb); have n1_ := Aside0.mk (hbox); have n2_ := Aside0.mk ((by rw [hg]; exact (below_size (by repeat (first | (with_reducible first | exact HB.out | apply below_alloc | apply pbN | apply below_drew1) | exact HB.out))) : w.heap.size ≤ gb154)); have n3_ := Aside0.mk ((by rw [hg]; exact (below_size (by repeat (first | (with_reducible first | exact HB.out | apply below_alloc | apply pbN | apply below_drew1) | exact HB.out))) : w.heap.size ≤ gb154)); clear HB; have HB := n0_; have BK154 := n1_; have GW154 := n2_; have GE154 := n3_; clear n0_ n1_ n2_ n3_; clear hb hbox hg))
 (try simp only [Act.put, List.setIfInBounds_toArray, List.set_cons_zero, List.set_cons_succ])
 go_cut [18] (fun v18 wc => ∃ (kq : Nat) (x18_3 : Bool), v18 = .bool x18_3 ∧ Aside0 (crM_Few.j0 kq a2 x18_3 a0_0 l0_1 = some r) ∧ Aside0 (kq ≤ k) ∧ Aside0 (wc.heap[gb154]? = some (.cells #[.int .i64 a0_0, (.slice A0_1 l0_1.length c0_1)] 24 (0, 0))) ∧ Aside0 (Below w.heap.size w wc))
 case first =>
  have H := HC4.out;clear HC4;by_cases c6 : (l0_1.length : Int) > a1
  ·rw [if_pos c6] at H;have c6b0 : decide (a1 < (l0_1.length : Int)) = true := decide_eq_true c6;clear c6;(first | rw [c6b0] | (simp only [i64_w, i32_w]; rw [c6b0]) | skip);have H' := Aside0.mk H;clear H;have hcz7_0 : w5.cell? ⟨gb154, 0, none⟩ = some (.int .i64 a0_0) := (blk_cell BK154.out 0).trans rfl;have hcz7_1 : w5.cell? ⟨gb154, 1, none⟩ = some (.slice A0_1 l0_1.length c0_1) := (blk_cell BK154.out 1).trans rfl;have hfz7_0 := blk_frozen BK154.out 0;have hfz7_1 := blk_frozen BK154.out 1
   go_wp2
   go_meet
   case rel => exact ⟨_, (true), (by first | rfl | (simp; done) | (simp [*]; done)), H', ⟨by first | omega | exact Nat.le_refl _⟩, ⟨by (with_reducible repeat (first | refine blk_drewN ?_ _ | refine blk_drew ?_ | refine blk_alloc ?_ _)); exact BK154.out⟩, ⟨by repeat (first | (with_reducible first | exact HB.out | apply below_alloc | apply pbN | apply below_drew1 | refine below_set ?_ GE154.out) | exact HB.out)⟩⟩
  ·rw [if_neg c6] at H;have c6b0 : decide (a1 < (l0_1.length : Int)) = false := decide_eq_false c6;clear c6;(first | rw [c6b0] | (simp only [i64_w, i32_w]; rw [c6b0]) | skip);have H' := Aside0.mk H;clear H;have hcz8_0 : w5.cell? ⟨gb154, 0, none⟩ = some (.int .i64 a0_0) := (blk_cell BK154.out 0).trans rfl;have hcz8_1 : w5.cell? ⟨gb154, 1, none⟩ = some (.slice A0_1 l0_1.length c0_1) := (blk_cell BK154.out 1).trans rfl;have hfz8_0 := blk_frozen BK154.out 0;have hfz8_1 := blk_frozen BK154.out 1
   go_wp2
   go_meet
   case rel => exact ⟨_, (decide (a0_0 > a2)), (by first | rfl | (simp; done) | (simp [*]; done)), H', ⟨by first | omega | exact Nat.le_refl _⟩, ⟨by (with_reducible repeat (first | refine blk_drewN ?_ _ | refine blk_drew ?_ | refine blk_alloc ?_ _)); exact BK154.out⟩, ⟨by repeat (first | (with_reducible first | exact HB.out | apply below_alloc | apply pbN | apply below_drew1 | refine below_set ?_ GE154.out) | exact HB.out)⟩⟩
 case rest =>
  clear HC4
  try clear c1
  try clear p2
  try clear c6
  try clear c6b0
  try clear hcz7_0
  try clear hcz7_1
  try clear hcz8_0
  try clear hcz8_1
  try clear hfz7_0
  try clear hfz7_1
  try clear hfz8_0
  try clear hfz8_1
  obtain ⟨kq, x18_3, rfl, HA, HJ3, BK154, HB⟩ := hcut
  cases kq with
  | zero => exact absurd HA.out (by simp [crM_Few.j0])
  | succ kj3 =>
   have H := HA.out;clear HA;simp only [crM_Few.j0] at H;by_cases c9 : x18_3 = true
   ·subst c9;(have H1 : (some false) = some r := by rw [if_pos rfl] at H; exact H);clear H;have H := H1;clear H1;obtain rfl := Option.some.inj H
    go_wp2
    go_ret
    exact ⟨by first | rfl | (simp [errW_none, errW_some] <;> rfl) | (simp [*, errW_none, errW_some] <;> rfl), by repeat (first | (with_reducible first | exact HB.out | apply below_alloc | apply pbN | apply below_drew1 | refine below_set ?_ GE154.out) | exact HB.out)⟩
   ·replace c9 := Bool.eq_false_iff.mpr c9;subst c9;(have H1 : (crM_Few.l0 kj3 a2 0 a0_0 l0_1) = some r := by rw [if_neg (show ¬ (false = true) by decide)] at H; exact H);clear H;have H := H1;clear H1;have H' := Aside0.mk H;clear H
    go_wp2
    go_loopg [7] kj3 (fun kq v7 w' => ∃ (x7_2 : Int), v7 = .int .i64 x7_2 ∧ Aside0 (crM_Few.l0 kq a2 x7_2 a0_0 l0_1 = some r) ∧ Aside0 (kq ≤ kj3) ∧ Aside0 (w'.heap[gb154]? = some (.cells #[.int .i64 a0_0, (.slice A0_1 l0_1.length c0_1)] 24 (0, 0))) ∧ Aside0 (Below w.heap.size w w'))
    case atStart => exact ⟨(0), (by first | rfl | (simp; done) | (simp [*]; done)), H', ⟨Nat.le_refl _⟩, ⟨by (with_reducible repeat (first | refine blk_drewN ?_ _ | refine blk_drew ?_ | refine blk_alloc ?_ _)); exact BK154.out⟩, ⟨by repeat (first | (with_reducible first | exact HB.out | apply below_alloc | apply pbN | apply below_drew1 | refine below_set ?_ GE154.out) | exact HB.out)⟩⟩
    case round =>
     clear H'
     try clear c1
     try clear p2
     try clear c6
     try clear c6b0
     try clear c9
     try clear hcz7_0
     try clear hcz7_1
     try clear hcz8_0
     try clear hcz8_1
     try clear hfz7_0
     try clear hfz7_1
     try clear hfz8_0
     try clear hfz8_1
     try clear p2
     obtain ⟨x7_2, rfl, HA, HK2, BK154, HB⟩ := hrel
     cases gk with
     | zero => exact absurd HA.out (by simp [crM_Few.l0])
     | succ k2 =>
      have H := HA.out;clear HA;simp only [crM_Few.l0] at H;by_cases c10 : x7_2 < (l0_1.length : Int)
      ·rw [if_pos c10] at H;have c10b0 : decide (x7_2 < (l0_1.length : Int)) = true := decide_eq_true c10;clear c10;by_cases c11 : 0 ≤ x7_2
       ·rw [if_pos c11] at H;have c11b0 : decide (0 ≤ x7_2) = true := decide_eq_true c11;clear c11;by_cases c12 : ((rd_L1 l0_1 x7_2).length : Int) > a2
        ·rw [if_pos c12] at H;have c12b0 : decide (a2 < ((rd_L1 l0_1 x7_2).length : Int)) = true := decide_eq_true c12;clear c12;obtain rfl := Option.some.inj H;have hcz13_0 : wr.cell? ⟨gb154, 0, none⟩ = some (.int .i64 a0_0) := (blk_cell BK154.out 0).trans rfl;have hcz13_1 : wr.cell? ⟨gb154, 1, none⟩ = some (.slice A0_1 l0_1.length c0_1) := (blk_cell BK154.out 1).trans rfl;have hfz13_0 := blk_frozen BK154.out 0;have hfz13_1 := blk_frozen BK154.out 1;have p155 : 0 ≤ (x7_2 : Int) := of_decide_eq_true (by first | (with_reducible assumption) | assumption);have q155 : x7_2 < (l0_1.length : Int) := of_decide_eq_true (by first | (with_reducible assumption) | assumption);obtain ⟨ad155, A155_0, c155_0, e155, hx155_0, hl155_0, hi155_0⟩ := at_L1 HR0_1.out x7_2 p155 q155;cases e155;replace hx155_0 := (HB.out.cell (World.block_lt_of_cell? w _ hx155_0)).trans hx155_0;have HR155_0 := Aside0.mk hi155_0;have HC155_0 := Aside0.mk hl155_0;clear hi155_0 hl155_0;replace p155 := eq_true p155;replace q155 := eq_true q155
         go_wp2
         go_ret
         exact ⟨by first | rfl | (simp [errW_none, errW_some] <;> rfl) | (simp [*, errW_none, errW_some] <;> rfl), by repeat (first | (with_reducible first | exact HB.out | apply below_alloc | apply pbN | apply below_drew1 | refine below_set ?_ GE154.out) | exact HB.out)⟩
        ·rw [if_neg c12] at H;have c12b0 : decide (a2 < ((rd_L1 l0_1 x7_2).length : Int)) = false := decide_eq_false c12;clear c12;have H' := Aside0.mk H;clear H;have hcz14_0 : wr.cell? ⟨gb154, 0, none⟩ = some (.int .i64 a0_0) := (blk_cell BK154.out 0).trans rfl;have hcz14_1 : wr.cell? ⟨gb154, 1, none⟩ = some (.slice A0_1 l0_1.length c0_1) := (blk_cell BK154.out 1).trans rfl;have hfz14_0 := blk_frozen BK154.out 0;have hfz14_1 := blk_frozen BK154.out 1;have p155 : 0 ≤ (x7_2 : Int) := of_decide_eq_true (by first | (with_reducible assumption) | assumption);have q155 : x7_2 < (l0_1.length : Int) := of_decide_eq_true (by first | (with_reducible assumption) | assumption);obtain ⟨ad155, A155_0, c155_0, e155, hx155_0, hl155_0, hi155_0⟩ := at_L1 HR0_1.out x7_2 p155 q155;cases e155;replace hx155_0 := (HB.out.cell (World.block_lt_of_cell? w _ hx155_0)).trans hx155_0;have HR155_0 := Aside0.mk hi155_0;have HC155_0 := Aside0.mk hl155_0;clear hi155_0 hl155_0;replace p155 := eq_true p155;replace q155 := eq_true q155
         go_wp2
         go_roundg k2
         case measure => have := HJ3.out; have := HK2.out; omega
         case rel => exact ⟨(wrap64 (x7_2 + 1)), (by first | rfl | (simp; done) | (simp [*]; done)), H', ⟨by have := HJ3.out; have := HK2.out; omega⟩, ⟨by (with_reducible repeat (first | refine blk_drewN ?_ _ | refine blk_drew ?_ | refine blk_alloc ?_ _)); exact BK154.out⟩, ⟨by repeat (first | (with_reducible first | exact HB.out | apply below_alloc | apply pbN | apply below_drew1 | refine below_set ?_ GE154.out) | exact HB.out)⟩⟩
       ·rw [if_neg c11] at H;exact absurd H (by simp)
      ·rw [if_neg c10] at H;have c10b0 : decide (x7_2 < (l0_1.length : Int)) = false := decide_eq_false c10;clear c10;obtain rfl := Option.some.inj H;have hcz15_0 : wr.cell? ⟨gb154, 0, none⟩ = some (.int .i64 a0_0) := (blk_cell BK154.out 0).trans rfl;have hcz15_1 : wr.cell? ⟨gb154, 1, none⟩ = some (.slice A0_1 l0_1.length c0_1) := (blk_cell BK154.out 1).trans rfl;have hfz15_0 := blk_frozen BK154.out 0;have hfz15_1 := blk_frozen BK154.out 1
       go_wp2
       go_ret
       exact ⟨by first | rfl | (simp [errW_none, errW_some] <;> rfl) | (simp [*, errW_none, errW_some] <;> rfl), by repeat (first | (with_reducible first | exact HB.out | apply below_alloc | apply pbN | apply below_drew1 | refine below_set ?_ GE154.out) | exact HB.out)⟩
end Go.Proofs.Ytmclalniilkjiaa.Q
/- The printed Few functions end; what they tell. No condition. -/
namespace Go.Proofs.Ytmclalniilkjiaa.Fw
open Go.RowKit Go.Proofs.Ytmclalniilkjiaa.Q Go.Proofs.YtmclalniilkjiaaW.PrintWords Go.Proofs.YtmclalniilkjiaaW.PrintLast Go.Proofs.Ytmclalniilkjiaa.Ba Go.Proofs.Ytmclalniilkjiaa.Ck

theorem few9_l0 (c : Int) (rows : List (List Int)) (hr : rows.length ≤ 2000) : ∀ (d i : Nat) (x : Int), i + d = rows.length → 0 ≤ x → x ≤ 2000 → ∃ b, Ev (fun k => cr9_Few.l0 k x (i : Int) c rows) b
 | 0, i, x, h, h0, h1 => ⟨true, Ev.step (f := fun _ => some true) (fun k => by simp only [cr9_Few.l0]; rw [if_neg (by omega)]) (Ev.now _)⟩
 | d + 1, i, x, h, h0, h1 => by
  by_cases hx : ((rows.getD i []).length : Int) > x
  ·refine ⟨false, Ev.step (f := fun _ => some false) (fun k => ?_) (Ev.now _)⟩
   simp only [cr9_Few.l0, rd_L1_nat]
   rw [if_pos (by omega), if_pos (by omega), if_pos hx]
  ·obtain ⟨b, ih⟩ := few9_l0 c rows hr d (i + 1) (x - (rows.getD i []).length) (by omega) (by omega) (by omega)
   refine ⟨b, Ev.step (fun k => ?_) ih⟩
   simp only [cr9_Few.l0, rd_L1_nat]
   rw [if_pos (by omega), if_pos (by omega), if_neg hx, w64_id (by omega) (by omega), w64_id (by omega) (by omega)]
   rfl
theorem few9 (c : Int) (rows : List (List Int)) : ∃ b, Ev (fun k => cr9_Few.f k c rows 2000) b ∧ (b = true → rows.length ≤ 2000 ∧ c ≤ 260) := by
 have hj : Ev (fun k => cr9_Few.j0 k 2000 true c rows) false := Ev.step (f := fun _ => some false) (fun k => by simp only [cr9_Few.j0]; rw [if_pos trivial]) (Ev.now _)
 unfold cr9_Few.f
 by_cases h1 : c > 260
 ·exact ⟨false, Ev.congr (fun k => if_pos h1) hj, fun h => by cases h⟩
 by_cases h2 : (rows.length : Int) > 2000
 ·exact ⟨false, Ev.congr (fun k => if_neg h1) (by rw [decide_eq_true h2]; exact hj), fun h => by cases h⟩
 obtain ⟨b, hb⟩ := few9_l0 c rows (by omega) rows.length 0 (2000 - rows.length) (by omega) (by omega) (by omega)
 refine ⟨b, Ev.congr (fun k => if_neg h1) ?_, fun _ => ⟨by omega, by omega⟩⟩
 rw [decide_eq_false h2]
 refine Ev.step (fun k => ?_) hb
 simp only [cr9_Few.j0]
 rw [if_neg Bool.false_ne_true, w64_id (by omega) (by omega)]
 rfl
theorem few45_l0 (c : Int) (rows : List (List Int)) (m : Int) (hr : rows.length ≤ 4611686018427387904) : ∀ (d i : Nat), i + d = rows.length → (∀ j, j < i → ((rows.getD j []).length : Int) ≤ m) → ∃ b, Ev (fun k => crM_Few.l0 k m (i : Int) c rows) b ∧ (b = true → ∀ j, j < rows.length → ((rows.getD j []).length : Int) ≤ m)
 | 0, i, h, h0 => ⟨true, Ev.step (f := fun _ => some true) (fun k => by simp only [crM_Few.l0]; rw [if_neg (by omega)]) (Ev.now _), fun _ j hj => h0 j (by omega)⟩
 | d + 1, i, h, h0 => by
  by_cases hx : ((rows.getD i []).length : Int) > m
  ·refine ⟨false, Ev.step (f := fun _ => some false) (fun k => ?_) (Ev.now _), fun h => by cases h⟩
   simp only [crM_Few.l0, rd_L1_nat]
   rw [if_pos (by omega), if_pos (by omega), if_pos hx]
  ·obtain ⟨b, ih, hb⟩ := few45_l0 c rows m hr d (i + 1) (by omega) (fun j hj => by by_cases e : j = i; (· subst e; omega); (· exact h0 j (by omega)))
   refine ⟨b, Ev.step (fun k => ?_) ih, hb⟩
   simp only [crM_Few.l0, rd_L1_nat]
   rw [if_pos (by omega), if_pos (by omega), if_neg hx, w64_id (by omega) (by omega)]
   rfl
theorem few45 (c : Int) (rows : List (List Int)) (n m : Int) (hn : n ≤ 4611686018427387904) : ∃ b, Ev (fun k => crM_Few.f k c rows n m) b ∧ (b = true → (rows.length : Int) ≤ n ∧ c ≤ m ∧ ∀ j, j < rows.length → ((rows.getD j []).length : Int) ≤ m) := by
 have hj : Ev (fun k => crM_Few.j0 k m true c rows) false := Ev.step (f := fun _ => some false) (fun k => by simp only [crM_Few.j0]; rw [if_pos trivial]) (Ev.now _)
 unfold crM_Few.f
 by_cases h1 : (rows.length : Int) > n
 ·exact ⟨false, Ev.congr (fun k => if_pos h1) hj, fun h => by cases h⟩
 by_cases h2 : c > m
 ·exact ⟨false, Ev.congr (fun k => if_neg h1) (by rw [decide_eq_true h2]; exact hj), fun h => by cases h⟩
 obtain ⟨b, hb, hb2⟩ := few45_l0 c rows m (by omega) rows.length 0 (by omega) (fun j hj => by omega)
 refine ⟨b, Ev.congr (fun k => if_neg h1) ?_, fun h => ⟨by omega, by omega, hb2 h⟩⟩
 rw [decide_eq_false h2]
 refine Ev.step (fun k => ?_) hb
 simp only [crM_Few.j0]
 rw [if_neg Bool.false_ne_true]
 rfl
end Go.Proofs.Ytmclalniilkjiaa.Fw
namespace Go.Proofs.Ytmclalniilkjiaa.Q
open Go.RowKit Go.Proofs.YtmclalniilkjiaaW.PrintWords Go.Proofs.YtmclalniilkjiaaW.PrintLast Go.Proofs.YtmclalniilkjiaaW.PrintMore
attribute [local go_sem] max2_int min2_int max_two min_two max_three min_three max_four min_four
set_option linter.unusedVariables false
set_option linter.unusedSimpArgs false
def cw_MessageFlips.j0 : Nat → List Int → List Int → List Int → Int → Bool → Int → List (List Int) → Option (Bool)
 | 0, _, _, _, _, _, _, _ => none
 | k + 1, x1, x5, x6, x7, x62, x469000, x469001 => if x62 = true then (some false) else ((crM_Few.f k x469000 x469001 24 24).bind fun t486 => (if t486 = true then ((crM_Flip.f k x469000 x469001 x1).bind fun bt487 => (if x7 = 0 then ((cr9_SameInts.f k x5 bt487.1).bind fun t493 => (if t493 = true then ((cr9_SameInts.f k x6 bt487.2).bind fun t494 => (some t494)) else (some false))) else (some false))) else (some true)))
def cw_MessageFlips.f (k : Nat) (a0_0 : Int) (l0_1 : List (List Int)) (l1 : List Int) : Option (Bool) := (cr9_Few.f k a0_0 l0_1 2000).bind fun t469 => (if t469 = true then ((message_Flip.f k a0_0 l0_1 l1).bind fun bt470 => ((message_Unsatisfied.f k a0_0 l0_1 l1).bind fun bt477 => ((crM_Word.f k a0_0 l0_1 l1).bind fun t481 => (if t481 = 0 then (if bt477.2 = 0 then ((crM_Unsatisfied.f k a0_0 l0_1 l1).bind fun t482 => ((cr9_SameInts.f k bt477.1 t482).bind fun t485 => (cw_MessageFlips.j0 k l1 bt470.1 bt470.2.1 bt470.2.2 (!t485) a0_0 l0_1))) else (cw_MessageFlips.j0 k l1 bt470.1 bt470.2.1 bt470.2.2 true a0_0 l0_1)) else (if bt470.2.2 = t481 then (if bt477.2 = t481 then (some ((wrap64 ((wrap64 ((bt470.1.length : Int) + (bt470.2.1.length : Int))) + (bt477.1.length : Int))) == 0)) else (some false)) else (some false)))))) else (some true))
theorem cw_MessageFlips.mono_l : ∀ k, (∀ y0 y1 y2 y3 y4 y5 y6, LeO (cw_MessageFlips.j0 k y0 y1 y2 y3 y4 y5 y6) (cw_MessageFlips.j0 (k + 1) y0 y1 y2 y3 y4 y5 y6))
 | 0 => fun _ _ _ _ _ _ _ r h => by simp [cw_MessageFlips.j0] at h
 | k + 1 => by
  have ih0 := cw_MessageFlips.mono_l k
  ·intro y0 y1 y2 y3 y4 y5 y6;unfold cw_MessageFlips.j0
   repeat' first
   | (with_reducible exact ih0 _ _ _ _ _ _ _)
   | (with_reducible exact cr9_Few.mono _ _ _ _)
   | (with_reducible exact cr9_SameInts.mono _ _ _)
   | (with_reducible exact crM_Few.mono _ _ _ _ _)
   | (with_reducible exact crM_Flip.mono _ _ _ _)
   | (with_reducible exact crM_Unsatisfied.mono _ _ _ _)
   | (with_reducible exact crM_Word.mono _ _ _ _)
   | (with_reducible exact message_Flip.mono _ _ _ _)
   | (with_reducible exact message_Unsatisfied.mono _ _ _ _)
   | (with_reducible exact LeO.refl _)
   | (with_reducible exact LeO.none _)
   | (with_reducible refine LeO.ite ?_ ?_)
   | (with_reducible refine LeO.bind ?_ (fun _ => ?_))
   | exact ih0 _ _ _ _ _ _ _
   | exact cr9_Few.mono _ _ _ _
   | exact cr9_SameInts.mono _ _ _
   | exact crM_Few.mono _ _ _ _ _
   | exact crM_Flip.mono _ _ _ _
   | exact crM_Unsatisfied.mono _ _ _ _
   | exact crM_Word.mono _ _ _ _
   | exact message_Flip.mono _ _ _ _
   | exact message_Unsatisfied.mono _ _ _ _
   | exact LeO.none _
   | refine LeO.ite ?_ ?_
   | refine LeO.bind ?_ (fun _ => ?_)
theorem cw_MessageFlips.mono : ∀ a0 a1 a2 k, LeO (cw_MessageFlips.f k a0 a1 a2) (cw_MessageFlips.f (k + 1) a0 a1 a2) := by
 intro a0 a1 a2 k;have ih0 := cw_MessageFlips.mono_l k;unfold cw_MessageFlips.f
 repeat' first
   | (with_reducible exact ih0 _ _ _ _ _ _ _)
   | (with_reducible exact cr9_Few.mono _ _ _ _)
   | (with_reducible exact cr9_SameInts.mono _ _ _)
   | (with_reducible exact crM_Few.mono _ _ _ _ _)
   | (with_reducible exact crM_Flip.mono _ _ _ _)
   | (with_reducible exact crM_Unsatisfied.mono _ _ _ _)
   | (with_reducible exact crM_Word.mono _ _ _ _)
   | (with_reducible exact message_Flip.mono _ _ _ _)
   | (with_reducible exact message_Unsatisfied.mono _ _ _ _)
   | (with_reducible exact LeO.refl _)
   | (with_reducible exact LeO.none _)
   | (with_reducible refine LeO.ite ?_ ?_)
   | (with_reducible refine LeO.bind ?_ (fun _ => ?_))
   | exact ih0 _ _ _ _ _ _ _
   | exact cr9_Few.mono _ _ _ _
   | exact cr9_SameInts.mono _ _ _
   | exact crM_Few.mono _ _ _ _ _
   | exact crM_Flip.mono _ _ _ _
   | exact crM_Unsatisfied.mono _ _ _ _
   | exact crM_Word.mono _ _ _ _
   | exact message_Flip.mono _ _ _ _
   | exact message_Unsatisfied.mono _ _ _ _
   | exact LeO.none _
   | refine LeO.ite ?_ ?_
   | refine LeO.bind ?_ (fun _ => ?_)
set_option maxHeartbeats 8000000 in
set_option maxRecDepth 100000 in
theorem cw_MessageFlips.calls (k : Nat) (a0_0 : Int) (A0_1 : Option Addr) (c0_1 : Nat) (l0_1 : List (List Int)) (A1 : Option Addr) (c1 : Nat) (l1 : List Int) (r : Bool) (w : World) (hr0_1 : Kd.C (Kd.slice 3 (Kd.int .i64)) w A0_1 l0_1.length l0_1) (hc0_1 : l0_1.length ≤ c0_1) (hr1 : Kd.C (Kd.int .i64) w A1 l1.length l1) (hc1 : l1.length ≤ c1) (h : cw_MessageFlips.f k a0_0 l0_1 l1 = some r) :
  Calls Try.prog 6 #[.agg #[.int .i64 a0_0, .slice A0_1 l0_1.length c0_1], .slice A1 l1.length c1] w fun e w' => e = .returned (.bool r) ∧ Below w.heap.size w w' := by
 have hu24 := Try.underlying24;have HR0_1 := Aside0.mk hr0_1;have HC0_1 := Aside0.mk hc0_1;clear hr0_1 hc0_1;have HR1 := Aside0.mk hr1;have HC1 := Aside0.mk hc1;clear hr1 hc1;have HB := Aside0.mk (Below.refl w.heap.size w);have H : ((cr9_Few.f k a0_0 l0_1 2000).bind fun t469 => (if t469 = true then ((message_Flip.f k a0_0 l0_1 l1).bind fun bt470 => ((message_Unsatisfied.f k a0_0 l0_1 l1).bind fun bt477 => ((crM_Word.f k a0_0 l0_1 l1).bind fun t481 => (if t481 = 0 then (if bt477.2 = 0 then ((crM_Unsatisfied.f k a0_0 l0_1 l1).bind fun t482 => ((cr9_SameInts.f k bt477.1 t482).bind fun t485 => (cw_MessageFlips.j0 k l1 bt470.1 bt470.2.1 bt470.2.2 (!t485) a0_0 l0_1))) else (cw_MessageFlips.j0 k l1 bt470.1 bt470.2.1 bt470.2.2 true a0_0 l0_1)) else (if bt470.2.2 = t481 then (if bt477.2 = t481 then (some ((wrap64 ((wrap64 ((bt470.1.length : Int) + (bt470.2.1.length : Int))) + (bt477.1.length : Int))) == 0)) else (some false)) else (some false)))))) else (some true))) = some r := h;clear h;replace H := Option.bind_eq_some_iff.mp H;obtain ⟨t469, A30, H⟩ := H;replace H : (if t469 = true then ((message_Flip.f k a0_0 l0_1 l1).bind fun bt470 => ((message_Unsatisfied.f k a0_0 l0_1 l1).bind fun bt477 => ((crM_Word.f k a0_0 l0_1 l1).bind fun t481 => (if t481 = 0 then (if bt477.2 = 0 then ((crM_Unsatisfied.f k a0_0 l0_1 l1).bind fun t482 => ((cr9_SameInts.f k bt477.1 t482).bind fun t485 => (cw_MessageFlips.j0 k l1 bt470.1 bt470.2.1 bt470.2.2 (!t485) a0_0 l0_1))) else (cw_MessageFlips.j0 k l1 bt470.1 bt470.2.1 bt470.2.2 true a0_0 l0_1)) else (if bt470.2.2 = t481 then (if bt477.2 = t481 then (some ((wrap64 ((wrap64 ((bt470.1.length : Int) + (bt470.2.1.length : Int))) + (bt477.1.length : Int))) == 0)) else (some false)) else (some false)))))) else (some true)) = some r := H;have A3 := Aside0.mk A30;clear A30;by_cases c4 : t469 = true
 ·subst c4;have H1 : ((message_Flip.f k a0_0 l0_1 l1).bind fun bt470 => ((message_Unsatisfied.f k a0_0 l0_1 l1).bind fun bt477 => ((crM_Word.f k a0_0 l0_1 l1).bind fun t481 => (if t481 = 0 then (if bt477.2 = 0 then ((crM_Unsatisfied.f k a0_0 l0_1 l1).bind fun t482 => ((cr9_SameInts.f k bt477.1 t482).bind fun t485 => (cw_MessageFlips.j0 k l1 bt470.1 bt470.2.1 bt470.2.2 (!t485) a0_0 l0_1))) else (cw_MessageFlips.j0 k l1 bt470.1 bt470.2.1 bt470.2.2 true a0_0 l0_1)) else (if bt470.2.2 = t481 then (if bt477.2 = t481 then (some ((wrap64 ((wrap64 ((bt470.1.length : Int) + (bt470.2.1.length : Int))) + (bt477.1.length : Int))) == 0)) else (some false)) else (some false)))))) = some r := by rw [if_pos rfl] at H; exact H
  clear H;have H := H1;clear H1;replace H := Option.bind_eq_some_iff.mp H;obtain ⟨⟨t470, t473, t476⟩, A50, H⟩ := H;replace H : ((message_Unsatisfied.f k a0_0 l0_1 l1).bind fun bt477 => ((crM_Word.f k a0_0 l0_1 l1).bind fun t481 => (if t481 = 0 then (if bt477.2 = 0 then ((crM_Unsatisfied.f k a0_0 l0_1 l1).bind fun t482 => ((cr9_SameInts.f k bt477.1 t482).bind fun t485 => (cw_MessageFlips.j0 k l1 t470 t473 t476 (!t485) a0_0 l0_1))) else (cw_MessageFlips.j0 k l1 t470 t473 t476 true a0_0 l0_1)) else (if t476 = t481 then (if bt477.2 = t481 then (some ((wrap64 ((wrap64 ((t470.length : Int) + (t473.length : Int))) + (bt477.1.length : Int))) == 0)) else (some false)) else (some false))))) = some r := H;have A5 := Aside0.mk A50;clear A50;replace H := Option.bind_eq_some_iff.mp H;obtain ⟨⟨t477, t480⟩, A60, H⟩ := H;replace H : ((crM_Word.f k a0_0 l0_1 l1).bind fun t481 => (if t481 = 0 then (if t480 = 0 then ((crM_Unsatisfied.f k a0_0 l0_1 l1).bind fun t482 => ((cr9_SameInts.f k t477 t482).bind fun t485 => (cw_MessageFlips.j0 k l1 t470 t473 t476 (!t485) a0_0 l0_1))) else (cw_MessageFlips.j0 k l1 t470 t473 t476 true a0_0 l0_1)) else (if t476 = t481 then (if t480 = t481 then (some ((wrap64 ((wrap64 ((t470.length : Int) + (t473.length : Int))) + (t477.length : Int))) == 0)) else (some false)) else (some false)))) = some r := H;have A6 := Aside0.mk A60;clear A60;replace H := Option.bind_eq_some_iff.mp H;obtain ⟨t481, A70, H⟩ := H;replace H : (if t481 = 0 then (if t480 = 0 then ((crM_Unsatisfied.f k a0_0 l0_1 l1).bind fun t482 => ((cr9_SameInts.f k t477 t482).bind fun t485 => (cw_MessageFlips.j0 k l1 t470 t473 t476 (!t485) a0_0 l0_1))) else (cw_MessageFlips.j0 k l1 t470 t473 t476 true a0_0 l0_1)) else (if t476 = t481 then (if t480 = t481 then (some ((wrap64 ((wrap64 ((t470.length : Int) + (t473.length : Int))) + (t477.length : Int))) == 0)) else (some false)) else (some false))) = some r := H;have A7 := Aside0.mk A70;clear A70;by_cases c8 : t481 = 0
  ·rw [if_pos c8] at H;have c8b0 : (t481 == 0) = true := beq_iff_eq.mpr c8;have c8b1 : (t481 != 0) = false := bne_eq_false_iff_eq.mpr c8;clear c8;have HC9 := Aside0.mk H;clear H;go_enter Try.func6, Try.ntmps6
   go_upto_region 8 with (first | ((with_reducible refine gate_dst (N := 2) rfl ?_); (try (refine gate_guard (by rfl) ?_; dsimp only)); refine box_event ?hg (N := 2) ?hd (cs := #[.int .i64 a0_0, .slice A0_1 l0_1.length c0_1]) (t := 24) ?hr ?_; (case hd => rfl); (case hg => rfl); (case hr => first | (go_simp; done) | (go_simp; rfl)); intro gb468 hg w10 hbox hb; have n0_ := Aside0.mk (below_step (by repeat (first | (with_reducible first | exact HB.out | apply below_alloc | apply pbN | apply below_drew1) | exact HB.out)) hb); have n1_ := Aside0.mk (hbox); have n2_ := Aside0.mk ((by rw [hg]; exact (below_size (by repeat (first | (with_reducible first | exact HB.out | apply below_alloc | apply pbN | apply below_drew1) | exact HB.out))) : w.heap.size ≤ gb468)); have n3_ := Aside0.mk ((by rw [hg]; exact (below_size (by repeat (first | (with_reducible first | exact HB.out | apply below_alloc | apply pbN | apply below_drew1) | exact HB.out))) : w.heap.size ≤ gb468)); clear HB; have HB := n0_; have BK468 := n1_; have GW468 := n2_; have GE468 := n3_; clear n0_ n1_ n2_ n3_; clear hb hbox hg; have hcz11_0 : w10.cell? ⟨gb468, 0, none⟩ = some (.int .i64 a0_0) := (blk_cell BK468.out 0).trans rfl; have hcz11_1 : w10.cell? ⟨gb468, 1, none⟩ = some (.slice A0_1 l0_1.length c0_1) := (blk_cell BK468.out 1).trans rfl; have hfz11_0 := blk_frozen BK468.out 0; have hfz11_1 := blk_frozen BK468.out 1) | ((with_reducible refine gate_callee (f := 28) rfl ?_); refine goesL_ (some 14) rfl rfl Try.func28 (by kernel_rfl) rfl #[.agg #[.int .i64 a0_0, .slice A0_1 l0_1.length c0_1], .int .i64 2000] rfl (by (try simp only [List.map_toArray, List.map_cons, List.map_nil]); first | done | rfl | (simp only [List.length_drop, List.length_take]; rfl)) ?_; (with_reducible refine (cr9_Few.calls k a0_0 _ _ l0_1 2000 true _ ?side1 ?side2 A3.out).mono ?_); (case side1 => repeat (first | exact (Kd.C_below HR0_1.out HB.out) | (with_reducible refine Kd.C_alloc ?_ _) | (with_reducible refine Kd.C_drewN ?_ _) | (with_reducible refine Kd.C_drew ?_))); (case side2 => exact HC0_1.out); rintro e w12 ⟨rfl, hb⟩; refine ⟨_, rfl, ?_⟩; have n0_ := Aside0.mk (blk_below (g := gb468) (o := .cells #[.int .i64 a0_0, .slice A0_1 l0_1.length c0_1] 24 (0, 0)) (by (with_reducible repeat (first | refine blk_drewN ?_ _ | refine blk_drew ?_ | refine blk_alloc ?_ _)); exact BK468.out) hb); have n1_ := Aside0.mk (below_step (by repeat (first | (with_reducible first | exact HB.out | apply below_alloc | apply pbN | apply below_drew1 | refine below_set ?_ GE468.out) | exact HB.out)) hb); clear BK468; clear HB; have BK468 := n0_; have HB := n1_; clear n0_ n1_; (try clear hb); (try clear hb2); (try clear hk); (try clear hi); have hcz13_0 : w12.cell? ⟨gb468, 0, none⟩ = some (.int .i64 a0_0) := (blk_cell BK468.out 0).trans rfl; have hcz13_1 : w12.cell? ⟨gb468, 1, none⟩ = some (.slice A0_1 l0_1.length c0_1) := (blk_cell BK468.out 1).trans rfl; have hfz13_0 := blk_frozen BK468.out 0; have hfz13_1 := blk_frozen BK468.out 1) | ((with_reducible refine gate_callee (f := 24) rfl ?_); refine goesL_ (some 19) rfl rfl Try.func24 (by kernel_rfl) rfl #[.agg #[.int .i64 a0_0, .slice A0_1 l0_1.length c0_1], .slice A1 l1.length c1] rfl (by (try simp only [List.map_toArray, List.map_cons, List.map_nil]); first | done | rfl | (simp only [List.length_drop, List.length_take]; rfl)) ?_; (with_reducible refine (message_Flip.calls k a0_0 _ _ l0_1 _ _ l1 t470 t473 t476 _ ?side1 ?side2 ?side3 ?side4 A5.out).mono ?_); (case side1 => repeat (first | exact (Kd.C_below HR0_1.out HB.out) | (with_reducible refine Kd.C_alloc ?_ _) | (with_reducible refine Kd.C_drewN ?_ _) | (with_reducible refine Kd.C_drew ?_))); (case side2 => exact HC0_1.out); (case side3 => repeat (first | exact (Kd.C_below HR1.out HB.out) | (with_reducible refine Kd.C_alloc ?_ _) | (with_reducible refine Kd.C_drewN ?_ _) | (with_reducible refine Kd.C_drew ?_))); (case side4 => exact HC1.out); rintro e w14 ⟨v471, v474, rfl, ho0, ho1, hb⟩; refine ⟨_, rfl, ?_⟩; have n0_ := Aside0.mk (Kd.R_lower ho0 (below_size (by repeat (first | (with_reducible first | exact HB.out | apply below_alloc | apply pbN | apply below_drew1 | refine below_set ?_ GE468.out) | exact HB.out)))); have n1_ := Aside0.mk (Kd.R_lower ho1 (below_size (by repeat (first | (with_reducible first | exact HB.out | apply below_alloc | apply pbN | apply below_drew1 | refine below_set ?_ GE468.out) | exact HB.out)))); have n2_ := Aside0.mk (blk_below (g := gb468) (o := .cells #[.int .i64 a0_0, .slice A0_1 l0_1.length c0_1] 24 (0, 0)) (by (with_reducible repeat (first | refine blk_drewN ?_ _ | refine blk_drew ?_ | refine blk_alloc ?_ _)); exact BK468.out) hb); have n3_ := Aside0.mk (below_step (by repeat (first | (with_reducible first | exact HB.out | apply below_alloc | apply pbN | apply below_drew1 | refine below_set ?_ GE468.out) | exact HB.out)) hb); clear BK468; clear HB; have HO472 := n0_; have HO475 := n1_; have BK468 := n2_; have HB := n3_; clear n0_ n1_ n2_ n3_; (try clear hb); (try clear hb2); (try clear hk); (try clear hi); (try clear ho0); (try clear ho1); have hcz15_0 : w14.cell? ⟨gb468, 0, none⟩ = some (.int .i64 a0_0) := (blk_cell BK468.out 0).trans rfl; have hcz15_1 : w14.cell? ⟨gb468, 1, none⟩ = some (.slice A0_1 l0_1.length c0_1) := (blk_cell BK468.out 1).trans rfl; have hfz15_0 := blk_frozen BK468.out 0; have hfz15_1 := blk_frozen BK468.out 1) | ((with_reducible refine gate_callee (f := 33) rfl ?_); refine goesL_ (some 26) rfl rfl Try.func33 (by kernel_rfl) rfl #[.agg #[.int .i64 a0_0, .slice A0_1 l0_1.length c0_1], .slice A1 l1.length c1] rfl (by (try simp only [List.map_toArray, List.map_cons, List.map_nil]); first | done | rfl | (simp only [List.length_drop, List.length_take]; rfl)) ?_; (with_reducible refine (message_Unsatisfied.calls k a0_0 _ _ l0_1 _ _ l1 t477 t480 _ ?side1 ?side2 ?side3 ?side4 A6.out).mono ?_); (case side1 => repeat (first | exact (Kd.C_below HR0_1.out HB.out) | (with_reducible refine Kd.C_alloc ?_ _) | (with_reducible refine Kd.C_drewN ?_ _) | (with_reducible refine Kd.C_drew ?_))); (case side2 => exact HC0_1.out); (case side3 => repeat (first | exact (Kd.C_below HR1.out HB.out) | (with_reducible refine Kd.C_alloc ?_ _) | (with_reducible refine Kd.C_drewN ?_ _) | (with_reducible refine Kd.C_drew ?_))); (case side4 => exact HC1.out); rintro e w16 ⟨v478, rfl, ho0, hb⟩; refine ⟨_, rfl, ?_⟩; have n0_ := Aside0.mk (Kd.R_elder' (by (with_reducible repeat (first | apply Kd.R_alloc | apply Kd.R_drewN | apply Kd.R_drew)); exact HO472.out) (Kd.R_base ho0) hb); have n1_ := Aside0.mk (Kd.R_elder' (by (with_reducible repeat (first | apply Kd.R_alloc | apply Kd.R_drewN | apply Kd.R_drew)); exact HO475.out) (Kd.R_base ho0) hb); have n2_ := Aside0.mk (Kd.R_lower (Kd.R_new' (Kd.R_new' ho0 (Kd.R_lt (by (with_reducible repeat (first | apply Kd.R_alloc | apply Kd.R_drewN | apply Kd.R_drew)); exact HO472.out))) (Kd.R_lt (by (with_reducible repeat (first | apply Kd.R_alloc | apply Kd.R_drewN | apply Kd.R_drew)); exact HO475.out))) (below_size (by repeat (first | (with_reducible first | exact HB.out | apply below_alloc | apply pbN | apply below_drew1 | refine below_set ?_ GE468.out) | exact HB.out)))); have n3_ := Aside0.mk (blk_below (g := gb468) (o := .cells #[.int .i64 a0_0, .slice A0_1 l0_1.length c0_1] 24 (0, 0)) (by (with_reducible repeat (first | refine blk_drewN ?_ _ | refine blk_drew ?_ | refine blk_alloc ?_ _)); exact BK468.out) hb); have n4_ := Aside0.mk (below_step (by repeat (first | (with_reducible first | exact HB.out | apply below_alloc | apply pbN | apply below_drew1 | refine below_set ?_ GE468.out) | exact HB.out)) hb); clear HO472; clear HO475; clear BK468; clear HB; have HO472 := n0_; have HO475 := n1_; have HO479 := n2_; have BK468 := n3_; have HB := n4_; clear n0_ n1_ n2_ n3_ n4_; (try clear hb); (try clear hb2); (try clear hk); (try clear hi); (try clear ho0); have hcz17_0 : w16.cell? ⟨gb468, 0, none⟩ = some (.int .i64 a0_0) := (blk_cell BK468.out 0).trans rfl; have hcz17_1 : w16.cell? ⟨gb468, 1, none⟩ = some (.slice A0_1 l0_1.length c0_1) := (blk_cell BK468.out 1).trans rfl; have hfz17_0 := blk_frozen BK468.out 0; have hfz17_1 := blk_frozen BK468.out 1) | ((with_reducible refine gate_callee (f := 23) rfl ?_); refine goesL_ (some 31) rfl rfl Try.func23 (by kernel_rfl) rfl #[.agg #[.int .i64 a0_0, .slice A0_1 l0_1.length c0_1], .slice A1 l1.length c1] rfl (by (try simp only [List.map_toArray, List.map_cons, List.map_nil]); first | done | rfl | (simp only [List.length_drop, List.length_take]; rfl)) ?_; (with_reducible refine (crM_Word.calls k a0_0 _ _ l0_1 _ _ l1 t481 _ ?side1 ?side2 ?side3 ?side4 A7.out).mono ?_); (case side1 => repeat (first | exact (Kd.C_below HR0_1.out HB.out) | (with_reducible refine Kd.C_alloc ?_ _) | (with_reducible refine Kd.C_drewN ?_ _) | (with_reducible refine Kd.C_drew ?_))); (case side2 => exact HC0_1.out); (case side3 => repeat (first | exact (Kd.C_below HR1.out HB.out) | (with_reducible refine Kd.C_alloc ?_ _) | (with_reducible refine Kd.C_drewN ?_ _) | (with_reducible refine Kd.C_drew ?_))); (case side4 => exact HC1.out); rintro e w18 ⟨rfl, hb⟩; refine ⟨_, rfl, ?_⟩; have n0_ := Aside0.mk (Kd.R_below (by (with_reducible repeat (first | apply Kd.R_alloc | apply Kd.R_drewN | apply Kd.R_drew)); exact HO472.out) hb); have n1_ := Aside0.mk (Kd.R_below (by (with_reducible repeat (first | apply Kd.R_alloc | apply Kd.R_drewN | apply Kd.R_drew)); exact HO475.out) hb); have n2_ := Aside0.mk (Kd.R_below (by (with_reducible repeat (first | apply Kd.R_alloc | apply Kd.R_drewN | apply Kd.R_drew)); exact HO479.out) hb); have n3_ := Aside0.mk (blk_below (g := gb468) (o := .cells #[.int .i64 a0_0, .slice A0_1 l0_1.length c0_1] 24 (0, 0)) (by (with_reducible repeat (first | refine blk_drewN ?_ _ | refine blk_drew ?_ | refine blk_alloc ?_ _)); exact BK468.out) hb); have n4_ := Aside0.mk (below_step (by repeat (first | (with_reducible first | exact HB.out | apply below_alloc | apply pbN | apply below_drew1 | refine below_set ?_ GE468.out) | exact HB.out)) hb); clear HO472; clear HO475; clear HO479; clear BK468; clear HB; have HO472 := n0_; have HO475 := n1_; have HO479 := n2_; have BK468 := n3_; have HB := n4_; clear n0_ n1_ n2_ n3_ n4_; (try clear hb); (try clear hb2); (try clear hk); (try clear hi)))
   (try simp only [Act.put, List.setIfInBounds_toArray, List.set_cons_zero, List.set_cons_succ])
   go_cut [62] (fun v62 wc => ∃ (kq : Nat) (x62_8 : Bool), v62 = .bool x62_8 ∧ Aside0 (cw_MessageFlips.j0 kq l1 t470 t473 t476 x62_8 a0_0 l0_1 = some r) ∧ Aside0 (kq ≤ k) ∧ Aside0 (Kd.R (Kd.int .i64) 3 wc w.heap.size (fun k_ => some k_ ≠ (v474 : Value).ownBlock) v471 t470) ∧ Aside0 (Kd.R (Kd.int .i64) 3 wc w.heap.size (fun k_ => some k_ ≠ (v471 : Value).ownBlock) v474 t473) ∧ Aside0 (wc.heap[gb468]? = some (.cells #[.int .i64 a0_0, (.slice A0_1 l0_1.length c0_1)] 24 (0, 0))) ∧ Aside0 (Below w.heap.size w wc))
   case first =>
    have H := HC9.out;clear HC9;by_cases c19 : t480 = 0
    ·rw [if_pos c19] at H;have c19b0 : (t480 == 0) = true := beq_iff_eq.mpr c19;have c19b1 : (t480 != 0) = false := bne_eq_false_iff_eq.mpr c19;clear c19;(first | rw [c19b0] | (simp only [i64_w, i32_w]; rw [c19b0]) | skip);replace H := Option.bind_eq_some_iff.mp H;obtain ⟨t482, A200, H⟩ := H;replace H : ((cr9_SameInts.f k t477 t482).bind fun t485 => (cw_MessageFlips.j0 k l1 t470 t473 t476 (!t485) a0_0 l0_1)) = some r := H;have A20 := Aside0.mk A200;clear A200;replace H := Option.bind_eq_some_iff.mp H;obtain ⟨t485, A210, H⟩ := H;replace H : (cw_MessageFlips.j0 k l1 t470 t473 t476 (!t485) a0_0 l0_1) = some r := H;have A21 := Aside0.mk A210;clear A210;have H' := Aside0.mk H;clear H;have hcz22_0 : w18.cell? ⟨gb468, 0, none⟩ = some (.int .i64 a0_0) := (blk_cell BK468.out 0).trans rfl;have hcz22_1 : w18.cell? ⟨gb468, 1, none⟩ = some (.slice A0_1 l0_1.length c0_1) := (blk_cell BK468.out 1).trans rfl;have hfz22_0 := blk_frozen BK468.out 0;have hfz22_1 := blk_frozen BK468.out 1
     go_wp2_with (first | (go_at_call 22; (with_reducible refine (crM_Unsatisfied.calls k a0_0 _ _ l0_1 _ _ l1 t482 _ ?side1 ?side2 ?side3 ?side4 A20.out).mono ?_); (case side1 => repeat (first | exact (Kd.C_below HR0_1.out HB.out) | (with_reducible refine Kd.C_alloc ?_ _) | (with_reducible refine Kd.C_drewN ?_ _) | (with_reducible refine Kd.C_drew ?_))); (case side2 => exact HC0_1.out); (case side3 => repeat (first | exact (Kd.C_below HR1.out HB.out) | (with_reducible refine Kd.C_alloc ?_ _) | (with_reducible refine Kd.C_drewN ?_ _) | (with_reducible refine Kd.C_drew ?_))); (case side4 => exact HC1.out); rintro e w23 ⟨v483, rfl, ho0, hb⟩; have n0_ := Aside0.mk (Kd.R_elder' (by (with_reducible repeat (first | apply Kd.R_alloc | apply Kd.R_drewN | apply Kd.R_drew)); exact HO472.out) (Kd.R_base ho0) hb); have n1_ := Aside0.mk (Kd.R_elder' (by (with_reducible repeat (first | apply Kd.R_alloc | apply Kd.R_drewN | apply Kd.R_drew)); exact HO475.out) (Kd.R_base ho0) hb); have n2_ := Aside0.mk (Kd.R_elder' (by (with_reducible repeat (first | apply Kd.R_alloc | apply Kd.R_drewN | apply Kd.R_drew)); exact HO479.out) (Kd.R_base ho0) hb); have n3_ := Aside0.mk (Kd.R_lower (Kd.R_new' (Kd.R_new' (Kd.R_new' ho0 (Kd.R_lt (by (with_reducible repeat (first | apply Kd.R_alloc | apply Kd.R_drewN | apply Kd.R_drew)); exact HO472.out))) (Kd.R_lt (by (with_reducible repeat (first | apply Kd.R_alloc | apply Kd.R_drewN | apply Kd.R_drew)); exact HO475.out))) (Kd.R_lt (by (with_reducible repeat (first | apply Kd.R_alloc | apply Kd.R_drewN | apply Kd.R_drew)); exact HO479.out))) (below_size (by repeat (first | (with_reducible first | exact HB.out | apply below_alloc | apply pbN | apply below_drew1 | refine below_set ?_ GE468.out) | exact HB.out)))); have n4_ := Aside0.mk (blk_below (g := gb468) (o := .cells #[.int .i64 a0_0, .slice A0_1 l0_1.length c0_1] 24 (0, 0)) (by (with_reducible repeat (first | refine blk_drewN ?_ _ | refine blk_drew ?_ | refine blk_alloc ?_ _)); exact BK468.out) hb); have n5_ := Aside0.mk (below_step (by repeat (first | (with_reducible first | exact HB.out | apply below_alloc | apply pbN | apply below_drew1 | refine below_set ?_ GE468.out) | exact HB.out)) hb); clear HO472; clear HO475; clear HO479; clear BK468; clear HB; have HO472 := n0_; have HO475 := n1_; have HO479 := n2_; have HO484 := n3_; have BK468 := n4_; have HB := n5_; clear n0_ n1_ n2_ n3_ n4_ n5_; (try clear hb); (try clear hb2); (try clear hk); (try clear hi); (try clear ho0); obtain ⟨Ao24, co24, eo24⟩ := Kd.R_slice HO479.out; subst eo24; obtain ⟨Ao25, co25, eo25⟩ := Kd.R_slice HO484.out; subst eo25) | (go_at_call 27; (with_reducible refine (cr9_SameInts.calls k _ _ t477 _ _ t482 t485 _ ?side1 ?side2 ?side3 ?side4 A21.out).mono ?_); (case side1 => repeat (first | exact (Kd.R_reads' HO479.out).2.2 | (with_reducible refine Kd.C_alloc ?_ _) | (with_reducible refine Kd.C_drewN ?_ _) | (with_reducible refine Kd.C_drew ?_))); (case side2 => exact (Kd.R_reads' HO479.out).2.1); (case side3 => repeat (first | exact (Kd.R_reads' HO484.out).2.2 | (with_reducible refine Kd.C_alloc ?_ _) | (with_reducible refine Kd.C_drewN ?_ _) | (with_reducible refine Kd.C_drew ?_))); (case side4 => exact (Kd.R_reads' HO484.out).2.1); rintro e w' ⟨rfl, ⟨nd, rfl⟩⟩))
     go_meet
     case rel => exact ⟨_, (!t485), (by first | rfl | (simp; done) | (simp [*]; done)), H', ⟨by first | omega | exact Nat.le_refl _⟩, ⟨by (with_reducible repeat (first | apply Kd.R_alloc | apply Kd.R_drewN | apply Kd.R_drew)); exact Kd.R_mono HO472.out (fun _ hk => hk.1.1)⟩, ⟨by (with_reducible repeat (first | apply Kd.R_alloc | apply Kd.R_drewN | apply Kd.R_drew)); exact Kd.R_mono HO475.out (fun _ hk => hk.1.1)⟩, ⟨by (with_reducible repeat (first | refine blk_drewN ?_ _ | refine blk_drew ?_ | refine blk_alloc ?_ _)); exact BK468.out⟩, ⟨by repeat (first | (with_reducible first | exact HB.out | apply below_alloc | apply pbN | apply below_drew1 | refine below_set ?_ GE468.out) | exact HB.out)⟩⟩
    ·rw [if_neg c19] at H;have c19b0 : (t480 == 0) = false := beq_eq_false_iff_ne.mpr c19;have c19b1 : (t480 != 0) = true := bne_iff_ne.mpr c19;(first | rw [c19b0] | (simp only [i64_w, i32_w]; rw [c19b0]) | skip);have H' := Aside0.mk H;clear H
     go_wp2
     go_meet
     case rel => exact ⟨_, (true), (by first | rfl | (simp; done) | (simp [*]; done)), H', ⟨by first | omega | exact Nat.le_refl _⟩, ⟨by (with_reducible repeat (first | apply Kd.R_alloc | apply Kd.R_drewN | apply Kd.R_drew)); exact Kd.R_mono HO472.out (fun _ hk => hk.1)⟩, ⟨by (with_reducible repeat (first | apply Kd.R_alloc | apply Kd.R_drewN | apply Kd.R_drew)); exact Kd.R_mono HO475.out (fun _ hk => hk.1)⟩, ⟨by (with_reducible repeat (first | refine blk_drewN ?_ _ | refine blk_drew ?_ | refine blk_alloc ?_ _)); exact BK468.out⟩, ⟨by repeat (first | (with_reducible first | exact HB.out | apply below_alloc | apply pbN | apply below_drew1 | refine below_set ?_ GE468.out) | exact HB.out)⟩⟩
   case rest =>
    clear HC9
    try clear c1
    try clear c2
    try clear p2
    try clear c3
    try clear c4
    try clear c6
    try clear p6
    try clear c8
    try clear c8b0
    try clear c8b1
    try clear c19
    try clear c19b0
    try clear c19b1
    try clear c23
    try clear c24
    try clear hcz11_0
    try clear hcz11_1
    try clear hcz13_0
    try clear hcz13_1
    try clear hcz15_0
    try clear hcz15_1
    try clear hcz17_0
    try clear hcz17_1
    try clear hcz22_0
    try clear hcz22_1
    try clear hfz11_0
    try clear hfz11_1
    try clear hfz13_0
    try clear hfz13_1
    try clear hfz15_0
    try clear hfz15_1
    try clear hfz17_0
    try clear hfz17_1
    try clear hfz22_0
    try clear hfz22_1
    obtain ⟨kq, x62_8, rfl, HA, HJ8, HO_5, HO_6, BK468, HB⟩ := hcut
    cases kq with
    | zero => exact absurd HA.out (by simp [cw_MessageFlips.j0])
    | succ kj8 =>
     have H := HA.out;clear HA;simp only [cw_MessageFlips.j0] at H;by_cases c26 : x62_8 = true
     ·subst c26;(have H1 : (some false) = some r := by rw [if_pos rfl] at H; exact H);clear H;have H := H1;clear H1;obtain rfl := Option.some.inj H
      go_wp2
      go_ret
      exact ⟨by first | rfl | (simp [errW_none, errW_some] <;> rfl) | (simp [*, errW_none, errW_some] <;> rfl), by repeat (first | (with_reducible first | exact HB.out | apply below_alloc | apply pbN | apply below_drew1 | refine below_set ?_ GE468.out) | exact HB.out)⟩
     ·replace c26 := Bool.eq_false_iff.mpr c26;subst c26;(have H1 : ((crM_Few.f kj8 a0_0 l0_1 24 24).bind fun t486 => (if t486 = true then ((crM_Flip.f kj8 a0_0 l0_1 l1).bind fun bt487 => (if t476 = 0 then ((cr9_SameInts.f kj8 t470 bt487.1).bind fun t493 => (if t493 = true then ((cr9_SameInts.f kj8 t473 bt487.2).bind fun t494 => (some t494)) else (some false))) else (some false))) else (some true))) = some r := by rw [if_neg (show ¬ (false = true) by decide)] at H; exact H);clear H;have H := H1;clear H1;replace H := Option.bind_eq_some_iff.mp H;obtain ⟨t486, A270, H⟩ := H;replace H : (if t486 = true then ((crM_Flip.f kj8 a0_0 l0_1 l1).bind fun bt487 => (if t476 = 0 then ((cr9_SameInts.f kj8 t470 bt487.1).bind fun t493 => (if t493 = true then ((cr9_SameInts.f kj8 t473 bt487.2).bind fun t494 => (some t494)) else (some false))) else (some false))) else (some true)) = some r := H;have A27 := Aside0.mk A270;clear A270;by_cases c28 : t486 = true
      ·subst c28;(have H1 : ((crM_Flip.f kj8 a0_0 l0_1 l1).bind fun bt487 => (if t476 = 0 then ((cr9_SameInts.f kj8 t470 bt487.1).bind fun t493 => (if t493 = true then ((cr9_SameInts.f kj8 t473 bt487.2).bind fun t494 => (some t494)) else (some false))) else (some false))) = some r := by rw [if_pos rfl] at H; exact H);clear H;have H := H1;clear H1;replace H := Option.bind_eq_some_iff.mp H;obtain ⟨⟨t487, t490⟩, A290, H⟩ := H;replace H : (if t476 = 0 then ((cr9_SameInts.f kj8 t470 t487).bind fun t493 => (if t493 = true then ((cr9_SameInts.f kj8 t473 t490).bind fun t494 => (some t494)) else (some false))) else (some false)) = some r := H;have A29 := Aside0.mk A290;clear A290;by_cases c30 : t476 = 0
       ·rw [if_pos c30] at H;have c30b0 : (t476 == 0) = true := beq_iff_eq.mpr c30;have c30b1 : (t476 != 0) = false := bne_eq_false_iff_eq.mpr c30;clear c30;replace H := Option.bind_eq_some_iff.mp H;obtain ⟨t493, A310, H⟩ := H;replace H : (if t493 = true then ((cr9_SameInts.f kj8 t473 t490).bind fun t494 => (some t494)) else (some false)) = some r := H;have A31 := Aside0.mk A310;clear A310;by_cases c32 : t493 = true
        ·subst c32;(have H1 : ((cr9_SameInts.f kj8 t473 t490).bind fun t494 => (some t494)) = some r := by rw [if_pos rfl] at H; exact H);clear H;have H := H1;clear H1;replace H := Option.bind_eq_some_iff.mp H;obtain ⟨t494, A330, H⟩ := H;replace H : (some t494) = some r := H;have A33 := Aside0.mk A330;clear A330;obtain rfl := Option.some.inj H;have hcz34_0 : wc.cell? ⟨gb468, 0, none⟩ = some (.int .i64 a0_0) := (blk_cell BK468.out 0).trans rfl;have hcz34_1 : wc.cell? ⟨gb468, 1, none⟩ = some (.slice A0_1 l0_1.length c0_1) := (blk_cell BK468.out 1).trans rfl;have hfz34_0 := blk_frozen BK468.out 0;have hfz34_1 := blk_frozen BK468.out 1
         go_wp2_with (first | ((with_reducible refine gate_callee (f := 14) rfl ?_); refine goesL_ (some 64) rfl rfl Try.func14 (by kernel_rfl) rfl #[.agg #[.int .i64 a0_0, .slice A0_1 l0_1.length c0_1], .int .i64 24, .int .i64 24] rfl (by (try simp only [List.map_toArray, List.map_cons, List.map_nil]); first | done | rfl | (simp only [List.length_drop, List.length_take]; rfl)) ?_; (with_reducible refine (crM_Few.calls kj8 a0_0 _ _ l0_1 24 24 true _ ?side1 ?side2 A27.out).mono ?_); (case side1 => repeat (first | exact (Kd.C_below HR0_1.out HB.out) | (with_reducible refine Kd.C_alloc ?_ _) | (with_reducible refine Kd.C_drewN ?_ _) | (with_reducible refine Kd.C_drew ?_))); (case side2 => exact HC0_1.out); rintro e w35 ⟨rfl, hb⟩; refine ⟨_, rfl, ?_⟩; have n0_ := Aside0.mk (Kd.R_below (by (with_reducible repeat (first | apply Kd.R_alloc | apply Kd.R_drewN | apply Kd.R_drew)); exact HO_5.out) hb); have n1_ := Aside0.mk (Kd.R_below (by (with_reducible repeat (first | apply Kd.R_alloc | apply Kd.R_drewN | apply Kd.R_drew)); exact HO_6.out) hb); have n2_ := Aside0.mk (blk_below (g := gb468) (o := .cells #[.int .i64 a0_0, .slice A0_1 l0_1.length c0_1] 24 (0, 0)) (by (with_reducible repeat (first | refine blk_drewN ?_ _ | refine blk_drew ?_ | refine blk_alloc ?_ _)); exact BK468.out) hb); have n3_ := Aside0.mk (below_step (by repeat (first | (with_reducible first | exact HB.out | apply below_alloc | apply pbN | apply below_drew1 | refine below_set ?_ GE468.out) | exact HB.out)) hb); clear HO_5; clear HO_6; clear BK468; clear HB; have HO_5 := n0_; have HO_6 := n1_; have BK468 := n2_; have HB := n3_; clear n0_ n1_ n2_ n3_; (try clear hb); (try clear hb2); (try clear hk); (try clear hi); have hcz36_0 : w35.cell? ⟨gb468, 0, none⟩ = some (.int .i64 a0_0) := (blk_cell BK468.out 0).trans rfl; have hcz36_1 : w35.cell? ⟨gb468, 1, none⟩ = some (.slice A0_1 l0_1.length c0_1) := (blk_cell BK468.out 1).trans rfl; have hfz36_0 := blk_frozen BK468.out 0; have hfz36_1 := blk_frozen BK468.out 1) | ((with_reducible refine gate_callee (f := 34) rfl ?_); refine goesL_ (some 69) rfl rfl Try.func34 (by kernel_rfl) rfl #[.agg #[.int .i64 a0_0, .slice A0_1 l0_1.length c0_1], .slice A1 l1.length c1] rfl (by (try simp only [List.map_toArray, List.map_cons, List.map_nil]); first | done | rfl | (simp only [List.length_drop, List.length_take]; rfl)) ?_; (with_reducible refine (crM_Flip.calls kj8 a0_0 _ _ l0_1 _ _ l1 t487 t490 _ ?side1 ?side2 ?side3 ?side4 A29.out).mono ?_); (case side1 => repeat (first | exact (Kd.C_below HR0_1.out HB.out) | (with_reducible refine Kd.C_alloc ?_ _) | (with_reducible refine Kd.C_drewN ?_ _) | (with_reducible refine Kd.C_drew ?_))); (case side2 => exact HC0_1.out); (case side3 => repeat (first | exact (Kd.C_below HR1.out HB.out) | (with_reducible refine Kd.C_alloc ?_ _) | (with_reducible refine Kd.C_drewN ?_ _) | (with_reducible refine Kd.C_drew ?_))); (case side4 => exact HC1.out); rintro e w37 ⟨v488, v491, rfl, ho0, ho1, hb⟩; refine ⟨_, rfl, ?_⟩; have n0_ := Aside0.mk (Kd.R_mono (Kd.R_told (Kd.R_told (Kd.R_old (by (with_reducible repeat (first | apply Kd.R_alloc | apply Kd.R_drewN | apply Kd.R_drew)); exact HO_5.out) hb) (Kd.R_base ho0)) (Kd.R_base ho1)) (fun _ h_ => h_.1)); have n1_ := Aside0.mk (Kd.R_mono (Kd.R_told (Kd.R_told (Kd.R_old (by (with_reducible repeat (first | apply Kd.R_alloc | apply Kd.R_drewN | apply Kd.R_drew)); exact HO_6.out) hb) (Kd.R_base ho0)) (Kd.R_base ho1)) (fun _ h_ => h_.1)); have n2_ := Aside0.mk (Kd.R_lower (Kd.R_new' (Kd.R_new' ho0 (Kd.R_lt (by (with_reducible repeat (first | apply Kd.R_alloc | apply Kd.R_drewN | apply Kd.R_drew)); exact HO_5.out))) (Kd.R_lt (by (with_reducible repeat (first | apply Kd.R_alloc | apply Kd.R_drewN | apply Kd.R_drew)); exact HO_6.out))) (below_size (by repeat (first | (with_reducible first | exact HB.out | apply below_alloc | apply pbN | apply below_drew1 | refine below_set ?_ GE468.out) | exact HB.out)))); have n3_ := Aside0.mk (Kd.R_lower (Kd.R_new' (Kd.R_new' ho1 (Kd.R_lt (by (with_reducible repeat (first | apply Kd.R_alloc | apply Kd.R_drewN | apply Kd.R_drew)); exact HO_5.out))) (Kd.R_lt (by (with_reducible repeat (first | apply Kd.R_alloc | apply Kd.R_drewN | apply Kd.R_drew)); exact HO_6.out))) (below_size (by repeat (first | (with_reducible first | exact HB.out | apply below_alloc | apply pbN | apply below_drew1 | refine below_set ?_ GE468.out) | exact HB.out)))); have n4_ := Aside0.mk (blk_below (g := gb468) (o := .cells #[.int .i64 a0_0, .slice A0_1 l0_1.length c0_1] 24 (0, 0)) (by (with_reducible repeat (first | refine blk_drewN ?_ _ | refine blk_drew ?_ | refine blk_alloc ?_ _)); exact BK468.out) hb); have n5_ := Aside0.mk (below_step (by repeat (first | (with_reducible first | exact HB.out | apply below_alloc | apply pbN | apply below_drew1 | refine below_set ?_ GE468.out) | exact HB.out)) hb); clear HO_5; clear HO_6; clear BK468; clear HB; have HO_5 := n0_; have HO_6 := n1_; have HO489 := n2_; have HO492 := n3_; have BK468 := n4_; have HB := n5_; clear n0_ n1_ n2_ n3_ n4_ n5_; (try clear hb); (try clear hb2); (try clear hk); (try clear hi); (try clear ho0); (try clear ho1); obtain ⟨Ao38, co38, eo38⟩ := Kd.R_slice HO_5.out; subst eo38; obtain ⟨Ao39, co39, eo39⟩ := Kd.R_slice HO489.out; subst eo39) | (go_at_call 27; (with_reducible refine (cr9_SameInts.calls kj8 _ _ t470 _ _ t487 true _ ?side1 ?side2 ?side3 ?side4 A31.out).mono ?_); (case side1 => repeat (first | exact (Kd.R_reads' HO_5.out).2.2 | (with_reducible refine Kd.C_alloc ?_ _) | (with_reducible refine Kd.C_drewN ?_ _) | (with_reducible refine Kd.C_drew ?_))); (case side2 => exact (Kd.R_reads' HO_5.out).2.1); (case side3 => repeat (first | exact (Kd.R_reads' HO489.out).2.2 | (with_reducible refine Kd.C_alloc ?_ _) | (with_reducible refine Kd.C_drewN ?_ _) | (with_reducible refine Kd.C_drew ?_))); (case side4 => exact (Kd.R_reads' HO489.out).2.1); rintro e w' ⟨rfl, ⟨nd, rfl⟩⟩; obtain ⟨Ao40, co40, eo40⟩ := Kd.R_slice HO_6.out; subst eo40; obtain ⟨Ao41, co41, eo41⟩ := Kd.R_slice HO492.out; subst eo41) | (go_at_call 27; (with_reducible refine (cr9_SameInts.calls kj8 _ _ t473 _ _ t490 t494 _ ?side1 ?side2 ?side3 ?side4 A33.out).mono ?_); (case side1 => repeat (first | exact (Kd.R_reads' HO_6.out).2.2 | (with_reducible refine Kd.C_alloc ?_ _) | (with_reducible refine Kd.C_drewN ?_ _) | (with_reducible refine Kd.C_drew ?_))); (case side2 => exact (Kd.R_reads' HO_6.out).2.1); (case side3 => repeat (first | exact (Kd.R_reads' HO492.out).2.2 | (with_reducible refine Kd.C_alloc ?_ _) | (with_reducible refine Kd.C_drewN ?_ _) | (with_reducible refine Kd.C_drew ?_))); (case side4 => exact (Kd.R_reads' HO492.out).2.1); rintro e w' ⟨rfl, ⟨nd, rfl⟩⟩))
         go_ret
         exact ⟨by first | rfl | (simp [errW_none, errW_some] <;> rfl) | (simp [*, errW_none, errW_some] <;> rfl), by repeat (first | (with_reducible first | exact HB.out | apply below_alloc | apply pbN | apply below_drew1 | refine below_set ?_ GE468.out) | exact HB.out)⟩
        ·replace c32 := Bool.eq_false_iff.mpr c32;subst c32;(have H1 : (some false) = some r := by rw [if_neg (show ¬ (false = true) by decide)] at H; exact H);clear H;have H := H1;clear H1;obtain rfl := Option.some.inj H;have hcz42_0 : wc.cell? ⟨gb468, 0, none⟩ = some (.int .i64 a0_0) := (blk_cell BK468.out 0).trans rfl;have hcz42_1 : wc.cell? ⟨gb468, 1, none⟩ = some (.slice A0_1 l0_1.length c0_1) := (blk_cell BK468.out 1).trans rfl;have hfz42_0 := blk_frozen BK468.out 0;have hfz42_1 := blk_frozen BK468.out 1
         go_wp2_with (first | ((with_reducible refine gate_callee (f := 14) rfl ?_); refine goesL_ (some 64) rfl rfl Try.func14 (by kernel_rfl) rfl #[.agg #[.int .i64 a0_0, .slice A0_1 l0_1.length c0_1], .int .i64 24, .int .i64 24] rfl (by (try simp only [List.map_toArray, List.map_cons, List.map_nil]); first | done | rfl | (simp only [List.length_drop, List.length_take]; rfl)) ?_; (with_reducible refine (crM_Few.calls kj8 a0_0 _ _ l0_1 24 24 true _ ?side1 ?side2 A27.out).mono ?_); (case side1 => repeat (first | exact (Kd.C_below HR0_1.out HB.out) | (with_reducible refine Kd.C_alloc ?_ _) | (with_reducible refine Kd.C_drewN ?_ _) | (with_reducible refine Kd.C_drew ?_))); (case side2 => exact HC0_1.out); rintro e w43 ⟨rfl, hb⟩; refine ⟨_, rfl, ?_⟩; have n0_ := Aside0.mk (Kd.R_below (by (with_reducible repeat (first | apply Kd.R_alloc | apply Kd.R_drewN | apply Kd.R_drew)); exact HO_5.out) hb); have n1_ := Aside0.mk (Kd.R_below (by (with_reducible repeat (first | apply Kd.R_alloc | apply Kd.R_drewN | apply Kd.R_drew)); exact HO_6.out) hb); have n2_ := Aside0.mk (blk_below (g := gb468) (o := .cells #[.int .i64 a0_0, .slice A0_1 l0_1.length c0_1] 24 (0, 0)) (by (with_reducible repeat (first | refine blk_drewN ?_ _ | refine blk_drew ?_ | refine blk_alloc ?_ _)); exact BK468.out) hb); have n3_ := Aside0.mk (below_step (by repeat (first | (with_reducible first | exact HB.out | apply below_alloc | apply pbN | apply below_drew1 | refine below_set ?_ GE468.out) | exact HB.out)) hb); clear HO_5; clear HO_6; clear BK468; clear HB; have HO_5 := n0_; have HO_6 := n1_; have BK468 := n2_; have HB := n3_; clear n0_ n1_ n2_ n3_; (try clear hb); (try clear hb2); (try clear hk); (try clear hi); have hcz44_0 : w43.cell? ⟨gb468, 0, none⟩ = some (.int .i64 a0_0) := (blk_cell BK468.out 0).trans rfl; have hcz44_1 : w43.cell? ⟨gb468, 1, none⟩ = some (.slice A0_1 l0_1.length c0_1) := (blk_cell BK468.out 1).trans rfl; have hfz44_0 := blk_frozen BK468.out 0; have hfz44_1 := blk_frozen BK468.out 1) | ((with_reducible refine gate_callee (f := 34) rfl ?_); refine goesL_ (some 69) rfl rfl Try.func34 (by kernel_rfl) rfl #[.agg #[.int .i64 a0_0, .slice A0_1 l0_1.length c0_1], .slice A1 l1.length c1] rfl (by (try simp only [List.map_toArray, List.map_cons, List.map_nil]); first | done | rfl | (simp only [List.length_drop, List.length_take]; rfl)) ?_; (with_reducible refine (crM_Flip.calls kj8 a0_0 _ _ l0_1 _ _ l1 t487 t490 _ ?side1 ?side2 ?side3 ?side4 A29.out).mono ?_); (case side1 => repeat (first | exact (Kd.C_below HR0_1.out HB.out) | (with_reducible refine Kd.C_alloc ?_ _) | (with_reducible refine Kd.C_drewN ?_ _) | (with_reducible refine Kd.C_drew ?_))); (case side2 => exact HC0_1.out); (case side3 => repeat (first | exact (Kd.C_below HR1.out HB.out) | (with_reducible refine Kd.C_alloc ?_ _) | (with_reducible refine Kd.C_drewN ?_ _) | (with_reducible refine Kd.C_drew ?_))); (case side4 => exact HC1.out); rintro e w45 ⟨v488, v491, rfl, ho0, ho1, hb⟩; refine ⟨_, rfl, ?_⟩; have n0_ := Aside0.mk (Kd.R_mono (Kd.R_told (Kd.R_told (Kd.R_old (by (with_reducible repeat (first | apply Kd.R_alloc | apply Kd.R_drewN | apply Kd.R_drew)); exact HO_5.out) hb) (Kd.R_base ho0)) (Kd.R_base ho1)) (fun _ h_ => h_.1)); have n1_ := Aside0.mk (Kd.R_mono (Kd.R_told (Kd.R_told (Kd.R_old (by (with_reducible repeat (first | apply Kd.R_alloc | apply Kd.R_drewN | apply Kd.R_drew)); exact HO_6.out) hb) (Kd.R_base ho0)) (Kd.R_base ho1)) (fun _ h_ => h_.1)); have n2_ := Aside0.mk (Kd.R_lower (Kd.R_new' (Kd.R_new' ho0 (Kd.R_lt (by (with_reducible repeat (first | apply Kd.R_alloc | apply Kd.R_drewN | apply Kd.R_drew)); exact HO_5.out))) (Kd.R_lt (by (with_reducible repeat (first | apply Kd.R_alloc | apply Kd.R_drewN | apply Kd.R_drew)); exact HO_6.out))) (below_size (by repeat (first | (with_reducible first | exact HB.out | apply below_alloc | apply pbN | apply below_drew1 | refine below_set ?_ GE468.out) | exact HB.out)))); have n3_ := Aside0.mk (Kd.R_lower (Kd.R_new' (Kd.R_new' ho1 (Kd.R_lt (by (with_reducible repeat (first | apply Kd.R_alloc | apply Kd.R_drewN | apply Kd.R_drew)); exact HO_5.out))) (Kd.R_lt (by (with_reducible repeat (first | apply Kd.R_alloc | apply Kd.R_drewN | apply Kd.R_drew)); exact HO_6.out))) (below_size (by repeat (first | (with_reducible first | exact HB.out | apply below_alloc | apply pbN | apply below_drew1 | refine below_set ?_ GE468.out) | exact HB.out)))); have n4_ := Aside0.mk (blk_below (g := gb468) (o := .cells #[.int .i64 a0_0, .slice A0_1 l0_1.length c0_1] 24 (0, 0)) (by (with_reducible repeat (first | refine blk_drewN ?_ _ | refine blk_drew ?_ | refine blk_alloc ?_ _)); exact BK468.out) hb); have n5_ := Aside0.mk (below_step (by repeat (first | (with_reducible first | exact HB.out | apply below_alloc | apply pbN | apply below_drew1 | refine below_set ?_ GE468.out) | exact HB.out)) hb); clear HO_5; clear HO_6; clear BK468; clear HB; have HO_5 := n0_; have HO_6 := n1_; have HO489 := n2_; have HO492 := n3_; have BK468 := n4_; have HB := n5_; clear n0_ n1_ n2_ n3_ n4_ n5_; (try clear hb); (try clear hb2); (try clear hk); (try clear hi); (try clear ho0); (try clear ho1); obtain ⟨Ao46, co46, eo46⟩ := Kd.R_slice HO_5.out; subst eo46; obtain ⟨Ao47, co47, eo47⟩ := Kd.R_slice HO489.out; subst eo47) | (go_at_call 27; (with_reducible refine (cr9_SameInts.calls kj8 _ _ t470 _ _ t487 false _ ?side1 ?side2 ?side3 ?side4 A31.out).mono ?_); (case side1 => repeat (first | exact (Kd.R_reads' HO_5.out).2.2 | (with_reducible refine Kd.C_alloc ?_ _) | (with_reducible refine Kd.C_drewN ?_ _) | (with_reducible refine Kd.C_drew ?_))); (case side2 => exact (Kd.R_reads' HO_5.out).2.1); (case side3 => repeat (first | exact (Kd.R_reads' HO489.out).2.2 | (with_reducible refine Kd.C_alloc ?_ _) | (with_reducible refine Kd.C_drewN ?_ _) | (with_reducible refine Kd.C_drew ?_))); (case side4 => exact (Kd.R_reads' HO489.out).2.1); rintro e w' ⟨rfl, ⟨nd, rfl⟩⟩))
         go_ret
         exact ⟨by first | rfl | (simp [errW_none, errW_some] <;> rfl) | (simp [*, errW_none, errW_some] <;> rfl), by repeat (first | (with_reducible first | exact HB.out | apply below_alloc | apply pbN | apply below_drew1 | refine below_set ?_ GE468.out) | exact HB.out)⟩
       ·rw [if_neg c30] at H;have c30b0 : (t476 == 0) = false := beq_eq_false_iff_ne.mpr c30;have c30b1 : (t476 != 0) = true := bne_iff_ne.mpr c30;obtain rfl := Option.some.inj H;have hcz48_0 : wc.cell? ⟨gb468, 0, none⟩ = some (.int .i64 a0_0) := (blk_cell BK468.out 0).trans rfl;have hcz48_1 : wc.cell? ⟨gb468, 1, none⟩ = some (.slice A0_1 l0_1.length c0_1) := (blk_cell BK468.out 1).trans rfl;have hfz48_0 := blk_frozen BK468.out 0;have hfz48_1 := blk_frozen BK468.out 1
        go_wp2_with (first | ((with_reducible refine gate_callee (f := 14) rfl ?_); refine goesL_ (some 64) rfl rfl Try.func14 (by kernel_rfl) rfl #[.agg #[.int .i64 a0_0, .slice A0_1 l0_1.length c0_1], .int .i64 24, .int .i64 24] rfl (by (try simp only [List.map_toArray, List.map_cons, List.map_nil]); first | done | rfl | (simp only [List.length_drop, List.length_take]; rfl)) ?_; (with_reducible refine (crM_Few.calls kj8 a0_0 _ _ l0_1 24 24 true _ ?side1 ?side2 A27.out).mono ?_); (case side1 => repeat (first | exact (Kd.C_below HR0_1.out HB.out) | (with_reducible refine Kd.C_alloc ?_ _) | (with_reducible refine Kd.C_drewN ?_ _) | (with_reducible refine Kd.C_drew ?_))); (case side2 => exact HC0_1.out); rintro e w49 ⟨rfl, hb⟩; refine ⟨_, rfl, ?_⟩; have n0_ := Aside0.mk (Kd.R_below (by (with_reducible repeat (first | apply Kd.R_alloc | apply Kd.R_drewN | apply Kd.R_drew)); exact HO_5.out) hb); have n1_ := Aside0.mk (Kd.R_below (by (with_reducible repeat (first | apply Kd.R_alloc | apply Kd.R_drewN | apply Kd.R_drew)); exact HO_6.out) hb); have n2_ := Aside0.mk (blk_below (g := gb468) (o := .cells #[.int .i64 a0_0, .slice A0_1 l0_1.length c0_1] 24 (0, 0)) (by (with_reducible repeat (first | refine blk_drewN ?_ _ | refine blk_drew ?_ | refine blk_alloc ?_ _)); exact BK468.out) hb); have n3_ := Aside0.mk (below_step (by repeat (first | (with_reducible first | exact HB.out | apply below_alloc | apply pbN | apply below_drew1 | refine below_set ?_ GE468.out) | exact HB.out)) hb); clear HO_5; clear HO_6; clear BK468; clear HB; have HO_5 := n0_; have HO_6 := n1_; have BK468 := n2_; have HB := n3_; clear n0_ n1_ n2_ n3_; (try clear hb); (try clear hb2); (try clear hk); (try clear hi); have hcz50_0 : w49.cell? ⟨gb468, 0, none⟩ = some (.int .i64 a0_0) := (blk_cell BK468.out 0).trans rfl; have hcz50_1 : w49.cell? ⟨gb468, 1, none⟩ = some (.slice A0_1 l0_1.length c0_1) := (blk_cell BK468.out 1).trans rfl; have hfz50_0 := blk_frozen BK468.out 0; have hfz50_1 := blk_frozen BK468.out 1) | ((with_reducible refine gate_callee (f := 34) rfl ?_); refine goesL_ (some 69) rfl rfl Try.func34 (by kernel_rfl) rfl #[.agg #[.int .i64 a0_0, .slice A0_1 l0_1.length c0_1], .slice A1 l1.length c1] rfl (by (try simp only [List.map_toArray, List.map_cons, List.map_nil]); first | done | rfl | (simp only [List.length_drop, List.length_take]; rfl)) ?_; (with_reducible refine (crM_Flip.calls kj8 a0_0 _ _ l0_1 _ _ l1 t487 t490 _ ?side1 ?side2 ?side3 ?side4 A29.out).mono ?_); (case side1 => repeat (first | exact (Kd.C_below HR0_1.out HB.out) | (with_reducible refine Kd.C_alloc ?_ _) | (with_reducible refine Kd.C_drewN ?_ _) | (with_reducible refine Kd.C_drew ?_))); (case side2 => exact HC0_1.out); (case side3 => repeat (first | exact (Kd.C_below HR1.out HB.out) | (with_reducible refine Kd.C_alloc ?_ _) | (with_reducible refine Kd.C_drewN ?_ _) | (with_reducible refine Kd.C_drew ?_))); (case side4 => exact HC1.out); rintro e w51 ⟨v488, v491, rfl, ho0, ho1, hb⟩; refine ⟨_, rfl, ?_⟩; have n0_ := Aside0.mk (Kd.R_mono (Kd.R_told (Kd.R_told (Kd.R_old (by (with_reducible repeat (first | apply Kd.R_alloc | apply Kd.R_drewN | apply Kd.R_drew)); exact HO_5.out) hb) (Kd.R_base ho0)) (Kd.R_base ho1)) (fun _ h_ => h_.1)); have n1_ := Aside0.mk (Kd.R_mono (Kd.R_told (Kd.R_told (Kd.R_old (by (with_reducible repeat (first | apply Kd.R_alloc | apply Kd.R_drewN | apply Kd.R_drew)); exact HO_6.out) hb) (Kd.R_base ho0)) (Kd.R_base ho1)) (fun _ h_ => h_.1)); have n2_ := Aside0.mk (Kd.R_lower (Kd.R_new' (Kd.R_new' ho0 (Kd.R_lt (by (with_reducible repeat (first | apply Kd.R_alloc | apply Kd.R_drewN | apply Kd.R_drew)); exact HO_5.out))) (Kd.R_lt (by (with_reducible repeat (first | apply Kd.R_alloc | apply Kd.R_drewN | apply Kd.R_drew)); exact HO_6.out))) (below_size (by repeat (first | (with_reducible first | exact HB.out | apply below_alloc | apply pbN | apply below_drew1 | refine below_set ?_ GE468.out) | exact HB.out)))); have n3_ := Aside0.mk (Kd.R_lower (Kd.R_new' (Kd.R_new' ho1 (Kd.R_lt (by (with_reducible repeat (first | apply Kd.R_alloc | apply Kd.R_drewN | apply Kd.R_drew)); exact HO_5.out))) (Kd.R_lt (by (with_reducible repeat (first | apply Kd.R_alloc | apply Kd.R_drewN | apply Kd.R_drew)); exact HO_6.out))) (below_size (by repeat (first | (with_reducible first | exact HB.out | apply below_alloc | apply pbN | apply below_drew1 | refine below_set ?_ GE468.out) | exact HB.out)))); have n4_ := Aside0.mk (blk_below (g := gb468) (o := .cells #[.int .i64 a0_0, .slice A0_1 l0_1.length c0_1] 24 (0, 0)) (by (with_reducible repeat (first | refine blk_drewN ?_ _ | refine blk_drew ?_ | refine blk_alloc ?_ _)); exact BK468.out) hb); have n5_ := Aside0.mk (below_step (by repeat (first | (with_reducible first | exact HB.out | apply below_alloc | apply pbN | apply below_drew1 | refine below_set ?_ GE468.out) | exact HB.out)) hb); clear HO_5; clear HO_6; clear BK468; clear HB; have HO_5 := n0_; have HO_6 := n1_; have HO489 := n2_; have HO492 := n3_; have BK468 := n4_; have HB := n5_; clear n0_ n1_ n2_ n3_ n4_ n5_; (try clear hb); (try clear hb2); (try clear hk); (try clear hi); (try clear ho0); (try clear ho1)))
        go_ret
        exact ⟨by first | rfl | (simp [errW_none, errW_some] <;> rfl) | (simp [*, errW_none, errW_some] <;> rfl), by repeat (first | (with_reducible first | exact HB.out | apply below_alloc | apply pbN | apply below_drew1 | refine below_set ?_ GE468.out) | exact HB.out)⟩
      ·replace c28 := Bool.eq_false_iff.mpr c28;subst c28;(have H1 : (some true) = some r := by rw [if_neg (show ¬ (false = true) by decide)] at H; exact H);clear H;have H := H1;clear H1;obtain rfl := Option.some.inj H;have hcz52_0 : wc.cell? ⟨gb468, 0, none⟩ = some (.int .i64 a0_0) := (blk_cell BK468.out 0).trans rfl;have hcz52_1 : wc.cell? ⟨gb468, 1, none⟩ = some (.slice A0_1 l0_1.length c0_1) := (blk_cell BK468.out 1).trans rfl;have hfz52_0 := blk_frozen BK468.out 0;have hfz52_1 := blk_frozen BK468.out 1
       go_wp2_with (first | ((with_reducible refine gate_callee (f := 14) rfl ?_); refine goesL_ (some 64) rfl rfl Try.func14 (by kernel_rfl) rfl #[.agg #[.int .i64 a0_0, .slice A0_1 l0_1.length c0_1], .int .i64 24, .int .i64 24] rfl (by (try simp only [List.map_toArray, List.map_cons, List.map_nil]); first | done | rfl | (simp only [List.length_drop, List.length_take]; rfl)) ?_; (with_reducible refine (crM_Few.calls kj8 a0_0 _ _ l0_1 24 24 false _ ?side1 ?side2 A27.out).mono ?_); (case side1 => repeat (first | exact (Kd.C_below HR0_1.out HB.out) | (with_reducible refine Kd.C_alloc ?_ _) | (with_reducible refine Kd.C_drewN ?_ _) | (with_reducible refine Kd.C_drew ?_))); (case side2 => exact HC0_1.out); rintro e w53 ⟨rfl, hb⟩; refine ⟨_, rfl, ?_⟩; have n0_ := Aside0.mk (Kd.R_below (by (with_reducible repeat (first | apply Kd.R_alloc | apply Kd.R_drewN | apply Kd.R_drew)); exact HO_5.out) hb); have n1_ := Aside0.mk (Kd.R_below (by (with_reducible repeat (first | apply Kd.R_alloc | apply Kd.R_drewN | apply Kd.R_drew)); exact HO_6.out) hb); have n2_ := Aside0.mk (blk_below (g := gb468) (o := .cells #[.int .i64 a0_0, .slice A0_1 l0_1.length c0_1] 24 (0, 0)) (by (with_reducible repeat (first | refine blk_drewN ?_ _ | refine blk_drew ?_ | refine blk_alloc ?_ _)); exact BK468.out) hb); have n3_ := Aside0.mk (below_step (by repeat (first | (with_reducible first | exact HB.out | apply below_alloc | apply pbN | apply below_drew1 | refine below_set ?_ GE468.out) | exact HB.out)) hb); clear HO_5; clear HO_6; clear BK468; clear HB; have HO_5 := n0_; have HO_6 := n1_; have BK468 := n2_; have HB := n3_; clear n0_ n1_ n2_ n3_; (try clear hb); (try clear hb2); (try clear hk); (try clear hi)))
       go_ret
       exact ⟨by first | rfl | (simp [errW_none, errW_some] <;> rfl) | (simp [*, errW_none, errW_some] <;> rfl), by repeat (first | (with_reducible first | exact HB.out | apply below_alloc | apply pbN | apply below_drew1 | refine below_set ?_ GE468.out) | exact HB.out)⟩
  ·rw [if_neg c8] at H;have c8b0 : (t481 == 0) = false := beq_eq_false_iff_ne.mpr c8;have c8b1 : (t481 != 0) = true := bne_iff_ne.mpr c8;by_cases c54 : t476 = t481
   ·rw [if_pos c54] at H;have c54b0 : (t476 == t481) = true := beq_iff_eq.mpr c54;have c54b1 : (t476 != t481) = false := bne_eq_false_iff_eq.mpr c54;clear c54;by_cases c55 : t480 = t481
    ·rw [if_pos c55] at H;have c55b0 : (t480 == t481) = true := beq_iff_eq.mpr c55;have c55b1 : (t480 != t481) = false := bne_eq_false_iff_eq.mpr c55;clear c55;obtain rfl := Option.some.inj H;go_enter Try.func6, Try.ntmps6
     go_wp2_with (first | ((with_reducible refine gate_dst (N := 2) rfl ?_); (try (refine gate_guard (by rfl) ?_; dsimp only)); refine box_event ?hg (N := 2) ?hd (cs := #[.int .i64 a0_0, .slice A0_1 l0_1.length c0_1]) (t := 24) ?hr ?_; (case hd => rfl); (case hg => rfl); (case hr => first | (go_simp; done) | (go_simp; rfl)); intro gb468 hg w56 hbox hb; have n0_ := Aside0.mk (below_step (by repeat (first | (with_reducible first | exact HB.out | apply below_alloc | apply pbN | apply below_drew1) | exact HB.out)) hb); have n1_ := Aside0.mk (hbox); have n2_ := Aside0.mk ((by rw [hg]; exact (below_size (by repeat (first | (with_reducible first | exact HB.out | apply below_alloc | apply pbN | apply below_drew1) | exact HB.out))) : w.heap.size ≤ gb468)); have n3_ := Aside0.mk ((by rw [hg]; exact (below_size (by repeat (first | (with_reducible first | exact HB.out | apply below_alloc | apply pbN | apply below_drew1) | exact HB.out))) : w.heap.size ≤ gb468)); clear HB; have HB := n0_; have BK468 := n1_; have GW468 := n2_; have GE468 := n3_; clear n0_ n1_ n2_ n3_; clear hb hbox hg; have hcz57_0 : w56.cell? ⟨gb468, 0, none⟩ = some (.int .i64 a0_0) := (blk_cell BK468.out 0).trans rfl; have hcz57_1 : w56.cell? ⟨gb468, 1, none⟩ = some (.slice A0_1 l0_1.length c0_1) := (blk_cell BK468.out 1).trans rfl; have hfz57_0 := blk_frozen BK468.out 0; have hfz57_1 := blk_frozen BK468.out 1) | ((with_reducible refine gate_callee (f := 28) rfl ?_); refine goesL_ (some 14) rfl rfl Try.func28 (by kernel_rfl) rfl #[.agg #[.int .i64 a0_0, .slice A0_1 l0_1.length c0_1], .int .i64 2000] rfl (by (try simp only [List.map_toArray, List.map_cons, List.map_nil]); first | done | rfl | (simp only [List.length_drop, List.length_take]; rfl)) ?_; (with_reducible refine (cr9_Few.calls k a0_0 _ _ l0_1 2000 true _ ?side1 ?side2 A3.out).mono ?_); (case side1 => repeat (first | exact (Kd.C_below HR0_1.out HB.out) | (with_reducible refine Kd.C_alloc ?_ _) | (with_reducible refine Kd.C_drewN ?_ _) | (with_reducible refine Kd.C_drew ?_))); (case side2 => exact HC0_1.out); rintro e w58 ⟨rfl, hb⟩; refine ⟨_, rfl, ?_⟩; have n0_ := Aside0.mk (blk_below (g := gb468) (o := .cells #[.int .i64 a0_0, .slice A0_1 l0_1.length c0_1] 24 (0, 0)) (by (with_reducible repeat (first | refine blk_drewN ?_ _ | refine blk_drew ?_ | refine blk_alloc ?_ _)); exact BK468.out) hb); have n1_ := Aside0.mk (below_step (by repeat (first | (with_reducible first | exact HB.out | apply below_alloc | apply pbN | apply below_drew1 | refine below_set ?_ GE468.out) | exact HB.out)) hb); clear BK468; clear HB; have BK468 := n0_; have HB := n1_; clear n0_ n1_; (try clear hb); (try clear hb2); (try clear hk); (try clear hi); have hcz59_0 : w58.cell? ⟨gb468, 0, none⟩ = some (.int .i64 a0_0) := (blk_cell BK468.out 0).trans rfl; have hcz59_1 : w58.cell? ⟨gb468, 1, none⟩ = some (.slice A0_1 l0_1.length c0_1) := (blk_cell BK468.out 1).trans rfl; have hfz59_0 := blk_frozen BK468.out 0; have hfz59_1 := blk_frozen BK468.out 1) | ((with_reducible refine gate_callee (f := 24) rfl ?_); refine goesL_ (some 19) rfl rfl Try.func24 (by kernel_rfl) rfl #[.agg #[.int .i64 a0_0, .slice A0_1 l0_1.length c0_1], .slice A1 l1.length c1] rfl (by (try simp only [List.map_toArray, List.map_cons, List.map_nil]); first | done | rfl | (simp only [List.length_drop, List.length_take]; rfl)) ?_; (with_reducible refine (message_Flip.calls k a0_0 _ _ l0_1 _ _ l1 t470 t473 t476 _ ?side1 ?side2 ?side3 ?side4 A5.out).mono ?_); (case side1 => repeat (first | exact (Kd.C_below HR0_1.out HB.out) | (with_reducible refine Kd.C_alloc ?_ _) | (with_reducible refine Kd.C_drewN ?_ _) | (with_reducible refine Kd.C_drew ?_))); (case side2 => exact HC0_1.out); (case side3 => repeat (first | exact (Kd.C_below HR1.out HB.out) | (with_reducible refine Kd.C_alloc ?_ _) | (with_reducible refine Kd.C_drewN ?_ _) | (with_reducible refine Kd.C_drew ?_))); (case side4 => exact HC1.out); rintro e w60 ⟨v471, v474, rfl, ho0, ho1, hb⟩; refine ⟨_, rfl, ?_⟩; have n0_ := Aside0.mk (Kd.R_lower ho0 (below_size (by repeat (first | (with_reducible first | exact HB.out | apply below_alloc | apply pbN | apply below_drew1 | refine below_set ?_ GE468.out) | exact HB.out)))); have n1_ := Aside0.mk (Kd.R_lower ho1 (below_size (by repeat (first | (with_reducible first | exact HB.out | apply below_alloc | apply pbN | apply below_drew1 | refine below_set ?_ GE468.out) | exact HB.out)))); have n2_ := Aside0.mk (blk_below (g := gb468) (o := .cells #[.int .i64 a0_0, .slice A0_1 l0_1.length c0_1] 24 (0, 0)) (by (with_reducible repeat (first | refine blk_drewN ?_ _ | refine blk_drew ?_ | refine blk_alloc ?_ _)); exact BK468.out) hb); have n3_ := Aside0.mk (below_step (by repeat (first | (with_reducible first | exact HB.out | apply below_alloc | apply pbN | apply below_drew1 | refine below_set ?_ GE468.out) | exact HB.out)) hb); clear BK468; clear HB; have HO472 := n0_; have HO475 := n1_; have BK468 := n2_; have HB := n3_; clear n0_ n1_ n2_ n3_; (try clear hb); (try clear hb2); (try clear hk); (try clear hi); (try clear ho0); (try clear ho1); have hcz61_0 : w60.cell? ⟨gb468, 0, none⟩ = some (.int .i64 a0_0) := (blk_cell BK468.out 0).trans rfl; have hcz61_1 : w60.cell? ⟨gb468, 1, none⟩ = some (.slice A0_1 l0_1.length c0_1) := (blk_cell BK468.out 1).trans rfl; have hfz61_0 := blk_frozen BK468.out 0; have hfz61_1 := blk_frozen BK468.out 1) | ((with_reducible refine gate_callee (f := 33) rfl ?_); refine goesL_ (some 26) rfl rfl Try.func33 (by kernel_rfl) rfl #[.agg #[.int .i64 a0_0, .slice A0_1 l0_1.length c0_1], .slice A1 l1.length c1] rfl (by (try simp only [List.map_toArray, List.map_cons, List.map_nil]); first | done | rfl | (simp only [List.length_drop, List.length_take]; rfl)) ?_; (with_reducible refine (message_Unsatisfied.calls k a0_0 _ _ l0_1 _ _ l1 t477 t480 _ ?side1 ?side2 ?side3 ?side4 A6.out).mono ?_); (case side1 => repeat (first | exact (Kd.C_below HR0_1.out HB.out) | (with_reducible refine Kd.C_alloc ?_ _) | (with_reducible refine Kd.C_drewN ?_ _) | (with_reducible refine Kd.C_drew ?_))); (case side2 => exact HC0_1.out); (case side3 => repeat (first | exact (Kd.C_below HR1.out HB.out) | (with_reducible refine Kd.C_alloc ?_ _) | (with_reducible refine Kd.C_drewN ?_ _) | (with_reducible refine Kd.C_drew ?_))); (case side4 => exact HC1.out); rintro e w62 ⟨v478, rfl, ho0, hb⟩; refine ⟨_, rfl, ?_⟩; have n0_ := Aside0.mk (Kd.R_elder' (by (with_reducible repeat (first | apply Kd.R_alloc | apply Kd.R_drewN | apply Kd.R_drew)); exact HO472.out) (Kd.R_base ho0) hb); have n1_ := Aside0.mk (Kd.R_elder' (by (with_reducible repeat (first | apply Kd.R_alloc | apply Kd.R_drewN | apply Kd.R_drew)); exact HO475.out) (Kd.R_base ho0) hb); have n2_ := Aside0.mk (Kd.R_lower (Kd.R_new' (Kd.R_new' ho0 (Kd.R_lt (by (with_reducible repeat (first | apply Kd.R_alloc | apply Kd.R_drewN | apply Kd.R_drew)); exact HO472.out))) (Kd.R_lt (by (with_reducible repeat (first | apply Kd.R_alloc | apply Kd.R_drewN | apply Kd.R_drew)); exact HO475.out))) (below_size (by repeat (first | (with_reducible first | exact HB.out | apply below_alloc | apply pbN | apply below_drew1 | refine below_set ?_ GE468.out) | exact HB.out)))); have n3_ := Aside0.mk (blk_below (g := gb468) (o := .cells #[.int .i64 a0_0, .slice A0_1 l0_1.length c0_1] 24 (0, 0)) (by (with_reducible repeat (first | refine blk_drewN ?_ _ | refine blk_drew ?_ | refine blk_alloc ?_ _)); exact BK468.out) hb); have n4_ := Aside0.mk (below_step (by repeat (first | (with_reducible first | exact HB.out | apply below_alloc | apply pbN | apply below_drew1 | refine below_set ?_ GE468.out) | exact HB.out)) hb); clear HO472; clear HO475; clear BK468; clear HB; have HO472 := n0_; have HO475 := n1_; have HO479 := n2_; have BK468 := n3_; have HB := n4_; clear n0_ n1_ n2_ n3_ n4_; (try clear hb); (try clear hb2); (try clear hk); (try clear hi); (try clear ho0); have hcz63_0 : w62.cell? ⟨gb468, 0, none⟩ = some (.int .i64 a0_0) := (blk_cell BK468.out 0).trans rfl; have hcz63_1 : w62.cell? ⟨gb468, 1, none⟩ = some (.slice A0_1 l0_1.length c0_1) := (blk_cell BK468.out 1).trans rfl; have hfz63_0 := blk_frozen BK468.out 0; have hfz63_1 := blk_frozen BK468.out 1) | ((with_reducible refine gate_callee (f := 23) rfl ?_); refine goesL_ (some 31) rfl rfl Try.func23 (by kernel_rfl) rfl #[.agg #[.int .i64 a0_0, .slice A0_1 l0_1.length c0_1], .slice A1 l1.length c1] rfl (by (try simp only [List.map_toArray, List.map_cons, List.map_nil]); first | done | rfl | (simp only [List.length_drop, List.length_take]; rfl)) ?_; (with_reducible refine (crM_Word.calls k a0_0 _ _ l0_1 _ _ l1 t481 _ ?side1 ?side2 ?side3 ?side4 A7.out).mono ?_); (case side1 => repeat (first | exact (Kd.C_below HR0_1.out HB.out) | (with_reducible refine Kd.C_alloc ?_ _) | (with_reducible refine Kd.C_drewN ?_ _) | (with_reducible refine Kd.C_drew ?_))); (case side2 => exact HC0_1.out); (case side3 => repeat (first | exact (Kd.C_below HR1.out HB.out) | (with_reducible refine Kd.C_alloc ?_ _) | (with_reducible refine Kd.C_drewN ?_ _) | (with_reducible refine Kd.C_drew ?_))); (case side4 => exact HC1.out); rintro e w64 ⟨rfl, hb⟩; refine ⟨_, rfl, ?_⟩; have n0_ := Aside0.mk (Kd.R_below (by (with_reducible repeat (first | apply Kd.R_alloc | apply Kd.R_drewN | apply Kd.R_drew)); exact HO472.out) hb); have n1_ := Aside0.mk (Kd.R_below (by (with_reducible repeat (first | apply Kd.R_alloc | apply Kd.R_drewN | apply Kd.R_drew)); exact HO475.out) hb); have n2_ := Aside0.mk (Kd.R_below (by (with_reducible repeat (first | apply Kd.R_alloc | apply Kd.R_drewN | apply Kd.R_drew)); exact HO479.out) hb); have n3_ := Aside0.mk (blk_below (g := gb468) (o := .cells #[.int .i64 a0_0, .slice A0_1 l0_1.length c0_1] 24 (0, 0)) (by (with_reducible repeat (first | refine blk_drewN ?_ _ | refine blk_drew ?_ | refine blk_alloc ?_ _)); exact BK468.out) hb); have n4_ := Aside0.mk (below_step (by repeat (first | (with_reducible first | exact HB.out | apply below_alloc | apply pbN | apply below_drew1 | refine below_set ?_ GE468.out) | exact HB.out)) hb); clear HO472; clear HO475; clear HO479; clear BK468; clear HB; have HO472 := n0_; have HO475 := n1_; have HO479 := n2_; have BK468 := n3_; have HB := n4_; clear n0_ n1_ n2_ n3_ n4_; (try clear hb); (try clear hb2); (try clear hk); (try clear hi); obtain ⟨Ao65, co65, eo65⟩ := Kd.R_slice HO472.out; subst eo65; obtain ⟨Ao66, co66, eo66⟩ := Kd.R_slice HO475.out; subst eo66; obtain ⟨Ao67, co67, eo67⟩ := Kd.R_slice HO479.out; subst eo67))
     go_ret
     exact ⟨by first | rfl | (simp [errW_none, errW_some] <;> rfl) | (simp [*, errW_none, errW_some] <;> rfl), by repeat (first | (with_reducible first | exact HB.out | apply below_alloc | apply pbN | apply below_drew1 | refine below_set ?_ GE468.out) | exact HB.out)⟩
    ·rw [if_neg c55] at H;have c55b0 : (t480 == t481) = false := beq_eq_false_iff_ne.mpr c55;have c55b1 : (t480 != t481) = true := bne_iff_ne.mpr c55;obtain rfl := Option.some.inj H;go_enter Try.func6, Try.ntmps6
     go_wp2_with (first | ((with_reducible refine gate_dst (N := 2) rfl ?_); (try (refine gate_guard (by rfl) ?_; dsimp only)); refine box_event ?hg (N := 2) ?hd (cs := #[.int .i64 a0_0, .slice A0_1 l0_1.length c0_1]) (t := 24) ?hr ?_; (case hd => rfl); (case hg => rfl); (case hr => first | (go_simp; done) | (go_simp; rfl)); intro gb468 hg w68 hbox hb; have n0_ := Aside0.mk (below_step (by repeat (first | (with_reducible first | exact HB.out | apply below_alloc | apply pbN | apply below_drew1) | exact HB.out)) hb); have n1_ := Aside0.mk (hbox); have n2_ := Aside0.mk ((by rw [hg]; exact (below_size (by repeat (first | (with_reducible first | exact HB.out | apply below_alloc | apply pbN | apply below_drew1) | exact HB.out))) : w.heap.size ≤ gb468)); have n3_ := Aside0.mk ((by rw [hg]; exact (below_size (by repeat (first | (with_reducible first | exact HB.out | apply below_alloc | apply pbN | apply below_drew1) | exact HB.out))) : w.heap.size ≤ gb468)); clear HB; have HB := n0_; have BK468 := n1_; have GW468 := n2_; have GE468 := n3_; clear n0_ n1_ n2_ n3_; clear hb hbox hg; have hcz69_0 : w68.cell? ⟨gb468, 0, none⟩ = some (.int .i64 a0_0) := (blk_cell BK468.out 0).trans rfl; have hcz69_1 : w68.cell? ⟨gb468, 1, none⟩ = some (.slice A0_1 l0_1.length c0_1) := (blk_cell BK468.out 1).trans rfl; have hfz69_0 := blk_frozen BK468.out 0; have hfz69_1 := blk_frozen BK468.out 1) | ((with_reducible refine gate_callee (f := 28) rfl ?_); refine goesL_ (some 14) rfl rfl Try.func28 (by kernel_rfl) rfl #[.agg #[.int .i64 a0_0, .slice A0_1 l0_1.length c0_1], .int .i64 2000] rfl (by (try simp only [List.map_toArray, List.map_cons, List.map_nil]); first | done | rfl | (simp only [List.length_drop, List.length_take]; rfl)) ?_; (with_reducible refine (cr9_Few.calls k a0_0 _ _ l0_1 2000 true _ ?side1 ?side2 A3.out).mono ?_); (case side1 => repeat (first | exact (Kd.C_below HR0_1.out HB.out) | (with_reducible refine Kd.C_alloc ?_ _) | (with_reducible refine Kd.C_drewN ?_ _) | (with_reducible refine Kd.C_drew ?_))); (case side2 => exact HC0_1.out); rintro e w70 ⟨rfl, hb⟩; refine ⟨_, rfl, ?_⟩; have n0_ := Aside0.mk (blk_below (g := gb468) (o := .cells #[.int .i64 a0_0, .slice A0_1 l0_1.length c0_1] 24 (0, 0)) (by (with_reducible repeat (first | refine blk_drewN ?_ _ | refine blk_drew ?_ | refine blk_alloc ?_ _)); exact BK468.out) hb); have n1_ := Aside0.mk (below_step (by repeat (first | (with_reducible first | exact HB.out | apply below_alloc | apply pbN | apply below_drew1 | refine below_set ?_ GE468.out) | exact HB.out)) hb); clear BK468; clear HB; have BK468 := n0_; have HB := n1_; clear n0_ n1_; (try clear hb); (try clear hb2); (try clear hk); (try clear hi); have hcz71_0 : w70.cell? ⟨gb468, 0, none⟩ = some (.int .i64 a0_0) := (blk_cell BK468.out 0).trans rfl; have hcz71_1 : w70.cell? ⟨gb468, 1, none⟩ = some (.slice A0_1 l0_1.length c0_1) := (blk_cell BK468.out 1).trans rfl; have hfz71_0 := blk_frozen BK468.out 0; have hfz71_1 := blk_frozen BK468.out 1) | ((with_reducible refine gate_callee (f := 24) rfl ?_); refine goesL_ (some 19) rfl rfl Try.func24 (by kernel_rfl) rfl #[.agg #[.int .i64 a0_0, .slice A0_1 l0_1.length c0_1], .slice A1 l1.length c1] rfl (by (try simp only [List.map_toArray, List.map_cons, List.map_nil]); first | done | rfl | (simp only [List.length_drop, List.length_take]; rfl)) ?_; (with_reducible refine (message_Flip.calls k a0_0 _ _ l0_1 _ _ l1 t470 t473 t476 _ ?side1 ?side2 ?side3 ?side4 A5.out).mono ?_); (case side1 => repeat (first | exact (Kd.C_below HR0_1.out HB.out) | (with_reducible refine Kd.C_alloc ?_ _) | (with_reducible refine Kd.C_drewN ?_ _) | (with_reducible refine Kd.C_drew ?_))); (case side2 => exact HC0_1.out); (case side3 => repeat (first | exact (Kd.C_below HR1.out HB.out) | (with_reducible refine Kd.C_alloc ?_ _) | (with_reducible refine Kd.C_drewN ?_ _) | (with_reducible refine Kd.C_drew ?_))); (case side4 => exact HC1.out); rintro e w72 ⟨v471, v474, rfl, ho0, ho1, hb⟩; refine ⟨_, rfl, ?_⟩; have n0_ := Aside0.mk (Kd.R_lower ho0 (below_size (by repeat (first | (with_reducible first | exact HB.out | apply below_alloc | apply pbN | apply below_drew1 | refine below_set ?_ GE468.out) | exact HB.out)))); have n1_ := Aside0.mk (Kd.R_lower ho1 (below_size (by repeat (first | (with_reducible first | exact HB.out | apply below_alloc | apply pbN | apply below_drew1 | refine below_set ?_ GE468.out) | exact HB.out)))); have n2_ := Aside0.mk (blk_below (g := gb468) (o := .cells #[.int .i64 a0_0, .slice A0_1 l0_1.length c0_1] 24 (0, 0)) (by (with_reducible repeat (first | refine blk_drewN ?_ _ | refine blk_drew ?_ | refine blk_alloc ?_ _)); exact BK468.out) hb); have n3_ := Aside0.mk (below_step (by repeat (first | (with_reducible first | exact HB.out | apply below_alloc | apply pbN | apply below_drew1 | refine below_set ?_ GE468.out) | exact HB.out)) hb); clear BK468; clear HB; have HO472 := n0_; have HO475 := n1_; have BK468 := n2_; have HB := n3_; clear n0_ n1_ n2_ n3_; (try clear hb); (try clear hb2); (try clear hk); (try clear hi); (try clear ho0); (try clear ho1); have hcz73_0 : w72.cell? ⟨gb468, 0, none⟩ = some (.int .i64 a0_0) := (blk_cell BK468.out 0).trans rfl; have hcz73_1 : w72.cell? ⟨gb468, 1, none⟩ = some (.slice A0_1 l0_1.length c0_1) := (blk_cell BK468.out 1).trans rfl; have hfz73_0 := blk_frozen BK468.out 0; have hfz73_1 := blk_frozen BK468.out 1) | ((with_reducible refine gate_callee (f := 33) rfl ?_); refine goesL_ (some 26) rfl rfl Try.func33 (by kernel_rfl) rfl #[.agg #[.int .i64 a0_0, .slice A0_1 l0_1.length c0_1], .slice A1 l1.length c1] rfl (by (try simp only [List.map_toArray, List.map_cons, List.map_nil]); first | done | rfl | (simp only [List.length_drop, List.length_take]; rfl)) ?_; (with_reducible refine (message_Unsatisfied.calls k a0_0 _ _ l0_1 _ _ l1 t477 t480 _ ?side1 ?side2 ?side3 ?side4 A6.out).mono ?_); (case side1 => repeat (first | exact (Kd.C_below HR0_1.out HB.out) | (with_reducible refine Kd.C_alloc ?_ _) | (with_reducible refine Kd.C_drewN ?_ _) | (with_reducible refine Kd.C_drew ?_))); (case side2 => exact HC0_1.out); (case side3 => repeat (first | exact (Kd.C_below HR1.out HB.out) | (with_reducible refine Kd.C_alloc ?_ _) | (with_reducible refine Kd.C_drewN ?_ _) | (with_reducible refine Kd.C_drew ?_))); (case side4 => exact HC1.out); rintro e w74 ⟨v478, rfl, ho0, hb⟩; refine ⟨_, rfl, ?_⟩; have n0_ := Aside0.mk (Kd.R_elder' (by (with_reducible repeat (first | apply Kd.R_alloc | apply Kd.R_drewN | apply Kd.R_drew)); exact HO472.out) (Kd.R_base ho0) hb); have n1_ := Aside0.mk (Kd.R_elder' (by (with_reducible repeat (first | apply Kd.R_alloc | apply Kd.R_drewN | apply Kd.R_drew)); exact HO475.out) (Kd.R_base ho0) hb); have n2_ := Aside0.mk (Kd.R_lower (Kd.R_new' (Kd.R_new' ho0 (Kd.R_lt (by (with_reducible repeat (first | apply Kd.R_alloc | apply Kd.R_drewN | apply Kd.R_drew)); exact HO472.out))) (Kd.R_lt (by (with_reducible repeat (first | apply Kd.R_alloc | apply Kd.R_drewN | apply Kd.R_drew)); exact HO475.out))) (below_size (by repeat (first | (with_reducible first | exact HB.out | apply below_alloc | apply pbN | apply below_drew1 | refine below_set ?_ GE468.out) | exact HB.out)))); have n3_ := Aside0.mk (blk_below (g := gb468) (o := .cells #[.int .i64 a0_0, .slice A0_1 l0_1.length c0_1] 24 (0, 0)) (by (with_reducible repeat (first | refine blk_drewN ?_ _ | refine blk_drew ?_ | refine blk_alloc ?_ _)); exact BK468.out) hb); have n4_ := Aside0.mk (below_step (by repeat (first | (with_reducible first | exact HB.out | apply below_alloc | apply pbN | apply below_drew1 | refine below_set ?_ GE468.out) | exact HB.out)) hb); clear HO472; clear HO475; clear BK468; clear HB; have HO472 := n0_; have HO475 := n1_; have HO479 := n2_; have BK468 := n3_; have HB := n4_; clear n0_ n1_ n2_ n3_ n4_; (try clear hb); (try clear hb2); (try clear hk); (try clear hi); (try clear ho0); have hcz75_0 : w74.cell? ⟨gb468, 0, none⟩ = some (.int .i64 a0_0) := (blk_cell BK468.out 0).trans rfl; have hcz75_1 : w74.cell? ⟨gb468, 1, none⟩ = some (.slice A0_1 l0_1.length c0_1) := (blk_cell BK468.out 1).trans rfl; have hfz75_0 := blk_frozen BK468.out 0; have hfz75_1 := blk_frozen BK468.out 1) | ((with_reducible refine gate_callee (f := 23) rfl ?_); refine goesL_ (some 31) rfl rfl Try.func23 (by kernel_rfl) rfl #[.agg #[.int .i64 a0_0, .slice A0_1 l0_1.length c0_1], .slice A1 l1.length c1] rfl (by (try simp only [List.map_toArray, List.map_cons, List.map_nil]); first | done | rfl | (simp only [List.length_drop, List.length_take]; rfl)) ?_; (with_reducible refine (crM_Word.calls k a0_0 _ _ l0_1 _ _ l1 t481 _ ?side1 ?side2 ?side3 ?side4 A7.out).mono ?_); (case side1 => repeat (first | exact (Kd.C_below HR0_1.out HB.out) | (with_reducible refine Kd.C_alloc ?_ _) | (with_reducible refine Kd.C_drewN ?_ _) | (with_reducible refine Kd.C_drew ?_))); (case side2 => exact HC0_1.out); (case side3 => repeat (first | exact (Kd.C_below HR1.out HB.out) | (with_reducible refine Kd.C_alloc ?_ _) | (with_reducible refine Kd.C_drewN ?_ _) | (with_reducible refine Kd.C_drew ?_))); (case side4 => exact HC1.out); rintro e w76 ⟨rfl, hb⟩; refine ⟨_, rfl, ?_⟩; have n0_ := Aside0.mk (Kd.R_below (by (with_reducible repeat (first | apply Kd.R_alloc | apply Kd.R_drewN | apply Kd.R_drew)); exact HO472.out) hb); have n1_ := Aside0.mk (Kd.R_below (by (with_reducible repeat (first | apply Kd.R_alloc | apply Kd.R_drewN | apply Kd.R_drew)); exact HO475.out) hb); have n2_ := Aside0.mk (Kd.R_below (by (with_reducible repeat (first | apply Kd.R_alloc | apply Kd.R_drewN | apply Kd.R_drew)); exact HO479.out) hb); have n3_ := Aside0.mk (blk_below (g := gb468) (o := .cells #[.int .i64 a0_0, .slice A0_1 l0_1.length c0_1] 24 (0, 0)) (by (with_reducible repeat (first | refine blk_drewN ?_ _ | refine blk_drew ?_ | refine blk_alloc ?_ _)); exact BK468.out) hb); have n4_ := Aside0.mk (below_step (by repeat (first | (with_reducible first | exact HB.out | apply below_alloc | apply pbN | apply below_drew1 | refine below_set ?_ GE468.out) | exact HB.out)) hb); clear HO472; clear HO475; clear HO479; clear BK468; clear HB; have HO472 := n0_; have HO475 := n1_; have HO479 := n2_; have BK468 := n3_; have HB := n4_; clear n0_ n1_ n2_ n3_ n4_; (try clear hb); (try clear hb2); (try clear hk); (try clear hi)))
     go_ret
     exact ⟨by first | rfl | (simp [errW_none, errW_some] <;> rfl) | (simp [*, errW_none, errW_some] <;> rfl), by repeat (first | (with_reducible first | exact HB.out | apply below_alloc | apply pbN | apply below_drew1 | refine below_set ?_ GE468.out) | exact HB.out)⟩
   ·rw [if_neg c54] at H;have c54b0 : (t476 == t481) = false := beq_eq_false_iff_ne.mpr c54;have c54b1 : (t476 != t481) = true := bne_iff_ne.mpr c54;obtain rfl := Option.some.inj H;go_enter Try.func6, Try.ntmps6
    go_wp2_with (first | ((with_reducible refine gate_dst (N := 2) rfl ?_); (try (refine gate_guard (by rfl) ?_; dsimp only)); refine box_event ?hg (N := 2) ?hd (cs := #[.int .i64 a0_0, .slice A0_1 l0_1.length c0_1]) (t := 24) ?hr ?_; (case hd => rfl); (case hg => rfl); (case hr => first | (go_simp; done) | (go_simp; rfl)); intro gb468 hg w77 hbox hb; have n0_ := Aside0.mk (below_step (by repeat (first | (with_reducible first | exact HB.out | apply below_alloc | apply pbN | apply below_drew1) | exact HB.out)) hb); have n1_ := Aside0.mk (hbox); have n2_ := Aside0.mk ((by rw [hg]; exact (below_size (by repeat (first | (with_reducible first | exact HB.out | apply below_alloc | apply pbN | apply below_drew1) | exact HB.out))) : w.heap.size ≤ gb468)); have n3_ := Aside0.mk ((by rw [hg]; exact (below_size (by repeat (first | (with_reducible first | exact HB.out | apply below_alloc | apply pbN | apply below_drew1) | exact HB.out))) : w.heap.size ≤ gb468)); clear HB; have HB := n0_; have BK468 := n1_; have GW468 := n2_; have GE468 := n3_; clear n0_ n1_ n2_ n3_; clear hb hbox hg; have hcz78_0 : w77.cell? ⟨gb468, 0, none⟩ = some (.int .i64 a0_0) := (blk_cell BK468.out 0).trans rfl; have hcz78_1 : w77.cell? ⟨gb468, 1, none⟩ = some (.slice A0_1 l0_1.length c0_1) := (blk_cell BK468.out 1).trans rfl; have hfz78_0 := blk_frozen BK468.out 0; have hfz78_1 := blk_frozen BK468.out 1) | ((with_reducible refine gate_callee (f := 28) rfl ?_); refine goesL_ (some 14) rfl rfl Try.func28 (by kernel_rfl) rfl #[.agg #[.int .i64 a0_0, .slice A0_1 l0_1.length c0_1], .int .i64 2000] rfl (by (try simp only [List.map_toArray, List.map_cons, List.map_nil]); first | done | rfl | (simp only [List.length_drop, List.length_take]; rfl)) ?_; (with_reducible refine (cr9_Few.calls k a0_0 _ _ l0_1 2000 true _ ?side1 ?side2 A3.out).mono ?_); (case side1 => repeat (first | exact (Kd.C_below HR0_1.out HB.out) | (with_reducible refine Kd.C_alloc ?_ _) | (with_reducible refine Kd.C_drewN ?_ _) | (with_reducible refine Kd.C_drew ?_))); (case side2 => exact HC0_1.out); rintro e w79 ⟨rfl, hb⟩; refine ⟨_, rfl, ?_⟩; have n0_ := Aside0.mk (blk_below (g := gb468) (o := .cells #[.int .i64 a0_0, .slice A0_1 l0_1.length c0_1] 24 (0, 0)) (by (with_reducible repeat (first | refine blk_drewN ?_ _ | refine blk_drew ?_ | refine blk_alloc ?_ _)); exact BK468.out) hb); have n1_ := Aside0.mk (below_step (by repeat (first | (with_reducible first | exact HB.out | apply below_alloc | apply pbN | apply below_drew1 | refine below_set ?_ GE468.out) | exact HB.out)) hb); clear BK468; clear HB; have BK468 := n0_; have HB := n1_; clear n0_ n1_; (try clear hb); (try clear hb2); (try clear hk); (try clear hi); have hcz80_0 : w79.cell? ⟨gb468, 0, none⟩ = some (.int .i64 a0_0) := (blk_cell BK468.out 0).trans rfl; have hcz80_1 : w79.cell? ⟨gb468, 1, none⟩ = some (.slice A0_1 l0_1.length c0_1) := (blk_cell BK468.out 1).trans rfl; have hfz80_0 := blk_frozen BK468.out 0; have hfz80_1 := blk_frozen BK468.out 1) | ((with_reducible refine gate_callee (f := 24) rfl ?_); refine goesL_ (some 19) rfl rfl Try.func24 (by kernel_rfl) rfl #[.agg #[.int .i64 a0_0, .slice A0_1 l0_1.length c0_1], .slice A1 l1.length c1] rfl (by (try simp only [List.map_toArray, List.map_cons, List.map_nil]); first | done | rfl | (simp only [List.length_drop, List.length_take]; rfl)) ?_; (with_reducible refine (message_Flip.calls k a0_0 _ _ l0_1 _ _ l1 t470 t473 t476 _ ?side1 ?side2 ?side3 ?side4 A5.out).mono ?_); (case side1 => repeat (first | exact (Kd.C_below HR0_1.out HB.out) | (with_reducible refine Kd.C_alloc ?_ _) | (with_reducible refine Kd.C_drewN ?_ _) | (with_reducible refine Kd.C_drew ?_))); (case side2 => exact HC0_1.out); (case side3 => repeat (first | exact (Kd.C_below HR1.out HB.out) | (with_reducible refine Kd.C_alloc ?_ _) | (with_reducible refine Kd.C_drewN ?_ _) | (with_reducible refine Kd.C_drew ?_))); (case side4 => exact HC1.out); rintro e w81 ⟨v471, v474, rfl, ho0, ho1, hb⟩; refine ⟨_, rfl, ?_⟩; have n0_ := Aside0.mk (Kd.R_lower ho0 (below_size (by repeat (first | (with_reducible first | exact HB.out | apply below_alloc | apply pbN | apply below_drew1 | refine below_set ?_ GE468.out) | exact HB.out)))); have n1_ := Aside0.mk (Kd.R_lower ho1 (below_size (by repeat (first | (with_reducible first | exact HB.out | apply below_alloc | apply pbN | apply below_drew1 | refine below_set ?_ GE468.out) | exact HB.out)))); have n2_ := Aside0.mk (blk_below (g := gb468) (o := .cells #[.int .i64 a0_0, .slice A0_1 l0_1.length c0_1] 24 (0, 0)) (by (with_reducible repeat (first | refine blk_drewN ?_ _ | refine blk_drew ?_ | refine blk_alloc ?_ _)); exact BK468.out) hb); have n3_ := Aside0.mk (below_step (by repeat (first | (with_reducible first | exact HB.out | apply below_alloc | apply pbN | apply below_drew1 | refine below_set ?_ GE468.out) | exact HB.out)) hb); clear BK468; clear HB; have HO472 := n0_; have HO475 := n1_; have BK468 := n2_; have HB := n3_; clear n0_ n1_ n2_ n3_; (try clear hb); (try clear hb2); (try clear hk); (try clear hi); (try clear ho0); (try clear ho1); have hcz82_0 : w81.cell? ⟨gb468, 0, none⟩ = some (.int .i64 a0_0) := (blk_cell BK468.out 0).trans rfl; have hcz82_1 : w81.cell? ⟨gb468, 1, none⟩ = some (.slice A0_1 l0_1.length c0_1) := (blk_cell BK468.out 1).trans rfl; have hfz82_0 := blk_frozen BK468.out 0; have hfz82_1 := blk_frozen BK468.out 1) | ((with_reducible refine gate_callee (f := 33) rfl ?_); refine goesL_ (some 26) rfl rfl Try.func33 (by kernel_rfl) rfl #[.agg #[.int .i64 a0_0, .slice A0_1 l0_1.length c0_1], .slice A1 l1.length c1] rfl (by (try simp only [List.map_toArray, List.map_cons, List.map_nil]); first | done | rfl | (simp only [List.length_drop, List.length_take]; rfl)) ?_; (with_reducible refine (message_Unsatisfied.calls k a0_0 _ _ l0_1 _ _ l1 t477 t480 _ ?side1 ?side2 ?side3 ?side4 A6.out).mono ?_); (case side1 => repeat (first | exact (Kd.C_below HR0_1.out HB.out) | (with_reducible refine Kd.C_alloc ?_ _) | (with_reducible refine Kd.C_drewN ?_ _) | (with_reducible refine Kd.C_drew ?_))); (case side2 => exact HC0_1.out); (case side3 => repeat (first | exact (Kd.C_below HR1.out HB.out) | (with_reducible refine Kd.C_alloc ?_ _) | (with_reducible refine Kd.C_drewN ?_ _) | (with_reducible refine Kd.C_drew ?_))); (case side4 => exact HC1.out); rintro e w83 ⟨v478, rfl, ho0, hb⟩; refine ⟨_, rfl, ?_⟩; have n0_ := Aside0.mk (Kd.R_elder' (by (with_reducible repeat (first | apply Kd.R_alloc | apply Kd.R_drewN | apply Kd.R_drew)); exact HO472.out) (Kd.R_base ho0) hb); have n1_ := Aside0.mk (Kd.R_elder' (by (with_reducible repeat (first | apply Kd.R_alloc | apply Kd.R_drewN | apply Kd.R_drew)); exact HO475.out) (Kd.R_base ho0) hb); have n2_ := Aside0.mk (Kd.R_lower (Kd.R_new' (Kd.R_new' ho0 (Kd.R_lt (by (with_reducible repeat (first | apply Kd.R_alloc | apply Kd.R_drewN | apply Kd.R_drew)); exact HO472.out))) (Kd.R_lt (by (with_reducible repeat (first | apply Kd.R_alloc | apply Kd.R_drewN | apply Kd.R_drew)); exact HO475.out))) (below_size (by repeat (first | (with_reducible first | exact HB.out | apply below_alloc | apply pbN | apply below_drew1 | refine below_set ?_ GE468.out) | exact HB.out)))); have n3_ := Aside0.mk (blk_below (g := gb468) (o := .cells #[.int .i64 a0_0, .slice A0_1 l0_1.length c0_1] 24 (0, 0)) (by (with_reducible repeat (first | refine blk_drewN ?_ _ | refine blk_drew ?_ | refine blk_alloc ?_ _)); exact BK468.out) hb); have n4_ := Aside0.mk (below_step (by repeat (first | (with_reducible first | exact HB.out | apply below_alloc | apply pbN | apply below_drew1 | refine below_set ?_ GE468.out) | exact HB.out)) hb); clear HO472; clear HO475; clear BK468; clear HB; have HO472 := n0_; have HO475 := n1_; have HO479 := n2_; have BK468 := n3_; have HB := n4_; clear n0_ n1_ n2_ n3_ n4_; (try clear hb); (try clear hb2); (try clear hk); (try clear hi); (try clear ho0); have hcz84_0 : w83.cell? ⟨gb468, 0, none⟩ = some (.int .i64 a0_0) := (blk_cell BK468.out 0).trans rfl; have hcz84_1 : w83.cell? ⟨gb468, 1, none⟩ = some (.slice A0_1 l0_1.length c0_1) := (blk_cell BK468.out 1).trans rfl; have hfz84_0 := blk_frozen BK468.out 0; have hfz84_1 := blk_frozen BK468.out 1) | ((with_reducible refine gate_callee (f := 23) rfl ?_); refine goesL_ (some 31) rfl rfl Try.func23 (by kernel_rfl) rfl #[.agg #[.int .i64 a0_0, .slice A0_1 l0_1.length c0_1], .slice A1 l1.length c1] rfl (by (try simp only [List.map_toArray, List.map_cons, List.map_nil]); first | done | rfl | (simp only [List.length_drop, List.length_take]; rfl)) ?_; (with_reducible refine (crM_Word.calls k a0_0 _ _ l0_1 _ _ l1 t481 _ ?side1 ?side2 ?side3 ?side4 A7.out).mono ?_); (case side1 => repeat (first | exact (Kd.C_below HR0_1.out HB.out) | (with_reducible refine Kd.C_alloc ?_ _) | (with_reducible refine Kd.C_drewN ?_ _) | (with_reducible refine Kd.C_drew ?_))); (case side2 => exact HC0_1.out); (case side3 => repeat (first | exact (Kd.C_below HR1.out HB.out) | (with_reducible refine Kd.C_alloc ?_ _) | (with_reducible refine Kd.C_drewN ?_ _) | (with_reducible refine Kd.C_drew ?_))); (case side4 => exact HC1.out); rintro e w85 ⟨rfl, hb⟩; refine ⟨_, rfl, ?_⟩; have n0_ := Aside0.mk (Kd.R_below (by (with_reducible repeat (first | apply Kd.R_alloc | apply Kd.R_drewN | apply Kd.R_drew)); exact HO472.out) hb); have n1_ := Aside0.mk (Kd.R_below (by (with_reducible repeat (first | apply Kd.R_alloc | apply Kd.R_drewN | apply Kd.R_drew)); exact HO475.out) hb); have n2_ := Aside0.mk (Kd.R_below (by (with_reducible repeat (first | apply Kd.R_alloc | apply Kd.R_drewN | apply Kd.R_drew)); exact HO479.out) hb); have n3_ := Aside0.mk (blk_below (g := gb468) (o := .cells #[.int .i64 a0_0, .slice A0_1 l0_1.length c0_1] 24 (0, 0)) (by (with_reducible repeat (first | refine blk_drewN ?_ _ | refine blk_drew ?_ | refine blk_alloc ?_ _)); exact BK468.out) hb); have n4_ := Aside0.mk (below_step (by repeat (first | (with_reducible first | exact HB.out | apply below_alloc | apply pbN | apply below_drew1 | refine below_set ?_ GE468.out) | exact HB.out)) hb); clear HO472; clear HO475; clear HO479; clear BK468; clear HB; have HO472 := n0_; have HO475 := n1_; have HO479 := n2_; have BK468 := n3_; have HB := n4_; clear n0_ n1_ n2_ n3_ n4_; (try clear hb); (try clear hb2); (try clear hk); (try clear hi)))
    go_ret
    exact ⟨by first | rfl | (simp [errW_none, errW_some] <;> rfl) | (simp [*, errW_none, errW_some] <;> rfl), by repeat (first | (with_reducible first | exact HB.out | apply below_alloc | apply pbN | apply below_drew1 | refine below_set ?_ GE468.out) | exact HB.out)⟩
 ·replace c4 := Bool.eq_false_iff.mpr c4;subst c4;have H1 : (some true) = some r := by rw [if_neg (show ¬ (false = true) by decide)] at H; exact H
  clear H;have H := H1;clear H1;obtain rfl := Option.some.inj H;go_enter Try.func6, Try.ntmps6
  go_wp2_with (first | ((with_reducible refine gate_dst (N := 2) rfl ?_); (try (refine gate_guard (by rfl) ?_; dsimp only)); refine box_event ?hg (N := 2) ?hd (cs := #[.int .i64 a0_0, .slice A0_1 l0_1.length c0_1]) (t := 24) ?hr ?_; (case hd => rfl); (case hg => rfl); (case hr => first | (go_simp; done) | (go_simp; rfl)); intro gb468 hg w86 hbox hb; have n0_ := Aside0.mk (below_step (by repeat (first | (with_reducible first | exact HB.out | apply below_alloc | apply pbN | apply below_drew1) | exact HB.out)) hb); have n1_ := Aside0.mk (hbox); have n2_ := Aside0.mk ((by rw [hg]; exact (below_size (by repeat (first | (with_reducible first | exact HB.out | apply below_alloc | apply pbN | apply below_drew1) | exact HB.out))) : w.heap.size ≤ gb468)); have n3_ := Aside0.mk ((by rw [hg]; exact (below_size (by repeat (first | (with_reducible first | exact HB.out | apply below_alloc | apply pbN | apply below_drew1) | exact HB.out))) : w.heap.size ≤ gb468)); clear HB; have HB := n0_; have BK468 := n1_; have GW468 := n2_; have GE468 := n3_; clear n0_ n1_ n2_ n3_; clear hb hbox hg; have hcz87_0 : w86.cell? ⟨gb468, 0, none⟩ = some (.int .i64 a0_0) := (blk_cell BK468.out 0).trans rfl; have hcz87_1 : w86.cell? ⟨gb468, 1, none⟩ = some (.slice A0_1 l0_1.length c0_1) := (blk_cell BK468.out 1).trans rfl; have hfz87_0 := blk_frozen BK468.out 0; have hfz87_1 := blk_frozen BK468.out 1) | ((with_reducible refine gate_callee (f := 28) rfl ?_); refine goesL_ (some 14) rfl rfl Try.func28 (by kernel_rfl) rfl #[.agg #[.int .i64 a0_0, .slice A0_1 l0_1.length c0_1], .int .i64 2000] rfl (by (try simp only [List.map_toArray, List.map_cons, List.map_nil]); first | done | rfl | (simp only [List.length_drop, List.length_take]; rfl)) ?_; (with_reducible refine (cr9_Few.calls k a0_0 _ _ l0_1 2000 false _ ?side1 ?side2 A3.out).mono ?_); (case side1 => repeat (first | exact (Kd.C_below HR0_1.out HB.out) | (with_reducible refine Kd.C_alloc ?_ _) | (with_reducible refine Kd.C_drewN ?_ _) | (with_reducible refine Kd.C_drew ?_))); (case side2 => exact HC0_1.out); rintro e w88 ⟨rfl, hb⟩; refine ⟨_, rfl, ?_⟩; have n0_ := Aside0.mk (blk_below (g := gb468) (o := .cells #[.int .i64 a0_0, .slice A0_1 l0_1.length c0_1] 24 (0, 0)) (by (with_reducible repeat (first | refine blk_drewN ?_ _ | refine blk_drew ?_ | refine blk_alloc ?_ _)); exact BK468.out) hb); have n1_ := Aside0.mk (below_step (by repeat (first | (with_reducible first | exact HB.out | apply below_alloc | apply pbN | apply below_drew1 | refine below_set ?_ GE468.out) | exact HB.out)) hb); clear BK468; clear HB; have BK468 := n0_; have HB := n1_; clear n0_ n1_; (try clear hb); (try clear hb2); (try clear hk); (try clear hi)))
  go_ret
  exact ⟨by first | rfl | (simp [errW_none, errW_some] <;> rfl) | (simp [*, errW_none, errW_some] <;> rfl), by repeat (first | (with_reducible first | exact HB.out | apply below_alloc | apply pbN | apply below_drew1 | refine below_set ?_ GE468.out) | exact HB.out)⟩
end Go.Proofs.Ytmclalniilkjiaa.Q
/- MessageFlips: for every matrix and every word. -/
namespace Go.Proofs.Ytmclalniilkjiaa.Pure
open Go.RowKit Go.Proofs.Ytmclalniilkjiaa.Q Go.Proofs.YtmclalniilkjiaaW.PrintWords Go.Proofs.YtmclalniilkjiaaW.PrintLast Go.Proofs.Ytmclalniilkjiaa.Ba Go.Proofs.Ytmclalniilkjiaa.Ck Go.Proofs.Ytmclalniilkjiaa.Gr Go.Proofs.Ytmclalniilkjiaa.Un Go.Proofs.Ytmclalniilkjiaa.Fl Go.Proofs.Ytmclalniilkjiaa.Fw

theorem MessageFlips_ev (c : Int) (rows : List (List Int)) (w : List Int) : Ev (fun k => cw_MessageFlips.f k c rows w) true := by
 unfold cw_MessageFlips.f
 obtain ⟨b, hb, _⟩ := few9 c rows
 refine hb.bind ?_
 by_cases hb0 : ¬ b = true
 ·exact Ev.congr (fun k => if_neg hb0) (Ev.now _)
 have hb1 : b = true := Decidable.not_not.1 hb0
 refine Ev.congr (fun k => if_pos hb1) ?_
 by_cases h : wrd c rows w = 0
 ·obtain ⟨C, ok⟩ := wrd_ok h
  obtain ⟨l, e, hrun, hl, ok2⟩ := run_ex (uns rows w C rows.length).length w ok (Nat.le_refl _)
  have hu := uns_le rows w C rows.length
  have hr := ok.hr
  have hl2 : l.length ≤ 256 := by omega
  refine (Flip_ok ok hrun hl2).bind ((Unsat_ok ok).bind ((word_ev c rows w).bind ?_))
  refine Ev.congr (fun k => if_pos h) (Ev.congr (fun k => if_pos rfl) ((rUnsat_ok ok).bind ((same_self (uns rows w C rows.length) (by omega)).bind ?_)))
  obtain ⟨b2, hb2, _⟩ := few45 c rows 24 24 (by omega)
  refine Ev.step (f := fun k => (crM_Few.f k c rows 24 24).bind fun t486 => (if t486 = true then ((crM_Flip.f k c rows w).bind fun bt487 => (if (0 : Int) = 0 then ((cr9_SameInts.f k e bt487.1).bind fun t493 => (if t493 = true then ((cr9_SameInts.f k l bt487.2).bind fun t494 => (some t494)) else (some false))) else (some false))) else (some true))) (fun k => by
   simp only [cw_MessageFlips.j0]
   exact if_neg (by decide)) ?_
  refine hb2.bind ?_
  by_cases hb0 : ¬ b2 = true
  ·exact Ev.congr (fun k => if_neg hb0) (Ev.now _)
  have hb3 : b2 = true := Decidable.not_not.1 hb0
  refine Ev.congr (fun k => if_pos hb3) ((rFlip_ok ok hrun hl2).bind (Ev.congr (fun k => if_pos rfl) ?_))
  refine (same_self e (by have := ok2.hlen; have := ok2.hC; omega)).bind (Ev.congr (fun k => if_pos rfl) ?_)
  exact (same_self l (by omega)).bind (Ev.now _)
 ·refine (Flip_no h).bind ((Unsat_no h).bind ((word_ev c rows w).bind ?_))
  refine Ev.congr (fun k => if_neg h) (Ev.congr (fun k => if_pos rfl) (Ev.congr (fun k => if_pos rfl) ?_))
  refine Ev.congr (f := fun _ => some true) (fun k => ?_) (Ev.now _)
  show some (wrap64 (wrap64 (0 + 0) + 0) == 0) = some true
  kernel_rfl
open Go.Proofs.Ytmclalniilkjiaa in
theorem MessageFlips (a0_0 : Int) (A0_1 : Option Addr) (c0_1 : Nat) (l0_1 : List (List Int)) (A1 : Option Addr) (c1 : Nat) (l1 : List Int) (w : World) (hr0_1 : Kd.C (Kd.slice 3 (Kd.int .i64)) w A0_1 l0_1.length l0_1) (hc0_1 : l0_1.length ≤ c0_1) (hr1 : Kd.C (Kd.int .i64) w A1 l1.length l1) (hc1 : l1.length ≤ c1) (_ : l1.length * 8 ≤ 140737488351232) (_ : (Lit.int .i64 a0_0).wf = true) :
  Calls Try.prog 6 #[.agg #[.int .i64 a0_0, .slice A0_1 l0_1.length c0_1], .slice A1 l1.length c1] w fun e w' => e = .returned (.bool true) ∧ Below w.heap.size w w' := by
 obtain ⟨k, h⟩ := (MessageFlips_ev a0_0 l0_1 l1).rounds
 exact cw_MessageFlips.calls k a0_0 A0_1 c0_1 l0_1 A1 c1 l1 true w hr0_1 hc0_1 hr1 hc1 h
end Go.Proofs.Ytmclalniilkjiaa.Pure
/- An argument of rows of whole numbers, opened as a list of lists. No condition. -/
namespace Go.Proofs.Ytmclalniilkjiaa.Rw
open Go.ChangeShapes Go.WideShapes Go.ChangeAt Go.RowKit Go.Joins Go.Deep Go.Proofs.YtmclalniilkjiaaW.PrintWords
theorem open_rows {H : Type} {enc : TypeId × Value → H} {P : Program} {w : World} {base : Nat} {held : Bool} {t e q : TypeId} {fuel : Nat} {v : Value} {x : DataW H × List MemPlace} (ht : P.underlying t = some (.slice e)) (he : P.underlying e = some (.slice q)) (hq : P.underlying q = some (.int .i64))
  (ce : P.cellsOf e = 1) (cq : P.cellsOf q = 1) (d : Nat) (h : DataW.trod enc P w base (fun _ => true) held fuel t [v] = some x) :
  ∃ (a : Option Addr) (cap : Nat) (rows : List (List Int)), v = .slice a rows.length cap ∧ rows.length ≤ cap ∧ Kd.C (Kd.slice d (Kd.int .i64)) w a rows.length rows := by
 rcases open_int_rows ht he hq ce cq h with ⟨hcs, _⟩ | ⟨a, len, cap, A, L, C, Z, hcs, _, hl, hm, _, hrow⟩
 ·simp only [List.cons.injEq, and_true] at hcs
  exact ⟨none, 0, [], hcs, Nat.le_refl _, Kd.C_nil _ _⟩
 ·simp only [List.cons.injEq, and_true] at hcs
  have each : ∀ r, r < len → ∃ l : List Int, L r = l.length ∧ ReadsInt w .i64 (A r) l.length l ∧ l.length ≤ C r := by
   intro r hr
   obtain ⟨_, h2, h3, h4, h5, h6, h7⟩ := hrow r (by omega)
   have hi : (A r = none ∧ L r = 0 ∧ C r = 0 ∧ Z r = []) ∨ ∃ x, A r = some x ∧ L r ≤ C r ∧ C r ≤ maxLen ∧ (Z r).length = C r ∧ (∀ i, i < (Z r).length → w.cell? (x.add i) = some (.int .i64 ((Z r).getD i 0))) ∧ ∀ n ∈ Z r, (Lit.int .i64 n).wf = true := by
    cases ha : A r with
    | none =>
     have hc := h6 ha
     exact Or.inl ⟨rfl, by omega, hc, List.eq_nil_of_length_eq_zero (by omega)⟩
    | some x => exact Or.inr ⟨x, rfl, h2, h3, h4, fun i hi => (h7 x ha).2 i (by omega), h5⟩
   obtain ⟨l, e1, e2, _, _, e3⟩ := ReadsInt.ofRowC hi
   exact ⟨l, e1, e2, e3⟩
  obtain ⟨y, hy⟩ := choose_lt each
  have hlen : ((List.range len).map y).length = len := by simp
  refine ⟨some a, cap, (List.range len).map y, by rw [hlen]; exact hcs, by rw [hlen]; exact hl, rfl, ?_, fun _ => ⟨a, rfl, fun j p hj => ?_⟩⟩
  ·rw [hlen]; have : maxLen = 9223372036854775807 := rfl; omega
  ·obtain ⟨hj1, hj2⟩ := List.getElem?_eq_some_iff.1 hj
   have hjl : j < len := by rw [hlen] at hj1; exact hj1
   have ep : p = y j := by rw [← hj2]; simp
   subst ep
   obtain ⟨h1, _⟩ := hrow j (by omega)
   obtain ⟨e1, e2, e3⟩ := hy j hjl
   refine ⟨[.slice (A j) (y j).length (C j)], rfl, ⟨A j, C j, rfl, e3, Kd.C_of_reads (d := (0 : Int)) (h1 := fun _ => rfl) e2⟩, fun i u hi => ?_⟩
   cases i with
   | zero =>
    simp only [List.getElem?_cons_zero, Option.some.injEq] at hi
    subst hi
    show w.cell? (a.add (j * 1 + 0)) = _
    rw [Nat.mul_one, Nat.add_zero, h1, e1]
   | succ i => simp at hi
end Go.Proofs.Ytmclalniilkjiaa.Rw
namespace Go.Proofs.YtmclalniilkjiaaW.PrintWords
open Go.ChangeShapes Go.WideShapes
theorem sized_ints {H : Type} {enc : TypeId × Value → H} {P : Program} {W : World} {base : Nat} {spare : Nat → Bool} {held : Bool} {t e : TypeId} {k : IntKind} {a : Option Addr} {len cap : Nat} {d : DataW H} {ps : List MemPlace} {ts : List TypeId} {ds : List (DataW H)} {j : Nat}
  (hsz : (DataW.weightsEach P ts ds).all (· ≤ reachBytes) = true) (ht : ts[j]? = some t) (hd : ds[j]? = some d) (hu : P.underlying t = some (.slice e)) (he : P.underlying e = some (.int k)) (hc : P.cellsOf e = 1) {B : Nat} (hB : P.bytesOf e = B)
  (h : DataW.Trod enc P W base spare held t (.slice a len cap) d ps) : len * B ≤ 140737488351232 := by
 obtain ⟨fuel, hf⟩ := h
 rcases open_ints hu he hc hf with ⟨hcs, _⟩ | ⟨x, l, c, zs, hcs, _, hl, _, hz, hx, _, _⟩
 ·simp [Value.cells] at hcs
  obtain ⟨rfl, rfl, rfl⟩ := hcs
  simp
 ·simp [Value.cells] at hcs
  obtain ⟨rfl, rfl, rfl⟩ := hcs
  obtain ⟨hx, _⟩ := Prod.mk.inj hx
  subst hx
  have z := sized_slice hsz ht hd hu
  rw [hB] at z
  have hl2 : len ≤ zs.length := by
   rw [hz]
   split
   ·exact hl
   ·exact Nat.le_refl _
  have h1 : (lits (H := H) k (zs.take len)).length + (lits (H := H) k (zs.drop len)).length = zs.length := by
   simp [lits]
   omega
  rw [h1] at z
  exact Nat.le_trans (Nat.mul_le_mul_right _ hl2) z
end Go.Proofs.YtmclalniilkjiaaW.PrintWords
