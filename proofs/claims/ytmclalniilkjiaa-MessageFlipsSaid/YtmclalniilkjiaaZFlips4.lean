-- Joined by pack.py, a program of this work: Qx77 Qx39 Qx40 Qx27 Qx63 Qx23 Un Qx65 Qx66 Qx78
import Derived.Test.YtmclalniilkjiaaZFlips0
import Derived.Test.YtmclalniilkjiaaZFlips3
import Derived.Test.YtmclalniilkjiaaZFlips2
namespace Go.Proofs.Ytmclalniilkjiaa.Q
open Go.RowKit Go.Proofs.YtmclalniilkjiaaW.PrintWords Go.Proofs.YtmclalniilkjiaaW.PrintLast Go.Proofs.YtmclalniilkjiaaW.PrintMore
attribute [local go_sem] max2_int min2_int max_two min_two max_three min_three max_four min_four
set_option linter.unusedVariables false
set_option linter.unusedSimpArgs false
def message_Unsatisfied.f (k : Nat) (a0_0 : Int) (l0_1 : List (List Int)) (l1 : List Int) : Option (List Int × Int) := (message_build.f k a0_0 l0_1).bind fun bt321 => (if bt321.2.2 = 0 then ((message_bitsOf.f k a0_0 l0_1 l1).bind fun t329 => (if t329 = 0 then ((mg_unsatisfied.f k bt321.1 bt321.2.1 l1).bind fun t330 => (some (t330, 0))) else (some (([] : List Int), t329)))) else (some (([] : List Int), bt321.2.2)))
theorem message_Unsatisfied.mono : ∀ a0 a1 a2 k, LeO (message_Unsatisfied.f k a0 a1 a2) (message_Unsatisfied.f (k + 1) a0 a1 a2) := by
 intro a0 a1 a2 k;unfold message_Unsatisfied.f
 repeat' first
   | (with_reducible exact message_bitsOf.mono _ _ _ _)
   | (with_reducible exact message_build.mono _ _ _)
   | (with_reducible exact mg_unsatisfied.mono _ _ _ _)
   | (with_reducible exact LeO.refl _)
   | (with_reducible exact LeO.none _)
   | (with_reducible refine LeO.ite ?_ ?_)
   | (with_reducible refine LeO.bind ?_ (fun _ => ?_))
   | exact message_bitsOf.mono _ _ _ _
   | exact message_build.mono _ _ _
   | exact mg_unsatisfied.mono _ _ _ _
   | exact LeO.none _
   | refine LeO.ite ?_ ?_
   | refine LeO.bind ?_ (fun _ => ?_)
set_option maxHeartbeats 8000000 in
set_option maxRecDepth 100000 in
theorem message_Unsatisfied.calls (k : Nat) (a0_0 : Int) (A0_1 : Option Addr) (c0_1 : Nat) (l0_1 : List (List Int)) (A1 : Option Addr) (c1 : Nat) (l1 : List Int) (r1 : List Int) (r2 : Int) (w : World) (hr0_1 : Kd.C (Kd.slice 3 (Kd.int .i64)) w A0_1 l0_1.length l0_1) (hc0_1 : l0_1.length ≤ c0_1) (hr1 : Kd.C (Kd.int .i64) w A1 l1.length l1) (hc1 : l1.length ≤ c1) (h : message_Unsatisfied.f k a0_0 l0_1 l1 = some (r1, r2)) :
  Calls Try.prog 33 #[.agg #[.int .i64 a0_0, .slice A0_1 l0_1.length c0_1], .slice A1 l1.length c1] w fun e w' => ∃ v0_ : Value, e = .returned (.tuple #[v0_, .int .i64 r2]) ∧ Kd.R (Kd.int .i64) 3 w' w.heap.size (fun _ => True) v0_ r1 ∧ Below w.heap.size w w' := by
 have hu24 := Try.underlying24;have hu73 := Try.underlying73;have HR0_1 := Aside0.mk hr0_1;have HC0_1 := Aside0.mk hc0_1;clear hr0_1 hc0_1;have HR1 := Aside0.mk hr1;have HC1 := Aside0.mk hc1;clear hr1 hc1;have HB := Aside0.mk (Below.refl w.heap.size w);have H : ((message_build.f k a0_0 l0_1).bind fun bt321 => (if bt321.2.2 = 0 then ((message_bitsOf.f k a0_0 l0_1 l1).bind fun t329 => (if t329 = 0 then ((mg_unsatisfied.f k bt321.1 bt321.2.1 l1).bind fun t330 => (some (t330, 0))) else (some (([] : List Int), t329)))) else (some (([] : List Int), bt321.2.2)))) = some (r1, r2) := h;clear h;replace H := Option.bind_eq_some_iff.mp H;obtain ⟨⟨t321, t324, t327⟩, A30, H⟩ := H;replace H : (if t327 = 0 then ((message_bitsOf.f k a0_0 l0_1 l1).bind fun t329 => (if t329 = 0 then ((mg_unsatisfied.f k t321 t324 l1).bind fun t330 => (some (t330, 0))) else (some (([] : List Int), t329)))) else (some (([] : List Int), t327))) = some (r1, r2) := H;have A3 := Aside0.mk A30;clear A30;by_cases c4 : t327 = 0
 ·rw [if_pos c4] at H;have c4b0 : (t327 == 0) = true := beq_iff_eq.mpr c4;have c4b1 : (t327 != 0) = false := bne_eq_false_iff_eq.mpr c4;clear c4;replace H := Option.bind_eq_some_iff.mp H;obtain ⟨t329, A50, H⟩ := H;replace H : (if t329 = 0 then ((mg_unsatisfied.f k t321 t324 l1).bind fun t330 => (some (t330, 0))) else (some (([] : List Int), t329))) = some (r1, r2) := H;have A5 := Aside0.mk A50;clear A50;by_cases c6 : t329 = 0
  ·rw [if_pos c6] at H;have c6b0 : (t329 == 0) = true := beq_iff_eq.mpr c6;have c6b1 : (t329 != 0) = false := bne_eq_false_iff_eq.mpr c6;clear c6;replace H := Option.bind_eq_some_iff.mp H;obtain ⟨t330, A70, H⟩ := H;replace H : (some (t330, 0)) = some (r1, r2) := H;have A7 := Aside0.mk A70;clear A70;simp only [Option.some.injEq, Prod.mk.injEq] at H;obtain ⟨rfl, rfl⟩ := H;go_enter Try.func33, Try.ntmps33
   go_wp2_with (first | ((with_reducible refine gate_dst (N := 2) rfl ?_); refine box_event ?hg (N := 2) ?hd (cs := #[.int .i64 a0_0, .slice A0_1 l0_1.length c0_1]) (t := 24) ?hr ?_; (case hd => rfl); (case hg => rfl); (case hr => first | (go_simp; done) | (go_simp; rfl)); intro gb320 hg w8 hbox hb; have n0_ := Aside0.mk (below_step (by repeat (first | (with_reducible first | exact HB.out | apply below_alloc | apply pbN | apply below_drew1) | exact HB.out)) hb); have n1_ := Aside0.mk (hbox); have n2_ := Aside0.mk ((by rw [hg]; exact (below_size (by repeat (first | (with_reducible first | exact HB.out | apply below_alloc | apply pbN | apply below_drew1) | exact HB.out))) : w.heap.size ≤ gb320)); have n3_ := Aside0.mk ((by rw [hg]; exact (below_size (by repeat (first | (with_reducible first | exact HB.out | apply below_alloc | apply pbN | apply below_drew1) | exact HB.out))) : w.heap.size ≤ gb320)); clear HB; have HB := n0_; have BK320 := n1_; have GW320 := n2_; have GE320 := n3_; clear n0_ n1_ n2_ n3_; clear hb hbox hg; have hcz9_0 : w8.cell? ⟨gb320, 0, none⟩ = some (.int .i64 a0_0) := (blk_cell BK320.out 0).trans rfl; have hcz9_1 : w8.cell? ⟨gb320, 1, none⟩ = some (.slice A0_1 l0_1.length c0_1) := (blk_cell BK320.out 1).trans rfl; have hfz9_0 := blk_frozen BK320.out 0; have hfz9_1 := blk_frozen BK320.out 1) | ((with_reducible refine gate_callee (f := 44) rfl ?_); refine goesL_ (some 11) rfl rfl Try.func44 (by kernel_rfl) rfl #[.agg #[.int .i64 a0_0, .slice A0_1 l0_1.length c0_1]] rfl (by (try simp only [List.map_toArray, List.map_cons, List.map_nil]); first | done | rfl | (simp only [List.length_drop, List.length_take]; rfl)) ?_; (with_reducible refine (message_build.calls k a0_0 _ _ l0_1 t321 t324 t327 _ ?side1 ?side2 A3.out).mono ?_); (case side1 => repeat (first | exact (Kd.C_below HR0_1.out HB.out) | (with_reducible refine Kd.C_alloc ?_ _) | (with_reducible refine Kd.C_drewN ?_ _) | (with_reducible refine Kd.C_drew ?_))); (case side2 => exact HC0_1.out); rintro e w10 ⟨gg_, rfl, hb, hbu_⟩; obtain ⟨gb328, v322, v325, rfl, hge_, hbk_, ho0, ho1⟩ := Built.ok hbu_ (beq_iff_eq.mp c4b0); refine ⟨_, rfl, ?_⟩; have BK328 := Aside0.mk hbk_; have GE328 := Aside0.mk (Nat.le_trans (below_size (by repeat (first | (with_reducible first | exact HB.out | apply below_alloc | apply pbN | apply below_drew1 | refine below_set ?_ GE320.out) | exact HB.out))) hge_); have GW328 := GE328; have NB320_328 := Aside0.mk (Nat.ne_of_lt (Nat.lt_of_lt_of_le (blk_lt (g := gb320) (o := .cells #[.int .i64 a0_0, .slice A0_1 l0_1.length c0_1] 24 (0, 0)) (by (with_reducible repeat (first | refine blk_drewN ?_ _ | refine blk_drew ?_ | refine blk_alloc ?_ _)); exact BK320.out)) hge_)); have NB328_320 := Aside0.mk (Ne.symm NB320_328.out); clear hbk_ hge_ hbu_; have n0_ := Aside0.mk (Kd.S_lower ho0 (below_size (by repeat (first | (with_reducible first | exact HB.out | apply below_alloc | apply pbN | apply below_drew1 | refine below_set ?_ GE320.out) | exact HB.out)))); have n1_ := Aside0.mk (Kd.S_lower ho1 (below_size (by repeat (first | (with_reducible first | exact HB.out | apply below_alloc | apply pbN | apply below_drew1 | refine below_set ?_ GE320.out) | exact HB.out)))); have n2_ := Aside0.mk (blk_below (g := gb320) (o := .cells #[.int .i64 a0_0, .slice A0_1 l0_1.length c0_1] 24 (0, 0)) (by (with_reducible repeat (first | refine blk_drewN ?_ _ | refine blk_drew ?_ | refine blk_alloc ?_ _)); exact BK320.out) hb); have n3_ := Aside0.mk (below_step (by repeat (first | (with_reducible first | exact HB.out | apply below_alloc | apply pbN | apply below_drew1 | refine below_set ?_ GE320.out) | exact HB.out)) hb); clear BK320; clear HB; have HO323 := n0_; have HO326 := n1_; have BK320 := n2_; have HB := n3_; clear n0_ n1_ n2_ n3_; (try clear hb); (try clear hb2); (try clear hk); (try clear hi); (try clear ho0); (try clear ho1); obtain ⟨Ao11, co11, eo11⟩ := Kd.S_slice HO326.out; subst eo11; obtain ⟨Ao12, co12, eo12⟩ := Kd.S_slice HO323.out; subst eo12; have hnb14 := NB320_328.out; have hnc14 := NB328_320.out; have hcz15_0 : w10.cell? ⟨gb320, 0, none⟩ = some (.int .i64 a0_0) := (blk_cell BK320.out 0).trans rfl; have hcz15_1 : w10.cell? ⟨gb320, 1, none⟩ = some (.slice A0_1 l0_1.length c0_1) := (blk_cell BK320.out 1).trans rfl; have hfz15_0 := blk_frozen BK320.out 0; have hfz15_1 := blk_frozen BK320.out 1) | ((with_reducible refine gate_callee (f := 52) rfl ?_); refine goesL_ (some 19) rfl rfl Try.func52 (by kernel_rfl) rfl #[.agg #[.int .i64 a0_0, .slice A0_1 l0_1.length c0_1], .slice A1 l1.length c1] rfl (by (try simp only [List.map_toArray, List.map_cons, List.map_nil]); first | done | rfl | (simp only [List.length_drop, List.length_take]; rfl)) ?_; (with_reducible refine (message_bitsOf.calls k a0_0 _ _ l0_1 _ _ l1 t329 _ ?side1 ?side2 ?side3 ?side4 A5.out).mono ?_); (case side1 => repeat (first | exact (Kd.C_below HR0_1.out HB.out) | (with_reducible refine Kd.C_alloc ?_ _) | (with_reducible refine Kd.C_drewN ?_ _) | (with_reducible refine Kd.C_drew ?_))); (case side2 => exact HC0_1.out); (case side3 => repeat (first | exact (Kd.C_below HR1.out HB.out) | (with_reducible refine Kd.C_alloc ?_ _) | (with_reducible refine Kd.C_drewN ?_ _) | (with_reducible refine Kd.C_drew ?_))); (case side4 => exact HC1.out); rintro e w16 ⟨rfl, hb⟩; refine ⟨_, rfl, ?_⟩; have n0_ := Aside0.mk (Kd.S_below (by (with_reducible repeat (first | apply Kd.S_alloc | apply Kd.S_drewN | apply Kd.S_drew)); exact HO323.out) hb); have n1_ := Aside0.mk (Kd.S_below (by (with_reducible repeat (first | apply Kd.S_alloc | apply Kd.S_drewN | apply Kd.S_drew)); exact HO326.out) hb); have n2_ := Aside0.mk (blk_below (g := gb320) (o := .cells #[.int .i64 a0_0, .slice A0_1 l0_1.length c0_1] 24 (0, 0)) (by (with_reducible repeat (first | refine blk_drewN ?_ _ | refine blk_drew ?_ | refine blk_alloc ?_ _)); exact BK320.out) hb); have n3_ := Aside0.mk (blk_below (g := gb328) (o := .cells #[.slice Ao12 t321.length co12, .slice Ao11 t324.length co11] 73 (0, 0)) (by (with_reducible repeat (first | refine blk_drewN ?_ _ | refine blk_drew ?_ | refine blk_alloc ?_ _)); exact BK328.out) hb); have n4_ := Aside0.mk (below_step (by repeat (first | (with_reducible first | exact HB.out | apply below_alloc | apply pbN | apply below_drew1 | refine below_set ?_ GE320.out | refine below_set ?_ GE328.out) | exact HB.out)) hb); clear HO323; clear HO326; clear BK320; clear BK328; clear HB; have HO323 := n0_; have HO326 := n1_; have BK320 := n2_; have BK328 := n3_; have HB := n4_; clear n0_ n1_ n2_ n3_ n4_; (try clear hb); (try clear hb2); (try clear hk); (try clear hi); have hcz17_0 : w16.cell? ⟨gb328, 0, none⟩ = some (.slice Ao12 t321.length co12) := (blk_cell BK328.out 0).trans rfl; have hcz17_1 : w16.cell? ⟨gb328, 1, none⟩ = some (.slice Ao11 t324.length co11) := (blk_cell BK328.out 1).trans rfl; have hfz17_0 := blk_frozen BK328.out 0; have hfz17_1 := blk_frozen BK328.out 1) | ((with_reducible refine gate_callee (f := 49) rfl ?_); refine goesL_ (some 25) rfl rfl Try.func49 (by kernel_rfl) rfl #[.pointer (some ⟨gb328, 0, none⟩), .slice A1 l1.length c1] rfl (by (try simp only [List.map_toArray, List.map_cons, List.map_nil]); first | done | rfl | (simp only [List.length_drop, List.length_take]; rfl)) ?_; (with_reducible refine (mg_unsatisfied.calls k Ao12 co12 t321 Ao11 co11 t324 _ _ l1 t330 gb328 _ ?side1 ?side2 ?side3 ?side4 ?side5 ?side6 ?sideG A7.out).mono ?_); (case sideG => (with_reducible repeat (first | refine blk_drewN ?_ _ | refine blk_drew ?_ | refine blk_alloc ?_ _)); exact BK328.out); (case side1 => repeat (first | exact (Kd.S_reads' HO323.out).2.2 | (with_reducible refine Kd.C_alloc ?_ _) | (with_reducible refine Kd.C_drewN ?_ _) | (with_reducible refine Kd.C_drew ?_))); (case side2 => exact (Kd.S_reads' HO323.out).2.1); (case side3 => repeat (first | exact (Kd.S_reads' HO326.out).2.2 | (with_reducible refine Kd.C_alloc ?_ _) | (with_reducible refine Kd.C_drewN ?_ _) | (with_reducible refine Kd.C_drew ?_))); (case side4 => exact (Kd.S_reads' HO326.out).2.1); (case side5 => repeat (first | exact (Kd.C_below HR1.out HB.out) | (with_reducible refine Kd.C_alloc ?_ _) | (with_reducible refine Kd.C_drewN ?_ _) | (with_reducible refine Kd.C_drew ?_))); (case side6 => exact HC1.out); rintro e w18 ⟨v331, rfl, ho0, hb⟩; refine ⟨_, rfl, ?_⟩; have n0_ := Aside0.mk (Kd.S_elder' (by (with_reducible repeat (first | apply Kd.S_alloc | apply Kd.S_drewN | apply Kd.S_drew)); exact HO323.out) (Kd.R_base ho0) hb); have n1_ := Aside0.mk (Kd.S_below (by (with_reducible repeat (first | apply Kd.S_alloc | apply Kd.S_drewN | apply Kd.S_drew)); exact HO326.out) hb); have n2_ := Aside0.mk (Kd.R_lower ho0 (below_size (by repeat (first | (with_reducible first | exact HB.out | apply below_alloc | apply pbN | apply below_drew1 | refine below_set ?_ GE320.out | refine below_set ?_ GE328.out) | exact HB.out)))); have n3_ := Aside0.mk (blk_below (g := gb320) (o := .cells #[.int .i64 a0_0, .slice A0_1 l0_1.length c0_1] 24 (0, 0)) (by (with_reducible repeat (first | refine blk_drewN ?_ _ | refine blk_drew ?_ | refine blk_alloc ?_ _)); exact BK320.out) hb); have n4_ := Aside0.mk (blk_below (g := gb328) (o := .cells #[.slice Ao12 t321.length co12, .slice Ao11 t324.length co11] 73 (0, 0)) (by (with_reducible repeat (first | refine blk_drewN ?_ _ | refine blk_drew ?_ | refine blk_alloc ?_ _)); exact BK328.out) hb); have n5_ := Aside0.mk (below_step (by repeat (first | (with_reducible first | exact HB.out | apply below_alloc | apply pbN | apply below_drew1 | refine below_set ?_ GE320.out | refine below_set ?_ GE328.out) | exact HB.out)) hb); clear HO323; clear HO326; clear BK320; clear BK328; clear HB; have HO323 := n0_; have HO326 := n1_; have HO332 := n2_; have BK320 := n3_; have BK328 := n4_; have HB := n5_; clear n0_ n1_ n2_ n3_ n4_ n5_; (try clear hb); (try clear hb2); (try clear hk); (try clear hi); (try clear ho0)))
   go_ret2
   exact ⟨_, by first | rfl | (simp [errW_none, errW_some] <;> rfl) | (simp [*, errW_none, errW_some] <;> rfl), by (with_reducible repeat (first | apply Kd.R_alloc | apply Kd.R_drewN | apply Kd.R_drew)); exact HO332.out, by repeat (first | (with_reducible first | exact HB.out | apply below_alloc | apply pbN | apply below_drew1 | refine below_set ?_ GE320.out | refine below_set ?_ GE328.out) | exact HB.out)⟩
  ·rw [if_neg c6] at H;have c6b0 : (t329 == 0) = false := beq_eq_false_iff_ne.mpr c6;have c6b1 : (t329 != 0) = true := bne_iff_ne.mpr c6;simp only [Option.some.injEq, Prod.mk.injEq] at H;obtain ⟨rfl, rfl⟩ := H;go_enter Try.func33, Try.ntmps33
   go_wp2_with (first | ((with_reducible refine gate_dst (N := 2) rfl ?_); refine box_event ?hg (N := 2) ?hd (cs := #[.int .i64 a0_0, .slice A0_1 l0_1.length c0_1]) (t := 24) ?hr ?_; (case hd => rfl); (case hg => rfl); (case hr => first | (go_simp; done) | (go_simp; rfl)); intro gb320 hg w19 hbox hb; have n0_ := Aside0.mk (below_step (by repeat (first | (with_reducible first | exact HB.out | apply below_alloc | apply pbN | apply below_drew1) | exact HB.out)) hb); have n1_ := Aside0.mk (hbox); have n2_ := Aside0.mk ((by rw [hg]; exact (below_size (by repeat (first | (with_reducible first | exact HB.out | apply below_alloc | apply pbN | apply below_drew1) | exact HB.out))) : w.heap.size ≤ gb320)); have n3_ := Aside0.mk ((by rw [hg]; exact (below_size (by repeat (first | (with_reducible first | exact HB.out | apply below_alloc | apply pbN | apply below_drew1) | exact HB.out))) : w.heap.size ≤ gb320)); clear HB; have HB := n0_; have BK320 := n1_; have GW320 := n2_; have GE320 := n3_; clear n0_ n1_ n2_ n3_; clear hb hbox hg; have hcz20_0 : w19.cell? ⟨gb320, 0, none⟩ = some (.int .i64 a0_0) := (blk_cell BK320.out 0).trans rfl; have hcz20_1 : w19.cell? ⟨gb320, 1, none⟩ = some (.slice A0_1 l0_1.length c0_1) := (blk_cell BK320.out 1).trans rfl; have hfz20_0 := blk_frozen BK320.out 0; have hfz20_1 := blk_frozen BK320.out 1) | ((with_reducible refine gate_callee (f := 44) rfl ?_); refine goesL_ (some 11) rfl rfl Try.func44 (by kernel_rfl) rfl #[.agg #[.int .i64 a0_0, .slice A0_1 l0_1.length c0_1]] rfl (by (try simp only [List.map_toArray, List.map_cons, List.map_nil]); first | done | rfl | (simp only [List.length_drop, List.length_take]; rfl)) ?_; (with_reducible refine (message_build.calls k a0_0 _ _ l0_1 t321 t324 t327 _ ?side1 ?side2 A3.out).mono ?_); (case side1 => repeat (first | exact (Kd.C_below HR0_1.out HB.out) | (with_reducible refine Kd.C_alloc ?_ _) | (with_reducible refine Kd.C_drewN ?_ _) | (with_reducible refine Kd.C_drew ?_))); (case side2 => exact HC0_1.out); rintro e w21 ⟨gg_, rfl, hb, hbu_⟩; obtain ⟨gb328, v322, v325, rfl, hge_, hbk_, ho0, ho1⟩ := Built.ok hbu_ (beq_iff_eq.mp c4b0); refine ⟨_, rfl, ?_⟩; have BK328 := Aside0.mk hbk_; have GE328 := Aside0.mk (Nat.le_trans (below_size (by repeat (first | (with_reducible first | exact HB.out | apply below_alloc | apply pbN | apply below_drew1 | refine below_set ?_ GE320.out) | exact HB.out))) hge_); have GW328 := GE328; have NB320_328 := Aside0.mk (Nat.ne_of_lt (Nat.lt_of_lt_of_le (blk_lt (g := gb320) (o := .cells #[.int .i64 a0_0, .slice A0_1 l0_1.length c0_1] 24 (0, 0)) (by (with_reducible repeat (first | refine blk_drewN ?_ _ | refine blk_drew ?_ | refine blk_alloc ?_ _)); exact BK320.out)) hge_)); have NB328_320 := Aside0.mk (Ne.symm NB320_328.out); clear hbk_ hge_ hbu_; have n0_ := Aside0.mk (Kd.S_lower ho0 (below_size (by repeat (first | (with_reducible first | exact HB.out | apply below_alloc | apply pbN | apply below_drew1 | refine below_set ?_ GE320.out) | exact HB.out)))); have n1_ := Aside0.mk (Kd.S_lower ho1 (below_size (by repeat (first | (with_reducible first | exact HB.out | apply below_alloc | apply pbN | apply below_drew1 | refine below_set ?_ GE320.out) | exact HB.out)))); have n2_ := Aside0.mk (blk_below (g := gb320) (o := .cells #[.int .i64 a0_0, .slice A0_1 l0_1.length c0_1] 24 (0, 0)) (by (with_reducible repeat (first | refine blk_drewN ?_ _ | refine blk_drew ?_ | refine blk_alloc ?_ _)); exact BK320.out) hb); have n3_ := Aside0.mk (below_step (by repeat (first | (with_reducible first | exact HB.out | apply below_alloc | apply pbN | apply below_drew1 | refine below_set ?_ GE320.out) | exact HB.out)) hb); clear BK320; clear HB; have HO323 := n0_; have HO326 := n1_; have BK320 := n2_; have HB := n3_; clear n0_ n1_ n2_ n3_; (try clear hb); (try clear hb2); (try clear hk); (try clear hi); (try clear ho0); (try clear ho1); obtain ⟨Ao22, co22, eo22⟩ := Kd.S_slice HO326.out; subst eo22; obtain ⟨Ao23, co23, eo23⟩ := Kd.S_slice HO323.out; subst eo23; have hnb25 := NB320_328.out; have hnc25 := NB328_320.out; have hcz26_0 : w21.cell? ⟨gb320, 0, none⟩ = some (.int .i64 a0_0) := (blk_cell BK320.out 0).trans rfl; have hcz26_1 : w21.cell? ⟨gb320, 1, none⟩ = some (.slice A0_1 l0_1.length c0_1) := (blk_cell BK320.out 1).trans rfl; have hfz26_0 := blk_frozen BK320.out 0; have hfz26_1 := blk_frozen BK320.out 1) | ((with_reducible refine gate_callee (f := 52) rfl ?_); refine goesL_ (some 19) rfl rfl Try.func52 (by kernel_rfl) rfl #[.agg #[.int .i64 a0_0, .slice A0_1 l0_1.length c0_1], .slice A1 l1.length c1] rfl (by (try simp only [List.map_toArray, List.map_cons, List.map_nil]); first | done | rfl | (simp only [List.length_drop, List.length_take]; rfl)) ?_; (with_reducible refine (message_bitsOf.calls k a0_0 _ _ l0_1 _ _ l1 t329 _ ?side1 ?side2 ?side3 ?side4 A5.out).mono ?_); (case side1 => repeat (first | exact (Kd.C_below HR0_1.out HB.out) | (with_reducible refine Kd.C_alloc ?_ _) | (with_reducible refine Kd.C_drewN ?_ _) | (with_reducible refine Kd.C_drew ?_))); (case side2 => exact HC0_1.out); (case side3 => repeat (first | exact (Kd.C_below HR1.out HB.out) | (with_reducible refine Kd.C_alloc ?_ _) | (with_reducible refine Kd.C_drewN ?_ _) | (with_reducible refine Kd.C_drew ?_))); (case side4 => exact HC1.out); rintro e w27 ⟨rfl, hb⟩; refine ⟨_, rfl, ?_⟩; have n0_ := Aside0.mk (Kd.S_below (by (with_reducible repeat (first | apply Kd.S_alloc | apply Kd.S_drewN | apply Kd.S_drew)); exact HO323.out) hb); have n1_ := Aside0.mk (Kd.S_below (by (with_reducible repeat (first | apply Kd.S_alloc | apply Kd.S_drewN | apply Kd.S_drew)); exact HO326.out) hb); have n2_ := Aside0.mk (blk_below (g := gb320) (o := .cells #[.int .i64 a0_0, .slice A0_1 l0_1.length c0_1] 24 (0, 0)) (by (with_reducible repeat (first | refine blk_drewN ?_ _ | refine blk_drew ?_ | refine blk_alloc ?_ _)); exact BK320.out) hb); have n3_ := Aside0.mk (blk_below (g := gb328) (o := .cells #[.slice Ao23 t321.length co23, .slice Ao22 t324.length co22] 73 (0, 0)) (by (with_reducible repeat (first | refine blk_drewN ?_ _ | refine blk_drew ?_ | refine blk_alloc ?_ _)); exact BK328.out) hb); have n4_ := Aside0.mk (below_step (by repeat (first | (with_reducible first | exact HB.out | apply below_alloc | apply pbN | apply below_drew1 | refine below_set ?_ GE320.out | refine below_set ?_ GE328.out) | exact HB.out)) hb); clear HO323; clear HO326; clear BK320; clear BK328; clear HB; have HO323 := n0_; have HO326 := n1_; have BK320 := n2_; have BK328 := n3_; have HB := n4_; clear n0_ n1_ n2_ n3_ n4_; (try clear hb); (try clear hb2); (try clear hk); (try clear hi)))
   go_ret2
   exact ⟨_, by first | rfl | (simp [errW_none, errW_some] <;> rfl) | (simp [*, errW_none, errW_some] <;> rfl), by first | exact Kd.R_nil _ _ _ _ _ | exact Kd.N_nil _ _ _ _ _ | exact Kd.V_nil _ _ _ _ _ | exact Kd.Q_nil _ _ _ _ _ | exact Kd.S_nil _ _ _ _ _, by repeat (first | (with_reducible first | exact HB.out | apply below_alloc | apply pbN | apply below_drew1 | refine below_set ?_ GE320.out | refine below_set ?_ GE328.out) | exact HB.out)⟩
 ·rw [if_neg c4] at H;have c4b0 : (t327 == 0) = false := beq_eq_false_iff_ne.mpr c4;have c4b1 : (t327 != 0) = true := bne_iff_ne.mpr c4;simp only [Option.some.injEq, Prod.mk.injEq] at H;obtain ⟨rfl, rfl⟩ := H;go_enter Try.func33, Try.ntmps33
  go_wp2_with (first | ((with_reducible refine gate_dst (N := 2) rfl ?_); refine box_event ?hg (N := 2) ?hd (cs := #[.int .i64 a0_0, .slice A0_1 l0_1.length c0_1]) (t := 24) ?hr ?_; (case hd => rfl); (case hg => rfl); (case hr => first | (go_simp; done) | (go_simp; rfl)); intro gb320 hg w28 hbox hb; have n0_ := Aside0.mk (below_step (by repeat (first | (with_reducible first | exact HB.out | apply below_alloc | apply pbN | apply below_drew1) | exact HB.out)) hb); have n1_ := Aside0.mk (hbox); have n2_ := Aside0.mk ((by rw [hg]; exact (below_size (by repeat (first | (with_reducible first | exact HB.out | apply below_alloc | apply pbN | apply below_drew1) | exact HB.out))) : w.heap.size ≤ gb320)); have n3_ := Aside0.mk ((by rw [hg]; exact (below_size (by repeat (first | (with_reducible first | exact HB.out | apply below_alloc | apply pbN | apply below_drew1) | exact HB.out))) : w.heap.size ≤ gb320)); clear HB; have HB := n0_; have BK320 := n1_; have GW320 := n2_; have GE320 := n3_; clear n0_ n1_ n2_ n3_; clear hb hbox hg; have hcz29_0 : w28.cell? ⟨gb320, 0, none⟩ = some (.int .i64 a0_0) := (blk_cell BK320.out 0).trans rfl; have hcz29_1 : w28.cell? ⟨gb320, 1, none⟩ = some (.slice A0_1 l0_1.length c0_1) := (blk_cell BK320.out 1).trans rfl; have hfz29_0 := blk_frozen BK320.out 0; have hfz29_1 := blk_frozen BK320.out 1) | ((with_reducible refine gate_callee (f := 44) rfl ?_); refine goesL_ (some 11) rfl rfl Try.func44 (by kernel_rfl) rfl #[.agg #[.int .i64 a0_0, .slice A0_1 l0_1.length c0_1]] rfl (by (try simp only [List.map_toArray, List.map_cons, List.map_nil]); first | done | rfl | (simp only [List.length_drop, List.length_take]; rfl)) ?_; (with_reducible refine (message_build.calls k a0_0 _ _ l0_1 t321 t324 t327 _ ?side1 ?side2 A3.out).mono ?_); (case side1 => repeat (first | exact (Kd.C_below HR0_1.out HB.out) | (with_reducible refine Kd.C_alloc ?_ _) | (with_reducible refine Kd.C_drewN ?_ _) | (with_reducible refine Kd.C_drew ?_))); (case side2 => exact HC0_1.out); rintro e w30 ⟨gg_, rfl, hb, hbu_⟩; obtain rfl := Built.no hbu_ (beq_eq_false_iff_ne.mp c4b0); clear hbu_; refine ⟨_, rfl, ?_⟩; have n2_ := Aside0.mk (blk_below (g := gb320) (o := .cells #[.int .i64 a0_0, .slice A0_1 l0_1.length c0_1] 24 (0, 0)) (by (with_reducible repeat (first | refine blk_drewN ?_ _ | refine blk_drew ?_ | refine blk_alloc ?_ _)); exact BK320.out) hb); have n3_ := Aside0.mk (below_step (by repeat (first | (with_reducible first | exact HB.out | apply below_alloc | apply pbN | apply below_drew1 | refine below_set ?_ GE320.out) | exact HB.out)) hb); clear BK320; clear HB; have BK320 := n2_; have HB := n3_; clear n2_ n3_; (try clear hb); (try clear hb2); (try clear hk); (try clear hi); (try clear ho0); (try clear ho1)))
  go_ret2
  exact ⟨_, by first | rfl | (simp [errW_none, errW_some] <;> rfl) | (simp [*, errW_none, errW_some] <;> rfl), by first | exact Kd.R_nil _ _ _ _ _ | exact Kd.N_nil _ _ _ _ _ | exact Kd.V_nil _ _ _ _ _ | exact Kd.Q_nil _ _ _ _ _ | exact Kd.S_nil _ _ _ _ _, by repeat (first | (with_reducible first | exact HB.out | apply below_alloc | apply pbN | apply below_drew1 | refine below_set ?_ GE320.out | refine below_set ?_ GE328.out) | exact HB.out)⟩
def crM_Odd.l0 : Nat → List Int → List Int → Int → Int → Option (Bool)
 | 0, _, _, _, _ => none
 | k + 1, x0, x1, x5, x6 => if x6 < (x0.length : Int) then (if 0 ≤ x6 then (if x6 < (x1.length : Int) then (crM_Odd.l0 k x0 x1 (wrap64 (x5 + (wrap64 ((rd x0 x6) * (rd x1 x6))))) (wrap64 (x6 + 1))) else (none)) else (none)) else (some ((Int.tmod x5 2) == 1))
def crM_Odd.f (k : Nat) (l0 : List Int) (l1 : List Int) : Option (Bool) := crM_Odd.l0 k l0 l1 0 0
theorem crM_Odd.mono_l : ∀ k, (∀ y0 y1 y2 y3, LeO (crM_Odd.l0 k y0 y1 y2 y3) (crM_Odd.l0 (k + 1) y0 y1 y2 y3))
 | 0 => fun _ _ _ _ r h => by simp [crM_Odd.l0] at h
 | k + 1 => by
  have ih0 := crM_Odd.mono_l k
  ·intro y0 y1 y2 y3;unfold crM_Odd.l0
   repeat' first
   | (with_reducible exact ih0 _ _ _ _)
   | (with_reducible exact LeO.refl _)
   | (with_reducible exact LeO.none _)
   | (with_reducible refine LeO.ite ?_ ?_)
   | (with_reducible refine LeO.bind ?_ (fun _ => ?_))
   | exact ih0 _ _ _ _
   | exact LeO.none _
   | refine LeO.ite ?_ ?_
   | refine LeO.bind ?_ (fun _ => ?_)
theorem crM_Odd.mono : ∀ a0 a1 k, LeO (crM_Odd.f k a0 a1) (crM_Odd.f (k + 1) a0 a1) := by
 intro a0 a1 k;have ih0 := crM_Odd.mono_l k;unfold crM_Odd.f
 repeat' first
   | (with_reducible exact ih0 _ _ _ _)
   | (with_reducible exact LeO.refl _)
   | (with_reducible exact LeO.none _)
   | (with_reducible refine LeO.ite ?_ ?_)
   | (with_reducible refine LeO.bind ?_ (fun _ => ?_))
   | exact ih0 _ _ _ _
   | exact LeO.none _
   | refine LeO.ite ?_ ?_
   | refine LeO.bind ?_ (fun _ => ?_)
set_option maxHeartbeats 8000000 in
set_option maxRecDepth 100000 in
theorem crM_Odd.calls (k : Nat) (A0 : Option Addr) (c0 : Nat) (l0 : List Int) (A1 : Option Addr) (c1 : Nat) (l1 : List Int) (r : Bool) (w : World) (hr0 : Kd.C (Kd.int .i64) w A0 l0.length l0) (hc0 : l0.length ≤ c0) (hr1 : Kd.C (Kd.int .i64) w A1 l1.length l1) (hc1 : l1.length ≤ c1) (h : crM_Odd.f k l0 l1 = some r) :
  Calls Try.prog 50 #[.slice A0 l0.length c0, .slice A1 l1.length c1] w fun e w' => e = .returned (.bool r) ∧ Drawn0 w w' := by
 have HR0 := Aside0.mk hr0;have HC0 := Aside0.mk hc0;clear hr0 hc0;have HR1 := Aside0.mk hr1;have HC1 := Aside0.mk hc1;clear hr1 hc1;have H : (crM_Odd.l0 k l0 l1 0 0) = some r := h;clear h;have H' := Aside0.mk H;clear H;go_enter Try.func50, Try.ntmps50
 go_wp2
 repeat (go_quiet (fail); try go_wp2)
 go_loopg [5, 6] k (fun kq v5 v6 w' => ∃ (x5_1 : Int) (x6_1 : Int), v5 = .int .i64 x5_1 ∧ v6 = .int .i64 x6_1 ∧ Aside0 (crM_Odd.l0 kq l0 l1 x5_1 x6_1 = some r) ∧ Aside0 (kq ≤ k) ∧ Drawn0 w w')
 case atStart => exact ⟨(0), (0), (by first | rfl | (simp; done) | (simp [*]; done)), (by first | rfl | (simp; done) | (simp [*]; done)), H', ⟨Nat.le_refl _⟩, by repeat (first | exact Drawn0.refl _ | apply Drawn0.step)⟩
 case round =>
  clear H'
  try clear c1
  try clear p2
  obtain ⟨x5_1, x6_1, rfl, rfl, HA, HK1, ⟨m1, rfl⟩⟩ := hrel
  cases gk with
  | zero => exact absurd HA.out (by simp [crM_Odd.l0])
  | succ k1 =>
   have H := HA.out;clear HA;simp only [crM_Odd.l0] at H;by_cases c3 : x6_1 < (l0.length : Int)
   ·rw [if_pos c3] at H;have c3b0 : decide (x6_1 < (l0.length : Int)) = true := decide_eq_true c3;clear c3;by_cases c4 : 0 ≤ x6_1
    ·rw [if_pos c4] at H;have c4b0 : decide (0 ≤ x6_1) = true := decide_eq_true c4;clear c4;by_cases c5 : x6_1 < (l1.length : Int)
     ·rw [if_pos c5] at H;have c5b0 : decide (x6_1 < (l1.length : Int)) = true := decide_eq_true c5;clear c5;have H' := Aside0.mk H;clear H;have p218 : 0 ≤ (x6_1 : Int) := of_decide_eq_true (by first | (with_reducible assumption) | assumption);have q218 : x6_1 < (l0.length : Int) := of_decide_eq_true (by first | (with_reducible assumption) | assumption);obtain ⟨ad218, e218, hx218_0⟩ := Kd.at_int HR0.out x6_1 p218 q218;cases e218;replace p218 := eq_true p218;replace q218 := eq_true q218;have p219 : 0 ≤ (x6_1 : Int) := of_decide_eq_true (by first | (with_reducible assumption) | assumption);have q219 : x6_1 < (l1.length : Int) := of_decide_eq_true (by first | (with_reducible assumption) | assumption);obtain ⟨ad219, e219, hx219_0⟩ := Kd.at_int HR1.out x6_1 p219 q219;cases e219;replace p219 := eq_true p219;replace q219 := eq_true q219
      go_wp2
      repeat (go_quiet (fail); try go_wp2)
      go_roundg k1
      case measure => have := HK1.out; omega
      case rel => exact ⟨(wrap64 (x5_1 + (wrap64 ((rd l0 x6_1) * (rd l1 x6_1))))), (wrap64 (x6_1 + 1)), (by first | rfl | (simp; done) | (simp [*]; done)), (by first | rfl | (simp; done) | (simp [*]; done)), H', ⟨by have := HK1.out; omega⟩, by repeat (first | exact Drawn0.refl _ | apply Drawn0.step)⟩
     ·rw [if_neg c5] at H;exact absurd H (by simp)
    ·rw [if_neg c4] at H;exact absurd H (by simp)
   ·rw [if_neg c3] at H;have c3b0 : decide (x6_1 < (l0.length : Int)) = false := decide_eq_false c3;clear c3;obtain rfl := Option.some.inj H
    go_wp2
    repeat (go_quiet (fail); try go_wp2)
    go_ret
    exact ⟨by first | rfl | (simp; done) | (simp [*]; done), by repeat (first | exact Drawn0.refl _ | apply Drawn0.step)⟩
def crM_Unsatisfied.l0 : Nat → List Int → List Int → Int → Int → List (List Int) → Option (List Int)
 | 0, _, _, _, _, _ => none
 | k + 1, x1, x5, x6, x221000, x221001 => if x6 < (x221001.length : Int) then (if 0 ≤ x6 then ((crM_Odd.f k (rd_L1 x221001 x6) x1).bind fun t222 => (if t222 = true then (if x5.length < 17592186044416 then (crM_Unsatisfied.l0 k x1 (x5 ++ [x6]) (wrap64 (x6 + 1)) x221000 x221001) else (none)) else (crM_Unsatisfied.l0 k x1 x5 (wrap64 (x6 + 1)) x221000 x221001))) else (none)) else (some x5)
def crM_Unsatisfied.f (k : Nat) (a0_0 : Int) (l0_1 : List (List Int)) (l1 : List Int) : Option (List Int) := crM_Unsatisfied.l0 k l1 ([] : List Int) 0 a0_0 l0_1
theorem crM_Unsatisfied.mono_l : ∀ k, (∀ y0 y1 y2 y3 y4, LeO (crM_Unsatisfied.l0 k y0 y1 y2 y3 y4) (crM_Unsatisfied.l0 (k + 1) y0 y1 y2 y3 y4))
 | 0 => fun _ _ _ _ _ r h => by simp [crM_Unsatisfied.l0] at h
 | k + 1 => by
  have ih0 := crM_Unsatisfied.mono_l k
  ·intro y0 y1 y2 y3 y4;unfold crM_Unsatisfied.l0
   repeat' first
   | (with_reducible exact ih0 _ _ _ _ _)
   | (with_reducible exact crM_Odd.mono _ _ _)
   | (with_reducible exact LeO.refl _)
   | (with_reducible exact LeO.none _)
   | (with_reducible refine LeO.ite ?_ ?_)
   | (with_reducible refine LeO.bind ?_ (fun _ => ?_))
   | exact ih0 _ _ _ _ _
   | exact crM_Odd.mono _ _ _
   | exact LeO.none _
   | refine LeO.ite ?_ ?_
   | refine LeO.bind ?_ (fun _ => ?_)
theorem crM_Unsatisfied.mono : ∀ a0 a1 a2 k, LeO (crM_Unsatisfied.f k a0 a1 a2) (crM_Unsatisfied.f (k + 1) a0 a1 a2) := by
 intro a0 a1 a2 k;have ih0 := crM_Unsatisfied.mono_l k;unfold crM_Unsatisfied.f
 repeat' first
   | (with_reducible exact ih0 _ _ _ _ _)
   | (with_reducible exact crM_Odd.mono _ _ _)
   | (with_reducible exact LeO.refl _)
   | (with_reducible exact LeO.none _)
   | (with_reducible refine LeO.ite ?_ ?_)
   | (with_reducible refine LeO.bind ?_ (fun _ => ?_))
   | exact ih0 _ _ _ _ _
   | exact crM_Odd.mono _ _ _
   | exact LeO.none _
   | refine LeO.ite ?_ ?_
   | refine LeO.bind ?_ (fun _ => ?_)
set_option maxHeartbeats 8000000 in
set_option maxRecDepth 100000 in
theorem crM_Unsatisfied.calls (k : Nat) (a0_0 : Int) (A0_1 : Option Addr) (c0_1 : Nat) (l0_1 : List (List Int)) (A1 : Option Addr) (c1 : Nat) (l1 : List Int) (r : List Int) (w : World) (hr0_1 : Kd.C (Kd.slice 3 (Kd.int .i64)) w A0_1 l0_1.length l0_1) (hc0_1 : l0_1.length ≤ c0_1) (hr1 : Kd.C (Kd.int .i64) w A1 l1.length l1) (hc1 : l1.length ≤ c1) (h : crM_Unsatisfied.f k a0_0 l0_1 l1 = some r) :
  Calls Try.prog 22 #[.agg #[.int .i64 a0_0, .slice A0_1 l0_1.length c0_1], .slice A1 l1.length c1] w fun e w' => ∃ v0_ : Value, e = .returned (v0_) ∧ Kd.R (Kd.int .i64) 3 w' w.heap.size (fun _ => True) v0_ r ∧ Below w.heap.size w w' := by
 have hu24 := Try.underlying24;have HR0_1 := Aside0.mk hr0_1;have HC0_1 := Aside0.mk hc0_1;clear hr0_1 hc0_1;have HR1 := Aside0.mk hr1;have HC1 := Aside0.mk hc1;clear hr1 hc1;have HB := Aside0.mk (Below.refl w.heap.size w);have H : (crM_Unsatisfied.l0 k l1 ([] : List Int) 0 a0_0 l0_1) = some r := h;clear h;have H' := Aside0.mk H;clear H;go_enter Try.func22, Try.ntmps22
 go_wp2_with (first | ((with_reducible refine gate_dst (N := 2) rfl ?_); refine box_event ?hg (N := 2) ?hd (cs := #[.int .i64 a0_0, .slice A0_1 l0_1.length c0_1]) (t := 24) ?hr ?_; (case hd => rfl); (case hg => rfl); (case hr => first | (go_simp; done) | (go_simp; rfl)); intro gb220 hg w3 hbox hb; have n0_ := Aside0.mk (below_step (by repeat (first | (with_reducible first | exact HB.out | apply below_alloc | apply pbN | apply below_drew1) | exact HB.out)) hb); have n1_ := Aside0.mk (hbox); have n2_ := Aside0.mk ((by rw [hg]; exact (below_size (by repeat (first | (with_reducible first | exact HB.out | apply below_alloc | apply pbN | apply below_drew1) | exact HB.out))) : w.heap.size ≤ gb220)); have n3_ := Aside0.mk ((by rw [hg]; exact (below_size (by repeat (first | (with_reducible first | exact HB.out | apply below_alloc | apply pbN | apply below_drew1) | exact HB.out))) : w.heap.size ≤ gb220)); clear HB; have HB := n0_; have BK220 := n1_; have GW220 := n2_; have GE220 := n3_; clear n0_ n1_ n2_ n3_; clear hb hbox hg))
 go_loopg [5, 6] k (fun kq v5 v6 w' => ∃ (x5_1 : List Int) (x6_1 : Int), v6 = .int .i64 x6_1 ∧ Aside0 (crM_Unsatisfied.l0 kq l1 x5_1 x6_1 a0_0 l0_1 = some r) ∧ Aside0 (kq ≤ k) ∧ Aside0 (Kd.R (Kd.int .i64) 3 w' w.heap.size (fun _ => True) v5 x5_1) ∧ Aside0 (w'.heap[gb220]? = some (.cells #[.int .i64 a0_0, (.slice A0_1 l0_1.length c0_1)] 24 (0, 0))) ∧ Aside0 (Below w.heap.size w w'))
 case atStart => exact ⟨(([] : List Int)), (0), (by first | rfl | (simp; done) | (simp [*]; done)), H', ⟨Nat.le_refl _⟩, ⟨by first | exact Kd.R_nil _ _ _ _ _ | exact Kd.N_nil _ _ _ _ _ | exact Kd.V_nil _ _ _ _ _ | exact Kd.Q_nil _ _ _ _ _ | exact Kd.S_nil _ _ _ _ _⟩, ⟨by (with_reducible repeat (first | refine blk_drewN ?_ _ | refine blk_drew ?_ | refine blk_alloc ?_ _)); exact BK220.out⟩, ⟨by repeat (first | (with_reducible first | exact HB.out | apply below_alloc | apply pbN | apply below_drew1 | refine below_set ?_ GE220.out) | exact HB.out)⟩⟩
 case round =>
  clear H'
  try clear c1
  try clear c2
  try clear p2
  obtain ⟨x5_1, x6_1, rfl, HA, HK1, HO_5, BK220, HB⟩ := hrel
  cases gk with
  | zero => exact absurd HA.out (by simp [crM_Unsatisfied.l0])
  | succ k1 =>
   have H := HA.out;clear HA;simp only [crM_Unsatisfied.l0] at H;by_cases c4 : x6_1 < (l0_1.length : Int)
   ·rw [if_pos c4] at H;have c4b0 : decide (x6_1 < (l0_1.length : Int)) = true := decide_eq_true c4;clear c4;by_cases c5 : 0 ≤ x6_1
    ·rw [if_pos c5] at H;have c5b0 : decide (0 ≤ x6_1) = true := decide_eq_true c5;clear c5;replace H := Option.bind_eq_some_iff.mp H;obtain ⟨t222, A60, H⟩ := H;replace H : (if t222 = true then (if x5_1.length < 17592186044416 then (crM_Unsatisfied.l0 k1 l1 (x5_1 ++ [x6_1]) (wrap64 (x6_1 + 1)) a0_0 l0_1) else (none)) else (crM_Unsatisfied.l0 k1 l1 x5_1 (wrap64 (x6_1 + 1)) a0_0 l0_1)) = some r := H;have A6 := Aside0.mk A60;clear A60;by_cases c7 : t222 = true
     ·subst c7;(have H1 : (if x5_1.length < 17592186044416 then (crM_Unsatisfied.l0 k1 l1 (x5_1 ++ [x6_1]) (wrap64 (x6_1 + 1)) a0_0 l0_1) else (none)) = some r := by rw [if_pos rfl] at H; exact H);clear H;have H := H1;clear H1;by_cases c8 : x5_1.length < 17592186044416
      ·rw [if_pos c8] at H;have LMc8 := Aside0.mk c8;clear c8;(obtain ⟨y223, hy223⟩ : ∃ y_ : List Int, y_ = (x5_1 ++ [x6_1]) := ⟨_, rfl⟩);(replace H : (crM_Unsatisfied.l0 k1 l1 y223 (wrap64 (x6_1 + 1)) a0_0 l0_1) = some r := by first | (rw [hy223]; with_reducible exact H) | (have H2_ := (Option.bind_some _ _).symm.trans H; rw [hy223]; with_reducible exact H2_) | (have H2_ := (Option.bind_some _ _).symm.trans H; with_reducible exact H2_) | with_reducible exact H | (rw [hy223]; exact H) | exact H);have Ny223 := Aside0.mk hy223;clear hy223;have H' := Aside0.mk H;clear H;have hcz9_0 : wr.cell? ⟨gb220, 0, none⟩ = some (.int .i64 a0_0) := (blk_cell BK220.out 0).trans rfl;have hcz9_1 : wr.cell? ⟨gb220, 1, none⟩ = some (.slice A0_1 l0_1.length c0_1) := (blk_cell BK220.out 1).trans rfl;have hfz9_0 := blk_frozen BK220.out 0;have hfz9_1 := blk_frozen BK220.out 1;have p221 : 0 ≤ (x6_1 : Int) := of_decide_eq_true (by first | (with_reducible assumption) | assumption);have q221 : x6_1 < (l0_1.length : Int) := of_decide_eq_true (by first | (with_reducible assumption) | assumption);obtain ⟨ad221, A221_0, c221_0, e221, hx221_0, hl221_0, hi221_0⟩ := at_L1 HR0_1.out x6_1 p221 q221;cases e221;replace hx221_0 := (HB.out.cell (World.block_lt_of_cell? w _ hx221_0)).trans hx221_0;have HR221_0 := Aside0.mk hi221_0;have HC221_0 := Aside0.mk hl221_0;clear hi221_0 hl221_0;replace p221 := eq_true p221;replace q221 := eq_true q221
       go_wp2_with (first | ((with_reducible refine gate_callee (f := 50) rfl ?_); refine goesL_ (some 20) rfl rfl Try.func50 (by kernel_rfl) rfl #[.slice A221_0 (rd_L1 l0_1 x6_1).length c221_0, .slice A1 l1.length c1] rfl (by (try simp only [List.map_toArray, List.map_cons, List.map_nil]); first | done | rfl | (simp only [List.length_drop, List.length_take]; rfl)) ?_; (with_reducible refine (crM_Odd.calls k1 _ _ (rd_L1 l0_1 x6_1) _ _ l1 true _ ?side1 ?side2 ?side3 ?side4 A6.out).mono ?_); (case side1 => repeat (first | exact (Kd.C_below HR221_0.out HB.out) | (with_reducible refine Kd.C_alloc ?_ _) | (with_reducible refine Kd.C_drewN ?_ _) | (with_reducible refine Kd.C_drew ?_))); (case side2 => exact HC221_0.out); (case side3 => repeat (first | exact (Kd.C_below HR1.out HB.out) | (with_reducible refine Kd.C_alloc ?_ _) | (with_reducible refine Kd.C_drewN ?_ _) | (with_reducible refine Kd.C_drew ?_))); (case side4 => exact HC1.out); rintro e w' ⟨rfl, ⟨nd, rfl⟩⟩; refine ⟨_, rfl, ?_⟩) | ((with_reducible refine gate_builtin (b := .append) (xs := #[.tmp 21, .tmp 23]) rfl ?_); at_builtin; refine Kd.R_append (Kd.int .i64) (w0 := w) w.heap.size rfl (.tmp 21) (.tmp 23) 25 3 (.int .i64 0) 8 rfl Try.underlying25 info3 rfl (by decide) (by omega) u5 x5_1 x6_1 [.int .i64 x6_1] (fun _ => True) (fun _ => False) rfl rfl ?aP (fun _ hk => hk.elim) ?aF ?aO ?aB ?aS ?aL ?_; (case aP => exact rfl); (case aB => exact (by repeat (first | (with_reducible first | exact HB.out | apply below_alloc | apply pbN | apply below_drew1 | refine below_set ?_ GE220.out) | exact HB.out))); (case aF => exact (fun _ _ => trivial)); (case aO => exact (by (with_reducible repeat (first | apply Kd.R_alloc | apply Kd.R_drewN | apply Kd.R_drew)); exact HO_5.out)); (case aS => exact (below_size (by repeat (first | (with_reducible first | exact HB.out | apply below_alloc | apply pbN | apply below_drew1 | refine below_set ?_ GE220.out) | exact HB.out)))); (case aL => have := LMc8.out; omega); intro v224 w10 ho hb hg hat; rw [← Ny223.out] at ho; have n0_ := Aside0.mk (blk_grown (g := gb220) (o := .cells #[.int .i64 a0_0, .slice (some ad221) l0_1.length c0_1] 24 (0, 0)) (by (with_reducible repeat (first | refine blk_drewN ?_ _ | refine blk_drew ?_ | refine blk_alloc ?_ _)); exact BK220.out) hg (Kd.R_ne HO_5.out BK220.out (by decide))); have n1_ := Aside0.mk (hb); have n2_ := Aside0.mk (ho); clear BK220; clear HB; clear HO_5; have BK220 := n0_; have HB := n1_; have HO225 := n2_; clear n0_ n1_ n2_; clear ho hb hg hat))
       go_roundg k1
       case measure => have := HK1.out; omega
       case rel => exact ⟨(y223), (wrap64 (x6_1 + 1)), (by first | rfl | (simp; done) | (simp [*]; done)), H', ⟨by have := HK1.out; omega⟩, ⟨by (with_reducible repeat (first | apply Kd.R_alloc | apply Kd.R_drewN | apply Kd.R_drew)); exact HO225.out⟩, ⟨by (with_reducible repeat (first | refine blk_drewN ?_ _ | refine blk_drew ?_ | refine blk_alloc ?_ _)); exact BK220.out⟩, ⟨by repeat (first | (with_reducible first | exact HB.out | apply below_alloc | apply pbN | apply below_drew1 | refine below_set ?_ GE220.out) | exact HB.out)⟩⟩
      ·rw [if_neg c8] at H;exact absurd H (by simp)
     ·replace c7 := Bool.eq_false_iff.mpr c7;subst c7;(have H1 : (crM_Unsatisfied.l0 k1 l1 x5_1 (wrap64 (x6_1 + 1)) a0_0 l0_1) = some r := by rw [if_neg (show ¬ (false = true) by decide)] at H; exact H);clear H;have H := H1;clear H1;have H' := Aside0.mk H;clear H;have hcz11_0 : wr.cell? ⟨gb220, 0, none⟩ = some (.int .i64 a0_0) := (blk_cell BK220.out 0).trans rfl;have hcz11_1 : wr.cell? ⟨gb220, 1, none⟩ = some (.slice A0_1 l0_1.length c0_1) := (blk_cell BK220.out 1).trans rfl;have hfz11_0 := blk_frozen BK220.out 0;have hfz11_1 := blk_frozen BK220.out 1;have p221 : 0 ≤ (x6_1 : Int) := of_decide_eq_true (by first | (with_reducible assumption) | assumption);have q221 : x6_1 < (l0_1.length : Int) := of_decide_eq_true (by first | (with_reducible assumption) | assumption);obtain ⟨ad221, A221_0, c221_0, e221, hx221_0, hl221_0, hi221_0⟩ := at_L1 HR0_1.out x6_1 p221 q221;cases e221;replace hx221_0 := (HB.out.cell (World.block_lt_of_cell? w _ hx221_0)).trans hx221_0;have HR221_0 := Aside0.mk hi221_0;have HC221_0 := Aside0.mk hl221_0;clear hi221_0 hl221_0;replace p221 := eq_true p221;replace q221 := eq_true q221
      go_wp2_with (first | ((with_reducible refine gate_callee (f := 50) rfl ?_); refine goesL_ (some 20) rfl rfl Try.func50 (by kernel_rfl) rfl #[.slice A221_0 (rd_L1 l0_1 x6_1).length c221_0, .slice A1 l1.length c1] rfl (by (try simp only [List.map_toArray, List.map_cons, List.map_nil]); first | done | rfl | (simp only [List.length_drop, List.length_take]; rfl)) ?_; (with_reducible refine (crM_Odd.calls k1 _ _ (rd_L1 l0_1 x6_1) _ _ l1 false _ ?side1 ?side2 ?side3 ?side4 A6.out).mono ?_); (case side1 => repeat (first | exact (Kd.C_below HR221_0.out HB.out) | (with_reducible refine Kd.C_alloc ?_ _) | (with_reducible refine Kd.C_drewN ?_ _) | (with_reducible refine Kd.C_drew ?_))); (case side2 => exact HC221_0.out); (case side3 => repeat (first | exact (Kd.C_below HR1.out HB.out) | (with_reducible refine Kd.C_alloc ?_ _) | (with_reducible refine Kd.C_drewN ?_ _) | (with_reducible refine Kd.C_drew ?_))); (case side4 => exact HC1.out); rintro e w' ⟨rfl, ⟨nd, rfl⟩⟩; refine ⟨_, rfl, ?_⟩))
      go_roundg k1
      case measure => have := HK1.out; omega
      case rel => exact ⟨(x5_1), (wrap64 (x6_1 + 1)), (by first | rfl | (simp; done) | (simp [*]; done)), H', ⟨by have := HK1.out; omega⟩, ⟨by (with_reducible repeat (first | apply Kd.R_alloc | apply Kd.R_drewN | apply Kd.R_drew)); exact HO_5.out⟩, ⟨by (with_reducible repeat (first | refine blk_drewN ?_ _ | refine blk_drew ?_ | refine blk_alloc ?_ _)); exact BK220.out⟩, ⟨by repeat (first | (with_reducible first | exact HB.out | apply below_alloc | apply pbN | apply below_drew1 | refine below_set ?_ GE220.out) | exact HB.out)⟩⟩
    ·rw [if_neg c5] at H;exact absurd H (by simp)
   ·rw [if_neg c4] at H;have c4b0 : decide (x6_1 < (l0_1.length : Int)) = false := decide_eq_false c4;clear c4;obtain rfl := Option.some.inj H;have hcz12_0 : wr.cell? ⟨gb220, 0, none⟩ = some (.int .i64 a0_0) := (blk_cell BK220.out 0).trans rfl;have hcz12_1 : wr.cell? ⟨gb220, 1, none⟩ = some (.slice A0_1 l0_1.length c0_1) := (blk_cell BK220.out 1).trans rfl;have hfz12_0 := blk_frozen BK220.out 0;have hfz12_1 := blk_frozen BK220.out 1
    go_wp2
    go_ret
    exact ⟨_, by first | rfl | (simp [errW_none, errW_some] <;> rfl) | (simp [*, errW_none, errW_some] <;> rfl), by (with_reducible repeat (first | apply Kd.R_alloc | apply Kd.R_drewN | apply Kd.R_drew)); exact HO_5.out, by repeat (first | (with_reducible first | exact HB.out | apply below_alloc | apply pbN | apply below_drew1 | refine below_set ?_ GE220.out) | exact HB.out)⟩
def crM_Two.f  : Option (Int × Int × List Int) := some (2, 1, ([] : List Int))
set_option maxHeartbeats 8000000 in
set_option maxRecDepth 100000 in
theorem crM_Two.calls  (r1 : Int) (r2 : Int) (r3 : List Int) (w : World) (h : crM_Two.f  = some (r1, r2, r3)) :
  Calls Try.prog 26 #[] w fun e w' => ∃ v2_ : Value, e = .returned (.agg #[.int .i64 r1, .int .i64 r2, v2_]) ∧ Kd.R (Kd.int .i64) 3 w' w.heap.size (fun _ => True) v2_ r3 ∧ Below w.heap.size w w' := by
 have hu44 := Try.underlying44;have HB := Aside0.mk (Below.refl w.heap.size w);have H : (some (2, 1, ([] : List Int))) = some (r1, r2, r3) := h;clear h;simp only [Option.some.injEq, Prod.mk.injEq] at H;obtain ⟨rfl, rfl, rfl⟩ := H;go_enter Try.func26, Try.ntmps26
 go_wp2_with (first | ((with_reducible refine gate_dst (N := 0) rfl ?_); refine box_event ?hg (N := 0) ?hd (cs := #[.int .i64 0, .int .i64 0, .slice none 0 0]) (t := 44) ?hr ?_; (case hd => rfl); (case hg => rfl); (case hr => first | (go_simp; done) | (go_simp; rfl)); intro gb156 hg w1 hbox hb; have n0_ := Aside0.mk (below_step (by repeat (first | (with_reducible first | exact HB.out | apply below_alloc | apply pbN | apply below_drew1) | exact HB.out)) hb); have n1_ := Aside0.mk (hbox); have n2_ := Aside0.mk ((by rw [hg]; exact (below_size (by repeat (first | (with_reducible first | exact HB.out | apply below_alloc | apply pbN | apply below_drew1) | exact HB.out))) : w.heap.size ≤ gb156)); have n3_ := Aside0.mk ((by rw [hg]; exact (below_size (by repeat (first | (with_reducible first | exact HB.out | apply below_alloc | apply pbN | apply below_drew1) | exact HB.out))) : w.heap.size ≤ gb156)); clear HB; have HB := n0_; have BK156 := n1_; have GW156 := n2_; have GE156 := n3_; clear n0_ n1_ n2_ n3_; clear hb hbox hg; have hcz2_0 : w1.cell? ⟨gb156, 0, none⟩ = some (.int .i64 0) := (blk_cell BK156.out 0).trans rfl; have hcz2_1 : w1.cell? ⟨gb156, 1, none⟩ = some (.int .i64 0) := (blk_cell BK156.out 1).trans rfl; have hcz2_2 : w1.cell? ⟨gb156, 2, none⟩ = some (.slice none 0 0) := (blk_cell BK156.out 2).trans rfl; have hfz2_0 := blk_frozen BK156.out 0; have hfz2_1 := blk_frozen BK156.out 1; have hfz2_2 := blk_frozen BK156.out 2))
 refine bodyPost_ret (results_cell_row rfl _ _ gb156 44 #[.int .i64 2, .int .i64 1, .slice none 0 0] (0, 0) _ rfl (by (with_reducible repeat (first | refine blk_drewN ?_ _ | refine blk_drew ?_ | refine blk_alloc ?_ _)); refine blk_put (cs := #[.int .i64 2, .int .i64 1, .slice none 0 0]) ?_ 2 _ rfl; (with_reducible repeat (first | refine blk_drewN ?_ _ | refine blk_drew ?_ | refine blk_alloc ?_ _)); refine blk_put (cs := #[.int .i64 2, .int .i64 0, .slice none 0 0]) ?_ 1 _ rfl; (with_reducible repeat (first | refine blk_drewN ?_ _ | refine blk_drew ?_ | refine blk_alloc ?_ _)); refine blk_put (cs := #[.int .i64 0, .int .i64 0, .slice none 0 0]) ?_ 0 _ rfl; (with_reducible repeat (first | refine blk_drewN ?_ _ | refine blk_drew ?_ | refine blk_alloc ?_ _)); exact BK156.out) Try.underlying44 rfl (by kernel_rfl)) rfl ?_;exact ⟨_, by first | rfl | (simp [errW_none, errW_some] <;> rfl) | (simp [*, errW_none, errW_some] <;> rfl), by first | exact Kd.R_nil _ _ _ _ _ | exact Kd.N_nil _ _ _ _ _ | exact Kd.V_nil _ _ _ _ _ | exact Kd.Q_nil _ _ _ _ _ | exact Kd.S_nil _ _ _ _ _, by repeat (first | (with_reducible first | exact HB.out | apply below_alloc | apply pbN | apply below_drew1 | refine below_set ?_ GE156.out) | exact HB.out)⟩
def crM_Word.f (k : Nat) (a0_0 : Int) (l0_1 : List (List Int)) (l1 : List Int) : Option (Int) := (crM_Two.f).bind fun bt404 => ((cr9_Check.f k bt404.1 bt404.2.1 bt404.2.2 a0_0 l0_1).bind fun t409 => (if t409 = 0 then (if (l1.length : Int) = a0_0 then ((crM_Two.f).bind fun bt410 => ((cr9_Entries.f k bt410.1 bt410.2.1 bt410.2.2 l1).bind fun t415 => (some t415))) else (some 4)) else (some t409)))
theorem crM_Word.mono : ∀ a0 a1 a2 k, LeO (crM_Word.f k a0 a1 a2) (crM_Word.f (k + 1) a0 a1 a2) := by
 intro a0 a1 a2 k;unfold crM_Word.f
 repeat' first
   | (with_reducible exact cr9_Check.mono _ _ _ _ _ _)
   | (with_reducible exact cr9_Entries.mono _ _ _ _ _)
   | (with_reducible exact LeO.refl _)
   | (with_reducible exact LeO.none _)
   | (with_reducible refine LeO.ite ?_ ?_)
   | (with_reducible refine LeO.bind ?_ (fun _ => ?_))
   | exact cr9_Check.mono _ _ _ _ _ _
   | exact cr9_Entries.mono _ _ _ _ _
   | exact LeO.none _
   | refine LeO.ite ?_ ?_
   | refine LeO.bind ?_ (fun _ => ?_)
set_option maxHeartbeats 8000000 in
set_option maxRecDepth 100000 in
theorem crM_Word.calls (k : Nat) (a0_0 : Int) (A0_1 : Option Addr) (c0_1 : Nat) (l0_1 : List (List Int)) (A1 : Option Addr) (c1 : Nat) (l1 : List Int) (r : Int) (w : World) (hr0_1 : Kd.C (Kd.slice 3 (Kd.int .i64)) w A0_1 l0_1.length l0_1) (hc0_1 : l0_1.length ≤ c0_1) (hr1 : Kd.C (Kd.int .i64) w A1 l1.length l1) (hc1 : l1.length ≤ c1) (h : crM_Word.f k a0_0 l0_1 l1 = some r) :
  Calls Try.prog 23 #[.agg #[.int .i64 a0_0, .slice A0_1 l0_1.length c0_1], .slice A1 l1.length c1] w fun e w' => e = .returned (.int .i64 r) ∧ Below w.heap.size w w' := by
 have hu24 := Try.underlying24;have HR0_1 := Aside0.mk hr0_1;have HC0_1 := Aside0.mk hc0_1;clear hr0_1 hc0_1;have HR1 := Aside0.mk hr1;have HC1 := Aside0.mk hc1;clear hr1 hc1;have HB := Aside0.mk (Below.refl w.heap.size w);have H : ((crM_Two.f).bind fun bt404 => ((cr9_Check.f k bt404.1 bt404.2.1 bt404.2.2 a0_0 l0_1).bind fun t409 => (if t409 = 0 then (if (l1.length : Int) = a0_0 then ((crM_Two.f).bind fun bt410 => ((cr9_Entries.f k bt410.1 bt410.2.1 bt410.2.2 l1).bind fun t415 => (some t415))) else (some 4)) else (some t409)))) = some r := h;clear h;replace H := Option.bind_eq_some_iff.mp H;obtain ⟨⟨t404, t405, t406⟩, A30, H⟩ := H;replace H : ((cr9_Check.f k t404 t405 t406 a0_0 l0_1).bind fun t409 => (if t409 = 0 then (if (l1.length : Int) = a0_0 then ((crM_Two.f).bind fun bt410 => ((cr9_Entries.f k bt410.1 bt410.2.1 bt410.2.2 l1).bind fun t415 => (some t415))) else (some 4)) else (some t409))) = some r := H;have A3 := Aside0.mk A30;clear A30;replace H := Option.bind_eq_some_iff.mp H;obtain ⟨t409, A40, H⟩ := H;replace H : (if t409 = 0 then (if (l1.length : Int) = a0_0 then ((crM_Two.f).bind fun bt410 => ((cr9_Entries.f k bt410.1 bt410.2.1 bt410.2.2 l1).bind fun t415 => (some t415))) else (some 4)) else (some t409)) = some r := H;have A4 := Aside0.mk A40;clear A40;by_cases c5 : t409 = 0
 ·rw [if_pos c5] at H;have c5b0 : (t409 == 0) = true := beq_iff_eq.mpr c5;have c5b1 : (t409 != 0) = false := bne_eq_false_iff_eq.mpr c5;clear c5;by_cases c6 : (l1.length : Int) = a0_0
  ·rw [if_pos c6] at H;have c6b0 : ((l1.length : Int) == a0_0) = true := beq_iff_eq.mpr c6;have c6b1 : ((l1.length : Int) != a0_0) = false := bne_eq_false_iff_eq.mpr c6;clear c6;replace H := Option.bind_eq_some_iff.mp H;obtain ⟨⟨t410, t411, t412⟩, A70, H⟩ := H;replace H : ((cr9_Entries.f k t410 t411 t412 l1).bind fun t415 => (some t415)) = some r := H;have A7 := Aside0.mk A70;clear A70;replace H := Option.bind_eq_some_iff.mp H;obtain ⟨t415, A80, H⟩ := H;replace H : (some t415) = some r := H;have A8 := Aside0.mk A80;clear A80;obtain rfl := Option.some.inj H;go_enter Try.func23, Try.ntmps23
   try go_wp2_with (first | ((with_reducible refine gate_dst (N := 2) rfl ?_); refine box_event ?hg (N := 2) ?hd (cs := #[.int .i64 a0_0, .slice A0_1 l0_1.length c0_1]) (t := 24) ?hr ?_; (case hd => rfl); (case hg => rfl); (case hr => first | (go_simp; done) | (go_simp; rfl)); intro gb403 hg w9 hbox hb; have n0_ := Aside0.mk (below_step (by repeat (first | (with_reducible first | exact HB.out | apply below_alloc | apply pbN | apply below_drew1) | exact HB.out)) hb); have n1_ := Aside0.mk (hbox); have n2_ := Aside0.mk ((by rw [hg]; exact (below_size (by repeat (first | (with_reducible first | exact HB.out | apply below_alloc | apply pbN | apply below_drew1) | exact HB.out))) : w.heap.size ≤ gb403)); have n3_ := Aside0.mk ((by rw [hg]; exact (below_size (by repeat (first | (with_reducible first | exact HB.out | apply below_alloc | apply pbN | apply below_drew1) | exact HB.out))) : w.heap.size ≤ gb403)); clear HB; have HB := n0_; have BK403 := n1_; have GW403 := n2_; have GE403 := n3_; clear n0_ n1_ n2_ n3_; clear hb hbox hg))
   have n0_ := Aside0.mk (blk_drew BK403.out);have n1_ := Aside0.mk (below_drew1 HB.out);clear BK403;clear HB;have BK403 := n0_;have HB := n1_;clear n0_ n1_;refine start_ (n := 4) (S := fun w' => w'.cell? ⟨gb403, 0, none⟩ = some (.int .i64 a0_0) ∧ w'.cell? ⟨gb403, 1, none⟩ = some (.slice A0_1 l0_1.length c0_1)) (ds := []) #[false, false, false, false] (by kernel_rfl) rfl rfl ⟨(blk_cell BK403.out 0).trans rfl, (blk_cell BK403.out 1).trans rfl⟩ (fun hHeld => ?_);generalize w9.drew = w10 at BK403 HB hHeld ⊢
   refine take_ (i := 1) (N := some 7) (v := ?_) (a' := ?_) #[false, true, false, false] rfl rfl (by kernel_rfl) (fun _ _ _ h => h) (Or.inl ⟨by rfl, ?_⟩) hHeld ?_ ?_;rotate_left
   ·rintro w' ⟨s0, s1⟩
    go_simp
    with_reducible rfl
   rotate_left
   ·simp only [Act.put, List.setIfInBounds_toArray, List.set_cons_zero, List.set_cons_succ, i64_w, i32_w]
    rfl
   refine one_ (i := 0) (N := some 6) #[true, true, false, false] rfl rfl (by kernel_rfl) (by decide) (fun K hK => ?_);refine goes_ Try.func26 (by kernel_rfl) rfl #[] (by rfl) rfl rfl (by (try simp only [List.map_toArray, List.map_cons, List.map_nil]); first | done | rfl | (simp only [List.length_drop, List.length_take]; rfl)) ?_
   with_reducible refine (crM_Two.calls  t404 t405 t406 _ A3.out).mono ?_
   rintro e w11 ⟨v407, rfl, ho0, hb⟩
   refine ⟨_, rfl, ?_⟩;have n0_ := Aside0.mk (Kd.R_lower ho0 (below_size (by repeat (first | (with_reducible first | exact HB.out | apply below_alloc | apply pbN | apply below_drew1 | refine below_set ?_ GE403.out) | exact HB.out))));have n1_ := Aside0.mk (blk_below (g := gb403) (o := .cells #[.int .i64 a0_0, .slice A0_1 l0_1.length c0_1] 24 (0, 0)) (by (with_reducible repeat (first | refine blk_drewN ?_ _ | refine blk_drew ?_ | refine blk_alloc ?_ _)); exact BK403.out) hb);have n2_ := Aside0.mk (below_step (by repeat (first | (with_reducible first | exact HB.out | apply below_alloc | apply pbN | apply below_drew1 | refine below_set ?_ GE403.out) | exact HB.out)) hb);clear BK403;clear HB;have HO408 := n0_;have BK403 := n1_;have HB := n2_;clear n0_ n1_ n2_;(try clear hb);(try clear hb2);(try clear hk);(try clear hi);(try clear ho0);obtain ⟨Ao12, co12, eo12⟩ := Kd.R_slice HO408.out;(first | subst eo12 | (injection eo12 with f1_ f2_ f3_; have f4_ := f1_.symm; have f5_ := f3_.symm; clear f1_ f2_ f3_; subst f4_; subst f5_));refine hK.out _ _ ⟨(blk_cell BK403.out 0).trans rfl, (blk_cell BK403.out 1).trans rfl⟩ (fun hHeld => ?_);clear hK K;refine norm_ (a' := ?_) ?_ ?_;rotate_left
   ·show Act.put _ (some 6) _ = _;simp only [Act.put, List.setIfInBounds_toArray, List.set_cons_zero, List.set_cons_succ, i64_w, i32_w]
    rfl
   refine one_ (i := 2) (N := some 8) #[true, true, true, false] rfl rfl (by kernel_rfl) (by decide) (fun K hK => ?_);refine goes_ Try.func30 (by kernel_rfl) rfl #[.agg #[.int .i64 t404, .int .i64 t405, .slice Ao12 t406.length co12], .agg #[.int .i64 a0_0, .slice A0_1 l0_1.length c0_1]] (by rfl) rfl rfl (by (try simp only [List.map_toArray, List.map_cons, List.map_nil]); first | done | rfl | (simp only [List.length_drop, List.length_take]; rfl)) ?_
   with_reducible refine (cr9_Check.calls k t404 t405 _ _ t406 a0_0 _ _ l0_1 t409 _ ?side1 ?side2 ?side3 ?side4 A4.out).mono ?_
   (case side1 => repeat (first | exact (Kd.R_reads' HO408.out).2.2 | (with_reducible refine Kd.C_alloc ?_ _) | (with_reducible refine Kd.C_drewN ?_ _) | (with_reducible refine Kd.C_drew ?_)));(case side2 => exact (Kd.R_reads' HO408.out).2.1);(case side3 => repeat (first | exact (Kd.C_below HR0_1.out HB.out) | (with_reducible refine Kd.C_alloc ?_ _) | (with_reducible refine Kd.C_drewN ?_ _) | (with_reducible refine Kd.C_drew ?_)));(case side4 => exact HC0_1.out)
   rintro e w13 ⟨rfl, hb⟩
   refine ⟨_, rfl, ?_⟩;have n0_ := Aside0.mk (Kd.R_below (by (with_reducible repeat (first | apply Kd.R_alloc | apply Kd.R_drewN | apply Kd.R_drew)); exact HO408.out) hb);have n1_ := Aside0.mk (blk_below (g := gb403) (o := .cells #[.int .i64 a0_0, .slice A0_1 l0_1.length c0_1] 24 (0, 0)) (by (with_reducible repeat (first | refine blk_drewN ?_ _ | refine blk_drew ?_ | refine blk_alloc ?_ _)); exact BK403.out) hb);have n2_ := Aside0.mk (below_step (by repeat (first | (with_reducible first | exact HB.out | apply below_alloc | apply pbN | apply below_drew1 | refine below_set ?_ GE403.out) | exact HB.out)) hb);clear HO408;clear BK403;clear HB;have HO408 := n0_;have BK403 := n1_;have HB := n2_;clear n0_ n1_ n2_;(try clear hb);(try clear hb2);(try clear hk);(try clear hi);refine hK.out _ _ ⟨(blk_cell BK403.out 0).trans rfl, (blk_cell BK403.out 1).trans rfl⟩ (fun hHeld => ?_);clear hK K;refine norm_ (a' := ?_) ?_ ?_;rotate_left
   ·show Act.put _ (some 8) _ = _;simp only [Act.put, List.setIfInBounds_toArray, List.set_cons_zero, List.set_cons_succ, i64_w, i32_w]
    rfl
   refine pure_ (i := 3) (N := some 5) (v := ?_) (a' := ?_) #[true, true, true, true] rfl rfl (by kernel_rfl) (fun _ _ _ h => h) (Or.inl ⟨by rfl, ?_⟩) ?_ ?_;rotate_left
   ·intro w';go_simp
    with_reducible rfl
   rotate_left
   ·simp only [Act.put, List.setIfInBounds_toArray, List.set_cons_zero, List.set_cons_succ, i64_w, i32_w]
    rfl
   refine done_ (by kernel_rfl) ?_;have hcz14_0 : w13.cell? ⟨gb403, 0, none⟩ = some (.int .i64 a0_0) := (blk_cell BK403.out 0).trans rfl;have hcz14_1 : w13.cell? ⟨gb403, 1, none⟩ = some (.slice A0_1 l0_1.length c0_1) := (blk_cell BK403.out 1).trans rfl;have hfz14_0 := blk_frozen BK403.out 0;have hfz14_1 := blk_frozen BK403.out 1
   try go_wp2_with (first | ((with_reducible refine gate_callee (f := 26) rfl ?_); refine goesL_ (some 17) rfl rfl Try.func26 (by kernel_rfl) rfl #[] rfl (by (try simp only [List.map_toArray, List.map_cons, List.map_nil]); first | done | rfl | (simp only [List.length_drop, List.length_take]; rfl)) ?_; (with_reducible refine (crM_Two.calls  t410 t411 t412 _ A7.out).mono ?_); rintro e w15 ⟨v413, rfl, ho0, hb⟩; refine ⟨_, rfl, ?_⟩; have n0_ := Aside0.mk (Kd.R_elder' (by (with_reducible repeat (first | apply Kd.R_alloc | apply Kd.R_drewN | apply Kd.R_drew)); exact HO408.out) (Kd.R_base ho0) hb); have n1_ := Aside0.mk (Kd.R_lower (Kd.R_new' ho0 (Kd.R_lt (by (with_reducible repeat (first | apply Kd.R_alloc | apply Kd.R_drewN | apply Kd.R_drew)); exact HO408.out))) (below_size (by repeat (first | (with_reducible first | exact HB.out | apply below_alloc | apply pbN | apply below_drew1 | refine below_set ?_ GE403.out) | exact HB.out)))); have n2_ := Aside0.mk (blk_below (g := gb403) (o := .cells #[.int .i64 a0_0, .slice A0_1 l0_1.length c0_1] 24 (0, 0)) (by (with_reducible repeat (first | refine blk_drewN ?_ _ | refine blk_drew ?_ | refine blk_alloc ?_ _)); exact BK403.out) hb); have n3_ := Aside0.mk (below_step (by repeat (first | (with_reducible first | exact HB.out | apply below_alloc | apply pbN | apply below_drew1 | refine below_set ?_ GE403.out) | exact HB.out)) hb); clear HO408; clear BK403; clear HB; have HO408 := n0_; have HO414 := n1_; have BK403 := n2_; have HB := n3_; clear n0_ n1_ n2_ n3_; (try clear hb); (try clear hb2); (try clear hk); (try clear hi); (try clear ho0); obtain ⟨Ao16, co16, eo16⟩ := Kd.R_slice HO414.out; subst eo16) | ((with_reducible refine gate_callee (f := 51) rfl ?_); refine goesL_ (some 19) rfl rfl Try.func51 (by kernel_rfl) rfl #[.agg #[.int .i64 t410, .int .i64 t411, .slice Ao16 t412.length co16], .slice A1 l1.length c1] rfl (by (try simp only [List.map_toArray, List.map_cons, List.map_nil]); first | done | rfl | (simp only [List.length_drop, List.length_take]; rfl)) ?_; (with_reducible refine (cr9_Entries.calls k t410 t411 _ _ t412 _ _ l1 t415 _ ?side1 ?side2 ?side3 ?side4 A8.out).mono ?_); (case side1 => repeat (first | exact (Kd.R_reads' HO414.out).2.2 | (with_reducible refine Kd.C_alloc ?_ _) | (with_reducible refine Kd.C_drewN ?_ _) | (with_reducible refine Kd.C_drew ?_))); (case side2 => exact (Kd.R_reads' HO414.out).2.1); (case side3 => repeat (first | exact (Kd.C_below HR1.out HB.out) | (with_reducible refine Kd.C_alloc ?_ _) | (with_reducible refine Kd.C_drewN ?_ _) | (with_reducible refine Kd.C_drew ?_))); (case side4 => exact HC1.out); rintro e w17 ⟨rfl, hb⟩; refine ⟨_, rfl, ?_⟩; have n0_ := Aside0.mk (Kd.R_below (by (with_reducible repeat (first | apply Kd.R_alloc | apply Kd.R_drewN | apply Kd.R_drew)); exact HO408.out) hb); have n1_ := Aside0.mk (Kd.R_below (by (with_reducible repeat (first | apply Kd.R_alloc | apply Kd.R_drewN | apply Kd.R_drew)); exact HO414.out) hb); have n2_ := Aside0.mk (blk_below (g := gb403) (o := .cells #[.int .i64 a0_0, .slice A0_1 l0_1.length c0_1] 24 (0, 0)) (by (with_reducible repeat (first | refine blk_drewN ?_ _ | refine blk_drew ?_ | refine blk_alloc ?_ _)); exact BK403.out) hb); have n3_ := Aside0.mk (below_step (by repeat (first | (with_reducible first | exact HB.out | apply below_alloc | apply pbN | apply below_drew1 | refine below_set ?_ GE403.out) | exact HB.out)) hb); clear HO408; clear HO414; clear BK403; clear HB; have HO408 := n0_; have HO414 := n1_; have BK403 := n2_; have HB := n3_; clear n0_ n1_ n2_ n3_; (try clear hb); (try clear hb2); (try clear hk); (try clear hi)))
   go_ret
   exact ⟨by first | rfl | (simp [errW_none, errW_some] <;> rfl) | (simp [*, errW_none, errW_some] <;> rfl), by repeat (first | (with_reducible first | exact HB.out | apply below_alloc | apply pbN | apply below_drew1 | refine below_set ?_ GE403.out) | exact HB.out)⟩
  ·rw [if_neg c6] at H;have c6b0 : ((l1.length : Int) == a0_0) = false := beq_eq_false_iff_ne.mpr c6;have c6b1 : ((l1.length : Int) != a0_0) = true := bne_iff_ne.mpr c6;obtain rfl := Option.some.inj H;go_enter Try.func23, Try.ntmps23
   try go_wp2_with (first | ((with_reducible refine gate_dst (N := 2) rfl ?_); refine box_event ?hg (N := 2) ?hd (cs := #[.int .i64 a0_0, .slice A0_1 l0_1.length c0_1]) (t := 24) ?hr ?_; (case hd => rfl); (case hg => rfl); (case hr => first | (go_simp; done) | (go_simp; rfl)); intro gb403 hg w18 hbox hb; have n0_ := Aside0.mk (below_step (by repeat (first | (with_reducible first | exact HB.out | apply below_alloc | apply pbN | apply below_drew1) | exact HB.out)) hb); have n1_ := Aside0.mk (hbox); have n2_ := Aside0.mk ((by rw [hg]; exact (below_size (by repeat (first | (with_reducible first | exact HB.out | apply below_alloc | apply pbN | apply below_drew1) | exact HB.out))) : w.heap.size ≤ gb403)); have n3_ := Aside0.mk ((by rw [hg]; exact (below_size (by repeat (first | (with_reducible first | exact HB.out | apply below_alloc | apply pbN | apply below_drew1) | exact HB.out))) : w.heap.size ≤ gb403)); clear HB; have HB := n0_; have BK403 := n1_; have GW403 := n2_; have GE403 := n3_; clear n0_ n1_ n2_ n3_; clear hb hbox hg))
   have n0_ := Aside0.mk (blk_drew BK403.out);have n1_ := Aside0.mk (below_drew1 HB.out);clear BK403;clear HB;have BK403 := n0_;have HB := n1_;clear n0_ n1_;refine start_ (n := 4) (S := fun w' => w'.cell? ⟨gb403, 0, none⟩ = some (.int .i64 a0_0) ∧ w'.cell? ⟨gb403, 1, none⟩ = some (.slice A0_1 l0_1.length c0_1)) (ds := []) #[false, false, false, false] (by kernel_rfl) rfl rfl ⟨(blk_cell BK403.out 0).trans rfl, (blk_cell BK403.out 1).trans rfl⟩ (fun hHeld => ?_);generalize w18.drew = w19 at BK403 HB hHeld ⊢
   refine take_ (i := 1) (N := some 7) (v := ?_) (a' := ?_) #[false, true, false, false] rfl rfl (by kernel_rfl) (fun _ _ _ h => h) (Or.inl ⟨by rfl, ?_⟩) hHeld ?_ ?_;rotate_left
   ·rintro w' ⟨s0, s1⟩
    go_simp
    with_reducible rfl
   rotate_left
   ·simp only [Act.put, List.setIfInBounds_toArray, List.set_cons_zero, List.set_cons_succ, i64_w, i32_w]
    rfl
   refine one_ (i := 0) (N := some 6) #[true, true, false, false] rfl rfl (by kernel_rfl) (by decide) (fun K hK => ?_);refine goes_ Try.func26 (by kernel_rfl) rfl #[] (by rfl) rfl rfl (by (try simp only [List.map_toArray, List.map_cons, List.map_nil]); first | done | rfl | (simp only [List.length_drop, List.length_take]; rfl)) ?_
   with_reducible refine (crM_Two.calls  t404 t405 t406 _ A3.out).mono ?_
   rintro e w20 ⟨v407, rfl, ho0, hb⟩
   refine ⟨_, rfl, ?_⟩;have n0_ := Aside0.mk (Kd.R_lower ho0 (below_size (by repeat (first | (with_reducible first | exact HB.out | apply below_alloc | apply pbN | apply below_drew1 | refine below_set ?_ GE403.out) | exact HB.out))));have n1_ := Aside0.mk (blk_below (g := gb403) (o := .cells #[.int .i64 a0_0, .slice A0_1 l0_1.length c0_1] 24 (0, 0)) (by (with_reducible repeat (first | refine blk_drewN ?_ _ | refine blk_drew ?_ | refine blk_alloc ?_ _)); exact BK403.out) hb);have n2_ := Aside0.mk (below_step (by repeat (first | (with_reducible first | exact HB.out | apply below_alloc | apply pbN | apply below_drew1 | refine below_set ?_ GE403.out) | exact HB.out)) hb);clear BK403;clear HB;have HO408 := n0_;have BK403 := n1_;have HB := n2_;clear n0_ n1_ n2_;(try clear hb);(try clear hb2);(try clear hk);(try clear hi);(try clear ho0);obtain ⟨Ao21, co21, eo21⟩ := Kd.R_slice HO408.out;(first | subst eo21 | (injection eo21 with f1_ f2_ f3_; have f4_ := f1_.symm; have f5_ := f3_.symm; clear f1_ f2_ f3_; subst f4_; subst f5_));refine hK.out _ _ ⟨(blk_cell BK403.out 0).trans rfl, (blk_cell BK403.out 1).trans rfl⟩ (fun hHeld => ?_);clear hK K;refine norm_ (a' := ?_) ?_ ?_;rotate_left
   ·show Act.put _ (some 6) _ = _;simp only [Act.put, List.setIfInBounds_toArray, List.set_cons_zero, List.set_cons_succ, i64_w, i32_w]
    rfl
   refine one_ (i := 2) (N := some 8) #[true, true, true, false] rfl rfl (by kernel_rfl) (by decide) (fun K hK => ?_);refine goes_ Try.func30 (by kernel_rfl) rfl #[.agg #[.int .i64 t404, .int .i64 t405, .slice Ao21 t406.length co21], .agg #[.int .i64 a0_0, .slice A0_1 l0_1.length c0_1]] (by rfl) rfl rfl (by (try simp only [List.map_toArray, List.map_cons, List.map_nil]); first | done | rfl | (simp only [List.length_drop, List.length_take]; rfl)) ?_
   with_reducible refine (cr9_Check.calls k t404 t405 _ _ t406 a0_0 _ _ l0_1 t409 _ ?side1 ?side2 ?side3 ?side4 A4.out).mono ?_
   (case side1 => repeat (first | exact (Kd.R_reads' HO408.out).2.2 | (with_reducible refine Kd.C_alloc ?_ _) | (with_reducible refine Kd.C_drewN ?_ _) | (with_reducible refine Kd.C_drew ?_)));(case side2 => exact (Kd.R_reads' HO408.out).2.1);(case side3 => repeat (first | exact (Kd.C_below HR0_1.out HB.out) | (with_reducible refine Kd.C_alloc ?_ _) | (with_reducible refine Kd.C_drewN ?_ _) | (with_reducible refine Kd.C_drew ?_)));(case side4 => exact HC0_1.out)
   rintro e w22 ⟨rfl, hb⟩
   refine ⟨_, rfl, ?_⟩;have n0_ := Aside0.mk (Kd.R_below (by (with_reducible repeat (first | apply Kd.R_alloc | apply Kd.R_drewN | apply Kd.R_drew)); exact HO408.out) hb);have n1_ := Aside0.mk (blk_below (g := gb403) (o := .cells #[.int .i64 a0_0, .slice A0_1 l0_1.length c0_1] 24 (0, 0)) (by (with_reducible repeat (first | refine blk_drewN ?_ _ | refine blk_drew ?_ | refine blk_alloc ?_ _)); exact BK403.out) hb);have n2_ := Aside0.mk (below_step (by repeat (first | (with_reducible first | exact HB.out | apply below_alloc | apply pbN | apply below_drew1 | refine below_set ?_ GE403.out) | exact HB.out)) hb);clear HO408;clear BK403;clear HB;have HO408 := n0_;have BK403 := n1_;have HB := n2_;clear n0_ n1_ n2_;(try clear hb);(try clear hb2);(try clear hk);(try clear hi);refine hK.out _ _ ⟨(blk_cell BK403.out 0).trans rfl, (blk_cell BK403.out 1).trans rfl⟩ (fun hHeld => ?_);clear hK K;refine norm_ (a' := ?_) ?_ ?_;rotate_left
   ·show Act.put _ (some 8) _ = _;simp only [Act.put, List.setIfInBounds_toArray, List.set_cons_zero, List.set_cons_succ, i64_w, i32_w]
    rfl
   refine pure_ (i := 3) (N := some 5) (v := ?_) (a' := ?_) #[true, true, true, true] rfl rfl (by kernel_rfl) (fun _ _ _ h => h) (Or.inl ⟨by rfl, ?_⟩) ?_ ?_;rotate_left
   ·intro w';go_simp
    with_reducible rfl
   rotate_left
   ·simp only [Act.put, List.setIfInBounds_toArray, List.set_cons_zero, List.set_cons_succ, i64_w, i32_w]
    rfl
   refine done_ (by kernel_rfl) ?_;have hcz23_0 : w22.cell? ⟨gb403, 0, none⟩ = some (.int .i64 a0_0) := (blk_cell BK403.out 0).trans rfl;have hcz23_1 : w22.cell? ⟨gb403, 1, none⟩ = some (.slice A0_1 l0_1.length c0_1) := (blk_cell BK403.out 1).trans rfl;have hfz23_0 := blk_frozen BK403.out 0;have hfz23_1 := blk_frozen BK403.out 1
   try go_wp2
   go_ret
   exact ⟨by first | rfl | (simp [errW_none, errW_some] <;> rfl) | (simp [*, errW_none, errW_some] <;> rfl), by repeat (first | (with_reducible first | exact HB.out | apply below_alloc | apply pbN | apply below_drew1 | refine below_set ?_ GE403.out) | exact HB.out)⟩
 ·rw [if_neg c5] at H;have c5b0 : (t409 == 0) = false := beq_eq_false_iff_ne.mpr c5;have c5b1 : (t409 != 0) = true := bne_iff_ne.mpr c5;obtain rfl := Option.some.inj H;go_enter Try.func23, Try.ntmps23
  try go_wp2_with (first | ((with_reducible refine gate_dst (N := 2) rfl ?_); refine box_event ?hg (N := 2) ?hd (cs := #[.int .i64 a0_0, .slice A0_1 l0_1.length c0_1]) (t := 24) ?hr ?_; (case hd => rfl); (case hg => rfl); (case hr => first | (go_simp; done) | (go_simp; rfl)); intro gb403 hg w24 hbox hb; have n0_ := Aside0.mk (below_step (by repeat (first | (with_reducible first | exact HB.out | apply below_alloc | apply pbN | apply below_drew1) | exact HB.out)) hb); have n1_ := Aside0.mk (hbox); have n2_ := Aside0.mk ((by rw [hg]; exact (below_size (by repeat (first | (with_reducible first | exact HB.out | apply below_alloc | apply pbN | apply below_drew1) | exact HB.out))) : w.heap.size ≤ gb403)); have n3_ := Aside0.mk ((by rw [hg]; exact (below_size (by repeat (first | (with_reducible first | exact HB.out | apply below_alloc | apply pbN | apply below_drew1) | exact HB.out))) : w.heap.size ≤ gb403)); clear HB; have HB := n0_; have BK403 := n1_; have GW403 := n2_; have GE403 := n3_; clear n0_ n1_ n2_ n3_; clear hb hbox hg))
  have n0_ := Aside0.mk (blk_drew BK403.out);have n1_ := Aside0.mk (below_drew1 HB.out);clear BK403;clear HB;have BK403 := n0_;have HB := n1_;clear n0_ n1_;refine start_ (n := 4) (S := fun w' => w'.cell? ⟨gb403, 0, none⟩ = some (.int .i64 a0_0) ∧ w'.cell? ⟨gb403, 1, none⟩ = some (.slice A0_1 l0_1.length c0_1)) (ds := []) #[false, false, false, false] (by kernel_rfl) rfl rfl ⟨(blk_cell BK403.out 0).trans rfl, (blk_cell BK403.out 1).trans rfl⟩ (fun hHeld => ?_);generalize w24.drew = w25 at BK403 HB hHeld ⊢
  refine take_ (i := 1) (N := some 7) (v := ?_) (a' := ?_) #[false, true, false, false] rfl rfl (by kernel_rfl) (fun _ _ _ h => h) (Or.inl ⟨by rfl, ?_⟩) hHeld ?_ ?_;rotate_left
  ·rintro w' ⟨s0, s1⟩
   go_simp
   with_reducible rfl
  rotate_left
  ·simp only [Act.put, List.setIfInBounds_toArray, List.set_cons_zero, List.set_cons_succ, i64_w, i32_w]
   rfl
  refine one_ (i := 0) (N := some 6) #[true, true, false, false] rfl rfl (by kernel_rfl) (by decide) (fun K hK => ?_);refine goes_ Try.func26 (by kernel_rfl) rfl #[] (by rfl) rfl rfl (by (try simp only [List.map_toArray, List.map_cons, List.map_nil]); first | done | rfl | (simp only [List.length_drop, List.length_take]; rfl)) ?_
  with_reducible refine (crM_Two.calls  t404 t405 t406 _ A3.out).mono ?_
  rintro e w26 ⟨v407, rfl, ho0, hb⟩
  refine ⟨_, rfl, ?_⟩;have n0_ := Aside0.mk (Kd.R_lower ho0 (below_size (by repeat (first | (with_reducible first | exact HB.out | apply below_alloc | apply pbN | apply below_drew1 | refine below_set ?_ GE403.out) | exact HB.out))));have n1_ := Aside0.mk (blk_below (g := gb403) (o := .cells #[.int .i64 a0_0, .slice A0_1 l0_1.length c0_1] 24 (0, 0)) (by (with_reducible repeat (first | refine blk_drewN ?_ _ | refine blk_drew ?_ | refine blk_alloc ?_ _)); exact BK403.out) hb);have n2_ := Aside0.mk (below_step (by repeat (first | (with_reducible first | exact HB.out | apply below_alloc | apply pbN | apply below_drew1 | refine below_set ?_ GE403.out) | exact HB.out)) hb);clear BK403;clear HB;have HO408 := n0_;have BK403 := n1_;have HB := n2_;clear n0_ n1_ n2_;(try clear hb);(try clear hb2);(try clear hk);(try clear hi);(try clear ho0);obtain ⟨Ao27, co27, eo27⟩ := Kd.R_slice HO408.out;(first | subst eo27 | (injection eo27 with f1_ f2_ f3_; have f4_ := f1_.symm; have f5_ := f3_.symm; clear f1_ f2_ f3_; subst f4_; subst f5_));refine hK.out _ _ ⟨(blk_cell BK403.out 0).trans rfl, (blk_cell BK403.out 1).trans rfl⟩ (fun hHeld => ?_);clear hK K;refine norm_ (a' := ?_) ?_ ?_;rotate_left
  ·show Act.put _ (some 6) _ = _;simp only [Act.put, List.setIfInBounds_toArray, List.set_cons_zero, List.set_cons_succ, i64_w, i32_w]
   rfl
  refine one_ (i := 2) (N := some 8) #[true, true, true, false] rfl rfl (by kernel_rfl) (by decide) (fun K hK => ?_);refine goes_ Try.func30 (by kernel_rfl) rfl #[.agg #[.int .i64 t404, .int .i64 t405, .slice Ao27 t406.length co27], .agg #[.int .i64 a0_0, .slice A0_1 l0_1.length c0_1]] (by rfl) rfl rfl (by (try simp only [List.map_toArray, List.map_cons, List.map_nil]); first | done | rfl | (simp only [List.length_drop, List.length_take]; rfl)) ?_
  with_reducible refine (cr9_Check.calls k t404 t405 _ _ t406 a0_0 _ _ l0_1 t409 _ ?side1 ?side2 ?side3 ?side4 A4.out).mono ?_
  (case side1 => repeat (first | exact (Kd.R_reads' HO408.out).2.2 | (with_reducible refine Kd.C_alloc ?_ _) | (with_reducible refine Kd.C_drewN ?_ _) | (with_reducible refine Kd.C_drew ?_)));(case side2 => exact (Kd.R_reads' HO408.out).2.1);(case side3 => repeat (first | exact (Kd.C_below HR0_1.out HB.out) | (with_reducible refine Kd.C_alloc ?_ _) | (with_reducible refine Kd.C_drewN ?_ _) | (with_reducible refine Kd.C_drew ?_)));(case side4 => exact HC0_1.out)
  rintro e w28 ⟨rfl, hb⟩
  refine ⟨_, rfl, ?_⟩;have n0_ := Aside0.mk (Kd.R_below (by (with_reducible repeat (first | apply Kd.R_alloc | apply Kd.R_drewN | apply Kd.R_drew)); exact HO408.out) hb);have n1_ := Aside0.mk (blk_below (g := gb403) (o := .cells #[.int .i64 a0_0, .slice A0_1 l0_1.length c0_1] 24 (0, 0)) (by (with_reducible repeat (first | refine blk_drewN ?_ _ | refine blk_drew ?_ | refine blk_alloc ?_ _)); exact BK403.out) hb);have n2_ := Aside0.mk (below_step (by repeat (first | (with_reducible first | exact HB.out | apply below_alloc | apply pbN | apply below_drew1 | refine below_set ?_ GE403.out) | exact HB.out)) hb);clear HO408;clear BK403;clear HB;have HO408 := n0_;have BK403 := n1_;have HB := n2_;clear n0_ n1_ n2_;(try clear hb);(try clear hb2);(try clear hk);(try clear hi);refine hK.out _ _ ⟨(blk_cell BK403.out 0).trans rfl, (blk_cell BK403.out 1).trans rfl⟩ (fun hHeld => ?_);clear hK K;refine norm_ (a' := ?_) ?_ ?_;rotate_left
  ·show Act.put _ (some 8) _ = _;simp only [Act.put, List.setIfInBounds_toArray, List.set_cons_zero, List.set_cons_succ, i64_w, i32_w]
   rfl
  refine pure_ (i := 3) (N := some 5) (v := ?_) (a' := ?_) #[true, true, true, true] rfl rfl (by kernel_rfl) (fun _ _ _ h => h) (Or.inl ⟨by rfl, ?_⟩) ?_ ?_;rotate_left
  ·intro w';go_simp
   with_reducible rfl
  rotate_left
  ·simp only [Act.put, List.setIfInBounds_toArray, List.set_cons_zero, List.set_cons_succ, i64_w, i32_w]
   rfl
  refine done_ (by kernel_rfl) ?_
  try go_wp2
  go_ret
  exact ⟨by first | rfl | (simp [errW_none, errW_some] <;> rfl) | (simp [*, errW_none, errW_some] <;> rfl), by repeat (first | (with_reducible first | exact HB.out | apply below_alloc | apply pbN | apply below_drew1 | refine below_set ?_ GE403.out) | exact HB.out)⟩
def cr9_SameInts.l0 : Nat → List Int → List Int → Int → Option (Bool)
 | 0, _, _, _ => none
 | k + 1, x0, x1, x5 => if x5 < (x0.length : Int) then (if 0 ≤ x5 then (if x5 < (x1.length : Int) then (if (rd x0 x5) = (rd x1 x5) then (cr9_SameInts.l0 k x0 x1 (wrap64 (x5 + 1))) else (some false)) else (none)) else (none)) else (some true)
def cr9_SameInts.f (k : Nat) (l0 : List Int) (l1 : List Int) : Option (Bool) := if (l0.length : Int) = (l1.length : Int) then (cr9_SameInts.l0 k l0 l1 0) else (some false)
theorem cr9_SameInts.mono_l : ∀ k, (∀ y0 y1 y2, LeO (cr9_SameInts.l0 k y0 y1 y2) (cr9_SameInts.l0 (k + 1) y0 y1 y2))
 | 0 => fun _ _ _ r h => by simp [cr9_SameInts.l0] at h
 | k + 1 => by
  have ih0 := cr9_SameInts.mono_l k
  ·intro y0 y1 y2;unfold cr9_SameInts.l0
   repeat' first
   | (with_reducible exact ih0 _ _ _)
   | (with_reducible exact LeO.refl _)
   | (with_reducible exact LeO.none _)
   | (with_reducible refine LeO.ite ?_ ?_)
   | (with_reducible refine LeO.bind ?_ (fun _ => ?_))
   | exact ih0 _ _ _
   | exact LeO.none _
   | refine LeO.ite ?_ ?_
   | refine LeO.bind ?_ (fun _ => ?_)
theorem cr9_SameInts.mono : ∀ a0 a1 k, LeO (cr9_SameInts.f k a0 a1) (cr9_SameInts.f (k + 1) a0 a1) := by
 intro a0 a1 k;have ih0 := cr9_SameInts.mono_l k;unfold cr9_SameInts.f
 repeat' first
   | (with_reducible exact ih0 _ _ _)
   | (with_reducible exact LeO.refl _)
   | (with_reducible exact LeO.none _)
   | (with_reducible refine LeO.ite ?_ ?_)
   | (with_reducible refine LeO.bind ?_ (fun _ => ?_))
   | exact ih0 _ _ _
   | exact LeO.none _
   | refine LeO.ite ?_ ?_
   | refine LeO.bind ?_ (fun _ => ?_)
set_option maxHeartbeats 8000000 in
set_option maxRecDepth 100000 in
theorem cr9_SameInts.calls (k : Nat) (A0 : Option Addr) (c0 : Nat) (l0 : List Int) (A1 : Option Addr) (c1 : Nat) (l1 : List Int) (r : Bool) (w : World) (hr0 : Kd.C (Kd.int .i64) w A0 l0.length l0) (hc0 : l0.length ≤ c0) (hr1 : Kd.C (Kd.int .i64) w A1 l1.length l1) (hc1 : l1.length ≤ c1) (h : cr9_SameInts.f k l0 l1 = some r) :
  Calls Try.prog 27 #[.slice A0 l0.length c0, .slice A1 l1.length c1] w fun e w' => e = .returned (.bool r) ∧ Drawn0 w w' := by
 have HR0 := Aside0.mk hr0;have HC0 := Aside0.mk hc0;clear hr0 hc0;have HR1 := Aside0.mk hr1;have HC1 := Aside0.mk hc1;clear hr1 hc1;have H : (if (l0.length : Int) = (l1.length : Int) then (cr9_SameInts.l0 k l0 l1 0) else (some false)) = some r := h;clear h;by_cases c3 : (l0.length : Int) = (l1.length : Int)
 ·rw [if_pos c3] at H;have c3b0 : ((l0.length : Int) == (l1.length : Int)) = true := beq_iff_eq.mpr c3;have c3b1 : ((l0.length : Int) != (l1.length : Int)) = false := bne_eq_false_iff_eq.mpr c3;have c3b2 : (l0.length == l1.length) = true := by first | simpa using c3 | (simp at c3 ⊢; omega)
  clear c3;have H' := Aside0.mk H;clear H;go_enter Try.func27, Try.ntmps27
  go_wp2
  repeat (go_quiet (fail); try go_wp2)
  go_loopg [5] k (fun kq v5 w' => ∃ (x5_1 : Int), v5 = .int .i64 x5_1 ∧ Aside0 (cr9_SameInts.l0 kq l0 l1 x5_1 = some r) ∧ Aside0 (kq ≤ k) ∧ Drawn0 w w')
  case atStart => exact ⟨(0), (by first | rfl | (simp; done) | (simp [*]; done)), H', ⟨Nat.le_refl _⟩, by repeat (first | exact Drawn0.refl _ | apply Drawn0.step)⟩
  case round =>
   clear H'
   try clear c1
   try clear c2
   try clear p2
   try clear c3
   try clear c3b0
   try clear c3b1
   try clear c3b2
   obtain ⟨x5_1, rfl, HA, HK1, ⟨m1, rfl⟩⟩ := hrel
   cases gk with
   | zero => exact absurd HA.out (by simp [cr9_SameInts.l0])
   | succ k1 =>
    have H := HA.out;clear HA;simp only [cr9_SameInts.l0] at H;by_cases c4 : x5_1 < (l0.length : Int)
    ·rw [if_pos c4] at H;have c4b0 : decide (x5_1 < (l0.length : Int)) = true := decide_eq_true c4;clear c4;by_cases c5 : 0 ≤ x5_1
     ·rw [if_pos c5] at H;have c5b0 : decide (0 ≤ x5_1) = true := decide_eq_true c5;clear c5;by_cases c6 : x5_1 < (l1.length : Int)
      ·rw [if_pos c6] at H;have c6b0 : decide (x5_1 < (l1.length : Int)) = true := decide_eq_true c6;clear c6;by_cases c7 : (rd l0 x5_1) = (rd l1 x5_1)
       ·rw [if_pos c7] at H;have c7b0 : ((rd l0 x5_1) == (rd l1 x5_1)) = true := beq_iff_eq.mpr c7;have c7b1 : ((rd l0 x5_1) != (rd l1 x5_1)) = false := bne_eq_false_iff_eq.mpr c7;clear c7;have H' := Aside0.mk H;clear H;have p127 : 0 ≤ (x5_1 : Int) := of_decide_eq_true (by first | (with_reducible assumption) | assumption);have q127 : x5_1 < (l0.length : Int) := of_decide_eq_true (by first | (with_reducible assumption) | assumption);obtain ⟨ad127, e127, hx127_0⟩ := Kd.at_int HR0.out x5_1 p127 q127;cases e127;replace p127 := eq_true p127;replace q127 := eq_true q127;have p128 : 0 ≤ (x5_1 : Int) := of_decide_eq_true (by first | (with_reducible assumption) | assumption);have q128 : x5_1 < (l1.length : Int) := of_decide_eq_true (by first | (with_reducible assumption) | assumption);obtain ⟨ad128, e128, hx128_0⟩ := Kd.at_int HR1.out x5_1 p128 q128;cases e128;replace p128 := eq_true p128;replace q128 := eq_true q128
        go_wp2
        repeat (go_quiet (fail); try go_wp2)
        go_roundg k1
        case measure => have := HK1.out; omega
        case rel => exact ⟨(wrap64 (x5_1 + 1)), (by first | rfl | (simp; done) | (simp [*]; done)), H', ⟨by have := HK1.out; omega⟩, by repeat (first | exact Drawn0.refl _ | apply Drawn0.step)⟩
       ·rw [if_neg c7] at H;have c7b0 : ((rd l0 x5_1) == (rd l1 x5_1)) = false := beq_eq_false_iff_ne.mpr c7;have c7b1 : ((rd l0 x5_1) != (rd l1 x5_1)) = true := bne_iff_ne.mpr c7;obtain rfl := Option.some.inj H;have p127 : 0 ≤ (x5_1 : Int) := of_decide_eq_true (by first | (with_reducible assumption) | assumption);have q127 : x5_1 < (l0.length : Int) := of_decide_eq_true (by first | (with_reducible assumption) | assumption);obtain ⟨ad127, e127, hx127_0⟩ := Kd.at_int HR0.out x5_1 p127 q127;cases e127;replace p127 := eq_true p127;replace q127 := eq_true q127;have p128 : 0 ≤ (x5_1 : Int) := of_decide_eq_true (by first | (with_reducible assumption) | assumption);have q128 : x5_1 < (l1.length : Int) := of_decide_eq_true (by first | (with_reducible assumption) | assumption);obtain ⟨ad128, e128, hx128_0⟩ := Kd.at_int HR1.out x5_1 p128 q128;cases e128;replace p128 := eq_true p128;replace q128 := eq_true q128
        go_wp2
        repeat (go_quiet (fail); try go_wp2)
        go_ret
        exact ⟨by first | rfl | (simp; done) | (simp [*]; done), by repeat (first | exact Drawn0.refl _ | apply Drawn0.step)⟩
      ·rw [if_neg c6] at H;exact absurd H (by simp)
     ·rw [if_neg c5] at H;exact absurd H (by simp)
    ·rw [if_neg c4] at H;have c4b0 : decide (x5_1 < (l0.length : Int)) = false := decide_eq_false c4;clear c4;obtain rfl := Option.some.inj H
     go_wp2
     repeat (go_quiet (fail); try go_wp2)
     go_ret
     exact ⟨by first | rfl | (simp; done) | (simp [*]; done), by repeat (first | exact Drawn0.refl _ | apply Drawn0.step)⟩
 ·rw [if_neg c3] at H;have c3b0 : ((l0.length : Int) == (l1.length : Int)) = false := beq_eq_false_iff_ne.mpr c3;have c3b1 : ((l0.length : Int) != (l1.length : Int)) = true := bne_iff_ne.mpr c3;have c3b2 : (l0.length == l1.length) = false := by first | simpa using c3 | (simp at c3 ⊢; omega)
  obtain rfl := Option.some.inj H;go_enter Try.func27, Try.ntmps27
  go_wp2
  repeat (go_quiet (fail); try go_wp2)
  go_ret
  exact ⟨by first | rfl | (simp; done) | (simp [*]; done), by repeat (first | exact Drawn0.refl _ | apply Drawn0.step)⟩
end Go.Proofs.Ytmclalniilkjiaa.Q
/- What the printed odd, Unsatisfied and the document's Odd, Unsatisfied, Word compute. Condition: Check finds no fault, the word has one bit for each column. -/
namespace Go.Proofs.Ytmclalniilkjiaa.Un
open Go.RowKit Go.Proofs.Ytmclalniilkjiaa.Q Go.Proofs.YtmclalniilkjiaaW.PrintWords Go.Proofs.YtmclalniilkjiaaW.PrintLast Go.Proofs.Ytmclalniilkjiaa.Ba Go.Proofs.Ytmclalniilkjiaa.Ck Go.Proofs.Ytmclalniilkjiaa.Gr

theorem same_self (a : List Int) (ha : a.length ≤ 4611686018427387904) : Ev (fun k => cr9_SameInts.f k a a) true := by
 have loop : ∀ d i : Nat, i + d = a.length → Ev (fun k => cr9_SameInts.l0 k a a (i : Int)) true := by
  intro d
  induction d with
  | zero => exact fun i h => Ev.step (f := fun _ => some true) (fun k => by simp only [cr9_SameInts.l0]; rw [if_neg (by omega)]) (Ev.now _)
  | succ d ih =>
   intro i h
   refine Ev.step (fun k => ?_) (ih (i + 1) (by omega))
   simp only [cr9_SameInts.l0]
   rw [if_pos (by omega), if_pos (by omega), if_pos (by omega), if_pos True.intro, w64_id (by omega) (by omega)]
   rfl
 exact Ev.congr (fun k => by unfold cr9_SameInts.f; rw [if_pos rfl]; rfl) (loop a.length 0 (by omega))

/-- The number of positions of check j at which the word has 1. -/
def par (rows : List (List Int)) (w : List Int) (C j : Nat) : Int := sumTo (fun i => if bit rows j i = true then rd w (i : Int) else 0) C
def od (rows : List (List Int)) (w : List Int) (C j : Nat) : Bool := Int.tmod (par rows w C j) 2 == 1
def uns (rows : List (List Int)) (w : List Int) (C n : Nat) : List Int := PG (fun j => (j : Int)) (od rows w C) n
theorem par_bound (rows : List (List Int)) {w : List Int} (hw : okb w = true) (C j : Nat) : 0 ≤ par rows w C j ∧ par rows w C j ≤ (C : Int) :=
 sumTo_01 _ _ (fun i _ => by rcases okb_at hw i with h | h <;> split <;> omega)
theorem odd_l0 {w : List Int} (hw : okb w = true) (l : List Int) (hl : l.length ≤ 256) (hin : ∀ t, t < l.length → 0 ≤ rd l (t : Int) ∧ rd l (t : Int) < (w.length : Int)) : ∀ d i : Nat, i + d = l.length →
  Ev (fun k => message_odd.l0 k w (sumTo (fun t => rd w (rd l (t : Int))) i) l (l.length : Int) (i : Int)) (Int.tmod (sumTo (fun t => rd w (rd l (t : Int))) l.length) 2 == 1)
 | 0, i, h => by
  obtain rfl : i = l.length := by omega
  refine Ev.step (f := fun _ => some _) (fun k => ?_) (Ev.now _)
  simp only [message_odd.l0]
  rw [if_neg (by omega)]
 | d + 1, i, h => by
  have ih := odd_l0 hw l hl hin d (i + 1) (by omega)
  have h1 := hin i (by omega)
  have hb : ∀ t, 0 ≤ rd w (rd l (t : Int)) ∧ rd w (rd l (t : Int)) ≤ 1 := by
   intro t
   by_cases ht : 0 ≤ rd l (t : Int)
   ·obtain ⟨m, hm⟩ := Int.eq_ofNat_of_zero_le ht
    rw [hm]
    rcases okb_at hw m with h | h
    ·show 0 ≤ rd w ((m : Nat) : Int) ∧ _; rw [h]; omega
    ·show 0 ≤ rd w ((m : Nat) : Int) ∧ _; rw [h]; omega
   ·have e : rd w (rd l (t : Int)) = rd w ((0 : Nat) : Int) := by
     show w.getD (rd l (t : Int)).toNat 0 = w.getD ((0 : Nat) : Int).toNat 0
     rw [Int.toNat_of_nonpos (by omega : rd l (t : Int) ≤ 0)]; rfl
    rw [e]
    rcases okb_at hw 0 with h | h
    ·rw [h]; omega
    ·rw [h]; omega
  have h2 := sumTo_01 (fun t => rd w (rd l (t : Int))) i (fun t _ => hb t)
  have h3 := hb i
  refine Ev.step (fun k => ?_) ih
  simp only [message_odd.l0]
  rw [if_pos (by omega), if_pos (by omega), if_pos (by omega), if_pos h1.1, if_pos h1.2, w64_id (n := (i : Int) + 1) (by omega) (by omega), w64_id (by omega) (by omega)]
  rfl
theorem one_in (rows : List (List Int)) (j C : Nat) (t : Nat) (h : t < (one rows j C).length) : 0 ≤ rd (one rows j C) (t : Int) ∧ rd (one rows j C) (t : Int) < (C : Int) := by
 obtain ⟨i, h1, _, h3⟩ := PG_mem _ _ _ _ (getD_mem (one rows j C) 0 t h)
 rw [rd_nat, h3]
 omega
theorem odd_ev (rows : List (List Int)) {w : List Int} (hw : okb w = true) (C j : Nat) (hC : C ≤ 256) (hlen : w.length = C) : Ev (fun k => message_odd.f k (one rows j C) w) (od rows w C j) := by
 have h := odd_l0 hw (one rows j C) (Nat.le_trans (one_le rows j C) hC) (fun t ht => by have := one_in rows j C t ht; omega) (one rows j C).length 0 (by omega)
 have e : sumTo (fun t => rd w (rd (one rows j C) (t : Int))) (one rows j C).length = par rows w C j := by
  have := sum_PG (fun x => rd w x) 0 (fun i => (i : Int)) (bit rows j) C
  rw [show par rows w C j = sumTo (fun i => if bit rows j i = true then rd w (i : Int) else 0) C from rfl, ← this]
  exact sumTo_congr _ _ _ (fun t _ => by rw [rd_nat]; rfl)
 rw [e] at h
 exact h
theorem rodd_l0 {w row : List Int} (hw : okb w = true) (hrow : okb row = true) (hn : row.length ≤ 256) (hlen : w.length = row.length) : ∀ d i : Nat, i + d = row.length →
  Ev (fun k => crM_Odd.l0 k row w (sumTo (fun t => rd row (t : Int) * rd w (t : Int)) i) (i : Int)) (Int.tmod (sumTo (fun t => rd row (t : Int) * rd w (t : Int)) row.length) 2 == 1)
 | 0, i, h => by
  obtain rfl : i = row.length := by omega
  refine Ev.step (f := fun _ => some _) (fun k => ?_) (Ev.now _)
  simp only [crM_Odd.l0]
  rw [if_neg (by omega)]
 | d + 1, i, h => by
  have ih := rodd_l0 hw hrow hn hlen d (i + 1) (by omega)
  have hb : ∀ t : Nat, 0 ≤ rd row (t : Int) * rd w (t : Int) ∧ rd row (t : Int) * rd w (t : Int) ≤ 1 := by
   intro t
   rcases okb_at hrow t with h | h <;> rcases okb_at hw t with h' | h' <;> rw [h, h'] <;> omega
  have h2 := sumTo_01 (fun t => rd row (t : Int) * rd w (t : Int)) i (fun t _ => hb t)
  have h3 := hb i
  refine Ev.step (fun k => ?_) ih
  simp only [crM_Odd.l0]
  rw [if_pos (by omega), if_pos (by omega), if_pos (by omega), w64_id (n := (i : Int) + 1) (by omega) (by omega), w64_id (n := rd row (i : Int) * rd w (i : Int)) (by omega) (by omega), w64_id (by omega) (by omega)]
  rfl
theorem rodd_ev (rows : List (List Int)) {w : List Int} (hw : okb w = true) (C j : Nat) (hC : C ≤ 256) (hlen : w.length = C) (hrow : okb (rows.getD j []) = true) (hrl : (rows.getD j []).length = C) :
  Ev (fun k => crM_Odd.f k (rows.getD j []) w) (od rows w C j) := by
 have h := rodd_l0 hw hrow (by omega) (by omega) (rows.getD j []).length 0 (by omega)
 have e : sumTo (fun t => rd (rows.getD j []) (t : Int) * rd w (t : Int)) (rows.getD j []).length = par rows w C j := by
  rw [hrl]
  refine sumTo_congr _ _ _ (fun t _ => ?_)
  rcases okb_at hrow t with h | h
  ·rw [h, if_neg (by unfold bit; rw [h]; decide)]; omega
  ·rw [h, if_pos (by unfold bit; rw [h]; rfl)]; omega
 rw [e] at h
 exact h
theorem uns_le (rows : List (List Int)) (w : List Int) (C n : Nat) : (uns rows w C n).length ≤ n := PG_le _ _ n
theorem checks_at (rows : List (List Int)) (C n j : Nat) (h : j < n) : rd_L1 (checks rows C n) (j : Int) = one rows j C := by rw [rd_L1_nat]; exact LL_at _ _ _ _ h
section
variable (rows : List (List Int)) {w : List Int} (hw : okb w = true) (C : Nat) (hC : C ≤ 256) (hlen : w.length = C) (hr : rows.length ≤ 256)
include hw hC hlen hr
theorem unsat_l0 : ∀ d j : Nat, j + d = rows.length → Ev (fun k => mg_unsatisfied.l0 k w (uns rows w C j) (checks rows C rows.length) (rows.length : Int) (j : Int)) (uns rows w C rows.length)
 | 0, j, h => by
  obtain rfl : j = rows.length := by omega
  refine Ev.step (f := fun _ => some _) (fun k => ?_) (Ev.now _)
  simp only [mg_unsatisfied.l0]
  rw [if_neg (by omega)]
 | d + 1, j, h => by
  have ih := unsat_l0 d (j + 1) (by omega)
  have hcl : (checks rows C rows.length).length = rows.length := LL_length _ _
  have hu := uns_le rows w C j
  refine Ev.step (f := fun k => (message_odd.f k (one rows j C) w).bind fun t => if t = true then (if (uns rows w C j).length < 17592186044416 then mg_unsatisfied.l0 k w (uns rows w C j ++ [(j : Int)]) (checks rows C rows.length) (rows.length : Int) (wrap64 ((j : Int) + 1)) else none) else mg_unsatisfied.l0 k w (uns rows w C j) (checks rows C rows.length) (rows.length : Int) (wrap64 ((j : Int) + 1))) (fun k => ?_) ?_
  ·simp only [mg_unsatisfied.l0]
   rw [if_pos (by omega), if_pos (by omega), if_pos (by omega), checks_at _ _ _ _ (by omega)]
  refine (odd_ev rows hw C j hC hlen).bind ?_
  rw [w64_id (by omega) (by omega)]
  by_cases ho : od rows w C j = true
  ·refine Ev.congr (fun k => if_pos ho) (Ev.congr (fun k => if_pos (by omega)) ?_)
   have e : uns rows w C (j + 1) = uns rows w C j ++ [(j : Int)] := by show (if od rows w C j = true then _ else _) = _; rw [if_pos ho]; rfl
   rw [← e]; exact ih
  ·refine Ev.congr (fun k => if_neg ho) ?_
   have e : uns rows w C (j + 1) = uns rows w C j := by show (if od rows w C j = true then _ else _) = _; rw [if_neg ho]; rfl
   rw [← e]; exact ih
theorem unsat_ev (ats : List (List S77)) : Ev (fun k => mg_unsatisfied.f k (checks rows C rows.length) ats w) (uns rows w C rows.length) := by
 have h := unsat_l0 rows hw C hC hlen hr rows.length 0 (by omega)
 have hcl : (checks rows C rows.length).length = rows.length := LL_length _ _
 refine Ev.congr (fun k => ?_) h
 unfold mg_unsatisfied.f
 rw [hcl]; rfl
theorem runsat_l0 (c : Int) (hrow : ∀ j, j < rows.length → okb (rows.getD j []) = true) (hrl : ∀ j, j < rows.length → (rows.getD j []).length = C) : ∀ d j : Nat, j + d = rows.length →
  Ev (fun k => crM_Unsatisfied.l0 k w (uns rows w C j) (j : Int) c rows) (uns rows w C rows.length)
 | 0, j, h => by
  obtain rfl : j = rows.length := by omega
  refine Ev.step (f := fun _ => some _) (fun k => ?_) (Ev.now _)
  simp only [crM_Unsatisfied.l0]
  rw [if_neg (by omega)]
 | d + 1, j, h => by
  have ih := runsat_l0 c hrow hrl d (j + 1) (by omega)
  have hu := uns_le rows w C j
  refine Ev.step (f := fun k => (crM_Odd.f k (rows.getD j []) w).bind fun t => if t = true then (if (uns rows w C j).length < 17592186044416 then crM_Unsatisfied.l0 k w (uns rows w C j ++ [(j : Int)]) (wrap64 ((j : Int) + 1)) c rows else none) else crM_Unsatisfied.l0 k w (uns rows w C j) (wrap64 ((j : Int) + 1)) c rows) (fun k => ?_) ?_
  ·simp only [crM_Unsatisfied.l0, rd_L1_nat]
   rw [if_pos (by omega), if_pos (by omega)]
  refine (rodd_ev rows hw C j hC hlen (hrow j (by omega)) (hrl j (by omega))).bind ?_
  rw [w64_id (by omega) (by omega)]
  by_cases ho : od rows w C j = true
  ·refine Ev.congr (fun k => if_pos ho) (Ev.congr (fun k => if_pos (by omega)) ?_)
   have e : uns rows w C (j + 1) = uns rows w C j ++ [(j : Int)] := by show (if od rows w C j = true then _ else _) = _; rw [if_pos ho]; rfl
   rw [← e]; exact ih
  ·refine Ev.congr (fun k => if_neg ho) ?_
   have e : uns rows w C (j + 1) = uns rows w C j := by show (if od rows w C j = true then _ else _) = _; rw [if_neg ho]; rfl
   rw [← e]; exact ih
theorem runsat_ev (c : Int) (hrow : ∀ j, j < rows.length → okb (rows.getD j []) = true) (hrl : ∀ j, j < rows.length → (rows.getD j []).length = C) : Ev (fun k => crM_Unsatisfied.f k c rows w) (uns rows w C rows.length) :=
 runsat_l0 rows hw C hC hlen hr c hrow hrl rows.length 0 (by omega)
end
theorem bits_l0 (l : List Int) (hl : l.length ≤ 256) : ∀ d i : Nat, i + d = l.length → Ev (fun k => message_bitsOf.l0 k l (l.length : Int) (i : Int)) (ent (l.drop i))
 | 0, i, h => by
  refine Ev.step (f := fun _ => some (ent (l.drop i))) (fun k => ?_) (Ev.now _)
  simp only [message_bitsOf.l0]
  rw [if_neg (by omega), List.drop_of_length_le (by omega)]; rfl
 | d + 1, i, h => by
  have ih := bits_l0 l hl d (i + 1) (by omega)
  by_cases hx : 0 ≤ rd l (i : Int) ∧ rd l (i : Int) < 2
  ·have e : ent (l.drop i) = ent (l.drop (i + 1)) := by
    unfold ent okb
    rw [drop_cons l 0 i (by omega), List.all_cons, ← rd_nat, decide_eq_true hx, Bool.true_and]
   rw [e]
   refine Ev.step (fun k => ?_) ih
   simp only [message_bitsOf.l0]
   rw [if_pos (by omega), if_pos (by omega), if_pos (by omega), w64_id (by omega) (by omega)]
   by_cases h0 : rd l (i : Int) = 0
   ·rw [if_pos h0]; rfl
   ·rw [if_neg h0, if_pos (by omega)]; rfl
  ·have e : ent (l.drop i) = 2 := by
    unfold ent okb
    rw [drop_cons l 0 i (by omega), List.all_cons, ← rd_nat, decide_eq_false hx, Bool.false_and]; rfl
   rw [e]
   refine Ev.step (f := fun _ => some 2) (fun k => ?_) (Ev.now _)
   simp only [message_bitsOf.l0]
   rw [if_pos (by omega), if_pos (by omega), if_pos (by omega), if_neg (by omega), if_neg (by omega)]
def wb (c : Int) (w : List Int) : Int := if (w.length : Int) = c then ent w else 4
theorem bitsOf_ev (c : Int) (hc : c ≤ 256) (rows : List (List Int)) (w : List Int) : Ev (fun k => message_bitsOf.f k c rows w) (wb c w) := by
 unfold message_bitsOf.f wb
 by_cases h : (w.length : Int) = c
 ·rw [if_pos h]; exact Ev.congr (fun k => if_pos h) (bits_l0 w (by omega) w.length 0 (by omega))
 ·rw [if_neg h]; exact Ev.congr (fun k => if_neg h) (Ev.now _)
/-- The error of a matrix and a word. -/
def wrd (c : Int) (rows : List (List Int)) (w : List Int) : Int := if chk c rows = 0 then wb c w else chk c rows
theorem word_ev (c : Int) (rows : List (List Int)) (w : List Int) : Ev (fun k => crM_Word.f k c rows w) (wrd c rows w) := by
 unfold crM_Word.f wrd wb
 refine Ev.bind (a := ((2 : Int), (1 : Int), ([] : List Int))) (Ev.now _) ?_
 refine (rCheck_ev c rows).bind ?_
 by_cases h : chk c rows = 0
 ·rw [if_pos h]
  have hk := chk_ok h
  refine Ev.congr (fun k => if_pos h) ?_
  by_cases h2 : (w.length : Int) = c
  ·rw [if_pos h2]
   refine Ev.congr (fun k => if_pos h2) (Ev.bind (a := ((2 : Int), (1 : Int), ([] : List Int))) (Ev.now _) ?_)
   exact Ev.bind (rentries_ev w (by omega)) (Ev.now _)
  ·rw [if_neg h2]; exact Ev.congr (fun k => if_neg h2) (Ev.now _)
 ·rw [if_neg h]; exact Ev.congr (fun k => if_neg h) (Ev.now _)
/-- What a matrix and a word without fault look like. -/
structure Ok (c : Int) (rows : List (List Int)) (w : List Int) (C : Nat) : Prop where
 k : chk c rows = 0
 c : c = (C : Int)
 hC : C ≤ 256
 hr : rows.length ≤ 256
 hrl : ∀ j, j < rows.length → (rows.getD j []).length = C
 hrow : ∀ j, j < rows.length → okb (rows.getD j []) = true
 hlen : w.length = C
 hw : okb w = true
theorem wrd_ok {c : Int} {rows : List (List Int)} {w : List Int} (h : wrd c rows w = 0) : ∃ C : Nat, Ok c rows w C := by
 unfold wrd at h
 split at h
 ·next hk =>
  obtain ⟨h0, h1, h2, h3, h4⟩ := chk_ok hk
  unfold wb at h
  split at h
  ·next hl =>
   unfold ent at h
   split at h
   ·next hb => exact ⟨c.toNat, hk, by omega, by omega, h2, fun j hj => by have := h3 j hj; omega, h4, by omega, hb⟩
   ·omega
  ·omega
 ·next hk => exact absurd h hk
theorem build_C {c : Int} {rows : List (List Int)} {w : List Int} {C : Nat} (h : Ok c rows w C) : Ev (fun k => message_build.f k c rows) (checks rows C rows.length, at_ rows C rows.length, 0) := by
 have := build_ok h.k
 rwa [show c.toNat = C by have := h.c; omega] at this
theorem bitsOf_C {c : Int} {rows : List (List Int)} {w : List Int} {C : Nat} (h : Ok c rows w C) : Ev (fun k => message_bitsOf.f k c rows w) 0 := by
 have e : wb c w = 0 := by unfold wb; rw [if_pos (by have := h.c; have := h.hlen; omega)]; unfold ent; rw [if_pos h.hw]
 rw [← e]
 exact bitsOf_ev c (by have := h.c; have := h.hC; omega) rows w
theorem Unsat_ok {c : Int} {rows : List (List Int)} {w : List Int} {C : Nat} (h : Ok c rows w C) : Ev (fun k => message_Unsatisfied.f k c rows w) (uns rows w C rows.length, 0) := by
 unfold message_Unsatisfied.f
 refine (build_C h).bind (Ev.congr (fun k => if_pos rfl) ((bitsOf_C h).bind (Ev.congr (fun k => if_pos rfl) ?_)))
 exact Ev.bind (unsat_ev rows h.hw C h.hC h.hlen h.hr _) (Ev.now _)
theorem Unsat_no {c : Int} {rows : List (List Int)} {w : List Int} (h : wrd c rows w ≠ 0) : Ev (fun k => message_Unsatisfied.f k c rows w) ([], wrd c rows w) := by
 unfold message_Unsatisfied.f
 by_cases hk : chk c rows = 0
 ·have e : wrd c rows w = wb c w := if_pos hk
  rw [e] at h ⊢
  have hk2 := chk_ok hk
  refine (build_ok hk).bind (Ev.congr (fun k => if_pos rfl) ((bitsOf_ev c hk2.2.1 rows w).bind ?_))
  exact Ev.congr (fun k => if_neg h) (Ev.now _)
 ·have e : wrd c rows w = chk c rows := if_neg hk
  rw [e]
  exact (build_no hk).bind (Ev.congr (fun k => if_neg hk) (Ev.now _))
theorem rUnsat_ok {c : Int} {rows : List (List Int)} {w : List Int} {C : Nat} (h : Ok c rows w C) : Ev (fun k => crM_Unsatisfied.f k c rows w) (uns rows w C rows.length) :=
 runsat_ev rows h.hw C h.hC h.hlen h.hr c h.hrow h.hrl
end Go.Proofs.Ytmclalniilkjiaa.Un
namespace Go.Proofs.Ytmclalniilkjiaa.Q
open Go.RowKit Go.Proofs.YtmclalniilkjiaaW.PrintWords Go.Proofs.YtmclalniilkjiaaW.PrintLast Go.Proofs.YtmclalniilkjiaaW.PrintMore
attribute [local go_sem] max2_int min2_int max_two min_two max_three min_three max_four min_four
set_option linter.unusedVariables false
set_option linter.unusedSimpArgs false
mutual
def mg_worst.l0 : Nat → List Bool → List (List (S77)) → Int → Int → Option (Int)
 | 0, _, _, _, _ => none
 | k + 1, x1, x13, x14, x15 => if x15 < x14 then (if 0 ≤ x15 then (if x15 < (x13.length : Int) then (mg_worst.l1 k x1 x15 0 x13 x14 x15 (rd_L9 x13 x15) ((rd_L9 x13 x15).length : Int) 0) else (none)) else (none)) else (some (-1))
def mg_worst.l1 : Nat → List Bool → Int → Int → List (List (S77)) → Int → Int → List (S77) → Int → Int → Option (Int)
 | 0, _, _, _, _, _, _, _, _, _ => none
 | k + 1, x1, x5, x7, x13, x14, x15, x20, x21, x22 => if x22 < x21 then (if 0 ≤ x22 then (if x22 < (x20.length : Int) then (if 0 ≤ ((rd_T77 x20 x22).f0) then (if ((rd_T77 x20 x22).f0) < (x1.length : Int) then (if rdOf false x1 ((rd_T77 x20 x22).f0) = true then (mg_worst.l1 k x1 x5 (wrap64 (x7 + 1)) x13 x14 x15 x20 x21 (wrap64 (x22 + 1))) else (mg_worst.l1 k x1 x5 (wrap64 (x7 - 1)) x13 x14 x15 x20 x21 (wrap64 (x22 + 1)))) else (none)) else (none)) else (none)) else (none)) else (if x7 > 0 then (some x5) else (mg_worst.l0 k x1 x13 x14 (wrap64 (x15 + 1))))
end
def mg_worst.f (k : Nat) (l0_0 : List (List Int)) (l0_1 : List (List (S77))) (l1 : List Bool) : Option (Int) := mg_worst.l0 k l1 l0_1 (l0_1.length : Int) 0
theorem mg_worst.mono_l : ∀ k, (∀ y0 y1 y2 y3, LeO (mg_worst.l0 k y0 y1 y2 y3) (mg_worst.l0 (k + 1) y0 y1 y2 y3)) ∧ (∀ y0 y1 y2 y3 y4 y5 y6 y7 y8, LeO (mg_worst.l1 k y0 y1 y2 y3 y4 y5 y6 y7 y8) (mg_worst.l1 (k + 1) y0 y1 y2 y3 y4 y5 y6 y7 y8))
 | 0 => ⟨fun _ _ _ _ r h => by simp [mg_worst.l0] at h, fun _ _ _ _ _ _ _ _ _ r h => by simp [mg_worst.l1] at h⟩
 | k + 1 => by
  obtain ⟨ih0, ih1⟩ := mg_worst.mono_l k;refine ⟨?_, ?_⟩
  ·intro y0 y1 y2 y3;unfold mg_worst.l0
   repeat' first
   | (with_reducible exact ih0 _ _ _ _)
   | (with_reducible exact ih1 _ _ _ _ _ _ _ _ _)
   | (with_reducible exact LeO.refl _)
   | (with_reducible exact LeO.none _)
   | (with_reducible refine LeO.ite ?_ ?_)
   | (with_reducible refine LeO.bind ?_ (fun _ => ?_))
   | exact ih0 _ _ _ _
   | exact ih1 _ _ _ _ _ _ _ _ _
   | exact LeO.none _
   | refine LeO.ite ?_ ?_
   | refine LeO.bind ?_ (fun _ => ?_)
  ·intro y0 y1 y2 y3 y4 y5 y6 y7 y8;unfold mg_worst.l1
   repeat' first
   | (with_reducible exact ih0 _ _ _ _)
   | (with_reducible exact ih1 _ _ _ _ _ _ _ _ _)
   | (with_reducible exact LeO.refl _)
   | (with_reducible exact LeO.none _)
   | (with_reducible refine LeO.ite ?_ ?_)
   | (with_reducible refine LeO.bind ?_ (fun _ => ?_))
   | exact ih0 _ _ _ _
   | exact ih1 _ _ _ _ _ _ _ _ _
   | exact LeO.none _
   | refine LeO.ite ?_ ?_
   | refine LeO.bind ?_ (fun _ => ?_)
theorem mg_worst.mono : ∀ a0 a1 a2 k, LeO (mg_worst.f k a0 a1 a2) (mg_worst.f (k + 1) a0 a1 a2) := by
 intro a0 a1 a2 k;obtain ⟨ih0, ih1⟩ := mg_worst.mono_l k;unfold mg_worst.f
 repeat' first
   | (with_reducible exact ih0 _ _ _ _)
   | (with_reducible exact ih1 _ _ _ _ _ _ _ _ _)
   | (with_reducible exact LeO.refl _)
   | (with_reducible exact LeO.none _)
   | (with_reducible refine LeO.ite ?_ ?_)
   | (with_reducible refine LeO.bind ?_ (fun _ => ?_))
   | exact ih0 _ _ _ _
   | exact ih1 _ _ _ _ _ _ _ _ _
   | exact LeO.none _
   | refine LeO.ite ?_ ?_
   | refine LeO.bind ?_ (fun _ => ?_)
set_option maxHeartbeats 8000000 in
set_option maxRecDepth 100000 in
theorem mg_worst.calls (k : Nat) (A0_0 : Option Addr) (c0_0 : Nat) (l0_0 : List (List Int)) (A0_1 : Option Addr) (c0_1 : Nat) (l0_1 : List (List (S77))) (A1 : Option Addr) (c1 : Nat) (l1 : List Bool) (r : Int) (gG : Nat) (w : World) (hr0_0 : Kd.C (Kd.slice 3 (Kd.int .i64)) w A0_0 l0_0.length l0_0) (hc0_0 : l0_0.length ≤ c0_0) (hr0_1 : Kd.C (Kd.slice 77 k77) w A0_1 l0_1.length l0_1) (hc0_1 : l0_1.length ≤ c0_1) (hr1 : Kd.C Kd.bool w A1 l1.length l1) (hc1 : l1.length ≤ c1) (hG : w.heap[gG]? = some (.cells #[.slice A0_0 l0_0.length c0_0, .slice A0_1 l0_1.length c0_1] 73 (0, 0))) (h : mg_worst.f k l0_0 l0_1 l1 = some r) :
  Calls Try.prog 53 #[.pointer (some ⟨gG, 0, none⟩), .slice A1 l1.length c1] w fun e w' => e = .returned (.int .i64 r) ∧ Below w.heap.size w w' := by
 have hu73 := Try.underlying73;have hu77 := Try.underlying77;have HR0_0 := Aside0.mk hr0_0;have HC0_0 := Aside0.mk hc0_0;clear hr0_0 hc0_0;have HR0_1 := Aside0.mk hr0_1;have HC0_1 := Aside0.mk hc0_1;clear hr0_1 hc0_1;have HR1 := Aside0.mk hr1;have HC1 := Aside0.mk hc1;clear hr1 hc1;have HB := Aside0.mk (Below.refl w.heap.size w);have H : (mg_worst.l0 k l1 l0_1 (l0_1.length : Int) 0) = some r := h;clear h;have H' := Aside0.mk H;clear H;have BK280 := Aside0.mk hG;have hcz4_0 : w.cell? ⟨gG, 0, none⟩ = some (.slice A0_0 l0_0.length c0_0) := (blk_cell BK280.out 0).trans rfl;have hcz4_1 : w.cell? ⟨gG, 1, none⟩ = some (.slice A0_1 l0_1.length c0_1) := (blk_cell BK280.out 1).trans rfl;have hfz4_0 := blk_frozen BK280.out 0;have hfz4_1 := blk_frozen BK280.out 1;go_enter Try.func53, Try.ntmps53
 go_wp2
 go_loopg [15] k (fun kq v15 w' => ∃ (x15_1 : Int), v15 = .int .i64 x15_1 ∧ Aside0 (mg_worst.l0 kq l1 l0_1 (l0_1.length : Int) x15_1 = some r) ∧ Aside0 (kq ≤ k) ∧ Aside0 (w'.heap[gG]? = some (.cells #[(.slice A0_0 l0_0.length c0_0), (.slice A0_1 l0_1.length c0_1)] 73 (0, 0))) ∧ Aside0 (Below w.heap.size w w'))
 case atStart => exact ⟨(0), (by first | rfl | (simp; done) | (simp [*]; done)), H', ⟨Nat.le_refl _⟩, ⟨by (with_reducible repeat (first | refine blk_drewN ?_ _ | refine blk_drew ?_ | refine blk_alloc ?_ _)); exact BK280.out⟩, ⟨by repeat (first | (with_reducible first | exact HB.out | apply below_alloc | apply pbN | apply below_drew1) | exact HB.out)⟩⟩
 case round =>
  clear H'
  try clear c1
  try clear p2
  try clear hcz4_0
  try clear hcz4_1
  try clear hfz4_0
  try clear hfz4_1
  obtain ⟨x15_1, rfl, HA, HK1, BK280, HB⟩ := hrel
  cases gk with
  | zero => exact absurd HA.out (by simp [mg_worst.l0])
  | succ k1 =>
   have H := HA.out;clear HA;simp only [mg_worst.l0] at H;by_cases c5 : x15_1 < (l0_1.length : Int)
   ·rw [if_pos c5] at H;have c5b0 : decide (x15_1 < (l0_1.length : Int)) = true := decide_eq_true c5;clear c5;by_cases c6 : 0 ≤ x15_1
    ·rw [if_pos c6] at H;have c6b0 : decide (0 ≤ x15_1) = true := decide_eq_true c6;clear c6;by_cases c7 : x15_1 < (l0_1.length : Int)
     ·rw [if_pos c7] at H;have c7b0 : decide (x15_1 < (l0_1.length : Int)) = true := decide_eq_true c7;clear c7;have H' := Aside0.mk H;clear H;have p281 : 0 ≤ (x15_1 : Int) := of_decide_eq_true (by first | (with_reducible assumption) | assumption);have q281 : x15_1 < (l0_1.length : Int) := of_decide_eq_true (by first | (with_reducible assumption) | assumption);obtain ⟨ad281, A281_0, c281_0, e281, hx281_0, hl281_0, hi281_0⟩ := at_L9 HR0_1.out x15_1 p281 q281;cases e281;replace hx281_0 := (HB.out.cell (World.block_lt_of_cell? w _ hx281_0)).trans hx281_0;have HR281_0 := Aside0.mk hi281_0;have HC281_0 := Aside0.mk hl281_0;clear hi281_0 hl281_0;replace p281 := eq_true p281;replace q281 := eq_true q281
      go_wp2
      go_loopg [7, 22] k1 (fun kq v7 v22 w' => ∃ (x7_2 : Int) (x22_2 : Int), v7 = .int .i64 x7_2 ∧ v22 = .int .i64 x22_2 ∧ Aside0 (mg_worst.l1 kq l1 x15_1 x7_2 l0_1 (l0_1.length : Int) x15_1 (rd_L9 l0_1 x15_1) ((rd_L9 l0_1 x15_1).length : Int) x22_2 = some r) ∧ Aside0 (kq ≤ k1) ∧ Aside0 (w'.heap[gG]? = some (.cells #[(.slice A0_0 l0_0.length c0_0), (.slice (some ad281) l0_1.length c0_1)] 73 (0, 0))) ∧ Aside0 (Below w.heap.size w w'))
      case atStart => exact ⟨(0), (0), (by first | rfl | (simp; done) | (simp [*]; done)), (by first | rfl | (simp; done) | (simp [*]; done)), H', ⟨Nat.le_refl _⟩, ⟨by (with_reducible repeat (first | refine blk_drewN ?_ _ | refine blk_drew ?_ | refine blk_alloc ?_ _)); exact BK280.out⟩, ⟨by repeat (first | (with_reducible first | exact HB.out | apply below_alloc | apply pbN | apply below_drew1) | exact HB.out)⟩⟩
      case round =>
       clear H'
       try clear c1
       try clear c2
       try clear p2
       try clear q2
       try clear hx2
       try clear c5
       try clear c5b0
       try clear c6
       try clear c6b0
       try clear c7
       try clear c7b0
       try clear hcz4_0
       try clear hcz4_1
       try clear hfz4_0
       try clear hfz4_1
       try clear hx281_0
       try clear p2
       try clear p281
       try clear q281
       obtain ⟨x7_2, x22_2, rfl, rfl, HA, HK2, BK280, HB⟩ := hrel
       cases gk with
       | zero => exact absurd HA.out (by simp [mg_worst.l1])
       | succ k2 =>
        have H := HA.out;clear HA;simp only [mg_worst.l1] at H;by_cases c8 : x22_2 < ((rd_L9 l0_1 x15_1).length : Int)
        ·rw [if_pos c8] at H;have c8b0 : decide (x22_2 < ((rd_L9 l0_1 x15_1).length : Int)) = true := decide_eq_true c8;clear c8;by_cases c9 : 0 ≤ x22_2
         ·rw [if_pos c9] at H;have c9b0 : decide (0 ≤ x22_2) = true := decide_eq_true c9;clear c9;by_cases c10 : x22_2 < ((rd_L9 l0_1 x15_1).length : Int)
          ·rw [if_pos c10] at H;have c10b0 : decide (x22_2 < ((rd_L9 l0_1 x15_1).length : Int)) = true := decide_eq_true c10;clear c10;by_cases c11 : 0 ≤ ((rd_T77 (rd_L9 l0_1 x15_1) x22_2).f0)
           ·rw [if_pos c11] at H;have c11b0 : decide (0 ≤ ((rd_T77 (rd_L9 l0_1 x15_1) x22_2).f0)) = true := decide_eq_true c11;clear c11;by_cases c12 : ((rd_T77 (rd_L9 l0_1 x15_1) x22_2).f0) < (l1.length : Int)
            ·rw [if_pos c12] at H;have c12b0 : decide (((rd_T77 (rd_L9 l0_1 x15_1) x22_2).f0) < (l1.length : Int)) = true := decide_eq_true c12;clear c12;(obtain ⟨bq13, hbq13⟩ : ∃ b_ : Bool, b_ = (rdOf false l1 ((rd_T77 (rd_L9 l0_1 x15_1) x22_2).f0)) := ⟨_, rfl⟩);(replace H : (if bq13 = true then (mg_worst.l1 k2 l1 x15_1 (wrap64 (x7_2 + 1)) l0_1 (l0_1.length : Int) x15_1 (rd_L9 l0_1 x15_1) ((rd_L9 l0_1 x15_1).length : Int) (wrap64 (x22_2 + 1))) else (mg_worst.l1 k2 l1 x15_1 (wrap64 (x7_2 - 1)) l0_1 (l0_1.length : Int) x15_1 (rd_L9 l0_1 x15_1) ((rd_L9 l0_1 x15_1).length : Int) (wrap64 (x22_2 + 1)))) = some r := by rw [← hbq13] at H; exact H);have Nbq13 := Aside0.mk hbq13;clear hbq13;by_cases c14 : bq13 = true
             ·subst c14;(have H1 : (mg_worst.l1 k2 l1 x15_1 (wrap64 (x7_2 + 1)) l0_1 (l0_1.length : Int) x15_1 (rd_L9 l0_1 x15_1) ((rd_L9 l0_1 x15_1).length : Int) (wrap64 (x22_2 + 1))) = some r := by rw [if_pos rfl] at H; exact H);clear H;have H := H1;clear H1;have H' := Aside0.mk H;clear H;have p282 : 0 ≤ (x22_2 : Int) := of_decide_eq_true (by first | (with_reducible assumption) | assumption);have q282 : x22_2 < ((rd_L9 l0_1 x15_1).length : Int) := of_decide_eq_true (by first | (with_reducible assumption) | assumption);obtain ⟨ad282, e282, hx282_0, hx282_1⟩ := at_T77 HR281_0.out x22_2 p282 q282;cases e282;replace hx282_0 := (HB.out.cell (World.block_lt_of_cell? w _ hx282_0)).trans hx282_0;replace hx282_1 := (HB.out.cell (World.block_lt_of_cell? w _ hx282_1)).trans hx282_1;replace p282 := eq_true p282;replace q282 := eq_true q282
              go_wp2_with (first | ((with_reducible refine gate_dst (N := 9) rfl ?_); refine box_event ?hg (N := 9) ?hd (cs := #[.int .i64 0, .int .i64 0]) (t := 77) ?hr ?_; (case hd => rfl); (case hg => rfl); (case hr => first | (go_simp; done) | (go_simp; rfl)); intro gb283 hg w15 hbox hb; have n0_ := Aside0.mk (blk_below (g := gG) (o := .cells #[.slice A0_0 l0_0.length c0_0, .slice (some ad281) l0_1.length c0_1] 73 (0, 0)) (by (with_reducible repeat (first | refine blk_drewN ?_ _ | refine blk_drew ?_ | refine blk_alloc ?_ _)); exact BK280.out) hb); have n1_ := Aside0.mk (below_step (by repeat (first | (with_reducible first | exact HB.out | apply below_alloc | apply pbN | apply below_drew1) | exact HB.out)) hb); have n2_ := Aside0.mk (hbox); have n3_ := Aside0.mk ((by rw [hg]; exact (below_size (by repeat (first | (with_reducible first | exact HB.out | apply below_alloc | apply pbN | apply below_drew1) | exact HB.out))) : w.heap.size ≤ gb283)); have n4_ := Aside0.mk ((by rw [hg]; exact (below_size (by repeat (first | (with_reducible first | exact HB.out | apply below_alloc | apply pbN | apply below_drew1) | exact HB.out))) : w.heap.size ≤ gb283)); have n5_ := Aside0.mk ((by rw [hg]; exact Nat.ne_of_lt (blk_lt (g := gG) (o := .cells #[.slice A0_0 l0_0.length c0_0, .slice (some ad281) l0_1.length c0_1] 73 (0, 0)) (by (with_reducible repeat (first | refine blk_drewN ?_ _ | refine blk_drew ?_ | refine blk_alloc ?_ _)); exact BK280.out)) : gG ≠ gb283)); have n6_ := Aside0.mk ((by rw [hg]; exact Nat.ne_of_gt (blk_lt (g := gG) (o := .cells #[.slice A0_0 l0_0.length c0_0, .slice (some ad281) l0_1.length c0_1] 73 (0, 0)) (by (with_reducible repeat (first | refine blk_drewN ?_ _ | refine blk_drew ?_ | refine blk_alloc ?_ _)); exact BK280.out)) : gb283 ≠ gG)); clear BK280; clear HB; have BK280 := n0_; have HB := n1_; have BK283 := n2_; have GW283 := n3_; have GE283 := n4_; have NB280_283 := n5_; have NB283_280 := n6_; clear n0_ n1_ n2_ n3_ n4_ n5_ n6_; clear hb hbox hg; have hnb16 := NB283_280.out; have hnc16 := NB280_283.out; have hcz17_0 : w15.cell? ⟨gb283, 0, none⟩ = some (.int .i64 0) := (blk_cell BK283.out 0).trans rfl; have hcz17_1 : w15.cell? ⟨gb283, 1, none⟩ = some (.int .i64 0) := (blk_cell BK283.out 1).trans rfl; have hfz17_0 := blk_frozen BK283.out 0; have hfz17_1 := blk_frozen BK283.out 1; have p284 : 0 ≤ (((rd_T77 (rd_L9 l0_1 x15_1) x22_2).f0) : Int) := of_decide_eq_true (by first | (with_reducible assumption) | assumption); have q284 : ((rd_T77 (rd_L9 l0_1 x15_1) x22_2).f0) < (l1.length : Int) := of_decide_eq_true (by first | (with_reducible assumption) | assumption); obtain ⟨ad284, e284, hx284_0⟩ := Kd.at_bool HR1.out ((rd_T77 (rd_L9 l0_1 x15_1) x22_2).f0) p284 q284; (try rw [← Nbq13.out] at hx284_0); cases e284; have hn284_0 : ad284.block ≠ gb283 := Nat.ne_of_lt (Nat.lt_of_lt_of_le (by have := World.block_lt_of_cell? _ _ hx284_0; first | rwa [add_block] at this | exact this) GW283.out); have hn284_1 : ad284.block ≠ gb283 := Nat.ne_of_lt (Nat.lt_of_lt_of_le (by have := World.block_lt_of_cell? _ _ hx284_0; first | rwa [add_block] at this | exact this) GW283.out); replace hx284_0 := (HB.out.cell (World.block_lt_of_cell? w _ hx284_0)).trans hx284_0; replace hx284_0 := (cell_far (p := ⟨gb283, 0, none⟩) (by first | (rw [add_block]; exact hn284_0) | (show (Addr.add _ _).block ≠ _; rw [add_block]; exact hn284_0) | exact hn284_0) (.int .i64 ((rd_T77 (rd_L9 l0_1 x15_1) x22_2).f0))).trans hx284_0; replace hx284_0 := (cell_far (p := ⟨gb283, 1, none⟩) (by first | (rw [add_block]; exact hn284_1) | (show (Addr.add _ _).block ≠ _; rw [add_block]; exact hn284_1) | exact hn284_1) (.int .i64 ((rd_T77 (rd_L9 l0_1 x15_1) x22_2).f1))).trans hx284_0; clear hn284_0; clear hn284_1; replace p284 := eq_true p284; replace q284 := eq_true q284))
              go_roundg k2
              case measure => have := HK1.out; have := HK2.out; omega
              case rel => exact ⟨(wrap64 (x7_2 + 1)), (wrap64 (x22_2 + 1)), (by first | rfl | (simp; done) | (simp [*]; done)), (by first | rfl | (simp; done) | (simp [*]; done)), H', ⟨by have := HK1.out; have := HK2.out; omega⟩, ⟨by (with_reducible repeat (first | refine blk_drewN ?_ _ | refine blk_drew ?_ | refine blk_alloc ?_ _)); refine blk_far ?_ NB280_283.out _; (with_reducible repeat (first | refine blk_drewN ?_ _ | refine blk_drew ?_ | refine blk_alloc ?_ _)); refine blk_far ?_ NB280_283.out _; (with_reducible repeat (first | refine blk_drewN ?_ _ | refine blk_drew ?_ | refine blk_alloc ?_ _)); exact BK280.out⟩, ⟨by repeat (first | (with_reducible first | exact HB.out | apply below_alloc | apply pbN | apply below_drew1 | refine below_set ?_ GE283.out) | exact HB.out)⟩⟩
             ·replace c14 := Bool.eq_false_iff.mpr c14;subst c14;(have H1 : (mg_worst.l1 k2 l1 x15_1 (wrap64 (x7_2 - 1)) l0_1 (l0_1.length : Int) x15_1 (rd_L9 l0_1 x15_1) ((rd_L9 l0_1 x15_1).length : Int) (wrap64 (x22_2 + 1))) = some r := by rw [if_neg (show ¬ (false = true) by decide)] at H; exact H);clear H;have H := H1;clear H1;have H' := Aside0.mk H;clear H;have p282 : 0 ≤ (x22_2 : Int) := of_decide_eq_true (by first | (with_reducible assumption) | assumption);have q282 : x22_2 < ((rd_L9 l0_1 x15_1).length : Int) := of_decide_eq_true (by first | (with_reducible assumption) | assumption);obtain ⟨ad282, e282, hx282_0, hx282_1⟩ := at_T77 HR281_0.out x22_2 p282 q282;cases e282;replace hx282_0 := (HB.out.cell (World.block_lt_of_cell? w _ hx282_0)).trans hx282_0;replace hx282_1 := (HB.out.cell (World.block_lt_of_cell? w _ hx282_1)).trans hx282_1;replace p282 := eq_true p282;replace q282 := eq_true q282
              go_wp2_with (first | ((with_reducible refine gate_dst (N := 9) rfl ?_); refine box_event ?hg (N := 9) ?hd (cs := #[.int .i64 0, .int .i64 0]) (t := 77) ?hr ?_; (case hd => rfl); (case hg => rfl); (case hr => first | (go_simp; done) | (go_simp; rfl)); intro gb283 hg w18 hbox hb; have n0_ := Aside0.mk (blk_below (g := gG) (o := .cells #[.slice A0_0 l0_0.length c0_0, .slice (some ad281) l0_1.length c0_1] 73 (0, 0)) (by (with_reducible repeat (first | refine blk_drewN ?_ _ | refine blk_drew ?_ | refine blk_alloc ?_ _)); exact BK280.out) hb); have n1_ := Aside0.mk (below_step (by repeat (first | (with_reducible first | exact HB.out | apply below_alloc | apply pbN | apply below_drew1) | exact HB.out)) hb); have n2_ := Aside0.mk (hbox); have n3_ := Aside0.mk ((by rw [hg]; exact (below_size (by repeat (first | (with_reducible first | exact HB.out | apply below_alloc | apply pbN | apply below_drew1) | exact HB.out))) : w.heap.size ≤ gb283)); have n4_ := Aside0.mk ((by rw [hg]; exact (below_size (by repeat (first | (with_reducible first | exact HB.out | apply below_alloc | apply pbN | apply below_drew1) | exact HB.out))) : w.heap.size ≤ gb283)); have n5_ := Aside0.mk ((by rw [hg]; exact Nat.ne_of_lt (blk_lt (g := gG) (o := .cells #[.slice A0_0 l0_0.length c0_0, .slice (some ad281) l0_1.length c0_1] 73 (0, 0)) (by (with_reducible repeat (first | refine blk_drewN ?_ _ | refine blk_drew ?_ | refine blk_alloc ?_ _)); exact BK280.out)) : gG ≠ gb283)); have n6_ := Aside0.mk ((by rw [hg]; exact Nat.ne_of_gt (blk_lt (g := gG) (o := .cells #[.slice A0_0 l0_0.length c0_0, .slice (some ad281) l0_1.length c0_1] 73 (0, 0)) (by (with_reducible repeat (first | refine blk_drewN ?_ _ | refine blk_drew ?_ | refine blk_alloc ?_ _)); exact BK280.out)) : gb283 ≠ gG)); clear BK280; clear HB; have BK280 := n0_; have HB := n1_; have BK283 := n2_; have GW283 := n3_; have GE283 := n4_; have NB280_283 := n5_; have NB283_280 := n6_; clear n0_ n1_ n2_ n3_ n4_ n5_ n6_; clear hb hbox hg; have hnb19 := NB283_280.out; have hnc19 := NB280_283.out; have hcz20_0 : w18.cell? ⟨gb283, 0, none⟩ = some (.int .i64 0) := (blk_cell BK283.out 0).trans rfl; have hcz20_1 : w18.cell? ⟨gb283, 1, none⟩ = some (.int .i64 0) := (blk_cell BK283.out 1).trans rfl; have hfz20_0 := blk_frozen BK283.out 0; have hfz20_1 := blk_frozen BK283.out 1; have p284 : 0 ≤ (((rd_T77 (rd_L9 l0_1 x15_1) x22_2).f0) : Int) := of_decide_eq_true (by first | (with_reducible assumption) | assumption); have q284 : ((rd_T77 (rd_L9 l0_1 x15_1) x22_2).f0) < (l1.length : Int) := of_decide_eq_true (by first | (with_reducible assumption) | assumption); obtain ⟨ad284, e284, hx284_0⟩ := Kd.at_bool HR1.out ((rd_T77 (rd_L9 l0_1 x15_1) x22_2).f0) p284 q284; (try rw [← Nbq13.out] at hx284_0); cases e284; have hn284_0 : ad284.block ≠ gb283 := Nat.ne_of_lt (Nat.lt_of_lt_of_le (by have := World.block_lt_of_cell? _ _ hx284_0; first | rwa [add_block] at this | exact this) GW283.out); have hn284_1 : ad284.block ≠ gb283 := Nat.ne_of_lt (Nat.lt_of_lt_of_le (by have := World.block_lt_of_cell? _ _ hx284_0; first | rwa [add_block] at this | exact this) GW283.out); replace hx284_0 := (HB.out.cell (World.block_lt_of_cell? w _ hx284_0)).trans hx284_0; replace hx284_0 := (cell_far (p := ⟨gb283, 0, none⟩) (by first | (rw [add_block]; exact hn284_0) | (show (Addr.add _ _).block ≠ _; rw [add_block]; exact hn284_0) | exact hn284_0) (.int .i64 ((rd_T77 (rd_L9 l0_1 x15_1) x22_2).f0))).trans hx284_0; replace hx284_0 := (cell_far (p := ⟨gb283, 1, none⟩) (by first | (rw [add_block]; exact hn284_1) | (show (Addr.add _ _).block ≠ _; rw [add_block]; exact hn284_1) | exact hn284_1) (.int .i64 ((rd_T77 (rd_L9 l0_1 x15_1) x22_2).f1))).trans hx284_0; clear hn284_0; clear hn284_1; replace p284 := eq_true p284; replace q284 := eq_true q284))
              go_roundg k2
              case measure => have := HK1.out; have := HK2.out; omega
              case rel => exact ⟨(wrap64 (x7_2 - 1)), (wrap64 (x22_2 + 1)), (by first | rfl | (simp; done) | (simp [*]; done)), (by first | rfl | (simp; done) | (simp [*]; done)), H', ⟨by have := HK1.out; have := HK2.out; omega⟩, ⟨by (with_reducible repeat (first | refine blk_drewN ?_ _ | refine blk_drew ?_ | refine blk_alloc ?_ _)); refine blk_far ?_ NB280_283.out _; (with_reducible repeat (first | refine blk_drewN ?_ _ | refine blk_drew ?_ | refine blk_alloc ?_ _)); refine blk_far ?_ NB280_283.out _; (with_reducible repeat (first | refine blk_drewN ?_ _ | refine blk_drew ?_ | refine blk_alloc ?_ _)); exact BK280.out⟩, ⟨by repeat (first | (with_reducible first | exact HB.out | apply below_alloc | apply pbN | apply below_drew1 | refine below_set ?_ GE283.out) | exact HB.out)⟩⟩
            ·rw [if_neg c12] at H;exact absurd H (by simp)
           ·rw [if_neg c11] at H;exact absurd H (by simp)
          ·rw [if_neg c10] at H;exact absurd H (by simp)
         ·rw [if_neg c9] at H;exact absurd H (by simp)
        ·rw [if_neg c8] at H;have c8b0 : decide (x22_2 < ((rd_L9 l0_1 x15_1).length : Int)) = false := decide_eq_false c8;clear c8;by_cases c21 : x7_2 > 0
         ·rw [if_pos c21] at H;have c21b0 : decide (0 < x7_2) = true := decide_eq_true c21;clear c21;obtain rfl := Option.some.inj H
          go_wp2
          go_ret
          exact ⟨by first | rfl | (simp [errW_none, errW_some] <;> rfl) | (simp [*, errW_none, errW_some] <;> rfl), by repeat (first | (with_reducible first | exact HB.out | apply below_alloc | apply pbN | apply below_drew1) | exact HB.out)⟩
         ·rw [if_neg c21] at H;have c21b0 : decide (0 < x7_2) = false := decide_eq_false c21;clear c21;have H' := Aside0.mk H;clear H
          go_wp2
          go_roundg k2
          case measure => have := HK1.out; have := HK2.out; omega
          case rel => exact ⟨(wrap64 (x15_1 + 1)), (by first | rfl | (simp; done) | (simp [*]; done)), H', ⟨by have := HK1.out; have := HK2.out; omega⟩, ⟨by (with_reducible repeat (first | refine blk_drewN ?_ _ | refine blk_drew ?_ | refine blk_alloc ?_ _)); exact BK280.out⟩, ⟨by repeat (first | (with_reducible first | exact HB.out | apply below_alloc | apply pbN | apply below_drew1) | exact HB.out)⟩⟩
     ·rw [if_neg c7] at H;exact absurd H (by simp)
    ·rw [if_neg c6] at H;exact absurd H (by simp)
   ·rw [if_neg c5] at H;have c5b0 : decide (x15_1 < (l0_1.length : Int)) = false := decide_eq_false c5;clear c5;obtain rfl := Option.some.inj H
    go_wp2
    go_ret
    exact ⟨by first | rfl | (simp [errW_none, errW_some] <;> rfl) | (simp [*, errW_none, errW_some] <;> rfl), by repeat (first | (with_reducible first | exact HB.out | apply below_alloc | apply pbN | apply below_drew1) | exact HB.out)⟩
mutual
def message_Flip.l0 : Nat → List Int → List Bool → List Int → Int → Int → List (List Int) → List (List (S77)) → Option (List Int × List Int × Int)
 | 0, _, _, _, _, _, _, _ => none
 | k + 1, x4, x9, x40, x41, x42, x295000, x295001 => if x42 < x41 then (if 0 ≤ x42 then (if x42 < (x40.length : Int) then (if 0 ≤ (rd x40 x42) then (if (rd x40 x42) < (x9.length : Int) then (message_Flip.l0 k x4 (x9.set ((rd x40 x42) : Int).toNat true) x40 x41 (wrap64 (x42 + 1)) x295000 x295001) else (none)) else (none)) else (none)) else (none)) else (message_Flip.l1 k x4 ([] : List Int) x9 x295000 x295001)
def message_Flip.l1 : Nat → List Int → List Int → List Bool → List (List Int) → List (List (S77)) → Option (List Int × List Int × Int)
 | 0, _, _, _, _, _ => none
 | k + 1, x4, x5, x9, x295000, x295001 => (mg_worst.f k x295000 x295001 x9).bind fun t307 => (if t307 < 0 then (some (x4, x5, 0)) else (if 0 ≤ t307 then (if t307 < (x4.length : Int) then (if x5.length < 17592186044416 then (if t307 < (x295001.length : Int) then (message_Flip.l2 k (x4.set (t307 : Int).toNat (wrap64 (1 - (rd x4 t307)))) (x5 ++ [t307]) x9 (rd_L9 x295001 t307) ((rd_L9 x295001 t307).length : Int) 0 x295000 x295001) else (none)) else (none)) else (none)) else (none)))
def message_Flip.l2 : Nat → List Int → List Int → List Bool → List (S77) → Int → Int → List (List Int) → List (List (S77)) → Option (List Int × List Int × Int)
 | 0, _, _, _, _, _, _, _, _ => none
 | k + 1, x4, x5, x9, x75, x76, x77, x295000, x295001 => if x77 < x76 then (if 0 ≤ x77 then (if x77 < (x75.length : Int) then (if 0 ≤ ((rd_T77 x75 x77).f0) then (if ((rd_T77 x75 x77).f0) < (x9.length : Int) then (message_Flip.l2 k x4 x5 (x9.set (((rd_T77 x75 x77).f0) : Int).toNat (!(rdOf false x9 ((rd_T77 x75 x77).f0)))) x75 x76 (wrap64 (x77 + 1)) x295000 x295001) else (none)) else (none)) else (none)) else (none)) else (message_Flip.l1 k x4 x5 x9 x295000 x295001)
end
def message_Flip.f (k : Nat) (a0_0 : Int) (l0_1 : List (List Int)) (l1 : List Int) : Option (List Int × List Int × Int) := (message_build.f k a0_0 l0_1).bind fun bt287 => (if bt287.2.2 = 0 then ((message_bitsOf.f k a0_0 l0_1 l1).bind fun t295 => (if t295 = 0 then (if ([] : List Int).length + l1.length < 17592186044416 then (if 0 ≤ (bt287.1.length : Int) then (if ((bt287.1.length : Int) : Int).toNat ≤ 281474976710656 then ((mg_unsatisfied.f k bt287.1 bt287.2.1 l1).bind fun t302 => (message_Flip.l0 k (([] : List Int) ++ l1) (List.replicate ((bt287.1.length : Int) : Int).toNat false) t302 (t302.length : Int) 0 bt287.1 bt287.2.1)) else (none)) else (none)) else (none)) else (some (([] : List Int), ([] : List Int), t295)))) else (some (([] : List Int), ([] : List Int), bt287.2.2)))
theorem message_Flip.mono_l : ∀ k, (∀ y0 y1 y2 y3 y4 y5 y6, LeO (message_Flip.l0 k y0 y1 y2 y3 y4 y5 y6) (message_Flip.l0 (k + 1) y0 y1 y2 y3 y4 y5 y6)) ∧ (∀ y0 y1 y2 y3 y4, LeO (message_Flip.l1 k y0 y1 y2 y3 y4) (message_Flip.l1 (k + 1) y0 y1 y2 y3 y4)) ∧ (∀ y0 y1 y2 y3 y4 y5 y6 y7, LeO (message_Flip.l2 k y0 y1 y2 y3 y4 y5 y6 y7) (message_Flip.l2 (k + 1) y0 y1 y2 y3 y4 y5 y6 y7))
 | 0 => ⟨fun _ _ _ _ _ _ _ r h => by simp [message_Flip.l0] at h, fun _ _ _ _ _ r h => by simp [message_Flip.l1] at h, fun _ _ _ _ _ _ _ _ r h => by simp [message_Flip.l2] at h⟩
 | k + 1 => by
  obtain ⟨ih0, ih1, ih2⟩ := message_Flip.mono_l k;refine ⟨?_, ?_, ?_⟩
  ·intro y0 y1 y2 y3 y4 y5 y6;unfold message_Flip.l0
   repeat' first
   | (with_reducible exact ih0 _ _ _ _ _ _ _)
   | (with_reducible exact ih1 _ _ _ _ _)
   | (with_reducible exact ih2 _ _ _ _ _ _ _ _)
   | (with_reducible exact message_bitsOf.mono _ _ _ _)
   | (with_reducible exact message_build.mono _ _ _)
   | (with_reducible exact mg_unsatisfied.mono _ _ _ _)
   | (with_reducible exact mg_worst.mono _ _ _ _)
   | (with_reducible exact LeO.refl _)
   | (with_reducible exact LeO.none _)
   | (with_reducible refine LeO.ite ?_ ?_)
   | (with_reducible refine LeO.bind ?_ (fun _ => ?_))
   | exact ih0 _ _ _ _ _ _ _
   | exact ih1 _ _ _ _ _
   | exact ih2 _ _ _ _ _ _ _ _
   | exact message_bitsOf.mono _ _ _ _
   | exact message_build.mono _ _ _
   | exact mg_unsatisfied.mono _ _ _ _
   | exact mg_worst.mono _ _ _ _
   | exact LeO.none _
   | refine LeO.ite ?_ ?_
   | refine LeO.bind ?_ (fun _ => ?_)
  ·intro y0 y1 y2 y3 y4;unfold message_Flip.l1
   repeat' first
   | (with_reducible exact ih0 _ _ _ _ _ _ _)
   | (with_reducible exact ih1 _ _ _ _ _)
   | (with_reducible exact ih2 _ _ _ _ _ _ _ _)
   | (with_reducible exact message_bitsOf.mono _ _ _ _)
   | (with_reducible exact message_build.mono _ _ _)
   | (with_reducible exact mg_unsatisfied.mono _ _ _ _)
   | (with_reducible exact mg_worst.mono _ _ _ _)
   | (with_reducible exact LeO.refl _)
   | (with_reducible exact LeO.none _)
   | (with_reducible refine LeO.ite ?_ ?_)
   | (with_reducible refine LeO.bind ?_ (fun _ => ?_))
   | exact ih0 _ _ _ _ _ _ _
   | exact ih1 _ _ _ _ _
   | exact ih2 _ _ _ _ _ _ _ _
   | exact message_bitsOf.mono _ _ _ _
   | exact message_build.mono _ _ _
   | exact mg_unsatisfied.mono _ _ _ _
   | exact mg_worst.mono _ _ _ _
   | exact LeO.none _
   | refine LeO.ite ?_ ?_
   | refine LeO.bind ?_ (fun _ => ?_)
  ·intro y0 y1 y2 y3 y4 y5 y6 y7;unfold message_Flip.l2
   repeat' first
   | (with_reducible exact ih0 _ _ _ _ _ _ _)
   | (with_reducible exact ih1 _ _ _ _ _)
   | (with_reducible exact ih2 _ _ _ _ _ _ _ _)
   | (with_reducible exact message_bitsOf.mono _ _ _ _)
   | (with_reducible exact message_build.mono _ _ _)
   | (with_reducible exact mg_unsatisfied.mono _ _ _ _)
   | (with_reducible exact mg_worst.mono _ _ _ _)
   | (with_reducible exact LeO.refl _)
   | (with_reducible exact LeO.none _)
   | (with_reducible refine LeO.ite ?_ ?_)
   | (with_reducible refine LeO.bind ?_ (fun _ => ?_))
   | exact ih0 _ _ _ _ _ _ _
   | exact ih1 _ _ _ _ _
   | exact ih2 _ _ _ _ _ _ _ _
   | exact message_bitsOf.mono _ _ _ _
   | exact message_build.mono _ _ _
   | exact mg_unsatisfied.mono _ _ _ _
   | exact mg_worst.mono _ _ _ _
   | exact LeO.none _
   | refine LeO.ite ?_ ?_
   | refine LeO.bind ?_ (fun _ => ?_)
theorem message_Flip.mono : ∀ a0 a1 a2 k, LeO (message_Flip.f k a0 a1 a2) (message_Flip.f (k + 1) a0 a1 a2) := by
 intro a0 a1 a2 k;obtain ⟨ih0, ih1, ih2⟩ := message_Flip.mono_l k;unfold message_Flip.f
 repeat' first
   | (with_reducible exact ih0 _ _ _ _ _ _ _)
   | (with_reducible exact ih1 _ _ _ _ _)
   | (with_reducible exact ih2 _ _ _ _ _ _ _ _)
   | (with_reducible exact message_bitsOf.mono _ _ _ _)
   | (with_reducible exact message_build.mono _ _ _)
   | (with_reducible exact mg_unsatisfied.mono _ _ _ _)
   | (with_reducible exact mg_worst.mono _ _ _ _)
   | (with_reducible exact LeO.refl _)
   | (with_reducible exact LeO.none _)
   | (with_reducible refine LeO.ite ?_ ?_)
   | (with_reducible refine LeO.bind ?_ (fun _ => ?_))
   | exact ih0 _ _ _ _ _ _ _
   | exact ih1 _ _ _ _ _
   | exact ih2 _ _ _ _ _ _ _ _
   | exact message_bitsOf.mono _ _ _ _
   | exact message_build.mono _ _ _
   | exact mg_unsatisfied.mono _ _ _ _
   | exact mg_worst.mono _ _ _ _
   | exact LeO.none _
   | refine LeO.ite ?_ ?_
   | refine LeO.bind ?_ (fun _ => ?_)
def message_Flip.T22 : Bool × List (List Nat × List Nat) := (true, [([], []), ([], []), ([1], [1]), ([], []), ([], []), ([4], [4]), ([3, 5], [3, 5]), ([6], [6]), ([7], [7]), ([0, 2, 0, 1, 2, 3, 4, 5, 6, 7, 8], [0, 2]), ([9, 8, 0, 1, 2, 3, 4, 5, 6, 7, 8], [8, 9])])
def message_Flip.B22 : List Nat := [0, 0, 2, 0, 0, 16, 56, 120, 248, 511, 1023]
theorem message_Flip.tab22 : rtab .any (opsOf Try.f24 22) = message_Flip.T22 := by kernel_rfl
theorem message_Flip.bits22 : waitsOk message_Flip.T22.2 message_Flip.B22 = true := by kernel_rfl
set_option maxHeartbeats 8000000 in
set_option maxRecDepth 100000 in
theorem message_Flip.calls (k : Nat) (a0_0 : Int) (A0_1 : Option Addr) (c0_1 : Nat) (l0_1 : List (List Int)) (A1 : Option Addr) (c1 : Nat) (l1 : List Int) (r1 : List Int) (r2 : List Int) (r3 : Int) (w : World) (hr0_1 : Kd.C (Kd.slice 3 (Kd.int .i64)) w A0_1 l0_1.length l0_1) (hc0_1 : l0_1.length ≤ c0_1) (hr1 : Kd.C (Kd.int .i64) w A1 l1.length l1) (hc1 : l1.length ≤ c1) (h : message_Flip.f k a0_0 l0_1 l1 = some (r1, r2, r3)) :
  Calls Try.prog 24 #[.agg #[.int .i64 a0_0, .slice A0_1 l0_1.length c0_1], .slice A1 l1.length c1] w fun e w' => ∃ v0_ v1_ : Value, e = .returned (.tuple #[v0_, v1_, .int .i64 r3]) ∧ Kd.R (Kd.int .i64) 3 w' w.heap.size (fun k_ => some k_ ≠ (v1_ : Value).ownBlock) v0_ r1 ∧ Kd.R (Kd.int .i64) 3 w' w.heap.size (fun k_ => some k_ ≠ (v0_ : Value).ownBlock) v1_ r2 ∧ Below w.heap.size w w' := by
 have hu24 := Try.underlying24;have hu73 := Try.underlying73;have hu77 := Try.underlying77;have HR0_1 := Aside0.mk hr0_1;have HC0_1 := Aside0.mk hc0_1;clear hr0_1 hc0_1;have HR1 := Aside0.mk hr1;have HC1 := Aside0.mk hc1;clear hr1 hc1;have HB := Aside0.mk (Below.refl w.heap.size w);have H : ((message_build.f k a0_0 l0_1).bind fun bt287 => (if bt287.2.2 = 0 then ((message_bitsOf.f k a0_0 l0_1 l1).bind fun t295 => (if t295 = 0 then (if ([] : List Int).length + l1.length < 17592186044416 then (if 0 ≤ (bt287.1.length : Int) then (if ((bt287.1.length : Int) : Int).toNat ≤ 281474976710656 then ((mg_unsatisfied.f k bt287.1 bt287.2.1 l1).bind fun t302 => (message_Flip.l0 k (([] : List Int) ++ l1) (List.replicate ((bt287.1.length : Int) : Int).toNat false) t302 (t302.length : Int) 0 bt287.1 bt287.2.1)) else (none)) else (none)) else (none)) else (some (([] : List Int), ([] : List Int), t295)))) else (some (([] : List Int), ([] : List Int), bt287.2.2)))) = some (r1, r2, r3) := h;clear h;replace H := Option.bind_eq_some_iff.mp H;obtain ⟨⟨t287, t290, t293⟩, A30, H⟩ := H;replace H : (if t293 = 0 then ((message_bitsOf.f k a0_0 l0_1 l1).bind fun t295 => (if t295 = 0 then (if ([] : List Int).length + l1.length < 17592186044416 then (if 0 ≤ (t287.length : Int) then (if ((t287.length : Int) : Int).toNat ≤ 281474976710656 then ((mg_unsatisfied.f k t287 t290 l1).bind fun t302 => (message_Flip.l0 k (([] : List Int) ++ l1) (List.replicate ((t287.length : Int) : Int).toNat false) t302 (t302.length : Int) 0 t287 t290)) else (none)) else (none)) else (none)) else (some (([] : List Int), ([] : List Int), t295)))) else (some (([] : List Int), ([] : List Int), t293))) = some (r1, r2, r3) := H;have A3 := Aside0.mk A30;clear A30;by_cases c4 : t293 = 0
 ·rw [if_pos c4] at H;have c4b0 : (t293 == 0) = true := beq_iff_eq.mpr c4;have c4b1 : (t293 != 0) = false := bne_eq_false_iff_eq.mpr c4;clear c4;replace H := Option.bind_eq_some_iff.mp H;obtain ⟨t295, A50, H⟩ := H;replace H : (if t295 = 0 then (if ([] : List Int).length + l1.length < 17592186044416 then (if 0 ≤ (t287.length : Int) then (if ((t287.length : Int) : Int).toNat ≤ 281474976710656 then ((mg_unsatisfied.f k t287 t290 l1).bind fun t302 => (message_Flip.l0 k (([] : List Int) ++ l1) (List.replicate ((t287.length : Int) : Int).toNat false) t302 (t302.length : Int) 0 t287 t290)) else (none)) else (none)) else (none)) else (some (([] : List Int), ([] : List Int), t295))) = some (r1, r2, r3) := H;have A5 := Aside0.mk A50;clear A50;by_cases c6 : t295 = 0
  ·rw [if_pos c6] at H;have c6b0 : (t295 == 0) = true := beq_iff_eq.mpr c6;have c6b1 : (t295 != 0) = false := bne_eq_false_iff_eq.mpr c6;clear c6;by_cases c7 : ([] : List Int).length + l1.length < 17592186044416
   ·rw [if_pos c7] at H;have LMc7 := Aside0.mk c7;clear c7;(obtain ⟨y296, hy296⟩ : ∃ y_ : List Int, y_ = (([] : List Int) ++ l1) := ⟨_, rfl⟩);(replace H : (if 0 ≤ (t287.length : Int) then (if ((t287.length : Int) : Int).toNat ≤ 281474976710656 then ((mg_unsatisfied.f k t287 t290 l1).bind fun t302 => (message_Flip.l0 k y296 (List.replicate ((t287.length : Int) : Int).toNat false) t302 (t302.length : Int) 0 t287 t290)) else (none)) else (none)) = some (r1, r2, r3) := by first | (rw [hy296]; with_reducible exact H) | (have H2_ := (Option.bind_some _ _).symm.trans H; rw [hy296]; with_reducible exact H2_) | (have H2_ := (Option.bind_some _ _).symm.trans H; with_reducible exact H2_) | with_reducible exact H | (rw [hy296]; exact H) | exact H);have Ny296 := Aside0.mk hy296;clear hy296;by_cases c8 : 0 ≤ (t287.length : Int)
    ·rw [if_pos c8] at H;have c8b0 := eq_true c8;have c8b1 : decide (0 ≤ (t287.length : Int)) = true := decide_eq_true c8;clear c8;by_cases c9 : ((t287.length : Int) : Int).toNat ≤ 281474976710656
     ·rw [if_pos c9] at H;have c9b0 := eq_true c9;have c9b1 : decide (((t287.length : Int) : Int).toNat ≤ 281474976710656) = true := decide_eq_true c9;clear c9;(obtain ⟨y299, hy299⟩ : ∃ y_ : List Bool, y_ = (List.replicate ((t287.length : Int) : Int).toNat false) := ⟨_, rfl⟩);(replace H : ((mg_unsatisfied.f k t287 t290 l1).bind fun t302 => (message_Flip.l0 k y296 y299 t302 (t302.length : Int) 0 t287 t290)) = some (r1, r2, r3) := by first | (rw [hy299]; with_reducible exact H) | (have H2_ := (Option.bind_some _ _).symm.trans H; rw [hy299]; with_reducible exact H2_) | (have H2_ := (Option.bind_some _ _).symm.trans H; with_reducible exact H2_) | with_reducible exact H | (rw [hy299]; exact H) | exact H);have Ny299 := Aside0.mk hy299;clear hy299;replace H := Option.bind_eq_some_iff.mp H;obtain ⟨t302, A100, H⟩ := H;replace H : (message_Flip.l0 k y296 y299 t302 (t302.length : Int) 0 t287 t290) = some (r1, r2, r3) := H;have A10 := Aside0.mk A100;clear A100;have H' := Aside0.mk H;clear H;go_enter Try.func24, Try.ntmps24
      go_wp2_with (first | ((with_reducible refine gate_dst (N := 2) rfl ?_); refine box_event ?hg (N := 2) ?hd (cs := #[.int .i64 a0_0, .slice A0_1 l0_1.length c0_1]) (t := 24) ?hr ?_; (case hd => rfl); (case hg => rfl); (case hr => first | (go_simp; done) | (go_simp; rfl)); intro gb286 hg w11 hbox hb; have n0_ := Aside0.mk (below_step (by repeat (first | (with_reducible first | exact HB.out | apply below_alloc | apply pbN | apply below_drew1) | exact HB.out)) hb); have n1_ := Aside0.mk (hbox); have n2_ := Aside0.mk ((by rw [hg]; exact (below_size (by repeat (first | (with_reducible first | exact HB.out | apply below_alloc | apply pbN | apply below_drew1) | exact HB.out))) : w.heap.size ≤ gb286)); have n3_ := Aside0.mk ((by rw [hg]; exact (below_size (by repeat (first | (with_reducible first | exact HB.out | apply below_alloc | apply pbN | apply below_drew1) | exact HB.out))) : w.heap.size ≤ gb286)); clear HB; have HB := n0_; have BK286 := n1_; have GW286 := n2_; have GE286 := n3_; clear n0_ n1_ n2_ n3_; clear hb hbox hg; have hcz12_0 : w11.cell? ⟨gb286, 0, none⟩ = some (.int .i64 a0_0) := (blk_cell BK286.out 0).trans rfl; have hcz12_1 : w11.cell? ⟨gb286, 1, none⟩ = some (.slice A0_1 l0_1.length c0_1) := (blk_cell BK286.out 1).trans rfl; have hfz12_0 := blk_frozen BK286.out 0; have hfz12_1 := blk_frozen BK286.out 1) | ((with_reducible refine gate_callee (f := 44) rfl ?_); refine goesL_ (some 17) rfl rfl Try.func44 (by kernel_rfl) rfl #[.agg #[.int .i64 a0_0, .slice A0_1 l0_1.length c0_1]] rfl (by (try simp only [List.map_toArray, List.map_cons, List.map_nil]); first | done | rfl | (simp only [List.length_drop, List.length_take]; rfl)) ?_; (with_reducible refine (message_build.calls k a0_0 _ _ l0_1 t287 t290 t293 _ ?side1 ?side2 A3.out).mono ?_); (case side1 => repeat (first | exact (Kd.C_below HR0_1.out HB.out) | (with_reducible refine Kd.C_alloc ?_ _) | (with_reducible refine Kd.C_drewN ?_ _) | (with_reducible refine Kd.C_drew ?_))); (case side2 => exact HC0_1.out); rintro e w13 ⟨gg_, rfl, hb, hbu_⟩; obtain ⟨gb294, v288, v291, rfl, hge_, hbk_, ho0, ho1⟩ := Built.ok hbu_ (beq_iff_eq.mp c4b0); refine ⟨_, rfl, ?_⟩; have BK294 := Aside0.mk hbk_; have GE294 := Aside0.mk (Nat.le_trans (below_size (by repeat (first | (with_reducible first | exact HB.out | apply below_alloc | apply pbN | apply below_drew1 | refine below_set ?_ GE286.out) | exact HB.out))) hge_); have GW294 := GE294; have NB286_294 := Aside0.mk (Nat.ne_of_lt (Nat.lt_of_lt_of_le (blk_lt (g := gb286) (o := .cells #[.int .i64 a0_0, .slice A0_1 l0_1.length c0_1] 24 (0, 0)) (by (with_reducible repeat (first | refine blk_drewN ?_ _ | refine blk_drew ?_ | refine blk_alloc ?_ _)); exact BK286.out)) hge_)); have NB294_286 := Aside0.mk (Ne.symm NB286_294.out); clear hbk_ hge_ hbu_; have n0_ := Aside0.mk (Kd.S_lower ho0 (below_size (by repeat (first | (with_reducible first | exact HB.out | apply below_alloc | apply pbN | apply below_drew1 | refine below_set ?_ GE286.out) | exact HB.out)))); have n1_ := Aside0.mk (Kd.S_lower ho1 (below_size (by repeat (first | (with_reducible first | exact HB.out | apply below_alloc | apply pbN | apply below_drew1 | refine below_set ?_ GE286.out) | exact HB.out)))); have n2_ := Aside0.mk (blk_below (g := gb286) (o := .cells #[.int .i64 a0_0, .slice A0_1 l0_1.length c0_1] 24 (0, 0)) (by (with_reducible repeat (first | refine blk_drewN ?_ _ | refine blk_drew ?_ | refine blk_alloc ?_ _)); exact BK286.out) hb); have n3_ := Aside0.mk (below_step (by repeat (first | (with_reducible first | exact HB.out | apply below_alloc | apply pbN | apply below_drew1 | refine below_set ?_ GE286.out) | exact HB.out)) hb); clear BK286; clear HB; have HO289 := n0_; have HO292 := n1_; have BK286 := n2_; have HB := n3_; clear n0_ n1_ n2_ n3_; (try clear hb); (try clear hb2); (try clear hk); (try clear hi); (try clear ho0); (try clear ho1); obtain ⟨Ao14, co14, eo14⟩ := Kd.S_slice HO292.out; subst eo14; obtain ⟨Ao15, co15, eo15⟩ := Kd.S_slice HO289.out; subst eo15; have hnb17 := NB286_294.out; have hnc17 := NB294_286.out; have hcz18_0 : w13.cell? ⟨gb286, 0, none⟩ = some (.int .i64 a0_0) := (blk_cell BK286.out 0).trans rfl; have hcz18_1 : w13.cell? ⟨gb286, 1, none⟩ = some (.slice A0_1 l0_1.length c0_1) := (blk_cell BK286.out 1).trans rfl; have hfz18_0 := blk_frozen BK286.out 0; have hfz18_1 := blk_frozen BK286.out 1) | ((with_reducible refine gate_callee (f := 52) rfl ?_); refine goesL_ (some 25) rfl rfl Try.func52 (by kernel_rfl) rfl #[.agg #[.int .i64 a0_0, .slice A0_1 l0_1.length c0_1], .slice A1 l1.length c1] rfl (by (try simp only [List.map_toArray, List.map_cons, List.map_nil]); first | done | rfl | (simp only [List.length_drop, List.length_take]; rfl)) ?_; (with_reducible refine (message_bitsOf.calls k a0_0 _ _ l0_1 _ _ l1 t295 _ ?side1 ?side2 ?side3 ?side4 A5.out).mono ?_); (case side1 => repeat (first | exact (Kd.C_below HR0_1.out HB.out) | (with_reducible refine Kd.C_alloc ?_ _) | (with_reducible refine Kd.C_drewN ?_ _) | (with_reducible refine Kd.C_drew ?_))); (case side2 => exact HC0_1.out); (case side3 => repeat (first | exact (Kd.C_below HR1.out HB.out) | (with_reducible refine Kd.C_alloc ?_ _) | (with_reducible refine Kd.C_drewN ?_ _) | (with_reducible refine Kd.C_drew ?_))); (case side4 => exact HC1.out); rintro e w19 ⟨rfl, hb⟩; refine ⟨_, rfl, ?_⟩; have n0_ := Aside0.mk (Kd.S_below (by (with_reducible repeat (first | apply Kd.S_alloc | apply Kd.S_drewN | apply Kd.S_drew)); exact HO289.out) hb); have n1_ := Aside0.mk (Kd.S_below (by (with_reducible repeat (first | apply Kd.S_alloc | apply Kd.S_drewN | apply Kd.S_drew)); exact HO292.out) hb); have n2_ := Aside0.mk (blk_below (g := gb286) (o := .cells #[.int .i64 a0_0, .slice A0_1 l0_1.length c0_1] 24 (0, 0)) (by (with_reducible repeat (first | refine blk_drewN ?_ _ | refine blk_drew ?_ | refine blk_alloc ?_ _)); exact BK286.out) hb); have n3_ := Aside0.mk (blk_below (g := gb294) (o := .cells #[.slice Ao15 t287.length co15, .slice Ao14 t290.length co14] 73 (0, 0)) (by (with_reducible repeat (first | refine blk_drewN ?_ _ | refine blk_drew ?_ | refine blk_alloc ?_ _)); exact BK294.out) hb); have n4_ := Aside0.mk (below_step (by repeat (first | (with_reducible first | exact HB.out | apply below_alloc | apply pbN | apply below_drew1 | refine below_set ?_ GE286.out | refine below_set ?_ GE294.out) | exact HB.out)) hb); clear HO289; clear HO292; clear BK286; clear BK294; clear HB; have HO289 := n0_; have HO292 := n1_; have BK286 := n2_; have BK294 := n3_; have HB := n4_; clear n0_ n1_ n2_ n3_ n4_; (try clear hb); (try clear hb2); (try clear hk); (try clear hi)) | ((with_reducible refine gate_builtin (b := .append) (xs := #[.tmp 29, .tmp 30]) rfl ?_); at_builtin; refine Kd.R_append_rows (Kd.int .i64) (w0 := w) w.heap.size rfl (.tmp 29) (.tmp 30) 25 3 (.int .i64 0) 8 rfl Try.underlying25 info3 rfl (by decide) (by omega) (.slice none 0 0) ([] : List Int) l1 _ _ _ (fun _ => True) (fun _ => False) rfl rfl ?aO ?aR (fun _ _ h => h) (fun _ h => h.elim) ?aF ?aB ?aS ?aL ?_; (case aR => repeat (first | exact (Kd.C_below HR1.out HB.out) | (with_reducible refine Kd.C_alloc ?_ _) | (with_reducible refine Kd.C_drewN ?_ _) | (with_reducible refine Kd.C_drew ?_))); (case aB => exact (by repeat (first | (with_reducible first | exact HB.out | apply below_alloc | apply pbN | apply below_drew1 | refine below_set ?_ GE286.out | refine below_set ?_ GE294.out) | exact HB.out))); (case aF => exact (fun _ _ => trivial)); (case aO => exact ((Kd.R_nil _ _ _ _ (fun _ => True)))); (case aS => exact (below_size (by repeat (first | (with_reducible first | exact HB.out | apply below_alloc | apply pbN | apply below_drew1 | refine below_set ?_ GE286.out | refine below_set ?_ GE294.out) | exact HB.out)))); (case aL => have := LMc7.out; omega); intro v297 w20 ho hb hg hat; rw [← Ny296.out] at ho; have n0_ := Aside0.mk (blk_grown (g := gb286) (o := .cells #[.int .i64 a0_0, .slice A0_1 l0_1.length c0_1] 24 (0, 0)) (by (with_reducible repeat (first | refine blk_drewN ?_ _ | refine blk_drew ?_ | refine blk_alloc ?_ _)); exact BK286.out) hg (by simp [Value.ownBlock])); have n1_ := Aside0.mk (Kd.S_after (Kd.S_apart_nil (by (with_reducible repeat (first | apply Kd.S_alloc | apply Kd.S_drewN | apply Kd.S_drew)); exact HO289.out)) hg hat); have n2_ := Aside0.mk (Kd.S_grown (by (with_reducible repeat (first | apply Kd.S_alloc | apply Kd.S_drewN | apply Kd.S_drew)); exact HO292.out) hg (fun _ _ => by simp [Value.ownBlock])); have n3_ := Aside0.mk (blk_grown (g := gb294) (o := .cells #[.slice Ao15 t287.length co15, .slice Ao14 t290.length co14] 73 (0, 0)) (by (with_reducible repeat (first | refine blk_drewN ?_ _ | refine blk_drew ?_ | refine blk_alloc ?_ _)); exact BK294.out) hg (by simp [Value.ownBlock])); have n4_ := Aside0.mk (hb); have n5_ := Aside0.mk (ho); clear BK286; clear HO289; clear HO292; clear BK294; clear HB; have BK286 := n0_; have HO289 := n1_; have HO292 := n2_; have BK294 := n3_; have HB := n4_; have HO298 := n5_; clear n0_ n1_ n2_ n3_ n4_ n5_; clear ho hb hg hat; have hcz21_0 : w20.cell? ⟨gb294, 0, none⟩ = some (.slice Ao15 t287.length co15) := (blk_cell BK294.out 0).trans rfl; have hcz21_1 : w20.cell? ⟨gb294, 1, none⟩ = some (.slice Ao14 t290.length co14) := (blk_cell BK294.out 1).trans rfl; have hfz21_0 := blk_frozen BK294.out 0; have hfz21_1 := blk_frozen BK294.out 1) | ((with_reducible refine gate_dst (N := 37) rfl ?_); refine Kd.R_make Kd.bool _ 4 rfl (N := 37) rfl 70 _ _ rfl (t287.length : Int) rfl rfl Try.underlying70 (.bool false) 1 info4 rfl (by decide) (by omega) false (ok := fun _ => True) (okp := fun _ => True) rfl (fun _ hk => hk) trivial (of_decide_eq_true (by first | (with_reducible assumption) | assumption)) (Nat.le_trans (Nat.mul_le_mul_right _ (of_decide_eq_true (by first | (with_reducible assumption) | assumption) : (t287.length : Int).toNat ≤ 281474976710656)) (by omega)) (Below.refl _ _) (Nat.le_refl _) ?_; intro v300 w22 ho23 hb hg_ hnew_; clear hg_ hnew_; (first | rw [← Ny299.out] at ho23 | (simp only [Int.reduceToNat] at ho23; rw [← Ny299.out] at ho23)); have n0_ := Aside0.mk (Kd.S_below (by (with_reducible repeat (first | apply Kd.S_alloc | apply Kd.S_drewN | apply Kd.S_drew)); exact HO289.out) hb); have n1_ := Aside0.mk (Kd.S_below (by (with_reducible repeat (first | apply Kd.S_alloc | apply Kd.S_drewN | apply Kd.S_drew)); exact HO292.out) hb); have n2_ := Aside0.mk (Kd.R_below (by (with_reducible repeat (first | apply Kd.R_alloc | apply Kd.R_drewN | apply Kd.R_drew)); exact HO298.out) hb); have n3_ := Aside0.mk (Kd.R_lower ho23 (below_size (by repeat (first | (with_reducible first | exact HB.out | apply below_alloc | apply pbN | apply below_drew1 | refine below_set ?_ GE286.out | refine below_set ?_ GE294.out) | exact HB.out)))); have n4_ := Aside0.mk (blk_below (g := gb286) (o := .cells #[.int .i64 a0_0, .slice A0_1 l0_1.length c0_1] 24 (0, 0)) (by (with_reducible repeat (first | refine blk_drewN ?_ _ | refine blk_drew ?_ | refine blk_alloc ?_ _)); exact BK286.out) hb); have n5_ := Aside0.mk (blk_below (g := gb294) (o := .cells #[.slice Ao15 t287.length co15, .slice Ao14 t290.length co14] 73 (0, 0)) (by (with_reducible repeat (first | refine blk_drewN ?_ _ | refine blk_drew ?_ | refine blk_alloc ?_ _)); exact BK294.out) hb); have n6_ := Aside0.mk (below_step (by repeat (first | (with_reducible first | exact HB.out | apply below_alloc | apply pbN | apply below_drew1 | refine below_set ?_ GE286.out | refine below_set ?_ GE294.out) | exact HB.out)) hb); clear HO289; clear HO292; clear HO298; clear BK286; clear BK294; clear HB; have HO289 := n0_; have HO292 := n1_; have HO298 := n2_; have HO301 := n3_; have BK286 := n4_; have BK294 := n5_; have HB := n6_; clear n0_ n1_ n2_ n3_ n4_ n5_ n6_; clear hb ho23; have hcz24_0 : w22.cell? ⟨gb294, 0, none⟩ = some (.slice Ao15 t287.length co15) := (blk_cell BK294.out 0).trans rfl; have hcz24_1 : w22.cell? ⟨gb294, 1, none⟩ = some (.slice Ao14 t290.length co14) := (blk_cell BK294.out 1).trans rfl; have hfz24_0 := blk_frozen BK294.out 0; have hfz24_1 := blk_frozen BK294.out 1) | ((with_reducible refine gate_callee (f := 49) rfl ?_); refine goesL_ (some 40) rfl rfl Try.func49 (by kernel_rfl) rfl #[.pointer (some ⟨gb294, 0, none⟩), .slice A1 l1.length c1] rfl (by (try simp only [List.map_toArray, List.map_cons, List.map_nil]); first | done | rfl | (simp only [List.length_drop, List.length_take]; rfl)) ?_; (with_reducible refine (mg_unsatisfied.calls k Ao15 co15 t287 Ao14 co14 t290 _ _ l1 t302 gb294 _ ?side1 ?side2 ?side3 ?side4 ?side5 ?side6 ?sideG A10.out).mono ?_); (case sideG => (with_reducible repeat (first | refine blk_drewN ?_ _ | refine blk_drew ?_ | refine blk_alloc ?_ _)); exact BK294.out); (case side1 => repeat (first | exact (Kd.S_reads' HO289.out).2.2 | (with_reducible refine Kd.C_alloc ?_ _) | (with_reducible refine Kd.C_drewN ?_ _) | (with_reducible refine Kd.C_drew ?_))); (case side2 => exact (Kd.S_reads' HO289.out).2.1); (case side3 => repeat (first | exact (Kd.S_reads' HO292.out).2.2 | (with_reducible refine Kd.C_alloc ?_ _) | (with_reducible refine Kd.C_drewN ?_ _) | (with_reducible refine Kd.C_drew ?_))); (case side4 => exact (Kd.S_reads' HO292.out).2.1); (case side5 => repeat (first | exact (Kd.C_below HR1.out HB.out) | (with_reducible refine Kd.C_alloc ?_ _) | (with_reducible refine Kd.C_drewN ?_ _) | (with_reducible refine Kd.C_drew ?_))); (case side6 => exact HC1.out); rintro e w25 ⟨v303, rfl, ho0, hb⟩; refine ⟨_, rfl, ?_⟩; have n0_ := Aside0.mk (Kd.S_elder' (by (with_reducible repeat (first | apply Kd.S_alloc | apply Kd.S_drewN | apply Kd.S_drew)); exact HO289.out) (Kd.R_base ho0) hb); have n1_ := Aside0.mk (Kd.S_below (by (with_reducible repeat (first | apply Kd.S_alloc | apply Kd.S_drewN | apply Kd.S_drew)); exact HO292.out) hb); have n2_ := Aside0.mk (Kd.R_elder' (by (with_reducible repeat (first | apply Kd.R_alloc | apply Kd.R_drewN | apply Kd.R_drew)); exact HO298.out) (Kd.R_base ho0) hb); have n3_ := Aside0.mk (Kd.R_below (by (with_reducible repeat (first | apply Kd.R_alloc | apply Kd.R_drewN | apply Kd.R_drew)); exact HO301.out) hb); have n4_ := Aside0.mk (Kd.R_lower (Kd.R_new' ho0 (Kd.R_lt (by (with_reducible repeat (first | apply Kd.R_alloc | apply Kd.R_drewN | apply Kd.R_drew)); exact HO298.out))) (below_size (by repeat (first | (with_reducible first | exact HB.out | apply below_alloc | apply pbN | apply below_drew1 | refine below_set ?_ GE286.out | refine below_set ?_ GE294.out) | exact HB.out)))); have n5_ := Aside0.mk (blk_below (g := gb286) (o := .cells #[.int .i64 a0_0, .slice A0_1 l0_1.length c0_1] 24 (0, 0)) (by (with_reducible repeat (first | refine blk_drewN ?_ _ | refine blk_drew ?_ | refine blk_alloc ?_ _)); exact BK286.out) hb); have n6_ := Aside0.mk (blk_below (g := gb294) (o := .cells #[.slice Ao15 t287.length co15, .slice Ao14 t290.length co14] 73 (0, 0)) (by (with_reducible repeat (first | refine blk_drewN ?_ _ | refine blk_drew ?_ | refine blk_alloc ?_ _)); exact BK294.out) hb); have n7_ := Aside0.mk (below_step (by repeat (first | (with_reducible first | exact HB.out | apply below_alloc | apply pbN | apply below_drew1 | refine below_set ?_ GE286.out | refine below_set ?_ GE294.out) | exact HB.out)) hb); clear HO289; clear HO292; clear HO298; clear HO301; clear BK286; clear BK294; clear HB; have HO289 := n0_; have HO292 := n1_; have HO298 := n2_; have HO301 := n3_; have HO304 := n4_; have BK286 := n5_; have BK294 := n6_; have HB := n7_; clear n0_ n1_ n2_ n3_ n4_ n5_ n6_ n7_; (try clear hb); (try clear hb2); (try clear hk); (try clear hi); (try clear ho0); obtain ⟨Ao26, co26, eo26⟩ := Kd.R_slice HO304.out; subst eo26))
      go_loopg [42] k (fun kq v42 w' => ∃ (x9_1 : List Bool) (x42_1 : Int), v42 = .int .i64 x42_1 ∧ Aside0 (message_Flip.l0 kq y296 x9_1 t302 (t302.length : Int) x42_1 t287 t290 = some (r1, r2, r3)) ∧ Aside0 (kq ≤ k) ∧ Aside0 (Kd.R (Kd.int .i64) 3 w' w.heap.size (fun k_ => some k_ ≠ ((.slice Ao26 t302.length co26) : Value).ownBlock) v297 y296) ∧ Aside0 (Kd.R Kd.bool 4 w' w.heap.size (fun _ => True) v300 x9_1) ∧ Aside0 (Kd.R (Kd.int .i64) 3 w' w.heap.size (fun k_ => some k_ ≠ (v297 : Value).ownBlock) (.slice Ao26 t302.length co26) t302) ∧ Aside0 (Kd.S (Kd.slice 3 (Kd.int .i64)) 25 w' w.heap.size (fun k_ => some k_ ≠ (v297 : Value).ownBlock ∧ some k_ ≠ ((.slice Ao26 t302.length co26) : Value).ownBlock) (.slice Ao15 t287.length co15) t287) ∧ Aside0 (Kd.S (Kd.slice 77 k77) 75 w' w.heap.size (fun _ => True) (.slice Ao14 t290.length co14) t290) ∧ Aside0 (w'.heap[gb286]? = some (.cells #[.int .i64 a0_0, (.slice A0_1 l0_1.length c0_1)] 24 (0, 0))) ∧ Aside0 (w'.heap[gb294]? = some (.cells #[(.slice Ao15 t287.length co15), (.slice Ao14 t290.length co14)] 73 (0, 0))) ∧ Aside0 (Below w.heap.size w w'))
      case atStart => exact ⟨(y299), (0), (by first | rfl | (simp; done) | (simp [*]; done)), H', ⟨Nat.le_refl _⟩, ⟨by (with_reducible repeat (first | apply Kd.R_alloc | apply Kd.R_drewN | apply Kd.R_drew)); exact Kd.R_mono HO298.out (fun _ hk => hk.2)⟩, ⟨by (with_reducible repeat (first | apply Kd.R_alloc | apply Kd.R_drewN | apply Kd.R_drew)); exact HO301.out⟩, ⟨by (with_reducible repeat (first | apply Kd.R_alloc | apply Kd.R_drewN | apply Kd.R_drew)); exact Kd.R_mono HO304.out (fun _ hk => hk.2)⟩, ⟨by (with_reducible repeat (first | apply Kd.S_alloc | apply Kd.S_drewN | apply Kd.S_drew)); exact Kd.S_mono HO289.out (fun _ hk => ⟨hk.1.2, hk.2⟩)⟩, ⟨by (with_reducible repeat (first | apply Kd.S_alloc | apply Kd.S_drewN | apply Kd.S_drew)); exact HO292.out⟩, ⟨by (with_reducible repeat (first | refine blk_drewN ?_ _ | refine blk_drew ?_ | refine blk_alloc ?_ _)); exact BK286.out⟩, ⟨by (with_reducible repeat (first | refine blk_drewN ?_ _ | refine blk_drew ?_ | refine blk_alloc ?_ _)); exact BK294.out⟩, ⟨by repeat (first | (with_reducible first | exact HB.out | apply below_alloc | apply pbN | apply below_drew1 | refine below_set ?_ GE286.out | refine below_set ?_ GE294.out) | exact HB.out)⟩⟩
      case round =>
       clear H'
       try clear c1
       try clear c2
       try clear p2
       try clear c4
       try clear c4b0
       try clear c4b1
       try clear c5
       try clear c6
       try clear c6b0
       try clear c6b1
       try clear c7
       try clear c8
       try clear c8b0
       try clear c8b1
       try clear c9
       try clear c9b0
       try clear c9b1
       try clear c17
       try clear c24
       try clear hcz12_0
       try clear hcz12_1
       try clear hcz18_0
       try clear hcz18_1
       try clear hcz21_0
       try clear hcz21_1
       try clear hcz24_0
       try clear hcz24_1
       try clear hfz12_0
       try clear hfz12_1
       try clear hfz18_0
       try clear hfz18_1
       try clear hfz21_0
       try clear hfz21_1
       try clear hfz24_0
       try clear hfz24_1
       obtain ⟨x9_1, x42_1, rfl, HA, HK1, HO_4, HO_9, HO_40, HO_295000, HO_295001, BK286, BK294, HB⟩ := hrel
       cases gk with
       | zero => exact absurd HA.out (by simp [message_Flip.l0])
       | succ k1 =>
        have H := HA.out;clear HA;simp only [message_Flip.l0] at H;by_cases c27 : x42_1 < (t302.length : Int)
        ·rw [if_pos c27] at H;have c27b0 : decide (x42_1 < (t302.length : Int)) = true := decide_eq_true c27;clear c27;by_cases c28 : 0 ≤ x42_1
         ·rw [if_pos c28] at H;have c28b0 : decide (0 ≤ x42_1) = true := decide_eq_true c28;clear c28;by_cases c29 : x42_1 < (t302.length : Int)
          ·rw [if_pos c29] at H;have c29b0 : decide (x42_1 < (t302.length : Int)) = true := decide_eq_true c29;clear c29;by_cases c30 : 0 ≤ (rd t302 x42_1)
           ·rw [if_pos c30] at H;have c30b0 : decide (0 ≤ (rd t302 x42_1)) = true := decide_eq_true c30;clear c30;by_cases c31 : (rd t302 x42_1) < (x9_1.length : Int)
            ·rw [if_pos c31] at H;have c31b0 : decide ((rd t302 x42_1) < (x9_1.length : Int)) = true := decide_eq_true c31;clear c31;(obtain ⟨y306, hy306⟩ : ∃ y_ : List Bool, y_ = (x9_1.set ((rd t302 x42_1) : Int).toNat true) := ⟨_, rfl⟩);(replace H : (message_Flip.l0 k1 y296 y306 t302 (t302.length : Int) (wrap64 (x42_1 + 1)) t287 t290) = some (r1, r2, r3) := by first | (rw [hy306]; with_reducible exact H) | (have H2_ := (Option.bind_some _ _).symm.trans H; rw [hy306]; with_reducible exact H2_) | (have H2_ := (Option.bind_some _ _).symm.trans H; with_reducible exact H2_) | with_reducible exact H | (rw [hy306]; exact H) | exact H);have Ny306 := Aside0.mk hy306;clear hy306;have H' := Aside0.mk H;clear H;have p305 : 0 ≤ (x42_1 : Int) := of_decide_eq_true (by first | (with_reducible assumption) | assumption);have q305 : x42_1 < (t302.length : Int) := of_decide_eq_true (by first | (with_reducible assumption) | assumption);obtain ⟨ad305, e305, hx305_0⟩ := Kd.at_int (Kd.R_reads' HO_40.out).2.2 x42_1 p305 q305;cases e305;replace p305 := eq_true p305;replace q305 := eq_true q305;have p32 : 0 ≤ ((rd t302 x42_1) : Int) := of_decide_eq_true (by first | (with_reducible assumption) | assumption);have q32 : ((rd t302 x42_1) : Int) < ((x9_1.length : Int) : Int) := of_decide_eq_true (by first | (with_reducible assumption) | assumption);obtain ⟨go32, co32, eo32, gb32, gl32, cl32, HG32⟩ := Kd.R_form HO_9.out (by omega);(first | cases eo32 | (injection eo32 with ea_ en_ ec_; (first | subst ea_ | (injection ea_ with ea_; subst ea_)); subst ec_; clear en_));have GB32 := Aside0.mk gb32;have GG32 := Aside0.mk HG32;clear gb32 gl32 HG32;obtain ⟨hx32_0, hf32_0⟩ := Kd.R_celln false HO_9.out ((rd t302 x42_1) : Int) p32 q32;replace p32 := eq_true p32;replace q32 := eq_true q32;have HP33 := Kd.R_putg HO_9.out ((rd t302 x42_1) : Int) true
             go_wp2_with (first | ((with_reducible refine gate_store (t := 4) (p := 48) rfl ?_); refine store_event (t := 4) (p := 48) (v := ?vo_w34) (w1 := (wr.setCell ⟨go32, ((rd t302 x42_1) : Int).toNat, none⟩ (.bool true))) ?hg ?ho ?hn ?hr ?_; (case ho => rfl); (case hg => rfl); (case hn => rfl); (case hr => first | (go_simp; done) | (go_simp; rfl)); intro w34 hw; have hg : wr.grownBy w34 (some go32) := (by rw [hw]; exact HP33.2); have hp_ : Kd.R Kd.bool 4 w34 w.heap.size (fun _ => True) (.slice (some ⟨go32, 0, none⟩) x9_1.length co32) y306 := (by rw [hw, Ny306.out]; exact HP33.1); clear HP33; have n0_ := Aside0.mk (Kd.R_over' (v := (.slice (some ⟨go32, 0, none⟩) x9_1.length co32)) (by (with_reducible repeat (first | apply Kd.R_alloc | apply Kd.R_drewN | apply Kd.R_drew)); exact HO_4.out) (Kd.R_typed HO_9.out) (by decide) hg); have n1_ := Aside0.mk (hp_); have n2_ := Aside0.mk (Kd.R_over' (v := (.slice (some ⟨go32, 0, none⟩) x9_1.length co32)) (by (with_reducible repeat (first | apply Kd.R_alloc | apply Kd.R_drewN | apply Kd.R_drew)); exact HO_40.out) (Kd.R_typed HO_9.out) (by decide) hg); have n3_ := Aside0.mk (Kd.S_over' (v := (.slice (some ⟨go32, 0, none⟩) x9_1.length co32)) (by (with_reducible repeat (first | apply Kd.S_alloc | apply Kd.S_drewN | apply Kd.S_drew)); exact HO_295000.out) (Kd.R_typed HO_9.out) (by decide) hg); have n4_ := Aside0.mk (Kd.S_over' (v := (.slice (some ⟨go32, 0, none⟩) x9_1.length co32)) (by (with_reducible repeat (first | apply Kd.S_alloc | apply Kd.S_drewN | apply Kd.S_drew)); exact HO_295001.out) (Kd.R_typed HO_9.out) (by decide) hg); have n5_ := Aside0.mk (blk_grown (g := gb286) (o := .cells #[.int .i64 a0_0, .slice A0_1 l0_1.length c0_1] 24 (0, 0)) (by (with_reducible repeat (first | refine blk_drewN ?_ _ | refine blk_drew ?_ | refine blk_alloc ?_ _)); exact BK286.out) hg (Kd.R_ne HO_9.out BK286.out (by decide))); have n6_ := Aside0.mk (blk_grown (g := gb294) (o := .cells #[.slice Ao15 t287.length co15, .slice Ao14 t290.length co14] 73 (0, 0)) (by (with_reducible repeat (first | refine blk_drewN ?_ _ | refine blk_drew ?_ | refine blk_alloc ?_ _)); exact BK294.out) hg (Kd.R_ne HO_9.out BK294.out (by decide))); have n7_ := Aside0.mk ((by rw [hw]; exact below_set (HB.out) GB32.out : Below w.heap.size w w34)); clear HO_4; clear HO_9; clear HO_40; clear HO_295000; clear HO_295001; clear BK286; clear BK294; clear HB; have HO_4 := n0_; have HO_9 := n1_; have HO_40 := n2_; have HO_295000 := n3_; have HO_295001 := n4_; have BK286 := n5_; have BK294 := n6_; have HB := n7_; clear n0_ n1_ n2_ n3_ n4_ n5_ n6_ n7_; clear hg hw hp_))
             go_roundg k1
             case measure => have := HK1.out; omega
             case rel => exact ⟨(y306), (wrap64 (x42_1 + 1)), (by first | rfl | (simp; done) | (simp [*]; done)), H', ⟨by have := HK1.out; omega⟩, ⟨by (with_reducible repeat (first | apply Kd.R_alloc | apply Kd.R_drewN | apply Kd.R_drew)); exact HO_4.out⟩, ⟨by (with_reducible repeat (first | apply Kd.R_alloc | apply Kd.R_drewN | apply Kd.R_drew)); exact HO_9.out⟩, ⟨by (with_reducible repeat (first | apply Kd.R_alloc | apply Kd.R_drewN | apply Kd.R_drew)); exact HO_40.out⟩, ⟨by (with_reducible repeat (first | apply Kd.S_alloc | apply Kd.S_drewN | apply Kd.S_drew)); exact HO_295000.out⟩, ⟨by (with_reducible repeat (first | apply Kd.S_alloc | apply Kd.S_drewN | apply Kd.S_drew)); exact HO_295001.out⟩, ⟨by (with_reducible repeat (first | refine blk_drewN ?_ _ | refine blk_drew ?_ | refine blk_alloc ?_ _)); exact BK286.out⟩, ⟨by (with_reducible repeat (first | refine blk_drewN ?_ _ | refine blk_drew ?_ | refine blk_alloc ?_ _)); exact BK294.out⟩, ⟨by repeat (first | (with_reducible first | exact HB.out | apply below_alloc | apply pbN | apply below_drew1 | refine below_set ?_ GE286.out | refine below_set ?_ GE294.out) | exact HB.out)⟩⟩
            ·rw [if_neg c31] at H;exact absurd H (by simp)
           ·rw [if_neg c30] at H;exact absurd H (by simp)
          ·rw [if_neg c29] at H;exact absurd H (by simp)
         ·rw [if_neg c28] at H;exact absurd H (by simp)
        ·rw [if_neg c27] at H;have c27b0 : decide (x42_1 < (t302.length : Int)) = false := decide_eq_false c27;clear c27;have H' := Aside0.mk H;clear H
         go_wp2
         go_loopg [4, 5] k1 (fun kq v4 v5 w' => ∃ (x4_2 : List Int) (x5_2 : List Int) (x9_2 : List Bool), Aside0 (message_Flip.l1 kq x4_2 x5_2 x9_2 t287 t290 = some (r1, r2, r3)) ∧ Aside0 (kq ≤ k1) ∧ Aside0 (Kd.R (Kd.int .i64) 3 w' w.heap.size (fun k_ => some k_ ≠ (v5 : Value).ownBlock) v4 x4_2) ∧ Aside0 (Kd.R (Kd.int .i64) 3 w' w.heap.size (fun k_ => some k_ ≠ (v4 : Value).ownBlock) v5 x5_2) ∧ Aside0 (Kd.R Kd.bool 4 w' w.heap.size (fun _ => True) v300 x9_2) ∧ Aside0 (Kd.S (Kd.slice 3 (Kd.int .i64)) 25 w' w.heap.size (fun k_ => some k_ ≠ (v4 : Value).ownBlock ∧ some k_ ≠ (v5 : Value).ownBlock) (.slice Ao15 t287.length co15) t287) ∧ Aside0 (Kd.S (Kd.slice 77 k77) 75 w' w.heap.size (fun _ => True) (.slice Ao14 t290.length co14) t290) ∧ Aside0 (w'.heap[gb286]? = some (.cells #[.int .i64 a0_0, (.slice A0_1 l0_1.length c0_1)] 24 (0, 0))) ∧ Aside0 (w'.heap[gb294]? = some (.cells #[(.slice Ao15 t287.length co15), (.slice Ao14 t290.length co14)] 73 (0, 0))) ∧ Aside0 (Below w.heap.size w w'))
         case atStart => exact ⟨(y296), (([] : List Int)), (x9_1), H', ⟨Nat.le_refl _⟩, ⟨by (with_reducible repeat (first | apply Kd.R_alloc | apply Kd.R_drewN | apply Kd.R_drew)); exact Kd.R_mono HO_4.out (fun _ hk => (by simp [Value.ownBlock]))⟩, ⟨by first | exact Kd.R_nil _ _ _ _ _ | exact Kd.N_nil _ _ _ _ _ | exact Kd.V_nil _ _ _ _ _ | exact Kd.Q_nil _ _ _ _ _ | exact Kd.S_nil _ _ _ _ _⟩, ⟨by (with_reducible repeat (first | apply Kd.R_alloc | apply Kd.R_drewN | apply Kd.R_drew)); exact HO_9.out⟩, ⟨by (with_reducible repeat (first | apply Kd.S_alloc | apply Kd.S_drewN | apply Kd.S_drew)); exact Kd.S_mono HO_295000.out (fun _ hk => ⟨hk.1, (by simp [Value.ownBlock])⟩)⟩, ⟨by (with_reducible repeat (first | apply Kd.S_alloc | apply Kd.S_drewN | apply Kd.S_drew)); exact HO_295001.out⟩, ⟨by (with_reducible repeat (first | refine blk_drewN ?_ _ | refine blk_drew ?_ | refine blk_alloc ?_ _)); exact BK286.out⟩, ⟨by (with_reducible repeat (first | refine blk_drewN ?_ _ | refine blk_drew ?_ | refine blk_alloc ?_ _)); exact BK294.out⟩, ⟨by repeat (first | (with_reducible first | exact HB.out | apply below_alloc | apply pbN | apply below_drew1 | refine below_set ?_ GE286.out | refine below_set ?_ GE294.out) | exact HB.out)⟩⟩
         case round =>
          clear H'
          try clear c1
          try clear c2
          try clear p2
          try clear c3
          try clear p3
          try clear q3
          try clear hx3
          try clear hf3
          try clear c4
          try clear c4b0
          try clear c4b1
          try clear c5
          try clear c6
          try clear c6b0
          try clear c6b1
          try clear p6
          try clear c7
          try clear c8
          try clear c8b0
          try clear c8b1
          try clear c9
          try clear c9b0
          try clear c9b1
          try clear c17
          try clear c24
          try clear c27
          try clear c27b0
          try clear c28
          try clear c28b0
          try clear c29
          try clear c29b0
          try clear c30
          try clear c30b0
          try clear p30
          try clear q30
          try clear hx30
          try clear c31
          try clear c31b0
          try clear p32
          try clear q32
          try clear hx32
          try clear hf32
          try clear hcz12_0
          try clear hcz12_1
          try clear hcz18_0
          try clear hcz18_1
          try clear hcz21_0
          try clear hcz21_1
          try clear hcz24_0
          try clear hcz24_1
          try clear hfz12_0
          try clear hfz12_1
          try clear hfz18_0
          try clear hfz18_1
          try clear hfz21_0
          try clear hfz21_1
          try clear hfz24_0
          try clear hfz24_1
          try clear hx305_0
          try clear hx32_0
          try clear p2
          try clear p305
          try clear p32
          try clear q305
          try clear q32
          obtain ⟨x4_2, x5_2, x9_2, HA, HK2, HO_4, HO_5, HO_9, HO_295000, HO_295001, BK286, BK294, HB⟩ := hrel
          cases gk with
          | zero => exact absurd HA.out (by simp [message_Flip.l1])
          | succ k2 =>
           have H := HA.out;clear HA;simp only [message_Flip.l1] at H;replace H := Option.bind_eq_some_iff.mp H;obtain ⟨t307, A350, H⟩ := H;replace H : (if t307 < 0 then (some (x4_2, x5_2, 0)) else (if 0 ≤ t307 then (if t307 < (x4_2.length : Int) then (if x5_2.length < 17592186044416 then (if t307 < (t290.length : Int) then (message_Flip.l2 k2 (x4_2.set (t307 : Int).toNat (wrap64 (1 - (rd x4_2 t307)))) (x5_2 ++ [t307]) x9_2 (rd_L9 t290 t307) ((rd_L9 t290 t307).length : Int) 0 t287 t290) else (none)) else (none)) else (none)) else (none))) = some (r1, r2, r3) := H;have A35 := Aside0.mk A350;clear A350;by_cases c36 : t307 < 0
           ·rw [if_pos c36] at H;have c36b0 : decide (t307 < 0) = true := decide_eq_true c36;clear c36;simp only [Option.some.injEq, Prod.mk.injEq] at H;obtain ⟨rfl, rfl, rfl⟩ := H;have hnb37 := NB294_286.out;have hnc37 := NB286_294.out;have hcz38_0 : wr.cell? ⟨gb294, 0, none⟩ = some (.slice Ao15 t287.length co15) := (blk_cell BK294.out 0).trans rfl;have hcz38_1 : wr.cell? ⟨gb294, 1, none⟩ = some (.slice Ao14 t290.length co14) := (blk_cell BK294.out 1).trans rfl;have hfz38_0 := blk_frozen BK294.out 0;have hfz38_1 := blk_frozen BK294.out 1;obtain ⟨Ao39, co39, eo39⟩ := Kd.R_slice HO_9.out;subst eo39
            go_wp2_with (first | ((with_reducible refine gate_callee (f := 53) rfl ?_); refine goesL_ (some 52) rfl rfl Try.func53 (by kernel_rfl) rfl #[.pointer (some ⟨gb294, 0, none⟩), .slice Ao39 x9_2.length co39] rfl (by (try simp only [List.map_toArray, List.map_cons, List.map_nil]); first | done | rfl | (simp only [List.length_drop, List.length_take]; rfl)) ?_; (with_reducible refine (mg_worst.calls k2 Ao15 co15 t287 Ao14 co14 t290 _ _ x9_2 t307 gb294 _ ?side1 ?side2 ?side3 ?side4 ?side5 ?side6 ?sideG A35.out).mono ?_); (case sideG => (with_reducible repeat (first | refine blk_drewN ?_ _ | refine blk_drew ?_ | refine blk_alloc ?_ _)); exact BK294.out); (case side1 => repeat (first | exact (Kd.S_reads' HO_295000.out).2.2 | (with_reducible refine Kd.C_alloc ?_ _) | (with_reducible refine Kd.C_drewN ?_ _) | (with_reducible refine Kd.C_drew ?_))); (case side2 => exact (Kd.S_reads' HO_295000.out).2.1); (case side3 => repeat (first | exact (Kd.S_reads' HO_295001.out).2.2 | (with_reducible refine Kd.C_alloc ?_ _) | (with_reducible refine Kd.C_drewN ?_ _) | (with_reducible refine Kd.C_drew ?_))); (case side4 => exact (Kd.S_reads' HO_295001.out).2.1); (case side5 => repeat (first | exact (Kd.R_reads' HO_9.out).2.2 | (with_reducible refine Kd.C_alloc ?_ _) | (with_reducible refine Kd.C_drewN ?_ _) | (with_reducible refine Kd.C_drew ?_))); (case side6 => exact (Kd.R_reads' HO_9.out).2.1); rintro e w40 ⟨rfl, hb⟩; refine ⟨_, rfl, ?_⟩; have n0_ := Aside0.mk (Kd.R_below (by (with_reducible repeat (first | apply Kd.R_alloc | apply Kd.R_drewN | apply Kd.R_drew)); exact HO_4.out) hb); have n1_ := Aside0.mk (Kd.R_below (by (with_reducible repeat (first | apply Kd.R_alloc | apply Kd.R_drewN | apply Kd.R_drew)); exact HO_5.out) hb); have n2_ := Aside0.mk (Kd.R_below (by (with_reducible repeat (first | apply Kd.R_alloc | apply Kd.R_drewN | apply Kd.R_drew)); exact HO_9.out) hb); have n3_ := Aside0.mk (Kd.S_below (by (with_reducible repeat (first | apply Kd.S_alloc | apply Kd.S_drewN | apply Kd.S_drew)); exact HO_295000.out) hb); have n4_ := Aside0.mk (Kd.S_below (by (with_reducible repeat (first | apply Kd.S_alloc | apply Kd.S_drewN | apply Kd.S_drew)); exact HO_295001.out) hb); have n5_ := Aside0.mk (blk_below (g := gb286) (o := .cells #[.int .i64 a0_0, .slice A0_1 l0_1.length c0_1] 24 (0, 0)) (by (with_reducible repeat (first | refine blk_drewN ?_ _ | refine blk_drew ?_ | refine blk_alloc ?_ _)); exact BK286.out) hb); have n6_ := Aside0.mk (blk_below (g := gb294) (o := .cells #[.slice Ao15 t287.length co15, .slice Ao14 t290.length co14] 73 (0, 0)) (by (with_reducible repeat (first | refine blk_drewN ?_ _ | refine blk_drew ?_ | refine blk_alloc ?_ _)); exact BK294.out) hb); have n7_ := Aside0.mk (below_step (by repeat (first | (with_reducible first | exact HB.out | apply below_alloc | apply pbN | apply below_drew1 | refine below_set ?_ GE286.out | refine below_set ?_ GE294.out) | exact HB.out)) hb); clear HO_4; clear HO_5; clear HO_9; clear HO_295000; clear HO_295001; clear BK286; clear BK294; clear HB; have HO_4 := n0_; have HO_5 := n1_; have HO_9 := n2_; have HO_295000 := n3_; have HO_295001 := n4_; have BK286 := n5_; have BK294 := n6_; have HB := n7_; clear n0_ n1_ n2_ n3_ n4_ n5_ n6_ n7_; (try clear hb); (try clear hb2); (try clear hk); (try clear hi)))
            go_ret3
            exact ⟨_, _, by first | rfl | (simp [errW_none, errW_some] <;> rfl) | (simp [*, errW_none, errW_some] <;> rfl), by (with_reducible repeat (first | apply Kd.R_alloc | apply Kd.R_drewN | apply Kd.R_drew)); exact HO_4.out, by (with_reducible repeat (first | apply Kd.R_alloc | apply Kd.R_drewN | apply Kd.R_drew)); exact HO_5.out, by repeat (first | (with_reducible first | exact HB.out | apply below_alloc | apply pbN | apply below_drew1 | refine below_set ?_ GE286.out | refine below_set ?_ GE294.out) | exact HB.out)⟩
           ·rw [if_neg c36] at H;have c36b0 : decide (t307 < 0) = false := decide_eq_false c36;clear c36;by_cases c41 : 0 ≤ t307
            ·rw [if_pos c41] at H;have c41b0 : decide (0 ≤ t307) = true := decide_eq_true c41;clear c41;by_cases c42 : t307 < (x4_2.length : Int)
             ·rw [if_pos c42] at H;have c42b0 : decide (t307 < (x4_2.length : Int)) = true := decide_eq_true c42;clear c42;(obtain ⟨y309, hy309⟩ : ∃ y_ : List Int, y_ = (x4_2.set (t307 : Int).toNat (wrap64 (1 - (rd x4_2 t307)))) := ⟨_, rfl⟩);(replace H : (if x5_2.length < 17592186044416 then (if t307 < (t290.length : Int) then (message_Flip.l2 k2 y309 (x5_2 ++ [t307]) x9_2 (rd_L9 t290 t307) ((rd_L9 t290 t307).length : Int) 0 t287 t290) else (none)) else (none)) = some (r1, r2, r3) := by first | (rw [hy309]; with_reducible exact H) | (have H2_ := (Option.bind_some _ _).symm.trans H; rw [hy309]; with_reducible exact H2_) | (have H2_ := (Option.bind_some _ _).symm.trans H; with_reducible exact H2_) | with_reducible exact H | (rw [hy309]; exact H) | exact H);have Ny309 := Aside0.mk hy309;clear hy309;by_cases c44 : x5_2.length < 17592186044416
              ·rw [if_pos c44] at H;have LMc44 := Aside0.mk c44;clear c44;(obtain ⟨y310, hy310⟩ : ∃ y_ : List Int, y_ = (x5_2 ++ [t307]) := ⟨_, rfl⟩);(replace H : (if t307 < (t290.length : Int) then (message_Flip.l2 k2 y309 y310 x9_2 (rd_L9 t290 t307) ((rd_L9 t290 t307).length : Int) 0 t287 t290) else (none)) = some (r1, r2, r3) := by first | (rw [hy310]; with_reducible exact H) | (have H2_ := (Option.bind_some _ _).symm.trans H; rw [hy310]; with_reducible exact H2_) | (have H2_ := (Option.bind_some _ _).symm.trans H; with_reducible exact H2_) | with_reducible exact H | (rw [hy310]; exact H) | exact H);have Ny310 := Aside0.mk hy310;clear hy310;by_cases c45 : t307 < (t290.length : Int)
               ·rw [if_pos c45] at H;have c45b0 : decide (t307 < (t290.length : Int)) = true := decide_eq_true c45;clear c45;have H' := Aside0.mk H;clear H;have hnb46 := NB294_286.out;have hnc46 := NB286_294.out;have hcz47_0 : wr.cell? ⟨gb294, 0, none⟩ = some (.slice Ao15 t287.length co15) := (blk_cell BK294.out 0).trans rfl;have hcz47_1 : wr.cell? ⟨gb294, 1, none⟩ = some (.slice Ao14 t290.length co14) := (blk_cell BK294.out 1).trans rfl;have hfz47_0 := blk_frozen BK294.out 0;have hfz47_1 := blk_frozen BK294.out 1;obtain ⟨Ao48, co48, eo48⟩ := Kd.R_slice HO_9.out;subst eo48
                go_wp2_with (first | ((with_reducible refine gate_callee (f := 53) rfl ?_); refine goesL_ (some 52) rfl rfl Try.func53 (by kernel_rfl) rfl #[.pointer (some ⟨gb294, 0, none⟩), .slice Ao48 x9_2.length co48] rfl (by (try simp only [List.map_toArray, List.map_cons, List.map_nil]); first | done | rfl | (simp only [List.length_drop, List.length_take]; rfl)) ?_; (with_reducible refine (mg_worst.calls k2 Ao15 co15 t287 Ao14 co14 t290 _ _ x9_2 t307 gb294 _ ?side1 ?side2 ?side3 ?side4 ?side5 ?side6 ?sideG A35.out).mono ?_); (case sideG => (with_reducible repeat (first | refine blk_drewN ?_ _ | refine blk_drew ?_ | refine blk_alloc ?_ _)); exact BK294.out); (case side1 => repeat (first | exact (Kd.S_reads' HO_295000.out).2.2 | (with_reducible refine Kd.C_alloc ?_ _) | (with_reducible refine Kd.C_drewN ?_ _) | (with_reducible refine Kd.C_drew ?_))); (case side2 => exact (Kd.S_reads' HO_295000.out).2.1); (case side3 => repeat (first | exact (Kd.S_reads' HO_295001.out).2.2 | (with_reducible refine Kd.C_alloc ?_ _) | (with_reducible refine Kd.C_drewN ?_ _) | (with_reducible refine Kd.C_drew ?_))); (case side4 => exact (Kd.S_reads' HO_295001.out).2.1); (case side5 => repeat (first | exact (Kd.R_reads' HO_9.out).2.2 | (with_reducible refine Kd.C_alloc ?_ _) | (with_reducible refine Kd.C_drewN ?_ _) | (with_reducible refine Kd.C_drew ?_))); (case side6 => exact (Kd.R_reads' HO_9.out).2.1); rintro e w49 ⟨rfl, hb⟩; refine ⟨_, rfl, ?_⟩; have n0_ := Aside0.mk (Kd.R_below (by (with_reducible repeat (first | apply Kd.R_alloc | apply Kd.R_drewN | apply Kd.R_drew)); exact HO_4.out) hb); have n1_ := Aside0.mk (Kd.R_below (by (with_reducible repeat (first | apply Kd.R_alloc | apply Kd.R_drewN | apply Kd.R_drew)); exact HO_5.out) hb); have n2_ := Aside0.mk (Kd.R_below (by (with_reducible repeat (first | apply Kd.R_alloc | apply Kd.R_drewN | apply Kd.R_drew)); exact HO_9.out) hb); have n3_ := Aside0.mk (Kd.S_below (by (with_reducible repeat (first | apply Kd.S_alloc | apply Kd.S_drewN | apply Kd.S_drew)); exact HO_295000.out) hb); have n4_ := Aside0.mk (Kd.S_below (by (with_reducible repeat (first | apply Kd.S_alloc | apply Kd.S_drewN | apply Kd.S_drew)); exact HO_295001.out) hb); have n5_ := Aside0.mk (blk_below (g := gb286) (o := .cells #[.int .i64 a0_0, .slice A0_1 l0_1.length c0_1] 24 (0, 0)) (by (with_reducible repeat (first | refine blk_drewN ?_ _ | refine blk_drew ?_ | refine blk_alloc ?_ _)); exact BK286.out) hb); have n6_ := Aside0.mk (blk_below (g := gb294) (o := .cells #[.slice Ao15 t287.length co15, .slice Ao14 t290.length co14] 73 (0, 0)) (by (with_reducible repeat (first | refine blk_drewN ?_ _ | refine blk_drew ?_ | refine blk_alloc ?_ _)); exact BK294.out) hb); have n7_ := Aside0.mk (below_step (by repeat (first | (with_reducible first | exact HB.out | apply below_alloc | apply pbN | apply below_drew1 | refine below_set ?_ GE286.out | refine below_set ?_ GE294.out) | exact HB.out)) hb); clear HO_4; clear HO_5; clear HO_9; clear HO_295000; clear HO_295001; clear BK286; clear BK294; clear HB; have HO_4 := n0_; have HO_5 := n1_; have HO_9 := n2_; have HO_295000 := n3_; have HO_295001 := n4_; have BK286 := n5_; have BK294 := n6_; have HB := n7_; clear n0_ n1_ n2_ n3_ n4_ n5_ n6_ n7_; (try clear hb); (try clear hb2); (try clear hk); (try clear hi); obtain ⟨Ao50, co50, eo50⟩ := Kd.R_slice HO_4.out; subst eo50; have p308 : 0 ≤ (t307 : Int) := of_decide_eq_true (by first | (with_reducible assumption) | assumption); have q308 : t307 < (x4_2.length : Int) := of_decide_eq_true (by first | (with_reducible assumption) | assumption); obtain ⟨ad308, e308, hx308_0⟩ := Kd.at_int (Kd.R_reads' HO_4.out).2.2 t307 p308 q308; cases e308; replace p308 := eq_true p308; replace q308 := eq_true q308; have p43 : 0 ≤ (t307 : Int) := of_decide_eq_true (by first | (with_reducible assumption) | assumption); have q43 : (t307 : Int) < ((x4_2.length : Int) : Int) := of_decide_eq_true (by first | (with_reducible assumption) | assumption); obtain ⟨go43, co43, eo43, gb43, gl43, cl43, HG43⟩ := Kd.R_form HO_4.out (by omega); (first | cases eo43 | (injection eo43 with ea_ en_ ec_; (first | subst ea_ | (injection ea_ with ea_; subst ea_)); subst ec_; clear en_)); have GB43 := Aside0.mk gb43; have GG43 := Aside0.mk HG43; clear gb43 gl43 HG43; (first | simp only [add_plain] at hx308_0 | skip); obtain ⟨hx43_0, hf43_0⟩ := Kd.R_celln 0 HO_4.out (t307 : Int) p43 q43; replace p43 := eq_true p43; replace q43 := eq_true q43; obtain ⟨hy51_, hz51_⟩ := Kd.R_celln 0 HO_4.out (t307 : Int) (of_decide_eq_true (by first | (with_reducible assumption) | assumption)) (of_decide_eq_true (by first | (with_reducible assumption) | assumption)); have HP51 := Kd.R_putg HO_4.out (t307 : Int) (wrap64 (1 - (rd x4_2 t307)))) | ((with_reducible refine gate_store (t := 3) (p := 64) rfl ?_); refine store_event (t := 3) (p := 64) (v := ?vo_w52) (w1 := (w49.setCell ⟨go43, (t307 : Int).toNat, none⟩ (.int .i64 (wrap64 (1 - (rd x4_2 t307)))))) ?hg ?ho ?hn ?hr ?_; (case ho => rfl); (case hg => rfl); (case hn => rfl); (case hr => first | (go_simp; done) | (go_simp; rfl)); intro w52 hw; have hg : w49.grownBy w52 (some go43) := (by rw [hw]; exact HP51.2); have hp_ : Kd.R (Kd.int .i64) 3 w52 w.heap.size (fun k_ => some k_ ≠ (u5 : Value).ownBlock) (.slice (some ⟨go43, 0, none⟩) x4_2.length co50) y309 := (by rw [hw, Ny309.out]; exact HP51.1); clear HP51; have n0_ := Aside0.mk (hp_); have n1_ := Aside0.mk (Kd.R_after (v := (.slice (some ⟨go43, 0, none⟩) x4_2.length co50)) (v1 := (.slice (some ⟨go43, 0, none⟩) x4_2.length co50)) (ok := (fun _ => True)) (by (with_reducible repeat (first | apply Kd.R_alloc | apply Kd.R_drewN | apply Kd.R_drew)); exact Kd.R_mono HO_5.out (fun _ hk => ⟨trivial, hk⟩)) hg (.inl rfl)); have n2_ := Aside0.mk (Kd.R_over' (v := (.slice (some ⟨go43, 0, none⟩) x4_2.length co50)) (by (with_reducible repeat (first | apply Kd.R_alloc | apply Kd.R_drewN | apply Kd.R_drew)); exact HO_9.out) (Kd.R_typed HO_4.out) (by decide) hg); have n3_ := Aside0.mk (Kd.S_after (v := (.slice (some ⟨go43, 0, none⟩) x4_2.length co50)) (v1 := (.slice (some ⟨go43, 0, none⟩) x4_2.length co50)) (ok := (fun k_ => some k_ ≠ (u5 : Value).ownBlock)) (by (with_reducible repeat (first | apply Kd.S_alloc | apply Kd.S_drewN | apply Kd.S_drew)); exact Kd.S_mono HO_295000.out (fun _ hk => ⟨hk.2, hk.1⟩)) hg (.inl rfl)); have n4_ := Aside0.mk (Kd.S_over' (v := (.slice (some ⟨go43, 0, none⟩) x4_2.length co50)) (by (with_reducible repeat (first | apply Kd.S_alloc | apply Kd.S_drewN | apply Kd.S_drew)); exact HO_295001.out) (Kd.R_typed HO_4.out) (by decide) hg); have n5_ := Aside0.mk (blk_grown (g := gb286) (o := .cells #[.int .i64 a0_0, .slice A0_1 l0_1.length c0_1] 24 (0, 0)) (by (with_reducible repeat (first | refine blk_drewN ?_ _ | refine blk_drew ?_ | refine blk_alloc ?_ _)); exact BK286.out) hg (Kd.R_ne HO_4.out BK286.out (by decide))); have n6_ := Aside0.mk (blk_grown (g := gb294) (o := .cells #[.slice Ao15 t287.length co15, .slice Ao14 t290.length co14] 73 (0, 0)) (by (with_reducible repeat (first | refine blk_drewN ?_ _ | refine blk_drew ?_ | refine blk_alloc ?_ _)); exact BK294.out) hg (Kd.R_ne HO_4.out BK294.out (by decide))); have n7_ := Aside0.mk ((by rw [hw]; exact below_set (HB.out) GB43.out : Below w.heap.size w w52)); clear HO_4; clear HO_5; clear HO_9; clear HO_295000; clear HO_295001; clear BK286; clear BK294; clear HB; have HO_4 := n0_; have HO_5 := n1_; have HO_9 := n2_; have HO_295000 := n3_; have HO_295001 := n4_; have BK286 := n5_; have BK294 := n6_; have HB := n7_; clear n0_ n1_ n2_ n3_ n4_ n5_ n6_ n7_; clear hg hw hp_) | ((with_reducible refine gate_builtin (b := .append) (xs := #[.tmp 65, .tmp 67]) rfl ?_); at_builtin; refine Kd.R_append (Kd.int .i64) (w0 := w) w.heap.size rfl (.tmp 65) (.tmp 67) 25 3 (.int .i64 0) 8 rfl Try.underlying25 info3 rfl (by decide) (by omega) u5 x5_2 t307 [.int .i64 t307] (fun k_ => some k_ ≠ (.slice (some ⟨go43, 0, none⟩) x4_2.length co50 : Value).ownBlock) (fun _ => False) rfl rfl ?aP (fun _ hk => hk.elim) ?aF ?aO ?aB ?aS ?aL ?_; (case aP => exact rfl); (case aB => exact (by repeat (first | (with_reducible first | exact HB.out | apply below_alloc | apply pbN | apply below_drew1 | refine below_set ?_ GE286.out | refine below_set ?_ GE294.out) | exact HB.out))); (case aF => exact (fun k_ hk => Kd.fresh' (Kd.R_lt (by (with_reducible repeat (first | apply Kd.R_alloc | apply Kd.R_drewN | apply Kd.R_drew)); exact HO_4.out)) k_ hk)); (case aO => exact (by (with_reducible repeat (first | apply Kd.R_alloc | apply Kd.R_drewN | apply Kd.R_drew)); exact Kd.R_mono HO_5.out (fun _ hk => hk.2))); (case aS => exact (below_size (by repeat (first | (with_reducible first | exact HB.out | apply below_alloc | apply pbN | apply below_drew1 | refine below_set ?_ GE286.out | refine below_set ?_ GE294.out) | exact HB.out)))); (case aL => have := LMc44.out; omega); intro v311 w53 ho hb hg hat; rw [← Ny310.out] at ho; have n0_ := Aside0.mk (Kd.R_after (ok := (fun _ => True)) (by (with_reducible repeat (first | apply Kd.R_alloc | apply Kd.R_drewN | apply Kd.R_drew)); exact Kd.R_mono HO_4.out (fun _ hk => ⟨trivial, hk⟩)) hg hat); have n1_ := Aside0.mk (Kd.R_over' (by (with_reducible repeat (first | apply Kd.R_alloc | apply Kd.R_drewN | apply Kd.R_drew)); exact HO_9.out) (Kd.R_typed (by (with_reducible repeat (first | apply Kd.R_alloc | apply Kd.R_drewN | apply Kd.R_drew)); exact HO_5.out)) (by decide) hg); have n2_ := Aside0.mk (Kd.S_after (ok := (fun k_ => some k_ ≠ (.slice (some ⟨go43, 0, none⟩) x4_2.length co50 : Value).ownBlock)) (by (with_reducible repeat (first | apply Kd.S_alloc | apply Kd.S_drewN | apply Kd.S_drew)); exact Kd.S_mono HO_295000.out (fun _ hk => ⟨hk.2, hk.1⟩)) hg hat); have n3_ := Aside0.mk (Kd.S_over' (by (with_reducible repeat (first | apply Kd.S_alloc | apply Kd.S_drewN | apply Kd.S_drew)); exact HO_295001.out) (Kd.R_typed (by (with_reducible repeat (first | apply Kd.R_alloc | apply Kd.R_drewN | apply Kd.R_drew)); exact HO_5.out)) (by decide) hg); have n4_ := Aside0.mk (blk_grown (g := gb286) (o := .cells #[.int .i64 a0_0, .slice A0_1 l0_1.length c0_1] 24 (0, 0)) (by (with_reducible repeat (first | refine blk_drewN ?_ _ | refine blk_drew ?_ | refine blk_alloc ?_ _)); exact BK286.out) hg (Kd.R_ne HO_5.out BK286.out (by decide))); have n5_ := Aside0.mk (blk_grown (g := gb294) (o := .cells #[.slice Ao15 t287.length co15, .slice Ao14 t290.length co14] 73 (0, 0)) (by (with_reducible repeat (first | refine blk_drewN ?_ _ | refine blk_drew ?_ | refine blk_alloc ?_ _)); exact BK294.out) hg (Kd.R_ne HO_5.out BK294.out (by decide))); have n6_ := Aside0.mk (hb); have n7_ := Aside0.mk (ho); clear HO_4; clear HO_9; clear HO_295000; clear HO_295001; clear BK286; clear BK294; clear HB; clear HO_5; have HO_4 := n0_; have HO_9 := n1_; have HO_295000 := n2_; have HO_295001 := n3_; have BK286 := n4_; have BK294 := n5_; have HB := n6_; have HO312 := n7_; clear n0_ n1_ n2_ n3_ n4_ n5_ n6_ n7_; clear ho hb hg hat; have hcz54_0 : w53.cell? ⟨gb294, 0, none⟩ = some (.slice Ao15 t287.length co15) := (blk_cell BK294.out 0).trans rfl; have hcz54_1 : w53.cell? ⟨gb294, 1, none⟩ = some (.slice Ao14 t290.length co14) := (blk_cell BK294.out 1).trans rfl; have hfz54_0 := blk_frozen BK294.out 0; have hfz54_1 := blk_frozen BK294.out 1; have p313 : 0 ≤ (t307 : Int) := of_decide_eq_true (by first | (with_reducible assumption) | assumption); have q313 : t307 < (t290.length : Int) := of_decide_eq_true (by first | (with_reducible assumption) | assumption); obtain ⟨ad313, A313_0, c313_0, e313, hx313_0, hl313_0, hi313_0⟩ := at_L9 (Kd.S_reads' HO_295001.out).2.2 t307 p313 q313; cases e313; obtain ⟨ce313, hce313, hMe313, hcc313⟩ := Kd.S_get HO_295001.out [] t307 p313 (by first | exact q313 | exact of_decide_eq_true (by first | (with_reducible assumption) | assumption) | (have e_ := (Kd.S_reads' HO_295001.out).1; omega)); obtain ⟨ve313_0, rfl, ge313_0⟩ := hMe313; have hv313_0 := hcc313 0 _ rfl; rw [Nat.add_zero, show ((Kd.slice 77 k77)).sz = 1 from rfl, Nat.mul_one] at hv313_0; replace hv313_0 := Option.some.inj (hv313_0.symm.trans hx313_0); rw [hv313_0] at ge313_0; have HL313_0 := Aside0.mk (show Kd.R k77 77 _ _ _ _ (rd_L9 t290 t307) from ge313_0); clear hv313_0 ge313_0; clear hcc313 hce313; have HR313_0 := Aside0.mk hi313_0; have HC313_0 := Aside0.mk hl313_0; clear hi313_0 hl313_0; replace p313 := eq_true p313; replace q313 := eq_true q313))
                go_loopg [77] k2 (fun kq v77 w' => ∃ (x9_3 : List Bool) (x77_3 : Int), v77 = .int .i64 x77_3 ∧ Aside0 (message_Flip.l2 kq y309 y310 x9_3 (rd_L9 t290 t307) ((rd_L9 t290 t307).length : Int) x77_3 t287 t290 = some (r1, r2, r3)) ∧ Aside0 (kq ≤ k2) ∧ Aside0 (Kd.R (Kd.int .i64) 3 w' w.heap.size (fun k_ => some k_ ≠ (v311 : Value).ownBlock) (.slice (some ⟨go43, 0, none⟩) x4_2.length co50) y309) ∧ Aside0 (Kd.R (Kd.int .i64) 3 w' w.heap.size (fun k_ => some k_ ≠ ((.slice (some ⟨go43, 0, none⟩) x4_2.length co50) : Value).ownBlock) v311 y310) ∧ Aside0 (Kd.R Kd.bool 4 w' w.heap.size (fun _ => True) (.slice Ao48 x9_2.length co48) x9_3) ∧ Aside0 (Kd.S (Kd.slice 3 (Kd.int .i64)) 25 w' w.heap.size (fun k_ => some k_ ≠ ((.slice (some ⟨go43, 0, none⟩) x4_2.length co50) : Value).ownBlock ∧ some k_ ≠ (v311 : Value).ownBlock) (.slice Ao15 t287.length co15) t287) ∧ Aside0 (Kd.S (Kd.slice 77 k77) 75 w' w.heap.size (fun _ => True) (.slice (some ad313) t290.length co14) t290) ∧ Aside0 (w'.heap[gb286]? = some (.cells #[.int .i64 a0_0, (.slice A0_1 l0_1.length c0_1)] 24 (0, 0))) ∧ Aside0 (w'.heap[gb294]? = some (.cells #[(.slice Ao15 t287.length co15), (.slice (some ad313) t290.length co14)] 73 (0, 0))) ∧ Aside0 (Below w.heap.size w w') ∧ Aside0 (Kd.R k77 77 w' w.heap.size (fun _ => True) (.slice A313_0 (rd_L9 t290 t307).length c313_0) (rd_L9 t290 t307)))
                case atStart => exact ⟨(x9_2), (0), (by first | rfl | (simp; done) | (simp [*]; done)), H', ⟨Nat.le_refl _⟩, ⟨by (with_reducible repeat (first | apply Kd.R_alloc | apply Kd.R_drewN | apply Kd.R_drew)); exact Kd.R_mono HO_4.out (fun _ hk => hk.2)⟩, ⟨by (with_reducible repeat (first | apply Kd.R_alloc | apply Kd.R_drewN | apply Kd.R_drew)); exact HO312.out⟩, ⟨by (with_reducible repeat (first | apply Kd.R_alloc | apply Kd.R_drewN | apply Kd.R_drew)); exact HO_9.out⟩, ⟨by (with_reducible repeat (first | apply Kd.S_alloc | apply Kd.S_drewN | apply Kd.S_drew)); exact HO_295000.out⟩, ⟨by (with_reducible repeat (first | apply Kd.S_alloc | apply Kd.S_drewN | apply Kd.S_drew)); exact HO_295001.out⟩, ⟨by (with_reducible repeat (first | refine blk_drewN ?_ _ | refine blk_drew ?_ | refine blk_alloc ?_ _)); exact BK286.out⟩, ⟨by (with_reducible repeat (first | refine blk_drewN ?_ _ | refine blk_drew ?_ | refine blk_alloc ?_ _)); exact BK294.out⟩, ⟨by repeat (first | (with_reducible first | exact HB.out | apply below_alloc | apply pbN | apply below_drew1 | refine below_set ?_ GE286.out | refine below_set ?_ GE294.out) | exact HB.out)⟩, ⟨by (with_reducible repeat (first | apply Kd.R_alloc | apply Kd.R_drewN | apply Kd.R_drew)); exact Kd.R_mono HL313_0.out (fun _ _ => trivial)⟩⟩
                case round =>
                 clear H'
                 try clear c1
                 try clear c2
                 try clear p2
                 try clear c3
                 try clear p3
                 try clear q3
                 try clear hx3
                 try clear hf3
                 try clear c4
                 try clear c4b0
                 try clear c4b1
                 try clear p4
                 try clear q4
                 try clear hx4
                 try clear hf4
                 try clear c5
                 try clear c6
                 try clear c6b0
                 try clear c6b1
                 try clear p6
                 try clear c7
                 try clear c8
                 try clear c8b0
                 try clear c8b1
                 try clear c9
                 try clear c9b0
                 try clear c9b1
                 try clear c17
                 try clear c24
                 try clear c27
                 try clear c27b0
                 try clear c28
                 try clear c28b0
                 try clear c29
                 try clear c29b0
                 try clear c30
                 try clear c30b0
                 try clear p30
                 try clear q30
                 try clear hx30
                 try clear c31
                 try clear c31b0
                 try clear p31
                 try clear q31
                 try clear hx31
                 try clear p32
                 try clear q32
                 try clear hx32
                 try clear hf32
                 try clear c36
                 try clear c36b0
                 try clear c37
                 try clear c41
                 try clear c41b0
                 try clear c42
                 try clear c42b0
                 try clear p43
                 try clear q43
                 try clear hx43
                 try clear hf43
                 try clear c44
                 try clear c45
                 try clear c45b0
                 try clear c46
                 try clear c49
                 try clear c52
                 try clear c53
                 try clear hcz12_0
                 try clear hcz12_1
                 try clear hcz18_0
                 try clear hcz18_1
                 try clear hcz21_0
                 try clear hcz21_1
                 try clear hcz24_0
                 try clear hcz24_1
                 try clear hcz38_0
                 try clear hcz38_1
                 try clear hcz47_0
                 try clear hcz47_1
                 try clear hcz54_0
                 try clear hcz54_1
                 try clear hfz12_0
                 try clear hfz12_1
                 try clear hfz18_0
                 try clear hfz18_1
                 try clear hfz21_0
                 try clear hfz21_1
                 try clear hfz24_0
                 try clear hfz24_1
                 try clear hfz38_0
                 try clear hfz38_1
                 try clear hfz47_0
                 try clear hfz47_1
                 try clear hfz54_0
                 try clear hfz54_1
                 try clear hx305_0
                 try clear hx308_0
                 try clear hx313_0
                 try clear hx32_0
                 try clear hx43_0
                 try clear p2
                 try clear p3
                 try clear p30
                 try clear p305
                 try clear p308
                 try clear p313
                 try clear p32
                 try clear p43
                 try clear p6
                 try clear q3
                 try clear q30
                 try clear q305
                 try clear q308
                 try clear q313
                 try clear q32
                 try clear q43
                 obtain ⟨x9_3, x77_3, rfl, HA, HK3, HO_4, HO_5, HO_9, HO_295000, HO_295001, BK286, BK294, HB, HLq⟩ := hrel;have hl4_3 := (Kd.R_reads' HO_4.out).1;rw [hl4_3] at HO_4;(try simp only [hl4_3]);(try simp only [hl4_3] at BK286);(try simp only [hl4_3] at BK294);(try simp only [hl4_3] at HO_5);(try simp only [hl4_3] at HO_9);(try simp only [hl4_3] at HO_295000);(try simp only [hl4_3] at HO_295001);have hl9_3 := (Kd.R_reads' HO_9.out).1;rw [hl9_3] at HO_9;(try simp only [hl9_3]);(try simp only [hl9_3] at BK286);(try simp only [hl9_3] at BK294);(try simp only [hl9_3] at HO_4);(try simp only [hl9_3] at HO_5);(try simp only [hl9_3] at HO_295000);(try simp only [hl9_3] at HO_295001)
                 cases gk with
                 | zero => exact absurd HA.out (by simp [message_Flip.l2])
                 | succ k3 =>
                  have H := HA.out;clear HA;simp only [message_Flip.l2] at H;by_cases c55 : x77_3 < ((rd_L9 t290 t307).length : Int)
                  ·rw [if_pos c55] at H;have c55b0 : decide (x77_3 < ((rd_L9 t290 t307).length : Int)) = true := decide_eq_true c55;(try (have c55b0h0 := c55b0; simp only [hl4_3] at c55b0h0));(try (have c55b0h1 := c55b0; simp only [hl9_3] at c55b0h1));clear c55;by_cases c56 : 0 ≤ x77_3
                   ·rw [if_pos c56] at H;have c56b0 : decide (0 ≤ x77_3) = true := decide_eq_true c56;clear c56;by_cases c57 : x77_3 < ((rd_L9 t290 t307).length : Int)
                    ·rw [if_pos c57] at H;have c57b0 : decide (x77_3 < ((rd_L9 t290 t307).length : Int)) = true := decide_eq_true c57;(try (have c57b0h0 := c57b0; simp only [hl4_3] at c57b0h0));(try (have c57b0h1 := c57b0; simp only [hl9_3] at c57b0h1));clear c57;by_cases c58 : 0 ≤ ((rd_T77 (rd_L9 t290 t307) x77_3).f0)
                     ·rw [if_pos c58] at H;have c58b0 : decide (0 ≤ ((rd_T77 (rd_L9 t290 t307) x77_3).f0)) = true := decide_eq_true c58;clear c58;by_cases c59 : ((rd_T77 (rd_L9 t290 t307) x77_3).f0) < (x9_3.length : Int)
                      ·rw [if_pos c59] at H;have c59b0 : decide (((rd_T77 (rd_L9 t290 t307) x77_3).f0) < (x9_3.length : Int)) = true := decide_eq_true c59;(try (have c59b0h0 := c59b0; simp only [hl4_3] at c59b0h0));(try (have c59b0h1 := c59b0; simp only [hl9_3] at c59b0h1));clear c59;(obtain ⟨y317, hy317⟩ : ∃ y_ : List Bool, y_ = (x9_3.set (((rd_T77 (rd_L9 t290 t307) x77_3).f0) : Int).toNat (!(rdOf false x9_3 ((rd_T77 (rd_L9 t290 t307) x77_3).f0)))) := ⟨_, rfl⟩);(replace H : (message_Flip.l2 k3 y309 y310 y317 (rd_L9 t290 t307) ((rd_L9 t290 t307).length : Int) (wrap64 (x77_3 + 1)) t287 t290) = some (r1, r2, r3) := by first | (rw [hy317]; with_reducible exact H) | (have H2_ := (Option.bind_some _ _).symm.trans H; rw [hy317]; with_reducible exact H2_) | (have H2_ := (Option.bind_some _ _).symm.trans H; with_reducible exact H2_) | with_reducible exact H | (rw [hy317]; exact H) | exact H);have Ny317 := Aside0.mk hy317;clear hy317;have H' := Aside0.mk H;clear H;have p314 : 0 ≤ (x77_3 : Int) := of_decide_eq_true (by first | (with_reducible assumption) | assumption);have q314 : x77_3 < ((rd_L9 t290 t307).length : Int) := of_decide_eq_true (by first | (with_reducible assumption) | assumption);obtain ⟨ad314, e314, hx314_0, hx314_1⟩ := at_T77 (Kd.R_reads' HLq.out).2.2 x77_3 p314 q314;cases e314;replace p314 := eq_true p314;replace q314 := eq_true q314
                       try go_wp2_with (first | ((with_reducible refine gate_dst (N := 14) rfl ?_); refine box_event ?hg (N := 14) ?hd (cs := #[.int .i64 0, .int .i64 0]) (t := 77) ?hr ?_; (case hd => rfl); (case hg => rfl); (case hr => first | (go_simp; done) | (go_simp; rfl)); intro gb315 hg w61 hbox hb; have nq_ := Aside0.mk (Kd.R_below (Kd.R_elderB (by (with_reducible repeat (first | apply Kd.R_alloc | apply Kd.R_drewN | apply Kd.R_drew)); exact HLq.out) gb315 (Nat.le_of_eq hg.symm)) hb); clear HLq; have HLq := nq_; clear nq_; have n0_ := Aside0.mk (Kd.R_below (by (with_reducible repeat (first | apply Kd.R_alloc | apply Kd.R_drewN | apply Kd.R_drew)); exact HO_4.out) hb); have n1_ := Aside0.mk (Kd.R_below (by (with_reducible repeat (first | apply Kd.R_alloc | apply Kd.R_drewN | apply Kd.R_drew)); exact HO_5.out) hb); have n2_ := Aside0.mk (Kd.R_below (by (with_reducible repeat (first | apply Kd.R_alloc | apply Kd.R_drewN | apply Kd.R_drew)); exact HO_9.out) hb); have n3_ := Aside0.mk (Kd.S_below (by (with_reducible repeat (first | apply Kd.S_alloc | apply Kd.S_drewN | apply Kd.S_drew)); exact HO_295000.out) hb); have n4_ := Aside0.mk (Kd.S_below (Kd.S_elderB (by (with_reducible repeat (first | apply Kd.S_alloc | apply Kd.S_drewN | apply Kd.S_drew)); exact HO_295001.out) gb315 (Nat.le_of_eq hg.symm)) hb); have n5_ := Aside0.mk (blk_below (g := gb286) (o := .cells #[.int .i64 a0_0, .slice A0_1 l0_1.length c0_1] 24 (0, 0)) (by (with_reducible repeat (first | refine blk_drewN ?_ _ | refine blk_drew ?_ | refine blk_alloc ?_ _)); exact BK286.out) hb); have n6_ := Aside0.mk (blk_below (g := gb294) (o := .cells #[.slice Ao15 t287.length co15, .slice (some ad313) t290.length co14] 73 (0, 0)) (by (with_reducible repeat (first | refine blk_drewN ?_ _ | refine blk_drew ?_ | refine blk_alloc ?_ _)); exact BK294.out) hb); have n7_ := Aside0.mk (below_step (by repeat (first | (with_reducible first | exact HB.out | apply below_alloc | apply pbN | apply below_drew1 | refine below_set ?_ GE286.out | refine below_set ?_ GE294.out) | exact HB.out)) hb); have n8_ := Aside0.mk (hbox); have n9_ := Aside0.mk ((by rw [hg]; exact (below_size (by repeat (first | (with_reducible first | exact HB.out | apply below_alloc | apply pbN | apply below_drew1 | refine below_set ?_ GE286.out | refine below_set ?_ GE294.out) | exact HB.out))) : w.heap.size ≤ gb315)); have n10_ := Aside0.mk ((by rw [hg]; exact (below_size (by repeat (first | (with_reducible first | exact HB.out | apply below_alloc | apply pbN | apply below_drew1 | refine below_set ?_ GE286.out | refine below_set ?_ GE294.out) | exact HB.out))) : w.heap.size ≤ gb315)); have n11_ := Aside0.mk ((by rw [hg]; exact Nat.ne_of_lt (blk_lt (g := gb286) (o := .cells #[.int .i64 a0_0, .slice A0_1 l0_1.length c0_1] 24 (0, 0)) (by (with_reducible repeat (first | refine blk_drewN ?_ _ | refine blk_drew ?_ | refine blk_alloc ?_ _)); exact BK286.out)) : gb286 ≠ gb315)); have n12_ := Aside0.mk ((by rw [hg]; exact Nat.ne_of_gt (blk_lt (g := gb286) (o := .cells #[.int .i64 a0_0, .slice A0_1 l0_1.length c0_1] 24 (0, 0)) (by (with_reducible repeat (first | refine blk_drewN ?_ _ | refine blk_drew ?_ | refine blk_alloc ?_ _)); exact BK286.out)) : gb315 ≠ gb286)); have n13_ := Aside0.mk ((by rw [hg]; exact Nat.ne_of_lt (blk_lt (g := gb294) (o := .cells #[.slice Ao15 t287.length co15, .slice (some ad313) t290.length co14] 73 (0, 0)) (by (with_reducible repeat (first | refine blk_drewN ?_ _ | refine blk_drew ?_ | refine blk_alloc ?_ _)); exact BK294.out)) : gb294 ≠ gb315)); have n14_ := Aside0.mk ((by rw [hg]; exact Nat.ne_of_gt (blk_lt (g := gb294) (o := .cells #[.slice Ao15 t287.length co15, .slice (some ad313) t290.length co14] 73 (0, 0)) (by (with_reducible repeat (first | refine blk_drewN ?_ _ | refine blk_drew ?_ | refine blk_alloc ?_ _)); exact BK294.out)) : gb315 ≠ gb294)); clear HO_4; clear HO_5; clear HO_9; clear HO_295000; clear HO_295001; clear BK286; clear BK294; clear HB; have HO_4 := n0_; have HO_5 := n1_; have HO_9 := n2_; have HO_295000 := n3_; have HO_295001 := n4_; have BK286 := n5_; have BK294 := n6_; have HB := n7_; have BK315 := n8_; have GW315 := n9_; have GE315 := n10_; have NB286_315 := n11_; have NB315_286 := n12_; have NB294_315 := n13_; have NB315_294 := n14_; clear n0_ n1_ n2_ n3_ n4_ n5_ n6_ n7_ n8_ n9_ n10_ n11_ n12_ n13_ n14_; clear hb hbox hg; have hnb62 := NB315_286.out; have hnc62 := NB286_315.out; have hnb63 := NB315_294.out; have hnc63 := NB294_315.out; have hcz64_0 : w61.cell? ⟨gb315, 0, none⟩ = some (.int .i64 0) := (blk_cell BK315.out 0).trans rfl; have hcz64_1 : w61.cell? ⟨gb315, 1, none⟩ = some (.int .i64 0) := (blk_cell BK315.out 1).trans rfl; have hfz64_0 := blk_frozen BK315.out 0; have hfz64_1 := blk_frozen BK315.out 1))
                       have n0_ : Aside0 (Kd.R (Kd.int .i64) 3 ((w61.setCell ⟨gb315, 0, none⟩ (.int .i64 ((rd_T77 (rd_L9 t290 t307) x77_3).f0))).setCell ⟨gb315, 1, none⟩ (.int .i64 ((rd_T77 (rd_L9 t290 t307) x77_3).f1))) w.heap.size (fun k_ => some k_ ≠ (v311 : Value).ownBlock) (.slice (some ⟨go43, 0, none⟩) y309.length co50) y309) := ⟨by (with_reducible repeat (first | apply Kd.R_alloc | apply Kd.R_drewN | apply Kd.R_drew)); exact Kd.R_mono (Kd.R_far (p := ⟨gb315, 1, none⟩) (Kd.R_far (p := ⟨gb315, 0, none⟩) (Kd.R_types HO_4.out BK315.out (by decide)) (fun _ hk => hk.2) (.int .i64 ((rd_T77 (rd_L9 t290 t307) x77_3).f0))) (fun _ hk => hk.2) (.int .i64 ((rd_T77 (rd_L9 t290 t307) x77_3).f1))) (fun _ hk => hk.1)⟩;have n1_ : Aside0 (Kd.R (Kd.int .i64) 3 ((w61.setCell ⟨gb315, 0, none⟩ (.int .i64 ((rd_T77 (rd_L9 t290 t307) x77_3).f0))).setCell ⟨gb315, 1, none⟩ (.int .i64 ((rd_T77 (rd_L9 t290 t307) x77_3).f1))) w.heap.size (fun k_ => some k_ ≠ (.slice (some ⟨go43, 0, none⟩) y309.length co50 : Value).ownBlock) v311 y310) := ⟨by (with_reducible repeat (first | apply Kd.R_alloc | apply Kd.R_drewN | apply Kd.R_drew)); exact Kd.R_mono (Kd.R_far (p := ⟨gb315, 1, none⟩) (Kd.R_far (p := ⟨gb315, 0, none⟩) (Kd.R_types HO_5.out BK315.out (by decide)) (fun _ hk => hk.2) (.int .i64 ((rd_T77 (rd_L9 t290 t307) x77_3).f0))) (fun _ hk => hk.2) (.int .i64 ((rd_T77 (rd_L9 t290 t307) x77_3).f1))) (fun _ hk => hk.1)⟩;have n2_ : Aside0 (Kd.R Kd.bool 4 ((w61.setCell ⟨gb315, 0, none⟩ (.int .i64 ((rd_T77 (rd_L9 t290 t307) x77_3).f0))).setCell ⟨gb315, 1, none⟩ (.int .i64 ((rd_T77 (rd_L9 t290 t307) x77_3).f1))) w.heap.size (fun _ => True) (.slice Ao48 x9_3.length co48) x9_3) := ⟨by (with_reducible repeat (first | apply Kd.R_alloc | apply Kd.R_drewN | apply Kd.R_drew)); exact Kd.R_mono (Kd.R_far (p := ⟨gb315, 1, none⟩) (Kd.R_far (p := ⟨gb315, 0, none⟩) (Kd.R_types HO_9.out BK315.out (by decide)) (fun _ hk => hk.2) (.int .i64 ((rd_T77 (rd_L9 t290 t307) x77_3).f0))) (fun _ hk => hk.2) (.int .i64 ((rd_T77 (rd_L9 t290 t307) x77_3).f1))) (fun _ hk => trivial)⟩;have n3_ : Aside0 (Kd.S (Kd.slice 3 (Kd.int .i64)) 25 ((w61.setCell ⟨gb315, 0, none⟩ (.int .i64 ((rd_T77 (rd_L9 t290 t307) x77_3).f0))).setCell ⟨gb315, 1, none⟩ (.int .i64 ((rd_T77 (rd_L9 t290 t307) x77_3).f1))) w.heap.size (fun k_ => some k_ ≠ (.slice (some ⟨go43, 0, none⟩) y309.length co50 : Value).ownBlock ∧ some k_ ≠ (v311 : Value).ownBlock) (.slice Ao15 t287.length co15) t287) := ⟨by (with_reducible repeat (first | apply Kd.S_alloc | apply Kd.S_drewN | apply Kd.S_drew)); exact Kd.S_mono (Kd.S_far (p := ⟨gb315, 1, none⟩) (Kd.S_far (p := ⟨gb315, 0, none⟩) (Kd.S_types HO_295000.out BK315.out (by decide)) (fun _ hk => hk.2) (.int .i64 ((rd_T77 (rd_L9 t290 t307) x77_3).f0))) (fun _ hk => hk.2) (.int .i64 ((rd_T77 (rd_L9 t290 t307) x77_3).f1))) (fun _ hk => ⟨hk.1.1, hk.1.2⟩)⟩;have n4_ : Aside0 (Kd.S (Kd.slice 77 k77) 75 ((w61.setCell ⟨gb315, 0, none⟩ (.int .i64 ((rd_T77 (rd_L9 t290 t307) x77_3).f0))).setCell ⟨gb315, 1, none⟩ (.int .i64 ((rd_T77 (rd_L9 t290 t307) x77_3).f1))) w.heap.size (fun k_ => k_ ≠ gb315) (.slice (some ad313) t290.length co14) t290) := ⟨by (with_reducible repeat (first | apply Kd.S_alloc | apply Kd.S_drewN | apply Kd.S_drew)); exact Kd.S_mono (Kd.S_far (p := ⟨gb315, 1, none⟩) (Kd.S_far (p := ⟨gb315, 0, none⟩) (Kd.S_mono HO_295001.out (fun k_ hk => (⟨hk, hk.2⟩ : _ ∧ k_ ≠ gb315))) (fun _ hk => hk.2) (.int .i64 ((rd_T77 (rd_L9 t290 t307) x77_3).f0))) (fun _ hk => hk.2) (.int .i64 ((rd_T77 (rd_L9 t290 t307) x77_3).f1))) (fun _ hk => hk.1.2)⟩;have nq_ : Aside0 (Kd.R k77 77 ((w61.setCell ⟨gb315, 0, none⟩ (.int .i64 ((rd_T77 (rd_L9 t290 t307) x77_3).f0))).setCell ⟨gb315, 1, none⟩ (.int .i64 ((rd_T77 (rd_L9 t290 t307) x77_3).f1))) w.heap.size (fun k_ => k_ ≠ gb315) (.slice (some ad314) (rd_L9 t290 t307).length c313_0) (rd_L9 t290 t307)) := ⟨by (with_reducible repeat (first | apply Kd.R_alloc | apply Kd.R_drewN | apply Kd.R_drew)); exact Kd.R_mono (Kd.R_far (p := ⟨gb315, 1, none⟩) (Kd.R_far (p := ⟨gb315, 0, none⟩) (Kd.R_mono HLq.out (fun k_ hk => (⟨hk, hk.2⟩ : _ ∧ k_ ≠ gb315))) (fun _ hk => hk.2) (.int .i64 ((rd_T77 (rd_L9 t290 t307) x77_3).f0))) (fun _ hk => hk.2) (.int .i64 ((rd_T77 (rd_L9 t290 t307) x77_3).f1))) (fun _ hk => hk.1.2)⟩;have n5_ : Aside0 (((w61.setCell ⟨gb315, 0, none⟩ (.int .i64 ((rd_T77 (rd_L9 t290 t307) x77_3).f0))).setCell ⟨gb315, 1, none⟩ (.int .i64 ((rd_T77 (rd_L9 t290 t307) x77_3).f1))).heap[gb286]? = some (.cells #[.int .i64 a0_0, .slice A0_1 l0_1.length c0_1] 24 (0, 0))) := ⟨by (with_reducible repeat (first | refine blk_drewN ?_ _ | refine blk_drew ?_ | refine blk_alloc ?_ _)); refine blk_far ?_ NB286_315.out _; (with_reducible repeat (first | refine blk_drewN ?_ _ | refine blk_drew ?_ | refine blk_alloc ?_ _)); refine blk_far ?_ NB286_315.out _; (with_reducible repeat (first | refine blk_drewN ?_ _ | refine blk_drew ?_ | refine blk_alloc ?_ _)); exact BK286.out⟩;have n6_ : Aside0 (((w61.setCell ⟨gb315, 0, none⟩ (.int .i64 ((rd_T77 (rd_L9 t290 t307) x77_3).f0))).setCell ⟨gb315, 1, none⟩ (.int .i64 ((rd_T77 (rd_L9 t290 t307) x77_3).f1))).heap[gb294]? = some (.cells #[.slice Ao15 t287.length co15, .slice (some ad313) t290.length co14] 73 (0, 0))) := ⟨by (with_reducible repeat (first | refine blk_drewN ?_ _ | refine blk_drew ?_ | refine blk_alloc ?_ _)); refine blk_far ?_ NB294_315.out _; (with_reducible repeat (first | refine blk_drewN ?_ _ | refine blk_drew ?_ | refine blk_alloc ?_ _)); refine blk_far ?_ NB294_315.out _; (with_reducible repeat (first | refine blk_drewN ?_ _ | refine blk_drew ?_ | refine blk_alloc ?_ _)); exact BK294.out⟩;have n7_ : Aside0 (((w61.setCell ⟨gb315, 0, none⟩ (.int .i64 ((rd_T77 (rd_L9 t290 t307) x77_3).f0))).setCell ⟨gb315, 1, none⟩ (.int .i64 ((rd_T77 (rd_L9 t290 t307) x77_3).f1))).heap[gb315]? = some (.cells #[.int .i64 ((rd_T77 (rd_L9 t290 t307) x77_3).f0), .int .i64 ((rd_T77 (rd_L9 t290 t307) x77_3).f1)] 77 (0, 0))) := ⟨by (with_reducible repeat (first | refine blk_drewN ?_ _ | refine blk_drew ?_ | refine blk_alloc ?_ _)); refine blk_put (cs := #[.int .i64 ((rd_T77 (rd_L9 t290 t307) x77_3).f0), .int .i64 0]) ?_ 1 _ rfl; (with_reducible repeat (first | refine blk_drewN ?_ _ | refine blk_drew ?_ | refine blk_alloc ?_ _)); refine blk_put (cs := #[.int .i64 0, .int .i64 0]) ?_ 0 _ rfl; (with_reducible repeat (first | refine blk_drewN ?_ _ | refine blk_drew ?_ | refine blk_alloc ?_ _)); exact BK315.out⟩;have n8_ : Aside0 (Below w.heap.size w ((w61.setCell ⟨gb315, 0, none⟩ (.int .i64 ((rd_T77 (rd_L9 t290 t307) x77_3).f0))).setCell ⟨gb315, 1, none⟩ (.int .i64 ((rd_T77 (rd_L9 t290 t307) x77_3).f1)))) := ⟨by repeat (first | (with_reducible first | exact HB.out | apply below_alloc | apply pbN | apply below_drew1 | refine below_set ?_ GE286.out | refine below_set ?_ GE294.out | refine below_set ?_ GE315.out) | exact HB.out)⟩;(try clear HO_4);(try clear HO_5);(try clear HO_9);(try clear HO_295000);(try clear HO_295001);(try clear BK286);(try clear BK294);(try clear BK315);(try clear HB);(generalize ((w61.setCell ⟨gb315, 0, none⟩ (.int .i64 ((rd_T77 (rd_L9 t290 t307) x77_3).f0))).setCell ⟨gb315, 1, none⟩ (.int .i64 ((rd_T77 (rd_L9 t290 t307) x77_3).f1))) = w65 at n0_ n1_ n2_ n3_ n4_ n5_ n6_ n7_ n8_ nq_ ⊢);have HO_4 := n0_;have HO_5 := n1_;have HO_9 := n2_;have HO_295000 := n3_;have HO_295001 := n4_;clear HLq;have HLq := nq_;clear nq_;have BK286 := n5_;have BK294 := n6_;have BK315 := n7_;have HB := n8_;clear n0_ n1_ n2_ n3_ n4_ n5_ n6_ n7_ n8_;have n0_ := Aside0.mk (Kd.R_drew HO_4.out);have n1_ := Aside0.mk (Kd.R_drew HO_5.out);have n2_ := Aside0.mk (Kd.R_drew HO_9.out);have n3_ := Aside0.mk (Kd.S_drew HO_295000.out);have n4_ := Aside0.mk (Kd.S_drew HO_295001.out);have nq_ := Aside0.mk (Kd.R_drew HLq.out);clear HLq;have HLq := nq_;clear nq_;have n5_ := Aside0.mk (blk_drew BK286.out);have n6_ := Aside0.mk (blk_drew BK294.out);have n7_ := Aside0.mk (blk_drew BK315.out);have n8_ := Aside0.mk (below_drew1 HB.out);clear HO_4;clear HO_5;clear HO_9;clear HO_295000;clear HO_295001;clear BK286;clear BK294;clear BK315;clear HB;have HO_4 := n0_;have HO_5 := n1_;have HO_9 := n2_;have HO_295000 := n3_;have HO_295001 := n4_;have BK286 := n5_;have BK294 := n6_;have BK315 := n7_;have HB := n8_;clear n0_ n1_ n2_ n3_ n4_ n5_ n6_ n7_ n8_;have p316 : 0 ≤ (((rd_T77 (rd_L9 t290 t307) x77_3).f0) : Int) := of_decide_eq_true (by first | (with_reducible assumption) | assumption);have q316 : ((rd_T77 (rd_L9 t290 t307) x77_3).f0) < (x9_3.length : Int) := of_decide_eq_true (by first | (with_reducible assumption) | assumption);obtain ⟨ad316, e316, hx316_0⟩ := Kd.at_bool (Kd.R_reads' HO_9.out).2.2 ((rd_T77 (rd_L9 t290 t307) x77_3).f0) p316 q316;cases e316;replace p316 := eq_true p316;replace q316 := eq_true q316;have p60 : 0 ≤ (((rd_T77 (rd_L9 t290 t307) x77_3).f0) : Int) := of_decide_eq_true (by first | (with_reducible assumption) | assumption);have q60 : (((rd_T77 (rd_L9 t290 t307) x77_3).f0) : Int) < ((x9_3.length : Int) : Int) := of_decide_eq_true (by first | (with_reducible assumption) | assumption);obtain ⟨go60, co60, eo60, gb60, gl60, cl60, HG60⟩ := Kd.R_form HO_9.out (by omega);(first | cases eo60 | (injection eo60 with ea_ en_ ec_; (first | subst ea_ | (injection ea_ with ea_; subst ea_)); subst ec_; clear en_));have GB60 := Aside0.mk gb60;have GG60 := Aside0.mk HG60;clear gb60 gl60 HG60;(first | simp only [add_plain] at hx316_0 | skip);obtain ⟨hx60_0, hf60_0⟩ := Kd.R_celln false HO_9.out (((rd_T77 (rd_L9 t290 t307) x77_3).f0) : Int) p60 q60;replace p60 := eq_true p60;replace q60 := eq_true q60;have HP67 := Kd.R_putn HO_9.out (((rd_T77 (rd_L9 t290 t307) x77_3).f0) : Int) (!(rdOf false x9_3 ((rd_T77 (rd_L9 t290 t307) x77_3).f0)));rw [← Ny317.out] at HP67;have HQ67 := Aside0.mk HP67;clear HP67;refine start_ (n := 11) (S := fun w' => w'.cell? ⟨gb315, 0, none⟩ = some (.int .i64 ((rd_T77 (rd_L9 t290 t307) x77_3).f0)) ∧ w'.cell? ⟨gb315, 1, none⟩ = some (.int .i64 ((rd_T77 (rd_L9 t290 t307) x77_3).f1)) ∧ w'.cell? ⟨go60, ((((rd_T77 (rd_L9 t290 t307) x77_3).f0)) : Int).toNat, none⟩ = some (.bool (rdOf false x9_3 ((rd_T77 (rd_L9 t290 t307) x77_3).f0)))) (ds := [10]) #[false, false, false, false, false, false, false, false, false, false, false] (by kernel_rfl) rfl rfl ⟨(blk_cell BK315.out 0).trans rfl, (blk_cell BK315.out 1).trans rfl, hx316_0⟩ (fun hHeld => ?_); refine with_tabW message_Flip.tab22 message_Flip.bits22 (fun HT_ HW_ => ?_);(generalize w65.drew = w66 at HO_4 HO_5 HO_9 HO_295000 HO_295001 BK286 BK294 BK315 HB HLq GG60 HQ67 hf60_0 hx316_0 hx60_0 hHeld ⊢);refine pure_ (i := 0) (N := some 81) (v := ?_) (a' := ?_) #[true, false, false, false, false, false, false, false, false, false, false] rfl rfl (any_of HT_.out (by kernel_rfl)) (fun _ _ _ h => h) (Or.inl ⟨by rfl, ?_⟩) ?_ ?_;rotate_left
                       ·intro w';go_simp
                        with_reducible rfl
                       rotate_left
                       ·simp only [Act.put, List.setIfInBounds_toArray, List.set_cons_zero, List.set_cons_succ, i64_w, i32_w]
                        rfl
                       refine pure_ (i := 1) (N := some 82) (v := ?_) (a' := ?_) #[true, true, false, false, false, false, false, false, false, false, false] rfl rfl (any_of HT_.out (by kernel_rfl)) (fun _ _ _ h => h) (Or.inl ⟨by rfl, ?_⟩) ?_ ?_;rotate_left
                       ·intro w';go_simp
                        with_reducible rfl
                       rotate_left
                       ·simp only [Act.put, List.setIfInBounds_toArray, List.set_cons_zero, List.set_cons_succ, i64_w, i32_w]
                        rfl
                       refine pure_ (i := 3) (N := some 84) (v := ?_) (a' := ?_) #[true, true, false, true, false, false, false, false, false, false, false] rfl rfl (any_of HT_.out (by kernel_rfl)) (fun _ _ _ h => h) (Or.inl ⟨by rfl, ?_⟩) ?_ ?_;rotate_left
                       ·intro w';go_simp
                        with_reducible rfl
                       rotate_left
                       ·simp only [Act.put, List.setIfInBounds_toArray, List.set_cons_zero, List.set_cons_succ, i64_w, i32_w]
                        rfl
                       refine pure_ (i := 4) (N := some 85) (v := ?_) (a' := ?_) #[true, true, false, true, true, false, false, false, false, false, false] rfl rfl (any_of HT_.out (by kernel_rfl)) (fun _ _ _ h => h) (Or.inl ⟨by rfl, ?_⟩) ?_ ?_;rotate_left
                       ·intro w';go_simp
                        with_reducible rfl
                       rotate_left
                       ·simp only [Act.put, List.setIfInBounds_toArray, List.set_cons_zero, List.set_cons_succ, i64_w, i32_w]
                        rfl
                       refine take_ (i := 2) (N := some 83) (v := ?_) (a' := ?_) #[true, true, true, true, true, false, false, false, false, false, false] rfl rfl (take_ofW HT_.out HW_.out (by kernel_rfl)) (fun _ _ _ h => h) (Or.inl ⟨by rfl, ?_⟩) hHeld ?_ ?_;rotate_left
                       ·rintro w' ⟨s0, s1, s2⟩
                        go_simp
                        with_reducible rfl
                       rotate_left
                       ·simp only [Act.put, List.setIfInBounds_toArray, List.set_cons_zero, List.set_cons_succ, i64_w, i32_w]
                        rfl
                       refine take_ (i := 5) (N := some 86) (v := ?_) (a' := ?_) #[true, true, true, true, true, true, false, false, false, false, false] rfl rfl (take_ofW HT_.out HW_.out (by kernel_rfl)) (fun _ _ _ h => h) (Or.inl ⟨by rfl, ?_⟩) hHeld ?_ ?_;rotate_left
                       ·rintro w' ⟨s0, s1, s2⟩
                        go_simp
                        with_reducible rfl
                       rotate_left
                       ·simp only [Act.put, List.setIfInBounds_toArray, List.set_cons_zero, List.set_cons_succ, i64_w, i32_w]
                        rfl
                       refine pure_ (i := 6) (N := some 87) (v := ?_) (a' := ?_) #[true, true, true, true, true, true, true, false, false, false, false] rfl rfl (any_of HT_.out (by kernel_rfl)) (fun _ _ _ h => h) (Or.inl ⟨by rfl, ?_⟩) ?_ ?_;rotate_left
                       ·intro w';go_simp
                        with_reducible rfl
                       rotate_left
                       ·simp only [Act.put, List.setIfInBounds_toArray, List.set_cons_zero, List.set_cons_succ, i64_w, i32_w]
                        rfl
                       refine take_ (i := 7) (N := some 88) (v := ?_) (a' := ?_) #[true, true, true, true, true, true, true, true, false, false, false] rfl rfl (take_ofW HT_.out HW_.out (by kernel_rfl)) (fun _ _ _ h => h) (Or.inl ⟨by rfl, ?_⟩) hHeld ?_ ?_;rotate_left
                       ·rintro w' ⟨s0, s1, s2⟩
                        go_simp
                        with_reducible rfl
                       rotate_left
                       ·simp only [Act.put, List.setIfInBounds_toArray, List.set_cons_zero, List.set_cons_succ, i64_w, i32_w]
                        rfl
                       refine pure_ (i := 8) (N := some 89) (v := ?_) (a' := ?_) #[true, true, true, true, true, true, true, true, true, false, false] rfl rfl (any_of HT_.out (by kernel_rfl)) (fun _ _ _ h => h) (Or.inl ⟨by rfl, ?_⟩) ?_ ?_;rotate_left
                       ·intro w';go_simp
                        with_reducible rfl
                       rotate_left
                       ·simp only [Act.put, List.setIfInBounds_toArray, List.set_cons_zero, List.set_cons_succ, i64_w, i32_w]
                        rfl
                       refine pure_ (i := 9) (N := some 90) (v := ?_) (a' := ?_) #[true, true, true, true, true, true, true, true, true, true, false] rfl rfl (any_of HT_.out (by kernel_rfl)) (fun _ _ _ h => h) (Or.inl ⟨by rfl, ?_⟩) ?_ ?_;rotate_left
                       ·intro w';go_simp
                        with_reducible rfl
                       rotate_left
                       ·simp only [Act.put, List.setIfInBounds_toArray, List.set_cons_zero, List.set_cons_succ, i64_w, i32_w]
                        rfl
                       refine last_ (i := 10) (N := none) #[true, true, true, true, true, true, true, true, true, true, true] rfl rfl (one_of HT_.out (by kernel_rfl)) (by decide) (fun K hK => ?_);refine skip_ (w1 := ?_) (by rfl) rfl ?_ ?_;rotate_left
                       ·go_simp
                        rfl
                       refine hK.out _ _ ?_;clear hK K;refine done_ (done_of HT_.out (by kernel_rfl)) ?_
                       try go_wp2
                       (try simp only [← hl4_3, ← hl9_3])
                       go_roundg k3
                       case measure => have := HK1.out; have := HK2.out; have := HK3.out; omega
                       case rel => exact ⟨(y317), (wrap64 (x77_3 + 1)), (by first | rfl | (simp; done) | (simp [*]; done)), H', ⟨by have := HK1.out; have := HK2.out; have := HK3.out; omega⟩, ⟨by (try simp only [hl4_3]); (try simp only [hl9_3]); (with_reducible repeat (first | apply Kd.R_alloc | apply Kd.R_drewN | apply Kd.R_drew)); exact Kd.R_mono (Kd.R_far (p := ⟨go60, (((rd_T77 (rd_L9 t290 t307) x77_3).f0) : Int).toNat, none⟩) (Kd.R_types HO_4.out GG60.out (by decide)) (fun _ hk => hk.2) (.bool (!(rdOf false x9_3 ((rd_T77 (rd_L9 t290 t307) x77_3).f0))))) (fun _ hk => hk.1)⟩, ⟨by (try simp only [hl4_3]); (try simp only [hl9_3]); (with_reducible repeat (first | apply Kd.R_alloc | apply Kd.R_drewN | apply Kd.R_drew)); exact Kd.R_mono (Kd.R_far (p := ⟨go60, (((rd_T77 (rd_L9 t290 t307) x77_3).f0) : Int).toNat, none⟩) (Kd.R_types HO_5.out GG60.out (by decide)) (fun _ hk => hk.2) (.bool (!(rdOf false x9_3 ((rd_T77 (rd_L9 t290 t307) x77_3).f0))))) (fun _ hk => hk.1)⟩, ⟨by (try simp only [hl4_3]); (try simp only [hl9_3]); (with_reducible repeat (first | apply Kd.R_alloc | apply Kd.R_drewN | apply Kd.R_drew)); exact HQ67.out⟩, ⟨by (try simp only [hl4_3]); (try simp only [hl9_3]); (with_reducible repeat (first | apply Kd.S_alloc | apply Kd.S_drewN | apply Kd.S_drew)); exact Kd.S_mono (Kd.S_far (p := ⟨go60, (((rd_T77 (rd_L9 t290 t307) x77_3).f0) : Int).toNat, none⟩) (Kd.S_types HO_295000.out GG60.out (by decide)) (fun _ hk => hk.2) (.bool (!(rdOf false x9_3 ((rd_T77 (rd_L9 t290 t307) x77_3).f0))))) (fun _ hk => ⟨hk.1.1, hk.1.2⟩)⟩, ⟨by (try simp only [hl4_3]); (try simp only [hl9_3]); (with_reducible repeat (first | apply Kd.S_alloc | apply Kd.S_drewN | apply Kd.S_drew)); exact Kd.S_mono (Kd.S_far (p := ⟨go60, (((rd_T77 (rd_L9 t290 t307) x77_3).f0) : Int).toNat, none⟩) (Kd.S_types HO_295001.out GG60.out (by decide)) (fun _ hk => hk.2) (.bool (!(rdOf false x9_3 ((rd_T77 (rd_L9 t290 t307) x77_3).f0))))) (fun _ hk => trivial)⟩, ⟨by (try simp only [hl4_3]); (try simp only [hl9_3]); (with_reducible repeat (first | refine blk_drewN ?_ _ | refine blk_drew ?_ | refine blk_alloc ?_ _)); refine blk_far ?_ (by have h_ := Kd.R_ne HO_9.out BK286.out (by decide); intro e_; exact h_ (by rw [e_]; rfl)) _; (with_reducible repeat (first | refine blk_drewN ?_ _ | refine blk_drew ?_ | refine blk_alloc ?_ _)); exact BK286.out⟩, ⟨by (try simp only [hl4_3]); (try simp only [hl9_3]); (with_reducible repeat (first | refine blk_drewN ?_ _ | refine blk_drew ?_ | refine blk_alloc ?_ _)); refine blk_far ?_ (by have h_ := Kd.R_ne HO_9.out BK294.out (by decide); intro e_; exact h_ (by rw [e_]; rfl)) _; (with_reducible repeat (first | refine blk_drewN ?_ _ | refine blk_drew ?_ | refine blk_alloc ?_ _)); exact BK294.out⟩, ⟨by repeat (first | (with_reducible first | exact HB.out | apply below_alloc | apply pbN | apply below_drew1 | refine below_set ?_ GB60.out | refine below_set ?_ GE286.out | refine below_set ?_ GE294.out | refine below_set ?_ GE315.out) | exact HB.out)⟩, ⟨by (try simp only [hl4_3]); (try simp only [hl9_3]); (with_reducible repeat (first | apply Kd.R_alloc | apply Kd.R_drewN | apply Kd.R_drew)); exact Kd.R_mono (Kd.R_far (p := ⟨go60, (((rd_T77 (rd_L9 t290 t307) x77_3).f0) : Int).toNat, none⟩) (Kd.R_types HLq.out GG60.out (by decide)) (fun _ hk => hk.2) (.bool (!(rdOf false x9_3 ((rd_T77 (rd_L9 t290 t307) x77_3).f0))))) (fun _ hk => trivial)⟩⟩
                      ·rw [if_neg c59] at H;exact absurd H (by simp)
                     ·rw [if_neg c58] at H;exact absurd H (by simp)
                    ·rw [if_neg c57] at H;exact absurd H (by simp)
                   ·rw [if_neg c56] at H;exact absurd H (by simp)
                  ·rw [if_neg c55] at H;have c55b0 : decide (x77_3 < ((rd_L9 t290 t307).length : Int)) = false := decide_eq_false c55;(try (have c55b0h0 := c55b0; simp only [hl4_3] at c55b0h0));(try (have c55b0h1 := c55b0; simp only [hl9_3] at c55b0h1));clear c55;have H' := Aside0.mk H;clear H
                   go_wp2
                   (try simp only [← hl4_3, ← hl9_3])
                   go_roundg k3
                   case measure => have := HK1.out; have := HK2.out; have := HK3.out; omega
                   case rel => exact ⟨(y309), (y310), (x9_3), H', ⟨by have := HK1.out; have := HK2.out; have := HK3.out; omega⟩, ⟨by (try simp only [hl4_3]); (try simp only [hl9_3]); (with_reducible repeat (first | apply Kd.R_alloc | apply Kd.R_drewN | apply Kd.R_drew)); exact HO_4.out⟩, ⟨by (try simp only [hl4_3]); (try simp only [hl9_3]); (with_reducible repeat (first | apply Kd.R_alloc | apply Kd.R_drewN | apply Kd.R_drew)); exact HO_5.out⟩, ⟨by (try simp only [hl4_3]); (try simp only [hl9_3]); (with_reducible repeat (first | apply Kd.R_alloc | apply Kd.R_drewN | apply Kd.R_drew)); exact HO_9.out⟩, ⟨by (try simp only [hl4_3]); (try simp only [hl9_3]); (with_reducible repeat (first | apply Kd.S_alloc | apply Kd.S_drewN | apply Kd.S_drew)); exact HO_295000.out⟩, ⟨by (try simp only [hl4_3]); (try simp only [hl9_3]); (with_reducible repeat (first | apply Kd.S_alloc | apply Kd.S_drewN | apply Kd.S_drew)); exact HO_295001.out⟩, ⟨by (try simp only [hl4_3]); (try simp only [hl9_3]); (with_reducible repeat (first | refine blk_drewN ?_ _ | refine blk_drew ?_ | refine blk_alloc ?_ _)); exact BK286.out⟩, ⟨by (try simp only [hl4_3]); (try simp only [hl9_3]); (with_reducible repeat (first | refine blk_drewN ?_ _ | refine blk_drew ?_ | refine blk_alloc ?_ _)); exact BK294.out⟩, ⟨by repeat (first | (with_reducible first | exact HB.out | apply below_alloc | apply pbN | apply below_drew1 | refine below_set ?_ GE286.out | refine below_set ?_ GE294.out) | exact HB.out)⟩⟩
               ·rw [if_neg c45] at H;exact absurd H (by simp)
              ·rw [if_neg c44] at H;exact absurd H (by simp)
             ·rw [if_neg c42] at H;exact absurd H (by simp)
            ·rw [if_neg c41] at H;exact absurd H (by simp)
     ·rw [if_neg c9] at H;exact absurd H (by simp)
    ·rw [if_neg c8] at H;exact absurd H (by simp)
   ·rw [if_neg c7] at H;exact absurd H (by simp)
  ·rw [if_neg c6] at H;have c6b0 : (t295 == 0) = false := beq_eq_false_iff_ne.mpr c6;have c6b1 : (t295 != 0) = true := bne_iff_ne.mpr c6;simp only [Option.some.injEq, Prod.mk.injEq] at H;obtain ⟨rfl, rfl, rfl⟩ := H;go_enter Try.func24, Try.ntmps24
   go_wp2_with (first | ((with_reducible refine gate_dst (N := 2) rfl ?_); refine box_event ?hg (N := 2) ?hd (cs := #[.int .i64 a0_0, .slice A0_1 l0_1.length c0_1]) (t := 24) ?hr ?_; (case hd => rfl); (case hg => rfl); (case hr => first | (go_simp; done) | (go_simp; rfl)); intro gb286 hg w68 hbox hb; have n0_ := Aside0.mk (below_step (by repeat (first | (with_reducible first | exact HB.out | apply below_alloc | apply pbN | apply below_drew1) | exact HB.out)) hb); have n1_ := Aside0.mk (hbox); have n2_ := Aside0.mk ((by rw [hg]; exact (below_size (by repeat (first | (with_reducible first | exact HB.out | apply below_alloc | apply pbN | apply below_drew1) | exact HB.out))) : w.heap.size ≤ gb286)); have n3_ := Aside0.mk ((by rw [hg]; exact (below_size (by repeat (first | (with_reducible first | exact HB.out | apply below_alloc | apply pbN | apply below_drew1) | exact HB.out))) : w.heap.size ≤ gb286)); clear HB; have HB := n0_; have BK286 := n1_; have GW286 := n2_; have GE286 := n3_; clear n0_ n1_ n2_ n3_; clear hb hbox hg; have hcz69_0 : w68.cell? ⟨gb286, 0, none⟩ = some (.int .i64 a0_0) := (blk_cell BK286.out 0).trans rfl; have hcz69_1 : w68.cell? ⟨gb286, 1, none⟩ = some (.slice A0_1 l0_1.length c0_1) := (blk_cell BK286.out 1).trans rfl; have hfz69_0 := blk_frozen BK286.out 0; have hfz69_1 := blk_frozen BK286.out 1) | ((with_reducible refine gate_callee (f := 44) rfl ?_); refine goesL_ (some 17) rfl rfl Try.func44 (by kernel_rfl) rfl #[.agg #[.int .i64 a0_0, .slice A0_1 l0_1.length c0_1]] rfl (by (try simp only [List.map_toArray, List.map_cons, List.map_nil]); first | done | rfl | (simp only [List.length_drop, List.length_take]; rfl)) ?_; (with_reducible refine (message_build.calls k a0_0 _ _ l0_1 t287 t290 t293 _ ?side1 ?side2 A3.out).mono ?_); (case side1 => repeat (first | exact (Kd.C_below HR0_1.out HB.out) | (with_reducible refine Kd.C_alloc ?_ _) | (with_reducible refine Kd.C_drewN ?_ _) | (with_reducible refine Kd.C_drew ?_))); (case side2 => exact HC0_1.out); rintro e w70 ⟨gg_, rfl, hb, hbu_⟩; obtain ⟨gb294, v288, v291, rfl, hge_, hbk_, ho0, ho1⟩ := Built.ok hbu_ (beq_iff_eq.mp c4b0); refine ⟨_, rfl, ?_⟩; have BK294 := Aside0.mk hbk_; have GE294 := Aside0.mk (Nat.le_trans (below_size (by repeat (first | (with_reducible first | exact HB.out | apply below_alloc | apply pbN | apply below_drew1 | refine below_set ?_ GE286.out) | exact HB.out))) hge_); have GW294 := GE294; have NB286_294 := Aside0.mk (Nat.ne_of_lt (Nat.lt_of_lt_of_le (blk_lt (g := gb286) (o := .cells #[.int .i64 a0_0, .slice A0_1 l0_1.length c0_1] 24 (0, 0)) (by (with_reducible repeat (first | refine blk_drewN ?_ _ | refine blk_drew ?_ | refine blk_alloc ?_ _)); exact BK286.out)) hge_)); have NB294_286 := Aside0.mk (Ne.symm NB286_294.out); clear hbk_ hge_ hbu_; have n0_ := Aside0.mk (Kd.S_lower ho0 (below_size (by repeat (first | (with_reducible first | exact HB.out | apply below_alloc | apply pbN | apply below_drew1 | refine below_set ?_ GE286.out) | exact HB.out)))); have n1_ := Aside0.mk (Kd.S_lower ho1 (below_size (by repeat (first | (with_reducible first | exact HB.out | apply below_alloc | apply pbN | apply below_drew1 | refine below_set ?_ GE286.out) | exact HB.out)))); have n2_ := Aside0.mk (blk_below (g := gb286) (o := .cells #[.int .i64 a0_0, .slice A0_1 l0_1.length c0_1] 24 (0, 0)) (by (with_reducible repeat (first | refine blk_drewN ?_ _ | refine blk_drew ?_ | refine blk_alloc ?_ _)); exact BK286.out) hb); have n3_ := Aside0.mk (below_step (by repeat (first | (with_reducible first | exact HB.out | apply below_alloc | apply pbN | apply below_drew1 | refine below_set ?_ GE286.out) | exact HB.out)) hb); clear BK286; clear HB; have HO289 := n0_; have HO292 := n1_; have BK286 := n2_; have HB := n3_; clear n0_ n1_ n2_ n3_; (try clear hb); (try clear hb2); (try clear hk); (try clear hi); (try clear ho0); (try clear ho1); obtain ⟨Ao71, co71, eo71⟩ := Kd.S_slice HO292.out; subst eo71; obtain ⟨Ao72, co72, eo72⟩ := Kd.S_slice HO289.out; subst eo72; have hnb74 := NB286_294.out; have hnc74 := NB294_286.out; have hcz75_0 : w70.cell? ⟨gb286, 0, none⟩ = some (.int .i64 a0_0) := (blk_cell BK286.out 0).trans rfl; have hcz75_1 : w70.cell? ⟨gb286, 1, none⟩ = some (.slice A0_1 l0_1.length c0_1) := (blk_cell BK286.out 1).trans rfl; have hfz75_0 := blk_frozen BK286.out 0; have hfz75_1 := blk_frozen BK286.out 1) | ((with_reducible refine gate_callee (f := 52) rfl ?_); refine goesL_ (some 25) rfl rfl Try.func52 (by kernel_rfl) rfl #[.agg #[.int .i64 a0_0, .slice A0_1 l0_1.length c0_1], .slice A1 l1.length c1] rfl (by (try simp only [List.map_toArray, List.map_cons, List.map_nil]); first | done | rfl | (simp only [List.length_drop, List.length_take]; rfl)) ?_; (with_reducible refine (message_bitsOf.calls k a0_0 _ _ l0_1 _ _ l1 t295 _ ?side1 ?side2 ?side3 ?side4 A5.out).mono ?_); (case side1 => repeat (first | exact (Kd.C_below HR0_1.out HB.out) | (with_reducible refine Kd.C_alloc ?_ _) | (with_reducible refine Kd.C_drewN ?_ _) | (with_reducible refine Kd.C_drew ?_))); (case side2 => exact HC0_1.out); (case side3 => repeat (first | exact (Kd.C_below HR1.out HB.out) | (with_reducible refine Kd.C_alloc ?_ _) | (with_reducible refine Kd.C_drewN ?_ _) | (with_reducible refine Kd.C_drew ?_))); (case side4 => exact HC1.out); rintro e w76 ⟨rfl, hb⟩; refine ⟨_, rfl, ?_⟩; have n0_ := Aside0.mk (Kd.S_below (by (with_reducible repeat (first | apply Kd.S_alloc | apply Kd.S_drewN | apply Kd.S_drew)); exact HO289.out) hb); have n1_ := Aside0.mk (Kd.S_below (by (with_reducible repeat (first | apply Kd.S_alloc | apply Kd.S_drewN | apply Kd.S_drew)); exact HO292.out) hb); have n2_ := Aside0.mk (blk_below (g := gb286) (o := .cells #[.int .i64 a0_0, .slice A0_1 l0_1.length c0_1] 24 (0, 0)) (by (with_reducible repeat (first | refine blk_drewN ?_ _ | refine blk_drew ?_ | refine blk_alloc ?_ _)); exact BK286.out) hb); have n3_ := Aside0.mk (blk_below (g := gb294) (o := .cells #[.slice Ao72 t287.length co72, .slice Ao71 t290.length co71] 73 (0, 0)) (by (with_reducible repeat (first | refine blk_drewN ?_ _ | refine blk_drew ?_ | refine blk_alloc ?_ _)); exact BK294.out) hb); have n4_ := Aside0.mk (below_step (by repeat (first | (with_reducible first | exact HB.out | apply below_alloc | apply pbN | apply below_drew1 | refine below_set ?_ GE286.out | refine below_set ?_ GE294.out) | exact HB.out)) hb); clear HO289; clear HO292; clear BK286; clear BK294; clear HB; have HO289 := n0_; have HO292 := n1_; have BK286 := n2_; have BK294 := n3_; have HB := n4_; clear n0_ n1_ n2_ n3_ n4_; (try clear hb); (try clear hb2); (try clear hk); (try clear hi)))
   go_ret3
   exact ⟨_, _, by first | rfl | (simp [errW_none, errW_some] <;> rfl) | (simp [*, errW_none, errW_some] <;> rfl), by first | exact Kd.R_nil _ _ _ _ _ | exact Kd.N_nil _ _ _ _ _ | exact Kd.V_nil _ _ _ _ _ | exact Kd.Q_nil _ _ _ _ _ | exact Kd.S_nil _ _ _ _ _, by first | exact Kd.R_nil _ _ _ _ _ | exact Kd.N_nil _ _ _ _ _ | exact Kd.V_nil _ _ _ _ _ | exact Kd.Q_nil _ _ _ _ _ | exact Kd.S_nil _ _ _ _ _, by repeat (first | (with_reducible first | exact HB.out | apply below_alloc | apply pbN | apply below_drew1 | refine below_set ?_ GE286.out | refine below_set ?_ GE294.out) | exact HB.out)⟩
 ·rw [if_neg c4] at H;have c4b0 : (t293 == 0) = false := beq_eq_false_iff_ne.mpr c4;have c4b1 : (t293 != 0) = true := bne_iff_ne.mpr c4;simp only [Option.some.injEq, Prod.mk.injEq] at H;obtain ⟨rfl, rfl, rfl⟩ := H;go_enter Try.func24, Try.ntmps24
  go_wp2_with (first | ((with_reducible refine gate_dst (N := 2) rfl ?_); refine box_event ?hg (N := 2) ?hd (cs := #[.int .i64 a0_0, .slice A0_1 l0_1.length c0_1]) (t := 24) ?hr ?_; (case hd => rfl); (case hg => rfl); (case hr => first | (go_simp; done) | (go_simp; rfl)); intro gb286 hg w77 hbox hb; have n0_ := Aside0.mk (below_step (by repeat (first | (with_reducible first | exact HB.out | apply below_alloc | apply pbN | apply below_drew1) | exact HB.out)) hb); have n1_ := Aside0.mk (hbox); have n2_ := Aside0.mk ((by rw [hg]; exact (below_size (by repeat (first | (with_reducible first | exact HB.out | apply below_alloc | apply pbN | apply below_drew1) | exact HB.out))) : w.heap.size ≤ gb286)); have n3_ := Aside0.mk ((by rw [hg]; exact (below_size (by repeat (first | (with_reducible first | exact HB.out | apply below_alloc | apply pbN | apply below_drew1) | exact HB.out))) : w.heap.size ≤ gb286)); clear HB; have HB := n0_; have BK286 := n1_; have GW286 := n2_; have GE286 := n3_; clear n0_ n1_ n2_ n3_; clear hb hbox hg; have hcz78_0 : w77.cell? ⟨gb286, 0, none⟩ = some (.int .i64 a0_0) := (blk_cell BK286.out 0).trans rfl; have hcz78_1 : w77.cell? ⟨gb286, 1, none⟩ = some (.slice A0_1 l0_1.length c0_1) := (blk_cell BK286.out 1).trans rfl; have hfz78_0 := blk_frozen BK286.out 0; have hfz78_1 := blk_frozen BK286.out 1) | ((with_reducible refine gate_callee (f := 44) rfl ?_); refine goesL_ (some 17) rfl rfl Try.func44 (by kernel_rfl) rfl #[.agg #[.int .i64 a0_0, .slice A0_1 l0_1.length c0_1]] rfl (by (try simp only [List.map_toArray, List.map_cons, List.map_nil]); first | done | rfl | (simp only [List.length_drop, List.length_take]; rfl)) ?_; (with_reducible refine (message_build.calls k a0_0 _ _ l0_1 t287 t290 t293 _ ?side1 ?side2 A3.out).mono ?_); (case side1 => repeat (first | exact (Kd.C_below HR0_1.out HB.out) | (with_reducible refine Kd.C_alloc ?_ _) | (with_reducible refine Kd.C_drewN ?_ _) | (with_reducible refine Kd.C_drew ?_))); (case side2 => exact HC0_1.out); rintro e w79 ⟨gg_, rfl, hb, hbu_⟩; obtain rfl := Built.no hbu_ (beq_eq_false_iff_ne.mp c4b0); clear hbu_; refine ⟨_, rfl, ?_⟩; have n2_ := Aside0.mk (blk_below (g := gb286) (o := .cells #[.int .i64 a0_0, .slice A0_1 l0_1.length c0_1] 24 (0, 0)) (by (with_reducible repeat (first | refine blk_drewN ?_ _ | refine blk_drew ?_ | refine blk_alloc ?_ _)); exact BK286.out) hb); have n3_ := Aside0.mk (below_step (by repeat (first | (with_reducible first | exact HB.out | apply below_alloc | apply pbN | apply below_drew1 | refine below_set ?_ GE286.out) | exact HB.out)) hb); clear BK286; clear HB; have BK286 := n2_; have HB := n3_; clear n2_ n3_; (try clear hb); (try clear hb2); (try clear hk); (try clear hi); (try clear ho0); (try clear ho1)))
  go_ret3
  exact ⟨_, _, by first | rfl | (simp [errW_none, errW_some] <;> rfl) | (simp [*, errW_none, errW_some] <;> rfl), by first | exact Kd.R_nil _ _ _ _ _ | exact Kd.N_nil _ _ _ _ _ | exact Kd.V_nil _ _ _ _ _ | exact Kd.Q_nil _ _ _ _ _ | exact Kd.S_nil _ _ _ _ _, by first | exact Kd.R_nil _ _ _ _ _ | exact Kd.N_nil _ _ _ _ _ | exact Kd.V_nil _ _ _ _ _ | exact Kd.Q_nil _ _ _ _ _ | exact Kd.S_nil _ _ _ _ _, by repeat (first | (with_reducible first | exact HB.out | apply below_alloc | apply pbN | apply below_drew1 | refine below_set ?_ GE286.out | refine below_set ?_ GE294.out) | exact HB.out)⟩
mutual
def crM_Next.l0 : Nat → List Int → Int → Int → List (List Int) → Option (Int)
 | 0, _, _, _, _ => none
 | k + 1, x1, x5, x448000, x448001 => if x5 < x448000 then (crM_Next.l1 k x1 x5 0 0 x448000 x448001) else (some (-1))
def crM_Next.l1 : Nat → List Int → Int → Int → Int → Int → List (List Int) → Option (Int)
 | 0, _, _, _, _, _, _ => none
 | k + 1, x1, x5, x6, x7, x448000, x448001 => if x7 < (x448001.length : Int) then (if 0 ≤ x7 then (if 0 ≤ x5 then (if x5 < ((rd_L1 x448001 x7).length : Int) then (if (rd (rd_L1 x448001 x7) x5) = 1 then ((crM_Odd.f k (rd_L1 x448001 x7) x1).bind fun t451 => (crM_Next.j2 k x1 x5 x6 x7 t451 x448000 x448001)) else (crM_Next.j2 k x1 x5 x6 x7 false x448000 x448001)) else (none)) else (none)) else (none)) else (if x6 > 0 then (some x5) else (crM_Next.l0 k x1 (wrap64 (x5 + 1)) x448000 x448001))
def crM_Next.j2 : Nat → List Int → Int → Int → Int → Bool → Int → List (List Int) → Option (Int)
 | 0, _, _, _, _, _, _, _ => none
 | k + 1, x1, x5, x6, x7, x38, x448000, x448001 => if x38 = true then (crM_Next.l1 k x1 x5 (wrap64 (x6 + 1)) (wrap64 (x7 + 1)) x448000 x448001) else (if 0 ≤ x7 then (if x7 < (x448001.length : Int) then (if 0 ≤ x5 then (if x5 < ((rd_L1 x448001 x7).length : Int) then (if (rd (rd_L1 x448001 x7) x5) = 1 then (crM_Next.l1 k x1 x5 (wrap64 (x6 - 1)) (wrap64 (x7 + 1)) x448000 x448001) else (crM_Next.l1 k x1 x5 x6 (wrap64 (x7 + 1)) x448000 x448001)) else (none)) else (none)) else (none)) else (none))
end
def crM_Next.f (k : Nat) (a0_0 : Int) (l0_1 : List (List Int)) (l1 : List Int) : Option (Int) := crM_Next.l0 k l1 0 a0_0 l0_1
theorem crM_Next.mono_l : ∀ k, (∀ y0 y1 y2 y3, LeO (crM_Next.l0 k y0 y1 y2 y3) (crM_Next.l0 (k + 1) y0 y1 y2 y3)) ∧ (∀ y0 y1 y2 y3 y4 y5, LeO (crM_Next.l1 k y0 y1 y2 y3 y4 y5) (crM_Next.l1 (k + 1) y0 y1 y2 y3 y4 y5)) ∧ (∀ y0 y1 y2 y3 y4 y5 y6, LeO (crM_Next.j2 k y0 y1 y2 y3 y4 y5 y6) (crM_Next.j2 (k + 1) y0 y1 y2 y3 y4 y5 y6))
 | 0 => ⟨fun _ _ _ _ r h => by simp [crM_Next.l0] at h, fun _ _ _ _ _ _ r h => by simp [crM_Next.l1] at h, fun _ _ _ _ _ _ _ r h => by simp [crM_Next.j2] at h⟩
 | k + 1 => by
  obtain ⟨ih0, ih1, ih2⟩ := crM_Next.mono_l k;refine ⟨?_, ?_, ?_⟩
  ·intro y0 y1 y2 y3;unfold crM_Next.l0
   repeat' first
   | (with_reducible exact ih0 _ _ _ _)
   | (with_reducible exact ih1 _ _ _ _ _ _)
   | (with_reducible exact ih2 _ _ _ _ _ _ _)
   | (with_reducible exact crM_Odd.mono _ _ _)
   | (with_reducible exact LeO.refl _)
   | (with_reducible exact LeO.none _)
   | (with_reducible refine LeO.ite ?_ ?_)
   | (with_reducible refine LeO.bind ?_ (fun _ => ?_))
   | exact ih0 _ _ _ _
   | exact ih1 _ _ _ _ _ _
   | exact ih2 _ _ _ _ _ _ _
   | exact crM_Odd.mono _ _ _
   | exact LeO.none _
   | refine LeO.ite ?_ ?_
   | refine LeO.bind ?_ (fun _ => ?_)
  ·intro y0 y1 y2 y3 y4 y5;unfold crM_Next.l1
   repeat' first
   | (with_reducible exact ih0 _ _ _ _)
   | (with_reducible exact ih1 _ _ _ _ _ _)
   | (with_reducible exact ih2 _ _ _ _ _ _ _)
   | (with_reducible exact crM_Odd.mono _ _ _)
   | (with_reducible exact LeO.refl _)
   | (with_reducible exact LeO.none _)
   | (with_reducible refine LeO.ite ?_ ?_)
   | (with_reducible refine LeO.bind ?_ (fun _ => ?_))
   | exact ih0 _ _ _ _
   | exact ih1 _ _ _ _ _ _
   | exact ih2 _ _ _ _ _ _ _
   | exact crM_Odd.mono _ _ _
   | exact LeO.none _
   | refine LeO.ite ?_ ?_
   | refine LeO.bind ?_ (fun _ => ?_)
  ·intro y0 y1 y2 y3 y4 y5 y6;unfold crM_Next.j2
   repeat' first
   | (with_reducible exact ih0 _ _ _ _)
   | (with_reducible exact ih1 _ _ _ _ _ _)
   | (with_reducible exact ih2 _ _ _ _ _ _ _)
   | (with_reducible exact crM_Odd.mono _ _ _)
   | (with_reducible exact LeO.refl _)
   | (with_reducible exact LeO.none _)
   | (with_reducible refine LeO.ite ?_ ?_)
   | (with_reducible refine LeO.bind ?_ (fun _ => ?_))
   | exact ih0 _ _ _ _
   | exact ih1 _ _ _ _ _ _
   | exact ih2 _ _ _ _ _ _ _
   | exact crM_Odd.mono _ _ _
   | exact LeO.none _
   | refine LeO.ite ?_ ?_
   | refine LeO.bind ?_ (fun _ => ?_)
theorem crM_Next.mono : ∀ a0 a1 a2 k, LeO (crM_Next.f k a0 a1 a2) (crM_Next.f (k + 1) a0 a1 a2) := by
 intro a0 a1 a2 k;obtain ⟨ih0, ih1, ih2⟩ := crM_Next.mono_l k;unfold crM_Next.f
 repeat' first
   | (with_reducible exact ih0 _ _ _ _)
   | (with_reducible exact ih1 _ _ _ _ _ _)
   | (with_reducible exact ih2 _ _ _ _ _ _ _)
   | (with_reducible exact crM_Odd.mono _ _ _)
   | (with_reducible exact LeO.refl _)
   | (with_reducible exact LeO.none _)
   | (with_reducible refine LeO.ite ?_ ?_)
   | (with_reducible refine LeO.bind ?_ (fun _ => ?_))
   | exact ih0 _ _ _ _
   | exact ih1 _ _ _ _ _ _
   | exact ih2 _ _ _ _ _ _ _
   | exact crM_Odd.mono _ _ _
   | exact LeO.none _
   | refine LeO.ite ?_ ?_
   | refine LeO.bind ?_ (fun _ => ?_)
set_option maxHeartbeats 8000000 in
set_option maxRecDepth 100000 in
theorem crM_Next.calls (k : Nat) (a0_0 : Int) (A0_1 : Option Addr) (c0_1 : Nat) (l0_1 : List (List Int)) (A1 : Option Addr) (c1 : Nat) (l1 : List Int) (r : Int) (w : World) (hr0_1 : Kd.C (Kd.slice 3 (Kd.int .i64)) w A0_1 l0_1.length l0_1) (hc0_1 : l0_1.length ≤ c0_1) (hr1 : Kd.C (Kd.int .i64) w A1 l1.length l1) (hc1 : l1.length ≤ c1) (h : crM_Next.f k a0_0 l0_1 l1 = some r) :
  Calls Try.prog 36 #[.agg #[.int .i64 a0_0, .slice A0_1 l0_1.length c0_1], .slice A1 l1.length c1] w fun e w' => e = .returned (.int .i64 r) ∧ Below w.heap.size w w' := by
 have hu24 := Try.underlying24;have HR0_1 := Aside0.mk hr0_1;have HC0_1 := Aside0.mk hc0_1;clear hr0_1 hc0_1;have HR1 := Aside0.mk hr1;have HC1 := Aside0.mk hc1;clear hr1 hc1;have HB := Aside0.mk (Below.refl w.heap.size w);have H : (crM_Next.l0 k l1 0 a0_0 l0_1) = some r := h;clear h;have H' := Aside0.mk H;clear H;go_enter Try.func36, Try.ntmps36
 go_wp2_with (first | ((with_reducible refine gate_dst (N := 2) rfl ?_); refine box_event ?hg (N := 2) ?hd (cs := #[.int .i64 a0_0, .slice A0_1 l0_1.length c0_1]) (t := 24) ?hr ?_; (case hd => rfl); (case hg => rfl); (case hr => first | (go_simp; done) | (go_simp; rfl)); intro gb447 hg w3 hbox hb; have n0_ := Aside0.mk (below_step (by repeat (first | (with_reducible first | exact HB.out | apply below_alloc | apply pbN | apply below_drew1) | exact HB.out)) hb); have n1_ := Aside0.mk (hbox); have n2_ := Aside0.mk ((by rw [hg]; exact (below_size (by repeat (first | (with_reducible first | exact HB.out | apply below_alloc | apply pbN | apply below_drew1) | exact HB.out))) : w.heap.size ≤ gb447)); have n3_ := Aside0.mk ((by rw [hg]; exact (below_size (by repeat (first | (with_reducible first | exact HB.out | apply below_alloc | apply pbN | apply below_drew1) | exact HB.out))) : w.heap.size ≤ gb447)); clear HB; have HB := n0_; have BK447 := n1_; have GW447 := n2_; have GE447 := n3_; clear n0_ n1_ n2_ n3_; clear hb hbox hg))
 go_loopg [5] k (fun kq v5 w' => ∃ (x5_1 : Int), v5 = .int .i64 x5_1 ∧ Aside0 (crM_Next.l0 kq l1 x5_1 a0_0 l0_1 = some r) ∧ Aside0 (kq ≤ k) ∧ Aside0 (w'.heap[gb447]? = some (.cells #[.int .i64 a0_0, (.slice A0_1 l0_1.length c0_1)] 24 (0, 0))) ∧ Aside0 (Below w.heap.size w w'))
 case atStart => exact ⟨(0), (by first | rfl | (simp; done) | (simp [*]; done)), H', ⟨Nat.le_refl _⟩, ⟨by (with_reducible repeat (first | refine blk_drewN ?_ _ | refine blk_drew ?_ | refine blk_alloc ?_ _)); exact BK447.out⟩, ⟨by repeat (first | (with_reducible first | exact HB.out | apply below_alloc | apply pbN | apply below_drew1 | refine below_set ?_ GE447.out) | exact HB.out)⟩⟩
 case round =>
  clear H'
  try clear c1
  try clear p2
  try clear c3
  obtain ⟨x5_1, rfl, HA, HK1, BK447, HB⟩ := hrel
  cases gk with
  | zero => exact absurd HA.out (by simp [crM_Next.l0])
  | succ k1 =>
   have H := HA.out;clear HA;simp only [crM_Next.l0] at H;by_cases c4 : x5_1 < a0_0
   ·rw [if_pos c4] at H;have c4b0 : decide (x5_1 < a0_0) = true := decide_eq_true c4;clear c4;have H' := Aside0.mk H;clear H;have hcz5_0 : wr.cell? ⟨gb447, 0, none⟩ = some (.int .i64 a0_0) := (blk_cell BK447.out 0).trans rfl;have hcz5_1 : wr.cell? ⟨gb447, 1, none⟩ = some (.slice A0_1 l0_1.length c0_1) := (blk_cell BK447.out 1).trans rfl;have hfz5_0 := blk_frozen BK447.out 0;have hfz5_1 := blk_frozen BK447.out 1
    go_wp2
    go_loopg [6, 7] k1 (fun kq v6 v7 w' => ∃ (x6_2 : Int) (x7_2 : Int), v6 = .int .i64 x6_2 ∧ v7 = .int .i64 x7_2 ∧ Aside0 (crM_Next.l1 kq l1 x5_1 x6_2 x7_2 a0_0 l0_1 = some r) ∧ Aside0 (kq ≤ k1) ∧ Aside0 (w'.heap[gb447]? = some (.cells #[.int .i64 a0_0, (.slice A0_1 l0_1.length c0_1)] 24 (0, 0))) ∧ Aside0 (Below w.heap.size w w'))
    case atStart => exact ⟨(0), (0), (by first | rfl | (simp; done) | (simp [*]; done)), (by first | rfl | (simp; done) | (simp [*]; done)), H', ⟨Nat.le_refl _⟩, ⟨by (with_reducible repeat (first | refine blk_drewN ?_ _ | refine blk_drew ?_ | refine blk_alloc ?_ _)); exact BK447.out⟩, ⟨by repeat (first | (with_reducible first | exact HB.out | apply below_alloc | apply pbN | apply below_drew1 | refine below_set ?_ GE447.out) | exact HB.out)⟩⟩
    case round =>
     clear H'
     try clear c1
     try clear p2
     try clear c3
     try clear c4
     try clear c4b0
     try clear hcz5_0
     try clear hcz5_1
     try clear hfz5_0
     try clear hfz5_1
     try clear p2
     obtain ⟨x6_2, x7_2, rfl, rfl, HA, HK2, BK447, HB⟩ := hrel
     cases gk with
     | zero => exact absurd HA.out (by simp [crM_Next.l1])
     | succ k2 =>
      have H := HA.out;clear HA;simp only [crM_Next.l1] at H;by_cases c6 : x7_2 < (l0_1.length : Int)
      ·rw [if_pos c6] at H;have c6b0 : decide (x7_2 < (l0_1.length : Int)) = true := decide_eq_true c6;clear c6;have HC7 := Aside0.mk H;clear H;have hcz8_0 : wr.cell? ⟨gb447, 0, none⟩ = some (.int .i64 a0_0) := (blk_cell BK447.out 0).trans rfl;have hcz8_1 : wr.cell? ⟨gb447, 1, none⟩ = some (.slice A0_1 l0_1.length c0_1) := (blk_cell BK447.out 1).trans rfl;have hfz8_0 := blk_frozen BK447.out 0;have hfz8_1 := blk_frozen BK447.out 1
       go_upto_region 8 with (fail)
       go_cut [38] (fun v38 wc => ∃ (kq : Nat) (x38_6 : Bool), v38 = .bool x38_6 ∧ Aside0 (crM_Next.j2 kq l1 x5_1 x6_2 x7_2 x38_6 a0_0 l0_1 = some r) ∧ Aside0 (kq ≤ k2) ∧ Aside0 (wc.heap[gb447]? = some (.cells #[.int .i64 a0_0, (.slice A0_1 l0_1.length c0_1)] 24 (0, 0))) ∧ Aside0 (Below w.heap.size w wc))
       case first =>
        have H := HC7.out;clear HC7;by_cases c9 : 0 ≤ x7_2
        ·rw [if_pos c9] at H;have c9b0 : decide (0 ≤ x7_2) = true := decide_eq_true c9;clear c9;(first | rw [c9b0] | (simp only [i64_w, i32_w]; rw [c9b0]) | skip);by_cases c10 : 0 ≤ x5_1
         ·rw [if_pos c10] at H;have c10b0 : decide (0 ≤ x5_1) = true := decide_eq_true c10;clear c10;by_cases c11 : x5_1 < ((rd_L1 l0_1 x7_2).length : Int)
          ·rw [if_pos c11] at H;have c11b0 : decide (x5_1 < ((rd_L1 l0_1 x7_2).length : Int)) = true := decide_eq_true c11;clear c11;by_cases c12 : (rd (rd_L1 l0_1 x7_2) x5_1) = 1
           ·rw [if_pos c12] at H;have c12b0 : ((rd (rd_L1 l0_1 x7_2) x5_1) == 1) = true := beq_iff_eq.mpr c12;have c12b1 : ((rd (rd_L1 l0_1 x7_2) x5_1) != 1) = false := bne_eq_false_iff_eq.mpr c12;clear c12;replace H := Option.bind_eq_some_iff.mp H;obtain ⟨t451, A130, H⟩ := H;replace H : (crM_Next.j2 k2 l1 x5_1 x6_2 x7_2 t451 a0_0 l0_1) = some r := H;have A13 := Aside0.mk A130;clear A130;have H' := Aside0.mk H;clear H;have hcz14_0 : wr.cell? ⟨gb447, 0, none⟩ = some (.int .i64 a0_0) := (blk_cell BK447.out 0).trans rfl;have hcz14_1 : wr.cell? ⟨gb447, 1, none⟩ = some (.slice A0_1 l0_1.length c0_1) := (blk_cell BK447.out 1).trans rfl;have hfz14_0 := blk_frozen BK447.out 0;have hfz14_1 := blk_frozen BK447.out 1;have p448 : 0 ≤ (x7_2 : Int) := of_decide_eq_true (by first | (with_reducible assumption) | assumption);have q448 : x7_2 < (l0_1.length : Int) := of_decide_eq_true (by first | (with_reducible assumption) | assumption);obtain ⟨ad448, A448_0, c448_0, e448, hx448_0, hl448_0, hi448_0⟩ := at_L1 HR0_1.out x7_2 p448 q448;cases e448;replace hx448_0 := (HB.out.cell (World.block_lt_of_cell? w _ hx448_0)).trans hx448_0;have HR448_0 := Aside0.mk hi448_0;have HC448_0 := Aside0.mk hl448_0;clear hi448_0 hl448_0;replace p448 := eq_true p448;replace q448 := eq_true q448;have p449 : 0 ≤ (x5_1 : Int) := of_decide_eq_true (by first | (with_reducible assumption) | assumption);have q449 : x5_1 < ((rd_L1 l0_1 x7_2).length : Int) := of_decide_eq_true (by first | (with_reducible assumption) | assumption);obtain ⟨ad449, e449, hx449_0⟩ := Kd.at_int HR448_0.out x5_1 p449 q449;cases e449;replace hx449_0 := (HB.out.cell (World.block_lt_of_cell? w _ hx449_0)).trans hx449_0;replace p449 := eq_true p449;replace q449 := eq_true q449;have p450 : 0 ≤ (x7_2 : Int) := of_decide_eq_true (by first | (with_reducible assumption) | assumption);have q450 : x7_2 < (l0_1.length : Int) := of_decide_eq_true (by first | (with_reducible assumption) | assumption);obtain ⟨ad450, A450_0, c450_0, e450, hx450_0, hl450_0, hi450_0⟩ := at_L1 HR0_1.out x7_2 p450 q450;obtain rfl : ad448 = ad450 := (by injection e450);replace hx450_0 := (HB.out.cell (World.block_lt_of_cell? w _ hx450_0)).trans hx450_0;have HR450_0 := Aside0.mk hi450_0;have HC450_0 := Aside0.mk hl450_0;clear hi450_0 hl450_0;replace p450 := eq_true p450;replace q450 := eq_true q450;have ea_ := Option.some.inj (hx448_0.symm.trans hx450_0)
            injection ea_ with ea_ en_ ec_
            subst ea_;subst ec_;clear en_
            go_wp2_with (first | (go_at_call 50; (with_reducible refine (crM_Odd.calls k2 _ _ (rd_L1 l0_1 x7_2) _ _ l1 t451 _ ?side1 ?side2 ?side3 ?side4 A13.out).mono ?_); (case side1 => repeat (first | exact (Kd.C_below HR450_0.out HB.out) | (with_reducible refine Kd.C_alloc ?_ _) | (with_reducible refine Kd.C_drewN ?_ _) | (with_reducible refine Kd.C_drew ?_))); (case side2 => exact HC450_0.out); (case side3 => repeat (first | exact (Kd.C_below HR1.out HB.out) | (with_reducible refine Kd.C_alloc ?_ _) | (with_reducible refine Kd.C_drewN ?_ _) | (with_reducible refine Kd.C_drew ?_))); (case side4 => exact HC1.out); rintro e w' ⟨rfl, ⟨nd, rfl⟩⟩))
            go_meet
            case rel => exact ⟨_, (t451), (by first | rfl | (simp; done) | (simp [*]; done)), H', ⟨by have := HK1.out; have := HK2.out; first | omega | exact Nat.le_refl _⟩, ⟨by (with_reducible repeat (first | refine blk_drewN ?_ _ | refine blk_drew ?_ | refine blk_alloc ?_ _)); exact BK447.out⟩, ⟨by repeat (first | (with_reducible first | exact HB.out | apply below_alloc | apply pbN | apply below_drew1 | refine below_set ?_ GE447.out) | exact HB.out)⟩⟩
           ·rw [if_neg c12] at H;have c12b0 : ((rd (rd_L1 l0_1 x7_2) x5_1) == 1) = false := beq_eq_false_iff_ne.mpr c12;have c12b1 : ((rd (rd_L1 l0_1 x7_2) x5_1) != 1) = true := bne_iff_ne.mpr c12;have H' := Aside0.mk H;clear H;have hcz15_0 : wr.cell? ⟨gb447, 0, none⟩ = some (.int .i64 a0_0) := (blk_cell BK447.out 0).trans rfl;have hcz15_1 : wr.cell? ⟨gb447, 1, none⟩ = some (.slice A0_1 l0_1.length c0_1) := (blk_cell BK447.out 1).trans rfl;have hfz15_0 := blk_frozen BK447.out 0;have hfz15_1 := blk_frozen BK447.out 1;have p448 : 0 ≤ (x7_2 : Int) := of_decide_eq_true (by first | (with_reducible assumption) | assumption);have q448 : x7_2 < (l0_1.length : Int) := of_decide_eq_true (by first | (with_reducible assumption) | assumption);obtain ⟨ad448, A448_0, c448_0, e448, hx448_0, hl448_0, hi448_0⟩ := at_L1 HR0_1.out x7_2 p448 q448;cases e448;replace hx448_0 := (HB.out.cell (World.block_lt_of_cell? w _ hx448_0)).trans hx448_0;have HR448_0 := Aside0.mk hi448_0;have HC448_0 := Aside0.mk hl448_0;clear hi448_0 hl448_0;replace p448 := eq_true p448;replace q448 := eq_true q448;have p449 : 0 ≤ (x5_1 : Int) := of_decide_eq_true (by first | (with_reducible assumption) | assumption);have q449 : x5_1 < ((rd_L1 l0_1 x7_2).length : Int) := of_decide_eq_true (by first | (with_reducible assumption) | assumption);obtain ⟨ad449, e449, hx449_0⟩ := Kd.at_int HR448_0.out x5_1 p449 q449;cases e449;replace hx449_0 := (HB.out.cell (World.block_lt_of_cell? w _ hx449_0)).trans hx449_0;replace p449 := eq_true p449;replace q449 := eq_true q449
            go_wp2
            go_meet
            case rel => exact ⟨_, (false), (by first | rfl | (simp; done) | (simp [*]; done)), H', ⟨by have := HK1.out; have := HK2.out; first | omega | exact Nat.le_refl _⟩, ⟨by (with_reducible repeat (first | refine blk_drewN ?_ _ | refine blk_drew ?_ | refine blk_alloc ?_ _)); exact BK447.out⟩, ⟨by repeat (first | (with_reducible first | exact HB.out | apply below_alloc | apply pbN | apply below_drew1 | refine below_set ?_ GE447.out) | exact HB.out)⟩⟩
          ·rw [if_neg c11] at H;exact absurd H (by simp)
         ·rw [if_neg c10] at H;exact absurd H (by simp)
        ·rw [if_neg c9] at H;exact absurd H (by simp)
       case rest =>
        clear HC7
        try clear c1
        try clear p2
        try clear c3
        try clear c4
        try clear c4b0
        try clear p4
        try clear q4
        try clear hx4
        try clear c6
        try clear c6b0
        try clear c9
        try clear c9b0
        try clear c10
        try clear c10b0
        try clear c11
        try clear c11b0
        try clear c12
        try clear c12b0
        try clear c12b1
        try clear hcz14_0
        try clear hcz14_1
        try clear hcz15_0
        try clear hcz15_1
        try clear hcz5_0
        try clear hcz5_1
        try clear hcz8_0
        try clear hcz8_1
        try clear hfz14_0
        try clear hfz14_1
        try clear hfz15_0
        try clear hfz15_1
        try clear hfz5_0
        try clear hfz5_1
        try clear hfz8_0
        try clear hfz8_1
        try clear hx448_0
        try clear hx449_0
        try clear hx450_0
        try clear p2
        try clear p448
        try clear p449
        try clear p450
        try clear q448
        try clear q449
        try clear q450
        obtain ⟨kq, x38_6, rfl, HA, HJ6, BK447, HB⟩ := hcut
        cases kq with
        | zero => exact absurd HA.out (by simp [crM_Next.j2])
        | succ kj6 =>
         have H := HA.out;clear HA;simp only [crM_Next.j2] at H;by_cases c16 : x38_6 = true
         ·subst c16;(have H1 : (crM_Next.l1 kj6 l1 x5_1 (wrap64 (x6_2 + 1)) (wrap64 (x7_2 + 1)) a0_0 l0_1) = some r := by rw [if_pos rfl] at H; exact H);clear H;have H := H1;clear H1;have H' := Aside0.mk H;clear H
          go_wp2
          go_roundg kj6
          case measure => have := HK1.out; have := HK2.out; have := HJ6.out; omega
          case rel => exact ⟨(wrap64 (x6_2 + 1)), (wrap64 (x7_2 + 1)), (by first | rfl | (simp; done) | (simp [*]; done)), (by first | rfl | (simp; done) | (simp [*]; done)), H', ⟨by have := HK1.out; have := HK2.out; have := HJ6.out; omega⟩, ⟨by (with_reducible repeat (first | refine blk_drewN ?_ _ | refine blk_drew ?_ | refine blk_alloc ?_ _)); exact BK447.out⟩, ⟨by repeat (first | (with_reducible first | exact HB.out | apply below_alloc | apply pbN | apply below_drew1 | refine below_set ?_ GE447.out) | exact HB.out)⟩⟩
         ·replace c16 := Bool.eq_false_iff.mpr c16;subst c16;(have H1 : (if 0 ≤ x7_2 then (if x7_2 < (l0_1.length : Int) then (if 0 ≤ x5_1 then (if x5_1 < ((rd_L1 l0_1 x7_2).length : Int) then (if (rd (rd_L1 l0_1 x7_2) x5_1) = 1 then (crM_Next.l1 kj6 l1 x5_1 (wrap64 (x6_2 - 1)) (wrap64 (x7_2 + 1)) a0_0 l0_1) else (crM_Next.l1 kj6 l1 x5_1 x6_2 (wrap64 (x7_2 + 1)) a0_0 l0_1)) else (none)) else (none)) else (none)) else (none)) = some r := by rw [if_neg (show ¬ (false = true) by decide)] at H; exact H);clear H;have H := H1;clear H1;by_cases c17 : 0 ≤ x7_2
          ·rw [if_pos c17] at H;have c17b0 : decide (0 ≤ x7_2) = true := decide_eq_true c17;clear c17;by_cases c18 : x7_2 < (l0_1.length : Int)
           ·rw [if_pos c18] at H;have c18b0 : decide (x7_2 < (l0_1.length : Int)) = true := decide_eq_true c18;clear c18;by_cases c19 : 0 ≤ x5_1
            ·rw [if_pos c19] at H;have c19b0 : decide (0 ≤ x5_1) = true := decide_eq_true c19;clear c19;by_cases c20 : x5_1 < ((rd_L1 l0_1 x7_2).length : Int)
             ·rw [if_pos c20] at H;have c20b0 : decide (x5_1 < ((rd_L1 l0_1 x7_2).length : Int)) = true := decide_eq_true c20;clear c20;by_cases c21 : (rd (rd_L1 l0_1 x7_2) x5_1) = 1
              ·rw [if_pos c21] at H;have c21b0 : ((rd (rd_L1 l0_1 x7_2) x5_1) == 1) = true := beq_iff_eq.mpr c21;have c21b1 : ((rd (rd_L1 l0_1 x7_2) x5_1) != 1) = false := bne_eq_false_iff_eq.mpr c21;clear c21;have H' := Aside0.mk H;clear H;have hcz22_0 : wc.cell? ⟨gb447, 0, none⟩ = some (.int .i64 a0_0) := (blk_cell BK447.out 0).trans rfl;have hcz22_1 : wc.cell? ⟨gb447, 1, none⟩ = some (.slice A0_1 l0_1.length c0_1) := (blk_cell BK447.out 1).trans rfl;have hfz22_0 := blk_frozen BK447.out 0;have hfz22_1 := blk_frozen BK447.out 1;have p452 : 0 ≤ (x7_2 : Int) := of_decide_eq_true (by first | (with_reducible assumption) | assumption);have q452 : x7_2 < (l0_1.length : Int) := of_decide_eq_true (by first | (with_reducible assumption) | assumption);obtain ⟨ad452, A452_0, c452_0, e452, hx452_0, hl452_0, hi452_0⟩ := at_L1 HR0_1.out x7_2 p452 q452;cases e452;replace hx452_0 := (HB.out.cell (World.block_lt_of_cell? w _ hx452_0)).trans hx452_0;have HR452_0 := Aside0.mk hi452_0;have HC452_0 := Aside0.mk hl452_0;clear hi452_0 hl452_0;replace p452 := eq_true p452;replace q452 := eq_true q452;have p453 : 0 ≤ (x5_1 : Int) := of_decide_eq_true (by first | (with_reducible assumption) | assumption);have q453 : x5_1 < ((rd_L1 l0_1 x7_2).length : Int) := of_decide_eq_true (by first | (with_reducible assumption) | assumption);obtain ⟨ad453, e453, hx453_0⟩ := Kd.at_int HR452_0.out x5_1 p453 q453;cases e453;replace hx453_0 := (HB.out.cell (World.block_lt_of_cell? w _ hx453_0)).trans hx453_0;replace p453 := eq_true p453;replace q453 := eq_true q453
               go_wp2
               go_roundg kj6
               case measure => have := HK1.out; have := HK2.out; have := HJ6.out; omega
               case rel => exact ⟨(wrap64 (x6_2 - 1)), (wrap64 (x7_2 + 1)), (by first | rfl | (simp; done) | (simp [*]; done)), (by first | rfl | (simp; done) | (simp [*]; done)), H', ⟨by have := HK1.out; have := HK2.out; have := HJ6.out; omega⟩, ⟨by (with_reducible repeat (first | refine blk_drewN ?_ _ | refine blk_drew ?_ | refine blk_alloc ?_ _)); exact BK447.out⟩, ⟨by repeat (first | (with_reducible first | exact HB.out | apply below_alloc | apply pbN | apply below_drew1 | refine below_set ?_ GE447.out) | exact HB.out)⟩⟩
              ·rw [if_neg c21] at H;have c21b0 : ((rd (rd_L1 l0_1 x7_2) x5_1) == 1) = false := beq_eq_false_iff_ne.mpr c21;have c21b1 : ((rd (rd_L1 l0_1 x7_2) x5_1) != 1) = true := bne_iff_ne.mpr c21;have H' := Aside0.mk H;clear H;have hcz23_0 : wc.cell? ⟨gb447, 0, none⟩ = some (.int .i64 a0_0) := (blk_cell BK447.out 0).trans rfl;have hcz23_1 : wc.cell? ⟨gb447, 1, none⟩ = some (.slice A0_1 l0_1.length c0_1) := (blk_cell BK447.out 1).trans rfl;have hfz23_0 := blk_frozen BK447.out 0;have hfz23_1 := blk_frozen BK447.out 1;have p452 : 0 ≤ (x7_2 : Int) := of_decide_eq_true (by first | (with_reducible assumption) | assumption);have q452 : x7_2 < (l0_1.length : Int) := of_decide_eq_true (by first | (with_reducible assumption) | assumption);obtain ⟨ad452, A452_0, c452_0, e452, hx452_0, hl452_0, hi452_0⟩ := at_L1 HR0_1.out x7_2 p452 q452;cases e452;replace hx452_0 := (HB.out.cell (World.block_lt_of_cell? w _ hx452_0)).trans hx452_0;have HR452_0 := Aside0.mk hi452_0;have HC452_0 := Aside0.mk hl452_0;clear hi452_0 hl452_0;replace p452 := eq_true p452;replace q452 := eq_true q452;have p453 : 0 ≤ (x5_1 : Int) := of_decide_eq_true (by first | (with_reducible assumption) | assumption);have q453 : x5_1 < ((rd_L1 l0_1 x7_2).length : Int) := of_decide_eq_true (by first | (with_reducible assumption) | assumption);obtain ⟨ad453, e453, hx453_0⟩ := Kd.at_int HR452_0.out x5_1 p453 q453;cases e453;replace hx453_0 := (HB.out.cell (World.block_lt_of_cell? w _ hx453_0)).trans hx453_0;replace p453 := eq_true p453;replace q453 := eq_true q453
               go_wp2
               go_roundg kj6
               case measure => have := HK1.out; have := HK2.out; have := HJ6.out; omega
               case rel => exact ⟨(x6_2), (wrap64 (x7_2 + 1)), (by first | rfl | (simp; done) | (simp [*]; done)), (by first | rfl | (simp; done) | (simp [*]; done)), H', ⟨by have := HK1.out; have := HK2.out; have := HJ6.out; omega⟩, ⟨by (with_reducible repeat (first | refine blk_drewN ?_ _ | refine blk_drew ?_ | refine blk_alloc ?_ _)); exact BK447.out⟩, ⟨by repeat (first | (with_reducible first | exact HB.out | apply below_alloc | apply pbN | apply below_drew1 | refine below_set ?_ GE447.out) | exact HB.out)⟩⟩
             ·rw [if_neg c20] at H;exact absurd H (by simp)
            ·rw [if_neg c19] at H;exact absurd H (by simp)
           ·rw [if_neg c18] at H;exact absurd H (by simp)
          ·rw [if_neg c17] at H;exact absurd H (by simp)
      ·rw [if_neg c6] at H;have c6b0 : decide (x7_2 < (l0_1.length : Int)) = false := decide_eq_false c6;clear c6;by_cases c24 : x6_2 > 0
       ·rw [if_pos c24] at H;have c24b0 : decide (0 < x6_2) = true := decide_eq_true c24;clear c24;obtain rfl := Option.some.inj H;have hcz25_0 : wr.cell? ⟨gb447, 0, none⟩ = some (.int .i64 a0_0) := (blk_cell BK447.out 0).trans rfl;have hcz25_1 : wr.cell? ⟨gb447, 1, none⟩ = some (.slice A0_1 l0_1.length c0_1) := (blk_cell BK447.out 1).trans rfl;have hfz25_0 := blk_frozen BK447.out 0;have hfz25_1 := blk_frozen BK447.out 1
        go_wp2
        go_ret
        exact ⟨by first | rfl | (simp [errW_none, errW_some] <;> rfl) | (simp [*, errW_none, errW_some] <;> rfl), by repeat (first | (with_reducible first | exact HB.out | apply below_alloc | apply pbN | apply below_drew1 | refine below_set ?_ GE447.out) | exact HB.out)⟩
       ·rw [if_neg c24] at H;have c24b0 : decide (0 < x6_2) = false := decide_eq_false c24;clear c24;have H' := Aside0.mk H;clear H;have hcz26_0 : wr.cell? ⟨gb447, 0, none⟩ = some (.int .i64 a0_0) := (blk_cell BK447.out 0).trans rfl;have hcz26_1 : wr.cell? ⟨gb447, 1, none⟩ = some (.slice A0_1 l0_1.length c0_1) := (blk_cell BK447.out 1).trans rfl;have hfz26_0 := blk_frozen BK447.out 0;have hfz26_1 := blk_frozen BK447.out 1
        go_wp2
        go_roundg k2
        case measure => have := HK1.out; have := HK2.out; omega
        case rel => exact ⟨(wrap64 (x5_1 + 1)), (by first | rfl | (simp; done) | (simp [*]; done)), H', ⟨by have := HK1.out; have := HK2.out; omega⟩, ⟨by (with_reducible repeat (first | refine blk_drewN ?_ _ | refine blk_drew ?_ | refine blk_alloc ?_ _)); exact BK447.out⟩, ⟨by repeat (first | (with_reducible first | exact HB.out | apply below_alloc | apply pbN | apply below_drew1 | refine below_set ?_ GE447.out) | exact HB.out)⟩⟩
   ·rw [if_neg c4] at H;have c4b0 : decide (x5_1 < a0_0) = false := decide_eq_false c4;clear c4;obtain rfl := Option.some.inj H;have hcz27_0 : wr.cell? ⟨gb447, 0, none⟩ = some (.int .i64 a0_0) := (blk_cell BK447.out 0).trans rfl;have hcz27_1 : wr.cell? ⟨gb447, 1, none⟩ = some (.slice A0_1 l0_1.length c0_1) := (blk_cell BK447.out 1).trans rfl;have hfz27_0 := blk_frozen BK447.out 0;have hfz27_1 := blk_frozen BK447.out 1
    go_wp2
    go_ret
    exact ⟨by first | rfl | (simp [errW_none, errW_some] <;> rfl) | (simp [*, errW_none, errW_some] <;> rfl), by repeat (first | (with_reducible first | exact HB.out | apply below_alloc | apply pbN | apply below_drew1 | refine below_set ?_ GE447.out) | exact HB.out)⟩
end Go.Proofs.Ytmclalniilkjiaa.Q
