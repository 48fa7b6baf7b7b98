import Derived.Test.YthgaihhlbgccoaaZQa
import Derived.Test.YthgaihhlbgccoaaZQb
import Derived.Test.YthgaihhlbgccoaaZQc
import Derived.Test.YthgaihhlbgccoaaZQd
import Derived.Test.YthgaihhlbgccoaaZQh
import Derived.Test.YthgaihhlbgccoaaZQi
-- Written by a program of this work over the kit's printer; Lean checks it.
namespace Go.Proofs.Ythgaihhlbgccoaa.Q
open Go.RowKit Go.Proofs.YthgaihhlbgccoaaW.PrintWords Go.Proofs.YthgaihhlbgccoaaW.PrintLast Go.Proofs.YthgaihhlbgccoaaW.PrintMore
attribute [local go_sem] max2_int min2_int max_two min_two max_three min_three max_four min_four   -- for this text's walks alone
set_option linter.unusedVariables false
set_option linter.unusedSimpArgs false

/-! ### codewrightlaw11_WordNumbers: function 7 -/
mutual
def codewrightlaw11_WordNumbers.j0 : Nat → Int → Int → Bool → Int → Int → List Int → Int → Int → List Int → Int → List Int → List Int → Option (Bool)
  | 0, _, _, _, _, _, _, _, _, _, _, _, _ => none
  | k + 1, x1, x2, x49, x583000, x583001, x583002, x590000, x590001, x590002, x590003, x590004, x590005 => if x49 = true then (some false) else ((word_FromIndex.f k x590000 x590001 x590002 x590003 x590004 x590005 x1 x2).bind fun bt599 => ((codewrightref11_FromIndex.f k x583000 x583001 x583002 x1 x2).bind fun bt606 => (if bt599.2.1 = bt606.2 then ((codewrightref11_Same.f k bt599.1 bt606.1).bind fun t610 => (codewrightlaw11_WordNumbers.j1 k x2 bt599.1 bt606.2 (!t610) bt599.2.2.1 bt599.2.2.2.1 x590002 bt599.2.2.2.2 x590004 x590005)) else (codewrightlaw11_WordNumbers.j1 k x2 bt599.1 bt606.2 true bt599.2.2.1 bt599.2.2.2.1 x590002 bt599.2.2.2.2 x590004 x590005))))
def codewrightlaw11_WordNumbers.j1 : Nat → Int → List Int → Int → Bool → Int → Int → List Int → Int → List Int → List Int → Option (Bool)
  | 0, _, _, _, _, _, _, _, _, _, _ => none
  | k + 1, x2, x14, x17, x72, x590000, x590001, x590002, x590003, x590004, x590005 => if x72 = true then (some false) else (if x17 = 0 then ((word_Index.f k x590000 x590001 x590002 x590003 x590004 x590005 x14).bind fun bt611 => (if bt611.1 = x2 then (if bt611.2.1 = 0 then ((word_Count.f k bt611.2.2.1 bt611.2.2.2.1 x590002 bt611.2.2.2.2 x590004 x590005 0).bind fun bt616 => (if bt616.1 = 1 then (some (bt616.2.1 == 0)) else (some false))) else (some false)) else (some false))) else ((word_Count.f k x590000 x590001 x590002 x590003 x590004 x590005 0).bind fun bt621 => (if bt621.1 = 1 then (some (bt621.2.1 == 0)) else (some false))))
end
def codewrightlaw11_WordNumbers.f (k : Nat) (a0_0 : Int) (a0_1 : Int) (l0_2 : List Int) (a1 : Int) (a2 : Int) : Option (Bool) := (codewrightlaw11_open.f k a0_0 a0_1 l0_2).bind fun bt583 => (if bt583.2.2.2.2.2.2.1 = true then (some bt583.2.2.2.2.2.2.2) else ((word_Count.f k bt583.1 bt583.2.1 bt583.2.2.1 bt583.2.2.2.1 bt583.2.2.2.2.1 bt583.2.2.2.2.2.1 a1).bind fun bt592 => ((codewrightref11_Count.f k a0_0 a0_1 l0_2 a1).bind fun bt597 => (if bt592.1 = bt597.1 then (codewrightlaw11_WordNumbers.j0 k a1 a2 (bt592.2.1 != bt597.2) a0_0 a0_1 l0_2 bt592.2.2.1 bt592.2.2.2.1 bt583.2.2.1 bt592.2.2.2.2 bt583.2.2.2.2.1 bt583.2.2.2.2.2.1) else (codewrightlaw11_WordNumbers.j0 k a1 a2 true a0_0 a0_1 l0_2 bt592.2.2.1 bt592.2.2.2.1 bt583.2.2.1 bt592.2.2.2.2 bt583.2.2.2.2.1 bt583.2.2.2.2.2.1)))))
theorem codewrightlaw11_WordNumbers.mono_l : ∀ k, (∀ y0 y1 y2 y3 y4 y5 y6 y7 y8 y9 y10 y11, LeO (codewrightlaw11_WordNumbers.j0 k y0 y1 y2 y3 y4 y5 y6 y7 y8 y9 y10 y11) (codewrightlaw11_WordNumbers.j0 (k + 1) y0 y1 y2 y3 y4 y5 y6 y7 y8 y9 y10 y11)) ∧ (∀ y0 y1 y2 y3 y4 y5 y6 y7 y8 y9, LeO (codewrightlaw11_WordNumbers.j1 k y0 y1 y2 y3 y4 y5 y6 y7 y8 y9) (codewrightlaw11_WordNumbers.j1 (k + 1) y0 y1 y2 y3 y4 y5 y6 y7 y8 y9))
  | 0 => ⟨fun _ _ _ _ _ _ _ _ _ _ _ _ r h => by simp [codewrightlaw11_WordNumbers.j0] at h, fun _ _ _ _ _ _ _ _ _ _ r h => by simp [codewrightlaw11_WordNumbers.j1] at h⟩
  | k + 1 => by
    obtain ⟨ih0, ih1⟩ := codewrightlaw11_WordNumbers.mono_l k
    refine ⟨?_, ?_⟩
    · intro y0 y1 y2 y3 y4 y5 y6 y7 y8 y9 y10 y11
      unfold codewrightlaw11_WordNumbers.j0
      repeat' first
      | (with_reducible exact ih0 _ _ _ _ _ _ _ _ _ _ _ _)
      | (with_reducible exact ih1 _ _ _ _ _ _ _ _ _ _)
      | (with_reducible exact codewrightlaw11_open.mono _ _ _ _)
      | (with_reducible exact codewrightref11_Count.mono _ _ _ _ _)
      | (with_reducible exact codewrightref11_FromIndex.mono _ _ _ _ _ _)
      | (with_reducible exact codewrightref11_Same.mono _ _ _)
      | (with_reducible exact word_Count.mono _ _ _ _ _ _ _ _)
      | (with_reducible exact word_FromIndex.mono _ _ _ _ _ _ _ _ _)
      | (with_reducible exact word_Index.mono _ _ _ _ _ _ _ _)
      | (with_reducible exact LeO.refl _)
      | (with_reducible exact LeO.none _)
      | (with_reducible refine LeO.ite ?_ ?_)
      | (with_reducible refine LeO.bind ?_ (fun _ => ?_))
      | exact ih0 _ _ _ _ _ _ _ _ _ _ _ _
      | exact ih1 _ _ _ _ _ _ _ _ _ _
      | exact codewrightlaw11_open.mono _ _ _ _
      | exact codewrightref11_Count.mono _ _ _ _ _
      | exact codewrightref11_FromIndex.mono _ _ _ _ _ _
      | exact codewrightref11_Same.mono _ _ _
      | exact word_Count.mono _ _ _ _ _ _ _ _
      | exact word_FromIndex.mono _ _ _ _ _ _ _ _ _
      | exact word_Index.mono _ _ _ _ _ _ _ _
      | exact LeO.none _
      | refine LeO.ite ?_ ?_
      | refine LeO.bind ?_ (fun _ => ?_)
    · intro y0 y1 y2 y3 y4 y5 y6 y7 y8 y9
      unfold codewrightlaw11_WordNumbers.j1
      repeat' first
      | (with_reducible exact ih0 _ _ _ _ _ _ _ _ _ _ _ _)
      | (with_reducible exact ih1 _ _ _ _ _ _ _ _ _ _)
      | (with_reducible exact codewrightlaw11_open.mono _ _ _ _)
      | (with_reducible exact codewrightref11_Count.mono _ _ _ _ _)
      | (with_reducible exact codewrightref11_FromIndex.mono _ _ _ _ _ _)
      | (with_reducible exact codewrightref11_Same.mono _ _ _)
      | (with_reducible exact word_Count.mono _ _ _ _ _ _ _ _)
      | (with_reducible exact word_FromIndex.mono _ _ _ _ _ _ _ _ _)
      | (with_reducible exact word_Index.mono _ _ _ _ _ _ _ _)
      | (with_reducible exact LeO.refl _)
      | (with_reducible exact LeO.none _)
      | (with_reducible refine LeO.ite ?_ ?_)
      | (with_reducible refine LeO.bind ?_ (fun _ => ?_))
      | exact ih0 _ _ _ _ _ _ _ _ _ _ _ _
      | exact ih1 _ _ _ _ _ _ _ _ _ _
      | exact codewrightlaw11_open.mono _ _ _ _
      | exact codewrightref11_Count.mono _ _ _ _ _
      | exact codewrightref11_FromIndex.mono _ _ _ _ _ _
      | exact codewrightref11_Same.mono _ _ _
      | exact word_Count.mono _ _ _ _ _ _ _ _
      | exact word_FromIndex.mono _ _ _ _ _ _ _ _ _
      | exact word_Index.mono _ _ _ _ _ _ _ _
      | exact LeO.none _
      | refine LeO.ite ?_ ?_
      | refine LeO.bind ?_ (fun _ => ?_)
theorem codewrightlaw11_WordNumbers.mono : ∀ a0 a1 a2 a3 a4 k, LeO (codewrightlaw11_WordNumbers.f k a0 a1 a2 a3 a4) (codewrightlaw11_WordNumbers.f (k + 1) a0 a1 a2 a3 a4) := by
  intro a0 a1 a2 a3 a4 k
  obtain ⟨ih0, ih1⟩ := codewrightlaw11_WordNumbers.mono_l k
  unfold codewrightlaw11_WordNumbers.f
  repeat' first
      | (with_reducible exact ih0 _ _ _ _ _ _ _ _ _ _ _ _)
      | (with_reducible exact ih1 _ _ _ _ _ _ _ _ _ _)
      | (with_reducible exact codewrightlaw11_open.mono _ _ _ _)
      | (with_reducible exact codewrightref11_Count.mono _ _ _ _ _)
      | (with_reducible exact codewrightref11_FromIndex.mono _ _ _ _ _ _)
      | (with_reducible exact codewrightref11_Same.mono _ _ _)
      | (with_reducible exact word_Count.mono _ _ _ _ _ _ _ _)
      | (with_reducible exact word_FromIndex.mono _ _ _ _ _ _ _ _ _)
      | (with_reducible exact word_Index.mono _ _ _ _ _ _ _ _)
      | (with_reducible exact LeO.refl _)
      | (with_reducible exact LeO.none _)
      | (with_reducible refine LeO.ite ?_ ?_)
      | (with_reducible refine LeO.bind ?_ (fun _ => ?_))
      | exact ih0 _ _ _ _ _ _ _ _ _ _ _ _
      | exact ih1 _ _ _ _ _ _ _ _ _ _
      | exact codewrightlaw11_open.mono _ _ _ _
      | exact codewrightref11_Count.mono _ _ _ _ _
      | exact codewrightref11_FromIndex.mono _ _ _ _ _ _
      | exact codewrightref11_Same.mono _ _ _
      | exact word_Count.mono _ _ _ _ _ _ _ _
      | exact word_FromIndex.mono _ _ _ _ _ _ _ _ _
      | exact word_Index.mono _ _ _ _ _ _ _ _
      | exact LeO.none _
      | refine LeO.ite ?_ ?_
      | refine LeO.bind ?_ (fun _ => ?_)
set_option maxHeartbeats 8000000 in
set_option maxRecDepth 100000 in
theorem codewrightlaw11_WordNumbers.calls (k : Nat) (a0_0 : Int) (a0_1 : Int) (A0_2 : Option Addr) (c0_2 : Nat) (l0_2 : List Int) (a1 : Int) (a2 : Int) (r : Bool) (w : World) (hr0_2 : Kd.C (Kd.int .i64) w A0_2 l0_2.length l0_2) (hc0_2 : l0_2.length ≤ c0_2) (h : codewrightlaw11_WordNumbers.f k a0_0 a0_1 l0_2 a1 a2 = some r) :
    Calls Try.prog 7 #[.agg #[.int .i64 a0_0, .int .i64 a0_1, .slice A0_2 l0_2.length c0_2], .int .i64 a1, .int .i64 a2] w fun e w' => e = .returned (.bool r) ∧ Below w.heap.size w w' := by
  have hu24 := Try.underlying24
  have HR0_2 := Aside0.mk hr0_2
  have HC0_2 := Aside0.mk hc0_2
  clear hr0_2 hc0_2
  have HB := Aside0.mk (Below.refl w.heap.size w)
  have H : ((codewrightlaw11_open.f k a0_0 a0_1 l0_2).bind fun bt583 => (if bt583.2.2.2.2.2.2.1 = true then (some bt583.2.2.2.2.2.2.2) else ((word_Count.f k bt583.1 bt583.2.1 bt583.2.2.1 bt583.2.2.2.1 bt583.2.2.2.2.1 bt583.2.2.2.2.2.1 a1).bind fun bt592 => ((codewrightref11_Count.f k a0_0 a0_1 l0_2 a1).bind fun bt597 => (if bt592.1 = bt597.1 then (codewrightlaw11_WordNumbers.j0 k a1 a2 (bt592.2.1 != bt597.2) a0_0 a0_1 l0_2 bt592.2.2.1 bt592.2.2.2.1 bt583.2.2.1 bt592.2.2.2.2 bt583.2.2.2.2.1 bt583.2.2.2.2.2.1) else (codewrightlaw11_WordNumbers.j0 k a1 a2 true a0_0 a0_1 l0_2 bt592.2.2.1 bt592.2.2.2.1 bt583.2.2.1 bt592.2.2.2.2 bt583.2.2.2.2.1 bt583.2.2.2.2.2.1)))))) = some r := h
  clear h
  replace H := Option.bind_eq_some_iff.mp H
  obtain ⟨⟨t583, t584, t585, t586, t587, t588, t590, t591⟩, A40, H⟩ := H
  replace H : (if t590 = true then (some t591) else ((word_Count.f k t583 t584 t585 t586 t587 t588 a1).bind fun bt592 => ((codewrightref11_Count.f k a0_0 a0_1 l0_2 a1).bind fun bt597 => (if bt592.1 = bt597.1 then (codewrightlaw11_WordNumbers.j0 k a1 a2 (bt592.2.1 != bt597.2) a0_0 a0_1 l0_2 bt592.2.2.1 bt592.2.2.2.1 t585 bt592.2.2.2.2 t587 t588) else (codewrightlaw11_WordNumbers.j0 k a1 a2 true a0_0 a0_1 l0_2 bt592.2.2.1 bt592.2.2.2.1 t585 bt592.2.2.2.2 t587 t588))))) = some r := H
  have A4 := Aside0.mk A40
  clear A40
  by_cases c5 : t590 = true
  · subst c5
    exact absurd (codewrightlaw11_open.not_done A4.out) (by decide)
  · replace c5 := Bool.eq_false_iff.mpr c5
    subst c5
    have H1 : ((word_Count.f k t583 t584 t585 t586 t587 t588 a1).bind fun bt592 => ((codewrightref11_Count.f k a0_0 a0_1 l0_2 a1).bind fun bt597 => (if bt592.1 = bt597.1 then (codewrightlaw11_WordNumbers.j0 k a1 a2 (bt592.2.1 != bt597.2) a0_0 a0_1 l0_2 bt592.2.2.1 bt592.2.2.2.1 t585 bt592.2.2.2.2 t587 t588) else (codewrightlaw11_WordNumbers.j0 k a1 a2 true a0_0 a0_1 l0_2 bt592.2.2.1 bt592.2.2.2.1 t585 bt592.2.2.2.2 t587 t588)))) = some r := by rw [if_neg (show ¬ (false = true) by decide)] at H; exact H
    clear H
    have H := H1
    clear H1
    replace H := Option.bind_eq_some_iff.mp H
    obtain ⟨⟨t592, t593, t594, t595, t596⟩, A90, H⟩ := H
    replace H : ((codewrightref11_Count.f k a0_0 a0_1 l0_2 a1).bind fun bt597 => (if t592 = bt597.1 then (codewrightlaw11_WordNumbers.j0 k a1 a2 (t593 != bt597.2) a0_0 a0_1 l0_2 t594 t595 t585 t596 t587 t588) else (codewrightlaw11_WordNumbers.j0 k a1 a2 true a0_0 a0_1 l0_2 t594 t595 t585 t596 t587 t588))) = some r := H
    have A9 := Aside0.mk A90
    clear A90
    replace H := Option.bind_eq_some_iff.mp H
    obtain ⟨⟨t597, t598⟩, A100, H⟩ := H
    replace H : (if t592 = t597 then (codewrightlaw11_WordNumbers.j0 k a1 a2 (t593 != t598) a0_0 a0_1 l0_2 t594 t595 t585 t596 t587 t588) else (codewrightlaw11_WordNumbers.j0 k a1 a2 true a0_0 a0_1 l0_2 t594 t595 t585 t596 t587 t588)) = some r := H
    have A10 := Aside0.mk A100
    clear A100
    have HC11 := Aside0.mk H
    clear H
    go_enter Try.func7, Try.ntmps7
    go_upto_region 6 with (first | ((with_reducible refine gate_dst (N := 3) rfl ?_); refine box_event ?hg (N := 3) ?hd (cs := #[.int .i64 a0_0, .int .i64 a0_1, .slice A0_2 l0_2.length c0_2]) (t := 24) ?hr ?_; (case hd => rfl); (case hg => rfl); (case hr => first | (go_simp; done) | (go_simp; rfl)); intro gb582 hg w12 hbox hb; have n0_ := Aside0.mk (below_step (by repeat (first | (with_reducible first | exact HB.out | apply below_alloc | apply pw_below_drewN | apply below_drew1) | exact HB.out)) hb); have n1_ := Aside0.mk (hbox); have n2_ := Aside0.mk ((by rw [hg]; exact (below_size (by repeat (first | (with_reducible first | exact HB.out | apply below_alloc | apply pw_below_drewN | apply below_drew1) | exact HB.out))) : w.heap.size ≤ gb582)); have n3_ := Aside0.mk ((by rw [hg]; exact (below_size (by repeat (first | (with_reducible first | exact HB.out | apply below_alloc | apply pw_below_drewN | apply below_drew1) | exact HB.out))) : w.heap.size ≤ gb582)); clear HB; have HB := n0_; have BK582 := n1_; have GW582 := n2_; have GE582 := n3_; clear n0_ n1_ n2_ n3_; clear hb hbox hg; have hcz13_0 : w12.cell? ⟨gb582, 0, none⟩ = some (.int .i64 a0_0) := (blk_cell BK582.out 0).trans rfl; have hcz13_1 : w12.cell? ⟨gb582, 1, none⟩ = some (.int .i64 a0_1) := (blk_cell BK582.out 1).trans rfl; have hcz13_2 : w12.cell? ⟨gb582, 2, none⟩ = some (.slice A0_2 l0_2.length c0_2) := (blk_cell BK582.out 2).trans rfl; have hfz13_0 := blk_frozen BK582.out 0; have hfz13_1 := blk_frozen BK582.out 1; have hfz13_2 := blk_frozen BK582.out 2) | ((with_reducible refine gate_callee (f := 12) rfl ?_); refine goesL_ (some 24) rfl rfl Try.func12 (by kernel_rfl) rfl #[.agg #[.int .i64 a0_0, .int .i64 a0_1, .slice A0_2 l0_2.length c0_2]] rfl (by (try simp only [List.map_toArray, List.map_cons, List.map_nil]); first | done | rfl | (simp only [List.length_drop, List.length_take]; rfl)) ?_; (with_reducible refine (codewrightlaw11_open.calls k a0_0 a0_1 _ _ l0_2 t583 t584 t585 t586 t587 t588 false t591 w _ ?side1 ?side2 ?side3 A4.out).mono ?_); (case side1 => repeat (first | (with_reducible first | exact HB.out | apply below_alloc | apply pw_below_drewN | apply below_drew1 | refine below_set ?_ GE582.out) | exact HB.out)); (case side2 => exact HR0_2.out); (case side3 => exact HC0_2.out); rintro e w14 ⟨⟨_, _⟩, g589, rfl, ub_, hu1_, hi, hb, hb2⟩; refine ⟨_, rfl, ?_⟩; have HBW := Aside0.mk (below_tr (show Below w.heap.size w _ by repeat (first | (with_reducible first | exact HB.out | apply below_alloc | apply pw_below_drewN | apply below_drew1 | refine below_set ?_ GE582.out) | exact HB.out)) hu1_); have HR0_2_ := Aside0.mk (Kd.C_below (Kd.C_below HR0_2.out (show Below w.heap.size w _ by repeat (first | (with_reducible first | exact HB.out | apply below_alloc | apply pw_below_drewN | apply below_drew1 | refine below_set ?_ GE582.out) | exact HB.out))) hu1_); clear HR0_2; have HR0_2 := HR0_2_; clear HR0_2_; obtain ⟨w, hw_⟩ : ∃ x, x = ub_ := ⟨_, rfl⟩; subst hw_; have n0_ := Aside0.mk (blk_below (g := gb582) (o := .cells #[.int .i64 a0_0, .int .i64 a0_1, .slice A0_2 l0_2.length c0_2] 24 (0, 0)) (by (with_reducible repeat (first | refine blk_drewN ?_ _ | refine blk_drew ?_ | refine blk_alloc ?_ _)); exact BK582.out) hb2); have n1_ := Aside0.mk (hb); have n2_ := Aside0.mk (hi); have n3_ := Aside0.mk (IsS87.ne_blk hi (blk_below (g := gb582) (o := .cells #[.int .i64 a0_0, .int .i64 a0_1, .slice A0_2 l0_2.length c0_2] 24 (0, 0)) (by (with_reducible repeat (first | refine blk_drewN ?_ _ | refine blk_drew ?_ | refine blk_alloc ?_ _)); exact BK582.out) hb2) (by decide)); have n4_ := Aside0.mk (Ne.symm (IsS87.ne_blk hi (blk_below (g := gb582) (o := .cells #[.int .i64 a0_0, .int .i64 a0_1, .slice A0_2 l0_2.length c0_2] 24 (0, 0)) (by (with_reducible repeat (first | refine blk_drewN ?_ _ | refine blk_drew ?_ | refine blk_alloc ?_ _)); exact BK582.out) hb2) (by decide))); clear BK582; clear HB; have BK582 := n0_; have HB := n1_; have HI589 := n2_; have NB589_582 := n3_; have NB582_589 := n4_; clear n0_ n1_ n2_ n3_ n4_; (try clear hb); (try clear hb2); (try clear hk); (try clear hi)) | ((with_reducible refine gate_callee (f := 30) rfl ?_); refine goesL_ (some 33) rfl rfl Try.func30 (by kernel_rfl) rfl #[.pointer (some ⟨g589, 0, none⟩), .int .i64 a1] rfl (by (try simp only [List.map_toArray, List.map_cons, List.map_nil]); first | done | rfl | (simp only [List.length_drop, List.length_take]; rfl)) ?_; (with_reducible refine (word_Count.calls k g589 t583 t584 t585 t586 t587 t588 a1 t592 t593 t594 t595 t596 w _ ?side1 ?side2 A9.out).mono ?_); (case side1 => repeat (first | (with_reducible first | exact HI589.out | apply IsS87.alloc | apply IsS87.drewN | apply IsS87.drew | apply IsS87.set_0 | apply IsS87.set_1 | apply IsS87.set_3 | refine IsS87.far ?_ NB589_582.out _) | exact HI589.out)); (case side2 => repeat (first | (with_reducible first | exact HB.out | apply below_alloc | apply pw_below_drewN | apply below_drew1 | refine below_set ?_ (IsS87.ge HI589.out) | refine below_set ?_ GE582.out) | exact HB.out)); rintro e w15 ⟨rfl, hi, hb, hk⟩; refine ⟨_, rfl, ?_⟩; have n0_ := Aside0.mk (KeepBut.blk hk (g' := gb582) (o := .cells #[.int .i64 a0_0, .int .i64 a0_1, .slice A0_2 l0_2.length c0_2] 24 (0, 0)) (by (with_reducible repeat (first | refine blk_drewN ?_ _ | refine blk_drew ?_ | refine blk_alloc ?_ _)); exact BK582.out) NB582_589.out (by simp)); have n1_ := Aside0.mk (hb); have n2_ := Aside0.mk (hi); clear BK582; clear HB; clear HI589; have BK582 := n0_; have HB := n1_; have HI589 := n2_; clear n0_ n1_ n2_; (try clear hb); (try clear hb2); (try clear hk); (try clear hi); have hnb16 := NB582_589.out; have hnc16 := NB589_582.out; have hcz17_0 : w15.cell? ⟨gb582, 0, none⟩ = some (.int .i64 a0_0) := (blk_cell BK582.out 0).trans rfl; have hcz17_1 : w15.cell? ⟨gb582, 1, none⟩ = some (.int .i64 a0_1) := (blk_cell BK582.out 1).trans rfl; have hcz17_2 : w15.cell? ⟨gb582, 2, none⟩ = some (.slice A0_2 l0_2.length c0_2) := (blk_cell BK582.out 2).trans rfl; have hfz17_0 := blk_frozen BK582.out 0; have hfz17_1 := blk_frozen BK582.out 1; have hfz17_2 := blk_frozen BK582.out 2) | ((with_reducible refine gate_callee (f := 24) rfl ?_); refine goesL_ (some 39) rfl rfl Try.func24 (by kernel_rfl) rfl #[.agg #[.int .i64 a0_0, .int .i64 a0_1, .slice A0_2 l0_2.length c0_2], .int .i64 a1] rfl (by (try simp only [List.map_toArray, List.map_cons, List.map_nil]); first | done | rfl | (simp only [List.length_drop, List.length_take]; rfl)) ?_; (with_reducible refine (codewrightref11_Count.calls k a0_0 a0_1 _ _ l0_2 a1 t597 t598 _ ?side1 ?side2 A10.out).mono ?_); (case side1 => repeat (first | exact (Kd.C_below HR0_2.out HB.out) | (with_reducible refine Kd.C_alloc ?_ _) | (with_reducible refine Kd.C_drewN ?_ _) | (with_reducible refine Kd.C_drew ?_))); (case side2 => exact HC0_2.out); rintro e w18 ⟨rfl, hb⟩; refine ⟨_, rfl, ?_⟩; have n0_ := Aside0.mk (blk_below (g := gb582) (o := .cells #[.int .i64 a0_0, .int .i64 a0_1, .slice A0_2 l0_2.length c0_2] 24 (0, 0)) (by (with_reducible repeat (first | refine blk_drewN ?_ _ | refine blk_drew ?_ | refine blk_alloc ?_ _)); exact BK582.out) hb); have n1_ := Aside0.mk (IsS87.below (by repeat (first | (with_reducible first | exact HI589.out | apply IsS87.alloc | apply IsS87.drewN | apply IsS87.drew | apply IsS87.set_0 | apply IsS87.set_1 | apply IsS87.set_3 | refine IsS87.far ?_ NB589_582.out _) | exact HI589.out)) hb); have n2_ := Aside0.mk (below_step (by repeat (first | (with_reducible first | exact HB.out | apply below_alloc | apply pw_below_drewN | apply below_drew1 | refine below_set ?_ (IsS87.ge HI589.out) | refine below_set ?_ GE582.out) | exact HB.out)) hb); clear BK582; clear HI589; clear HB; have BK582 := n0_; have HI589 := n1_; have HB := n2_; clear n0_ n1_ n2_; (try clear hb); (try clear hb2); (try clear hk); (try clear hi)))
    (try simp only [Act.put, List.setIfInBounds_toArray, List.set_cons_zero, List.set_cons_succ])
    go_cut [49] (fun v49 wc => ∃ (kq : Nat) (x49_10 : Bool), v49 = .bool x49_10 ∧ Aside0 (codewrightlaw11_WordNumbers.j0 kq a1 a2 x49_10 a0_0 a0_1 l0_2 t594 t595 t585 t596 t587 t588 = some r) ∧ Aside0 (kq ≤ k) ∧ Aside0 (wc.heap[gb582]? = some (.cells #[.int .i64 a0_0, .int .i64 a0_1, (.slice A0_2 l0_2.length c0_2)] 24 (0, 0))) ∧ Aside0 (IsS87 w wc g589 t594 t595 t585 t596 t587 t588) ∧ Aside0 (Below w.heap.size w wc))
    case first =>
      have H := HC11.out
      clear HC11
      by_cases c19 : t592 = t597
      · rw [if_pos c19] at H
        have c19b0 : (t592 == t597) = true := beq_iff_eq.mpr c19
        have c19b1 : (t592 != t597) = false := bne_eq_false_iff_eq.mpr c19
        clear c19
        (first | rw [c19b0] | (simp only [i64_w, i32_w]; rw [c19b0]) | skip)
        have H' := Aside0.mk H
        clear H
        go_wp2
        go_meet
        case rel => exact ⟨_, ((t593 != t598)), (by first | rfl | (simp; done) | (simp [*]; done)), H', ⟨by first | omega | exact Nat.le_refl _⟩, ⟨by (with_reducible repeat (first | refine blk_drewN ?_ _ | refine blk_drew ?_ | refine blk_alloc ?_ _)); exact BK582.out⟩, ⟨by repeat (first | (with_reducible first | exact HI589.out | apply IsS87.alloc | apply IsS87.drewN | apply IsS87.drew | apply IsS87.set_0 | apply IsS87.set_1 | apply IsS87.set_3 | refine IsS87.far ?_ NB589_582.out _) | exact HI589.out)⟩, ⟨by repeat (first | (with_reducible first | exact HB.out | apply below_alloc | apply pw_below_drewN | apply below_drew1 | refine below_set ?_ (IsS87.ge HI589.out) | refine below_set ?_ GE582.out) | exact HB.out)⟩⟩
      · rw [if_neg c19] at H
        have c19b0 : (t592 == t597) = false := beq_eq_false_iff_ne.mpr c19
        have c19b1 : (t592 != t597) = true := bne_iff_ne.mpr c19
        (first | rw [c19b0] | (simp only [i64_w, i32_w]; rw [c19b0]) | skip)
        have H' := Aside0.mk H
        clear H
        go_wp2
        go_meet
        case rel => exact ⟨_, (true), (by first | rfl | (simp; done) | (simp [*]; done)), H', ⟨by first | omega | exact Nat.le_refl _⟩, ⟨by (with_reducible repeat (first | refine blk_drewN ?_ _ | refine blk_drew ?_ | refine blk_alloc ?_ _)); exact BK582.out⟩, ⟨by repeat (first | (with_reducible first | exact HI589.out | apply IsS87.alloc | apply IsS87.drewN | apply IsS87.drew | apply IsS87.set_0 | apply IsS87.set_1 | apply IsS87.set_3 | refine IsS87.far ?_ NB589_582.out _) | exact HI589.out)⟩, ⟨by repeat (first | (with_reducible first | exact HB.out | apply below_alloc | apply pw_below_drewN | apply below_drew1 | refine below_set ?_ (IsS87.ge HI589.out) | refine below_set ?_ GE582.out) | exact HB.out)⟩⟩
    case rest =>
      clear HC11
      try clear c1
      try clear c2
      try clear p2
      try clear c3
      try clear c5
      try clear c7
      try clear c12
      try clear c16
      try clear c19
      try clear c19b0
      try clear c19b1
      try clear hcz13_0
      try clear hcz13_1
      try clear hcz13_2
      try clear hcz17_0
      try clear hcz17_1
      try clear hcz17_2
      try clear hcz7_0
      try clear hcz7_1
      try clear hcz7_2
      try clear hfz13_0
      try clear hfz13_1
      try clear hfz13_2
      try clear hfz17_0
      try clear hfz17_1
      try clear hfz17_2
      try clear hfz7_0
      try clear hfz7_1
      try clear hfz7_2
      obtain ⟨kq, x49_10, rfl, HA, HJ10, BK582, HI589, HB⟩ := hcut
      cases kq with
      | zero => exact absurd HA.out (by simp [codewrightlaw11_WordNumbers.j0])
      | succ kj10 =>
        have H := HA.out
        clear HA
        simp only [codewrightlaw11_WordNumbers.j0] at H
        by_cases c20 : x49_10 = true
        · subst c20
          have H1 : (some false) = some r := by rw [if_pos rfl] at H; exact H
          clear H
          have H := H1
          clear H1
          obtain rfl := Option.some.inj H
          go_wp2
          go_ret
          exact ⟨by first | rfl | (simp [errW_none, errW_some] <;> rfl) | (simp [*, errW_none, errW_some] <;> rfl), by repeat (first | (with_reducible first | exact HB.out | apply below_alloc | apply pw_below_drewN | apply below_drew1 | refine below_set ?_ (IsS87.ge HI589.out) | refine below_set ?_ GE582.out) | exact HB.out | exact below_tr HBW.out HB.out)⟩
        · replace c20 := Bool.eq_false_iff.mpr c20
          subst c20
          have H1 : ((word_FromIndex.f kj10 t594 t595 t585 t596 t587 t588 a1 a2).bind fun bt599 => ((codewrightref11_FromIndex.f kj10 a0_0 a0_1 l0_2 a1 a2).bind fun bt606 => (if bt599.2.1 = bt606.2 then ((codewrightref11_Same.f kj10 bt599.1 bt606.1).bind fun t610 => (codewrightlaw11_WordNumbers.j1 kj10 a2 bt599.1 bt606.2 (!t610) bt599.2.2.1 bt599.2.2.2.1 t585 bt599.2.2.2.2 t587 t588)) else (codewrightlaw11_WordNumbers.j1 kj10 a2 bt599.1 bt606.2 true bt599.2.2.1 bt599.2.2.2.1 t585 bt599.2.2.2.2 t587 t588)))) = some r := by rw [if_neg (show ¬ (false = true) by decide)] at H; exact H
          clear H
          have H := H1
          clear H1
          replace H := Option.bind_eq_some_iff.mp H
          obtain ⟨⟨t599, t602, t603, t604, t605⟩, A210, H⟩ := H
          replace H : ((codewrightref11_FromIndex.f kj10 a0_0 a0_1 l0_2 a1 a2).bind fun bt606 => (if t602 = bt606.2 then ((codewrightref11_Same.f kj10 t599 bt606.1).bind fun t610 => (codewrightlaw11_WordNumbers.j1 kj10 a2 t599 bt606.2 (!t610) t603 t604 t585 t605 t587 t588)) else (codewrightlaw11_WordNumbers.j1 kj10 a2 t599 bt606.2 true t603 t604 t585 t605 t587 t588))) = some r := H
          have A21 := Aside0.mk A210
          clear A210
          replace H := Option.bind_eq_some_iff.mp H
          obtain ⟨⟨t606, t609⟩, A220, H⟩ := H
          replace H : (if t602 = t609 then ((codewrightref11_Same.f kj10 t599 t606).bind fun t610 => (codewrightlaw11_WordNumbers.j1 kj10 a2 t599 t609 (!t610) t603 t604 t585 t605 t587 t588)) else (codewrightlaw11_WordNumbers.j1 kj10 a2 t599 t609 true t603 t604 t585 t605 t587 t588)) = some r := H
          have A22 := Aside0.mk A220
          clear A220
          have HC23 := Aside0.mk H
          clear H
          go_upto_region 10 with (first | ((with_reducible refine gate_callee (f := 31) rfl ?_); refine goesL_ (some 54) rfl rfl Try.func31 (by kernel_rfl) rfl #[.pointer (some ⟨g589, 0, none⟩), .int .i64 a1, .int .i64 a2] rfl (by (try simp only [List.map_toArray, List.map_cons, List.map_nil]); first | done | rfl | (simp only [List.length_drop, List.length_take]; rfl)) ?_; (with_reducible refine (word_FromIndex.calls kj10 g589 t594 t595 t585 t596 t587 t588 a1 a2 t599 t602 t603 t604 t605 w _ ?side1 ?side2 A21.out).mono ?_); (case side1 => repeat (first | (with_reducible first | exact HI589.out | apply IsS87.alloc | apply IsS87.drewN | apply IsS87.drew | apply IsS87.set_0 | apply IsS87.set_1 | apply IsS87.set_3 | refine IsS87.far ?_ NB589_582.out _) | exact HI589.out)); (case side2 => repeat (first | (with_reducible first | exact HB.out | apply below_alloc | apply pw_below_drewN | apply below_drew1 | refine below_set ?_ (IsS87.ge HI589.out) | refine below_set ?_ GE582.out) | exact HB.out)); rintro e w24 ⟨v600, rfl, ho0, hi, hb, hk⟩; refine ⟨_, rfl, ?_⟩; have n0_ := Aside0.mk (KeepBut.blk hk (g' := gb582) (o := .cells #[.int .i64 a0_0, .int .i64 a0_1, .slice A0_2 l0_2.length c0_2] 24 (0, 0)) (by (with_reducible repeat (first | refine blk_drewN ?_ _ | refine blk_drew ?_ | refine blk_alloc ?_ _)); exact BK582.out) NB582_589.out (by simp)); have n1_ := Aside0.mk (Kd.R_lower ho0 (below_size (by repeat (first | (with_reducible first | exact HB.out | apply below_alloc | apply pw_below_drewN | apply below_drew1 | refine below_set ?_ (IsS87.ge HI589.out) | refine below_set ?_ GE582.out) | exact HB.out)))); have n2_ := Aside0.mk (hb); have n3_ := Aside0.mk (hi); clear BK582; clear HB; clear HI589; have BK582 := n0_; have HO601 := n1_; have HB := n2_; have HI589 := n3_; clear n0_ n1_ n2_ n3_; (try clear hb); (try clear hb2); (try clear hk); (try clear hi); (try clear ho0); have hnb25 := NB582_589.out; have hnc25 := NB589_582.out; have hcz26_0 : w24.cell? ⟨gb582, 0, none⟩ = some (.int .i64 a0_0) := (blk_cell BK582.out 0).trans rfl; have hcz26_1 : w24.cell? ⟨gb582, 1, none⟩ = some (.int .i64 a0_1) := (blk_cell BK582.out 1).trans rfl; have hcz26_2 : w24.cell? ⟨gb582, 2, none⟩ = some (.slice A0_2 l0_2.length c0_2) := (blk_cell BK582.out 2).trans rfl; have hfz26_0 := blk_frozen BK582.out 0; have hfz26_1 := blk_frozen BK582.out 1; have hfz26_2 := blk_frozen BK582.out 2) | ((with_reducible refine gate_callee (f := 32) rfl ?_); refine goesL_ (some 61) rfl rfl Try.func32 (by kernel_rfl) rfl #[.agg #[.int .i64 a0_0, .int .i64 a0_1, .slice A0_2 l0_2.length c0_2], .int .i64 a1, .int .i64 a2] rfl (by (try simp only [List.map_toArray, List.map_cons, List.map_nil]); first | done | rfl | (simp only [List.length_drop, List.length_take]; rfl)) ?_; (with_reducible refine (codewrightref11_FromIndex.calls kj10 a0_0 a0_1 _ _ l0_2 a1 a2 t606 t609 _ ?side1 ?side2 A22.out).mono ?_); (case side1 => repeat (first | exact (Kd.C_below HR0_2.out HB.out) | (with_reducible refine Kd.C_alloc ?_ _) | (with_reducible refine Kd.C_drewN ?_ _) | (with_reducible refine Kd.C_drew ?_))); (case side2 => exact HC0_2.out); rintro e w27 ⟨v607, rfl, ho0, hb⟩; refine ⟨_, rfl, ?_⟩; have n0_ := Aside0.mk (Kd.R_elder' (by (with_reducible repeat (first | apply Kd.R_alloc | apply Kd.R_drewN | apply Kd.R_drew)); exact HO601.out) (Kd.R_base ho0) hb); have n1_ := Aside0.mk (Kd.R_lower (Kd.R_new' ho0 (Kd.R_lt (by (with_reducible repeat (first | apply Kd.R_alloc | apply Kd.R_drewN | apply Kd.R_drew)); exact HO601.out))) (below_size (by repeat (first | (with_reducible first | exact HB.out | apply below_alloc | apply pw_below_drewN | apply below_drew1 | refine below_set ?_ (IsS87.ge HI589.out) | refine below_set ?_ GE582.out) | exact HB.out)))); have n2_ := Aside0.mk (blk_below (g := gb582) (o := .cells #[.int .i64 a0_0, .int .i64 a0_1, .slice A0_2 l0_2.length c0_2] 24 (0, 0)) (by (with_reducible repeat (first | refine blk_drewN ?_ _ | refine blk_drew ?_ | refine blk_alloc ?_ _)); exact BK582.out) hb); have n3_ := Aside0.mk (IsS87.below (by repeat (first | (with_reducible first | exact HI589.out | apply IsS87.alloc | apply IsS87.drewN | apply IsS87.drew | apply IsS87.set_0 | apply IsS87.set_1 | apply IsS87.set_3 | refine IsS87.far ?_ NB589_582.out _) | exact HI589.out)) hb); have n4_ := Aside0.mk (below_step (by repeat (first | (with_reducible first | exact HB.out | apply below_alloc | apply pw_below_drewN | apply below_drew1 | refine below_set ?_ (IsS87.ge HI589.out) | refine below_set ?_ GE582.out) | exact HB.out)) hb); clear HO601; clear BK582; clear HI589; clear HB; have HO601 := n0_; have HO608 := n1_; have BK582 := n2_; have HI589 := n3_; have HB := n4_; clear n0_ n1_ n2_ n3_ n4_; (try clear hb); (try clear hb2); (try clear hk); (try clear hi); (try clear ho0)))
          (try simp only [Act.put, List.setIfInBounds_toArray, List.set_cons_zero, List.set_cons_succ])
          go_cut [72] (fun v72 wc => ∃ (kq : Nat) (x72_22 : Bool), v72 = .bool x72_22 ∧ Aside0 (codewrightlaw11_WordNumbers.j1 kq a2 t599 t609 x72_22 t603 t604 t585 t605 t587 t588 = some r) ∧ Aside0 (kq ≤ kj10) ∧ Aside0 (Kd.R (Kd.int .i64) 3 wc w.heap.size (fun _ => True) v600 t599) ∧ Aside0 (wc.heap[gb582]? = some (.cells #[.int .i64 a0_0, .int .i64 a0_1, (.slice A0_2 l0_2.length c0_2)] 24 (0, 0))) ∧ Aside0 (IsS87 w wc g589 t603 t604 t585 t605 t587 t588) ∧ Aside0 (Below w.heap.size w wc))
          case first =>
            have H := HC23.out
            clear HC23
            by_cases c28 : t602 = t609
            · rw [if_pos c28] at H
              have c28b0 : (t602 == t609) = true := beq_iff_eq.mpr c28
              have c28b1 : (t602 != t609) = false := bne_eq_false_iff_eq.mpr c28
              clear c28
              (first | rw [c28b0] | (simp only [i64_w, i32_w]; rw [c28b0]) | skip)
              replace H := Option.bind_eq_some_iff.mp H
              obtain ⟨t610, A290, H⟩ := H
              replace H : (codewrightlaw11_WordNumbers.j1 kj10 a2 t599 t609 (!t610) t603 t604 t585 t605 t587 t588) = some r := H
              have A29 := Aside0.mk A290
              clear A290
              have H' := Aside0.mk H
              clear H
              obtain ⟨Ao30, co30, eo30⟩ := Kd.R_slice HO601.out
              subst eo30
              obtain ⟨Ao31, co31, eo31⟩ := Kd.R_slice HO608.out
              subst eo31
              go_wp2_with (first | (go_at_call 13; (with_reducible refine (codewrightref11_Same.calls kj10 _ _ t599 _ _ t606 t610 _ ?side1 ?side2 ?side3 ?side4 A29.out).mono ?_); (case side1 => repeat (first | exact (Kd.R_reads' HO601.out).2.2 | (with_reducible refine Kd.C_alloc ?_ _) | (with_reducible refine Kd.C_drewN ?_ _) | (with_reducible refine Kd.C_drew ?_))); (case side2 => exact (Kd.R_reads' HO601.out).2.1); (case side3 => repeat (first | exact (Kd.R_reads' HO608.out).2.2 | (with_reducible refine Kd.C_alloc ?_ _) | (with_reducible refine Kd.C_drewN ?_ _) | (with_reducible refine Kd.C_drew ?_))); (case side4 => exact (Kd.R_reads' HO608.out).2.1); rintro e w' ⟨rfl, ⟨nd, rfl⟩⟩))
              go_meet
              case rel => exact ⟨_, (!t610), (by first | rfl | (simp; done) | (simp [*]; done)), H', ⟨by have := HJ10.out; first | omega | exact Nat.le_refl _⟩, ⟨by (with_reducible repeat (first | apply Kd.R_alloc | apply Kd.R_drewN | apply Kd.R_drew)); exact Kd.R_mono HO601.out (fun _ hk => trivial)⟩, ⟨by (with_reducible repeat (first | refine blk_drewN ?_ _ | refine blk_drew ?_ | refine blk_alloc ?_ _)); exact BK582.out⟩, ⟨by repeat (first | (with_reducible first | exact HI589.out | apply IsS87.alloc | apply IsS87.drewN | apply IsS87.drew | apply IsS87.set_0 | apply IsS87.set_1 | apply IsS87.set_3 | refine IsS87.far ?_ NB589_582.out _) | exact HI589.out)⟩, ⟨by repeat (first | (with_reducible first | exact HB.out | apply below_alloc | apply pw_below_drewN | apply below_drew1 | refine below_set ?_ (IsS87.ge HI589.out) | refine below_set ?_ GE582.out) | exact HB.out)⟩⟩
            · rw [if_neg c28] at H
              have c28b0 : (t602 == t609) = false := beq_eq_false_iff_ne.mpr c28
              have c28b1 : (t602 != t609) = true := bne_iff_ne.mpr c28
              (first | rw [c28b0] | (simp only [i64_w, i32_w]; rw [c28b0]) | skip)
              have H' := Aside0.mk H
              clear H
              go_wp2
              go_meet
              case rel => exact ⟨_, (true), (by first | rfl | (simp; done) | (simp [*]; done)), H', ⟨by have := HJ10.out; first | omega | exact Nat.le_refl _⟩, ⟨by (with_reducible repeat (first | apply Kd.R_alloc | apply Kd.R_drewN | apply Kd.R_drew)); exact Kd.R_mono HO601.out (fun _ hk => trivial)⟩, ⟨by (with_reducible repeat (first | refine blk_drewN ?_ _ | refine blk_drew ?_ | refine blk_alloc ?_ _)); exact BK582.out⟩, ⟨by repeat (first | (with_reducible first | exact HI589.out | apply IsS87.alloc | apply IsS87.drewN | apply IsS87.drew | apply IsS87.set_0 | apply IsS87.set_1 | apply IsS87.set_3 | refine IsS87.far ?_ NB589_582.out _) | exact HI589.out)⟩, ⟨by repeat (first | (with_reducible first | exact HB.out | apply below_alloc | apply pw_below_drewN | apply below_drew1 | refine below_set ?_ (IsS87.ge HI589.out) | refine below_set ?_ GE582.out) | exact HB.out)⟩⟩
          case rest =>
            clear HC23
            try clear c1
            try clear c2
            try clear p2
            try clear c3
            try clear c5
            try clear c7
            try clear c12
            try clear c16
            try clear c19
            try clear c19b0
            try clear c19b1
            try clear c20
            try clear c24
            try clear c25
            try clear c28
            try clear c28b0
            try clear c28b1
            try clear c30
            try clear c31
            try clear hcz13_0
            try clear hcz13_1
            try clear hcz13_2
            try clear hcz17_0
            try clear hcz17_1
            try clear hcz17_2
            try clear hcz26_0
            try clear hcz26_1
            try clear hcz26_2
            try clear hcz7_0
            try clear hcz7_1
            try clear hcz7_2
            try clear hfz13_0
            try clear hfz13_1
            try clear hfz13_2
            try clear hfz17_0
            try clear hfz17_1
            try clear hfz17_2
            try clear hfz26_0
            try clear hfz26_1
            try clear hfz26_2
            try clear hfz7_0
            try clear hfz7_1
            try clear hfz7_2
            try clear p2
            obtain ⟨kq, x72_22, rfl, HA, HJ22, HO_14, BK582, HI589, HB⟩ := hcut
            cases kq with
            | zero => exact absurd HA.out (by simp [codewrightlaw11_WordNumbers.j1])
            | succ kj22 =>
              have H := HA.out
              clear HA
              simp only [codewrightlaw11_WordNumbers.j1] at H
              by_cases c32 : x72_22 = true
              · subst c32
                have H1 : (some false) = some r := by rw [if_pos rfl] at H; exact H
                clear H
                have H := H1
                clear H1
                obtain rfl := Option.some.inj H
                go_wp2
                go_ret
                exact ⟨by first | rfl | (simp [errW_none, errW_some] <;> rfl) | (simp [*, errW_none, errW_some] <;> rfl), by repeat (first | (with_reducible first | exact HB.out | apply below_alloc | apply pw_below_drewN | apply below_drew1 | refine below_set ?_ (IsS87.ge HI589.out) | refine below_set ?_ GE582.out) | exact HB.out | exact below_tr HBW.out HB.out)⟩
              · replace c32 := Bool.eq_false_iff.mpr c32
                subst c32
                have H1 : (if t609 = 0 then ((word_Index.f kj22 t603 t604 t585 t605 t587 t588 t599).bind fun bt611 => (if bt611.1 = a2 then (if bt611.2.1 = 0 then ((word_Count.f kj22 bt611.2.2.1 bt611.2.2.2.1 t585 bt611.2.2.2.2 t587 t588 0).bind fun bt616 => (if bt616.1 = 1 then (some (bt616.2.1 == 0)) else (some false))) else (some false)) else (some false))) else ((word_Count.f kj22 t603 t604 t585 t605 t587 t588 0).bind fun bt621 => (if bt621.1 = 1 then (some (bt621.2.1 == 0)) else (some false)))) = some r := by rw [if_neg (show ¬ (false = true) by decide)] at H; exact H
                clear H
                have H := H1
                clear H1
                by_cases c33 : t609 = 0
                · rw [if_pos c33] at H
                  have c33b0 : (t609 == 0) = true := beq_iff_eq.mpr c33
                  have c33b1 : (t609 != 0) = false := bne_eq_false_iff_eq.mpr c33
                  clear c33
                  replace H := Option.bind_eq_some_iff.mp H
                  obtain ⟨⟨t611, t612, t613, t614, t615⟩, A340, H⟩ := H
                  replace H : (if t611 = a2 then (if t612 = 0 then ((word_Count.f kj22 t613 t614 t585 t615 t587 t588 0).bind fun bt616 => (if bt616.1 = 1 then (some (bt616.2.1 == 0)) else (some false))) else (some false)) else (some false)) = some r := H
                  have A34 := Aside0.mk A340
                  clear A340
                  by_cases c35 : t611 = a2
                  · rw [if_pos c35] at H
                    have c35b0 : (t611 == a2) = true := beq_iff_eq.mpr c35
                    have c35b1 : (t611 != a2) = false := bne_eq_false_iff_eq.mpr c35
                    clear c35
                    by_cases c36 : t612 = 0
                    · rw [if_pos c36] at H
                      have c36b0 : (t612 == 0) = true := beq_iff_eq.mpr c36
                      have c36b1 : (t612 != 0) = false := bne_eq_false_iff_eq.mpr c36
                      clear c36
                      replace H := Option.bind_eq_some_iff.mp H
                      obtain ⟨⟨t616, t617, t618, t619, t620⟩, A370, H⟩ := H
                      replace H : (if t616 = 1 then (some (t617 == 0)) else (some false)) = some r := H
                      have A37 := Aside0.mk A370
                      clear A370
                      by_cases c38 : t616 = 1
                      · rw [if_pos c38] at H
                        have c38b0 : (t616 == 1) = true := beq_iff_eq.mpr c38
                        have c38b1 : (t616 != 1) = false := bne_eq_false_iff_eq.mpr c38
                        clear c38
                        obtain rfl := Option.some.inj H
                        obtain ⟨Ao39, co39, eo39⟩ := Kd.R_slice HO_14.out
                        subst eo39
                        go_wp2_with (first | ((with_reducible refine gate_callee (f := 33) rfl ?_); refine goesL_ (some 78) rfl rfl Try.func33 (by kernel_rfl) rfl #[.pointer (some ⟨g589, 0, none⟩), .slice Ao39 t599.length co39] rfl (by (try simp only [List.map_toArray, List.map_cons, List.map_nil]); first | done | rfl | (simp only [List.length_drop, List.length_take]; rfl)) ?_; (with_reducible refine (word_Index.calls kj22 g589 t603 t604 t585 t605 t587 t588 _ _ t599 t611 t612 t613 t614 t615 w _ ?side1 ?side2 ?side3 ?side4 ?side5 A34.out).mono ?_); (case side1 => repeat (first | (with_reducible first | exact HI589.out | apply IsS87.alloc | apply IsS87.drewN | apply IsS87.drew | apply IsS87.set_0 | apply IsS87.set_1 | apply IsS87.set_3 | refine IsS87.far ?_ NB589_582.out _) | exact HI589.out)); (case side2 => repeat (first | (with_reducible first | exact HB.out | apply below_alloc | apply pw_below_drewN | apply below_drew1 | refine below_set ?_ (IsS87.ge HI589.out) | refine below_set ?_ GE582.out) | exact HB.out)); (case side3 => repeat (first | exact (Kd.R_reads' HO_14.out).2.2 | (with_reducible refine Kd.C_alloc ?_ _) | (with_reducible refine Kd.C_drewN ?_ _) | (with_reducible refine Kd.C_drew ?_))); (case side4 => exact (Kd.R_reads' HO_14.out).2.1); (case side5 => exact far_slice (IsS87.own_ne HI589.out HO_14.out (by decide))); rintro e w40 ⟨rfl, hi, hb, hk⟩; refine ⟨_, rfl, ?_⟩; have n0_ := Aside0.mk (Kd.R_mono (Kd.R_keep (IsS87.apart (show IsS87 w _ g589 t603 t604 t585 t605 t587 t588 from by repeat (first | (with_reducible first | exact HI589.out | apply IsS87.alloc | apply IsS87.drewN | apply IsS87.drew | apply IsS87.set_0 | apply IsS87.set_1 | apply IsS87.set_3 | refine IsS87.far ?_ NB589_582.out _) | exact HI589.out)) (by (with_reducible repeat (first | apply Kd.R_alloc | apply Kd.R_drewN | apply Kd.R_drew)); exact HO_14.out) (by decide)) hk (fun _ h => h.2)) (fun _ h => h.1)); have n1_ := Aside0.mk (KeepBut.blk hk (g' := gb582) (o := .cells #[.int .i64 a0_0, .int .i64 a0_1, .slice A0_2 l0_2.length c0_2] 24 (0, 0)) (by (with_reducible repeat (first | refine blk_drewN ?_ _ | refine blk_drew ?_ | refine blk_alloc ?_ _)); exact BK582.out) NB582_589.out (by simp)); have n2_ := Aside0.mk (hb); have n3_ := Aside0.mk (hi); clear HO_14; clear BK582; clear HB; clear HI589; have HO_14 := n0_; have BK582 := n1_; have HB := n2_; have HI589 := n3_; clear n0_ n1_ n2_ n3_; (try clear hb); (try clear hb2); (try clear hk); (try clear hi)) | ((with_reducible refine gate_callee (f := 30) rfl ?_); refine goesL_ (some 90) rfl rfl Try.func30 (by kernel_rfl) rfl #[.pointer (some ⟨g589, 0, none⟩), .int .i64 0] rfl (by (try simp only [List.map_toArray, List.map_cons, List.map_nil]); first | done | rfl | (simp only [List.length_drop, List.length_take]; rfl)) ?_; (with_reducible refine (word_Count.calls kj22 g589 t613 t614 t585 t615 t587 t588 0 t616 t617 t618 t619 t620 w _ ?side1 ?side2 A37.out).mono ?_); (case side1 => repeat (first | (with_reducible first | exact HI589.out | apply IsS87.alloc | apply IsS87.drewN | apply IsS87.drew | apply IsS87.set_0 | apply IsS87.set_1 | apply IsS87.set_3 | refine IsS87.far ?_ NB589_582.out _) | exact HI589.out)); (case side2 => repeat (first | (with_reducible first | exact HB.out | apply below_alloc | apply pw_below_drewN | apply below_drew1 | refine below_set ?_ (IsS87.ge HI589.out) | refine below_set ?_ GE582.out) | exact HB.out)); rintro e w41 ⟨rfl, hi, hb, hk⟩; refine ⟨_, rfl, ?_⟩; have n0_ := Aside0.mk (Kd.R_mono (Kd.R_keep (IsS87.apart (show IsS87 w _ g589 t613 t614 t585 t615 t587 t588 from by repeat (first | (with_reducible first | exact HI589.out | apply IsS87.alloc | apply IsS87.drewN | apply IsS87.drew | apply IsS87.set_0 | apply IsS87.set_1 | apply IsS87.set_3 | refine IsS87.far ?_ NB589_582.out _) | exact HI589.out)) (by (with_reducible repeat (first | apply Kd.R_alloc | apply Kd.R_drewN | apply Kd.R_drew)); exact HO_14.out) (by decide)) hk (fun _ h => h.2)) (fun _ h => h.1)); have n1_ := Aside0.mk (KeepBut.blk hk (g' := gb582) (o := .cells #[.int .i64 a0_0, .int .i64 a0_1, .slice A0_2 l0_2.length c0_2] 24 (0, 0)) (by (with_reducible repeat (first | refine blk_drewN ?_ _ | refine blk_drew ?_ | refine blk_alloc ?_ _)); exact BK582.out) NB582_589.out (by simp)); have n2_ := Aside0.mk (hb); have n3_ := Aside0.mk (hi); clear HO_14; clear BK582; clear HB; clear HI589; have HO_14 := n0_; have BK582 := n1_; have HB := n2_; have HI589 := n3_; clear n0_ n1_ n2_ n3_; (try clear hb); (try clear hb2); (try clear hk); (try clear hi)))
                        go_ret
                        exact ⟨by first | rfl | (simp [errW_none, errW_some] <;> rfl) | (simp [*, errW_none, errW_some] <;> rfl), by repeat (first | (with_reducible first | exact HB.out | apply below_alloc | apply pw_below_drewN | apply below_drew1 | refine below_set ?_ (IsS87.ge HI589.out) | refine below_set ?_ GE582.out) | exact HB.out | exact below_tr HBW.out HB.out)⟩
                      · rw [if_neg c38] at H
                        have c38b0 : (t616 == 1) = false := beq_eq_false_iff_ne.mpr c38
                        have c38b1 : (t616 != 1) = true := bne_iff_ne.mpr c38
                        obtain rfl := Option.some.inj H
                        obtain ⟨Ao42, co42, eo42⟩ := Kd.R_slice HO_14.out
                        subst eo42
                        go_wp2_with (first | ((with_reducible refine gate_callee (f := 33) rfl ?_); refine goesL_ (some 78) rfl rfl Try.func33 (by kernel_rfl) rfl #[.pointer (some ⟨g589, 0, none⟩), .slice Ao42 t599.length co42] rfl (by (try simp only [List.map_toArray, List.map_cons, List.map_nil]); first | done | rfl | (simp only [List.length_drop, List.length_take]; rfl)) ?_; (with_reducible refine (word_Index.calls kj22 g589 t603 t604 t585 t605 t587 t588 _ _ t599 t611 t612 t613 t614 t615 w _ ?side1 ?side2 ?side3 ?side4 ?side5 A34.out).mono ?_); (case side1 => repeat (first | (with_reducible first | exact HI589.out | apply IsS87.alloc | apply IsS87.drewN | apply IsS87.drew | apply IsS87.set_0 | apply IsS87.set_1 | apply IsS87.set_3 | refine IsS87.far ?_ NB589_582.out _) | exact HI589.out)); (case side2 => repeat (first | (with_reducible first | exact HB.out | apply below_alloc | apply pw_below_drewN | apply below_drew1 | refine below_set ?_ (IsS87.ge HI589.out) | refine below_set ?_ GE582.out) | exact HB.out)); (case side3 => repeat (first | exact (Kd.R_reads' HO_14.out).2.2 | (with_reducible refine Kd.C_alloc ?_ _) | (with_reducible refine Kd.C_drewN ?_ _) | (with_reducible refine Kd.C_drew ?_))); (case side4 => exact (Kd.R_reads' HO_14.out).2.1); (case side5 => exact far_slice (IsS87.own_ne HI589.out HO_14.out (by decide))); rintro e w43 ⟨rfl, hi, hb, hk⟩; refine ⟨_, rfl, ?_⟩; have n0_ := Aside0.mk (Kd.R_mono (Kd.R_keep (IsS87.apart (show IsS87 w _ g589 t603 t604 t585 t605 t587 t588 from by repeat (first | (with_reducible first | exact HI589.out | apply IsS87.alloc | apply IsS87.drewN | apply IsS87.drew | apply IsS87.set_0 | apply IsS87.set_1 | apply IsS87.set_3 | refine IsS87.far ?_ NB589_582.out _) | exact HI589.out)) (by (with_reducible repeat (first | apply Kd.R_alloc | apply Kd.R_drewN | apply Kd.R_drew)); exact HO_14.out) (by decide)) hk (fun _ h => h.2)) (fun _ h => h.1)); have n1_ := Aside0.mk (KeepBut.blk hk (g' := gb582) (o := .cells #[.int .i64 a0_0, .int .i64 a0_1, .slice A0_2 l0_2.length c0_2] 24 (0, 0)) (by (with_reducible repeat (first | refine blk_drewN ?_ _ | refine blk_drew ?_ | refine blk_alloc ?_ _)); exact BK582.out) NB582_589.out (by simp)); have n2_ := Aside0.mk (hb); have n3_ := Aside0.mk (hi); clear HO_14; clear BK582; clear HB; clear HI589; have HO_14 := n0_; have BK582 := n1_; have HB := n2_; have HI589 := n3_; clear n0_ n1_ n2_ n3_; (try clear hb); (try clear hb2); (try clear hk); (try clear hi)) | ((with_reducible refine gate_callee (f := 30) rfl ?_); refine goesL_ (some 90) rfl rfl Try.func30 (by kernel_rfl) rfl #[.pointer (some ⟨g589, 0, none⟩), .int .i64 0] rfl (by (try simp only [List.map_toArray, List.map_cons, List.map_nil]); first | done | rfl | (simp only [List.length_drop, List.length_take]; rfl)) ?_; (with_reducible refine (word_Count.calls kj22 g589 t613 t614 t585 t615 t587 t588 0 t616 t617 t618 t619 t620 w _ ?side1 ?side2 A37.out).mono ?_); (case side1 => repeat (first | (with_reducible first | exact HI589.out | apply IsS87.alloc | apply IsS87.drewN | apply IsS87.drew | apply IsS87.set_0 | apply IsS87.set_1 | apply IsS87.set_3 | refine IsS87.far ?_ NB589_582.out _) | exact HI589.out)); (case side2 => repeat (first | (with_reducible first | exact HB.out | apply below_alloc | apply pw_below_drewN | apply below_drew1 | refine below_set ?_ (IsS87.ge HI589.out) | refine below_set ?_ GE582.out) | exact HB.out)); rintro e w44 ⟨rfl, hi, hb, hk⟩; refine ⟨_, rfl, ?_⟩; have n0_ := Aside0.mk (Kd.R_mono (Kd.R_keep (IsS87.apart (show IsS87 w _ g589 t613 t614 t585 t615 t587 t588 from by repeat (first | (with_reducible first | exact HI589.out | apply IsS87.alloc | apply IsS87.drewN | apply IsS87.drew | apply IsS87.set_0 | apply IsS87.set_1 | apply IsS87.set_3 | refine IsS87.far ?_ NB589_582.out _) | exact HI589.out)) (by (with_reducible repeat (first | apply Kd.R_alloc | apply Kd.R_drewN | apply Kd.R_drew)); exact HO_14.out) (by decide)) hk (fun _ h => h.2)) (fun _ h => h.1)); have n1_ := Aside0.mk (KeepBut.blk hk (g' := gb582) (o := .cells #[.int .i64 a0_0, .int .i64 a0_1, .slice A0_2 l0_2.length c0_2] 24 (0, 0)) (by (with_reducible repeat (first | refine blk_drewN ?_ _ | refine blk_drew ?_ | refine blk_alloc ?_ _)); exact BK582.out) NB582_589.out (by simp)); have n2_ := Aside0.mk (hb); have n3_ := Aside0.mk (hi); clear HO_14; clear BK582; clear HB; clear HI589; have HO_14 := n0_; have BK582 := n1_; have HB := n2_; have HI589 := n3_; clear n0_ n1_ n2_ n3_; (try clear hb); (try clear hb2); (try clear hk); (try clear hi)))
                        go_ret
                        exact ⟨by first | rfl | (simp [errW_none, errW_some] <;> rfl) | (simp [*, errW_none, errW_some] <;> rfl), by repeat (first | (with_reducible first | exact HB.out | apply below_alloc | apply pw_below_drewN | apply below_drew1 | refine below_set ?_ (IsS87.ge HI589.out) | refine below_set ?_ GE582.out) | exact HB.out | exact below_tr HBW.out HB.out)⟩
                    · rw [if_neg c36] at H
                      have c36b0 : (t612 == 0) = false := beq_eq_false_iff_ne.mpr c36
                      have c36b1 : (t612 != 0) = true := bne_iff_ne.mpr c36
                      obtain rfl := Option.some.inj H
                      obtain ⟨Ao45, co45, eo45⟩ := Kd.R_slice HO_14.out
                      subst eo45
                      go_wp2_with (first | ((with_reducible refine gate_callee (f := 33) rfl ?_); refine goesL_ (some 78) rfl rfl Try.func33 (by kernel_rfl) rfl #[.pointer (some ⟨g589, 0, none⟩), .slice Ao45 t599.length co45] rfl (by (try simp only [List.map_toArray, List.map_cons, List.map_nil]); first | done | rfl | (simp only [List.length_drop, List.length_take]; rfl)) ?_; (with_reducible refine (word_Index.calls kj22 g589 t603 t604 t585 t605 t587 t588 _ _ t599 t611 t612 t613 t614 t615 w _ ?side1 ?side2 ?side3 ?side4 ?side5 A34.out).mono ?_); (case side1 => repeat (first | (with_reducible first | exact HI589.out | apply IsS87.alloc | apply IsS87.drewN | apply IsS87.drew | apply IsS87.set_0 | apply IsS87.set_1 | apply IsS87.set_3 | refine IsS87.far ?_ NB589_582.out _) | exact HI589.out)); (case side2 => repeat (first | (with_reducible first | exact HB.out | apply below_alloc | apply pw_below_drewN | apply below_drew1 | refine below_set ?_ (IsS87.ge HI589.out) | refine below_set ?_ GE582.out) | exact HB.out)); (case side3 => repeat (first | exact (Kd.R_reads' HO_14.out).2.2 | (with_reducible refine Kd.C_alloc ?_ _) | (with_reducible refine Kd.C_drewN ?_ _) | (with_reducible refine Kd.C_drew ?_))); (case side4 => exact (Kd.R_reads' HO_14.out).2.1); (case side5 => exact far_slice (IsS87.own_ne HI589.out HO_14.out (by decide))); rintro e w46 ⟨rfl, hi, hb, hk⟩; refine ⟨_, rfl, ?_⟩; have n0_ := Aside0.mk (Kd.R_mono (Kd.R_keep (IsS87.apart (show IsS87 w _ g589 t603 t604 t585 t605 t587 t588 from by repeat (first | (with_reducible first | exact HI589.out | apply IsS87.alloc | apply IsS87.drewN | apply IsS87.drew | apply IsS87.set_0 | apply IsS87.set_1 | apply IsS87.set_3 | refine IsS87.far ?_ NB589_582.out _) | exact HI589.out)) (by (with_reducible repeat (first | apply Kd.R_alloc | apply Kd.R_drewN | apply Kd.R_drew)); exact HO_14.out) (by decide)) hk (fun _ h => h.2)) (fun _ h => h.1)); have n1_ := Aside0.mk (KeepBut.blk hk (g' := gb582) (o := .cells #[.int .i64 a0_0, .int .i64 a0_1, .slice A0_2 l0_2.length c0_2] 24 (0, 0)) (by (with_reducible repeat (first | refine blk_drewN ?_ _ | refine blk_drew ?_ | refine blk_alloc ?_ _)); exact BK582.out) NB582_589.out (by simp)); have n2_ := Aside0.mk (hb); have n3_ := Aside0.mk (hi); clear HO_14; clear BK582; clear HB; clear HI589; have HO_14 := n0_; have BK582 := n1_; have HB := n2_; have HI589 := n3_; clear n0_ n1_ n2_ n3_; (try clear hb); (try clear hb2); (try clear hk); (try clear hi)))
                      go_ret
                      exact ⟨by first | rfl | (simp [errW_none, errW_some] <;> rfl) | (simp [*, errW_none, errW_some] <;> rfl), by repeat (first | (with_reducible first | exact HB.out | apply below_alloc | apply pw_below_drewN | apply below_drew1 | refine below_set ?_ (IsS87.ge HI589.out) | refine below_set ?_ GE582.out) | exact HB.out | exact below_tr HBW.out HB.out)⟩
                  · rw [if_neg c35] at H
                    have c35b0 : (t611 == a2) = false := beq_eq_false_iff_ne.mpr c35
                    have c35b1 : (t611 != a2) = true := bne_iff_ne.mpr c35
                    obtain rfl := Option.some.inj H
                    obtain ⟨Ao47, co47, eo47⟩ := Kd.R_slice HO_14.out
                    subst eo47
                    go_wp2_with (first | ((with_reducible refine gate_callee (f := 33) rfl ?_); refine goesL_ (some 78) rfl rfl Try.func33 (by kernel_rfl) rfl #[.pointer (some ⟨g589, 0, none⟩), .slice Ao47 t599.length co47] rfl (by (try simp only [List.map_toArray, List.map_cons, List.map_nil]); first | done | rfl | (simp only [List.length_drop, List.length_take]; rfl)) ?_; (with_reducible refine (word_Index.calls kj22 g589 t603 t604 t585 t605 t587 t588 _ _ t599 t611 t612 t613 t614 t615 w _ ?side1 ?side2 ?side3 ?side4 ?side5 A34.out).mono ?_); (case side1 => repeat (first | (with_reducible first | exact HI589.out | apply IsS87.alloc | apply IsS87.drewN | apply IsS87.drew | apply IsS87.set_0 | apply IsS87.set_1 | apply IsS87.set_3 | refine IsS87.far ?_ NB589_582.out _) | exact HI589.out)); (case side2 => repeat (first | (with_reducible first | exact HB.out | apply below_alloc | apply pw_below_drewN | apply below_drew1 | refine below_set ?_ (IsS87.ge HI589.out) | refine below_set ?_ GE582.out) | exact HB.out)); (case side3 => repeat (first | exact (Kd.R_reads' HO_14.out).2.2 | (with_reducible refine Kd.C_alloc ?_ _) | (with_reducible refine Kd.C_drewN ?_ _) | (with_reducible refine Kd.C_drew ?_))); (case side4 => exact (Kd.R_reads' HO_14.out).2.1); (case side5 => exact far_slice (IsS87.own_ne HI589.out HO_14.out (by decide))); rintro e w48 ⟨rfl, hi, hb, hk⟩; refine ⟨_, rfl, ?_⟩; have n0_ := Aside0.mk (Kd.R_mono (Kd.R_keep (IsS87.apart (show IsS87 w _ g589 t603 t604 t585 t605 t587 t588 from by repeat (first | (with_reducible first | exact HI589.out | apply IsS87.alloc | apply IsS87.drewN | apply IsS87.drew | apply IsS87.set_0 | apply IsS87.set_1 | apply IsS87.set_3 | refine IsS87.far ?_ NB589_582.out _) | exact HI589.out)) (by (with_reducible repeat (first | apply Kd.R_alloc | apply Kd.R_drewN | apply Kd.R_drew)); exact HO_14.out) (by decide)) hk (fun _ h => h.2)) (fun _ h => h.1)); have n1_ := Aside0.mk (KeepBut.blk hk (g' := gb582) (o := .cells #[.int .i64 a0_0, .int .i64 a0_1, .slice A0_2 l0_2.length c0_2] 24 (0, 0)) (by (with_reducible repeat (first | refine blk_drewN ?_ _ | refine blk_drew ?_ | refine blk_alloc ?_ _)); exact BK582.out) NB582_589.out (by simp)); have n2_ := Aside0.mk (hb); have n3_ := Aside0.mk (hi); clear HO_14; clear BK582; clear HB; clear HI589; have HO_14 := n0_; have BK582 := n1_; have HB := n2_; have HI589 := n3_; clear n0_ n1_ n2_ n3_; (try clear hb); (try clear hb2); (try clear hk); (try clear hi)))
                    go_ret
                    exact ⟨by first | rfl | (simp [errW_none, errW_some] <;> rfl) | (simp [*, errW_none, errW_some] <;> rfl), by repeat (first | (with_reducible first | exact HB.out | apply below_alloc | apply pw_below_drewN | apply below_drew1 | refine below_set ?_ (IsS87.ge HI589.out) | refine below_set ?_ GE582.out) | exact HB.out | exact below_tr HBW.out HB.out)⟩
                · rw [if_neg c33] at H
                  have c33b0 : (t609 == 0) = false := beq_eq_false_iff_ne.mpr c33
                  have c33b1 : (t609 != 0) = true := bne_iff_ne.mpr c33
                  replace H := Option.bind_eq_some_iff.mp H
                  obtain ⟨⟨t621, t622, t623, t624, t625⟩, A490, H⟩ := H
                  replace H : (if t621 = 1 then (some (t622 == 0)) else (some false)) = some r := H
                  have A49 := Aside0.mk A490
                  clear A490
                  by_cases c50 : t621 = 1
                  · rw [if_pos c50] at H
                    have c50b0 : (t621 == 1) = true := beq_iff_eq.mpr c50
                    have c50b1 : (t621 != 1) = false := bne_eq_false_iff_eq.mpr c50
                    clear c50
                    obtain rfl := Option.some.inj H
                    go_wp2_with (first | ((with_reducible refine gate_callee (f := 30) rfl ?_); refine goesL_ (some 90) rfl rfl Try.func30 (by kernel_rfl) rfl #[.pointer (some ⟨g589, 0, none⟩), .int .i64 0] rfl (by (try simp only [List.map_toArray, List.map_cons, List.map_nil]); first | done | rfl | (simp only [List.length_drop, List.length_take]; rfl)) ?_; (with_reducible refine (word_Count.calls kj22 g589 t603 t604 t585 t605 t587 t588 0 t621 t622 t623 t624 t625 w _ ?side1 ?side2 A49.out).mono ?_); (case side1 => repeat (first | (with_reducible first | exact HI589.out | apply IsS87.alloc | apply IsS87.drewN | apply IsS87.drew | apply IsS87.set_0 | apply IsS87.set_1 | apply IsS87.set_3 | refine IsS87.far ?_ NB589_582.out _) | exact HI589.out)); (case side2 => repeat (first | (with_reducible first | exact HB.out | apply below_alloc | apply pw_below_drewN | apply below_drew1 | refine below_set ?_ (IsS87.ge HI589.out) | refine below_set ?_ GE582.out) | exact HB.out)); rintro e w51 ⟨rfl, hi, hb, hk⟩; refine ⟨_, rfl, ?_⟩; have n0_ := Aside0.mk (Kd.R_mono (Kd.R_keep (IsS87.apart (show IsS87 w _ g589 t603 t604 t585 t605 t587 t588 from by repeat (first | (with_reducible first | exact HI589.out | apply IsS87.alloc | apply IsS87.drewN | apply IsS87.drew | apply IsS87.set_0 | apply IsS87.set_1 | apply IsS87.set_3 | refine IsS87.far ?_ NB589_582.out _) | exact HI589.out)) (by (with_reducible repeat (first | apply Kd.R_alloc | apply Kd.R_drewN | apply Kd.R_drew)); exact HO_14.out) (by decide)) hk (fun _ h => h.2)) (fun _ h => h.1)); have n1_ := Aside0.mk (KeepBut.blk hk (g' := gb582) (o := .cells #[.int .i64 a0_0, .int .i64 a0_1, .slice A0_2 l0_2.length c0_2] 24 (0, 0)) (by (with_reducible repeat (first | refine blk_drewN ?_ _ | refine blk_drew ?_ | refine blk_alloc ?_ _)); exact BK582.out) NB582_589.out (by simp)); have n2_ := Aside0.mk (hb); have n3_ := Aside0.mk (hi); clear HO_14; clear BK582; clear HB; clear HI589; have HO_14 := n0_; have BK582 := n1_; have HB := n2_; have HI589 := n3_; clear n0_ n1_ n2_ n3_; (try clear hb); (try clear hb2); (try clear hk); (try clear hi)))
                    go_ret
                    exact ⟨by first | rfl | (simp [errW_none, errW_some] <;> rfl) | (simp [*, errW_none, errW_some] <;> rfl), by repeat (first | (with_reducible first | exact HB.out | apply below_alloc | apply pw_below_drewN | apply below_drew1 | refine below_set ?_ (IsS87.ge HI589.out) | refine below_set ?_ GE582.out) | exact HB.out | exact below_tr HBW.out HB.out)⟩
                  · rw [if_neg c50] at H
                    have c50b0 : (t621 == 1) = false := beq_eq_false_iff_ne.mpr c50
                    have c50b1 : (t621 != 1) = true := bne_iff_ne.mpr c50
                    obtain rfl := Option.some.inj H
                    go_wp2_with (first | ((with_reducible refine gate_callee (f := 30) rfl ?_); refine goesL_ (some 90) rfl rfl Try.func30 (by kernel_rfl) rfl #[.pointer (some ⟨g589, 0, none⟩), .int .i64 0] rfl (by (try simp only [List.map_toArray, List.map_cons, List.map_nil]); first | done | rfl | (simp only [List.length_drop, List.length_take]; rfl)) ?_; (with_reducible refine (word_Count.calls kj22 g589 t603 t604 t585 t605 t587 t588 0 t621 t622 t623 t624 t625 w _ ?side1 ?side2 A49.out).mono ?_); (case side1 => repeat (first | (with_reducible first | exact HI589.out | apply IsS87.alloc | apply IsS87.drewN | apply IsS87.drew | apply IsS87.set_0 | apply IsS87.set_1 | apply IsS87.set_3 | refine IsS87.far ?_ NB589_582.out _) | exact HI589.out)); (case side2 => repeat (first | (with_reducible first | exact HB.out | apply below_alloc | apply pw_below_drewN | apply below_drew1 | refine below_set ?_ (IsS87.ge HI589.out) | refine below_set ?_ GE582.out) | exact HB.out)); rintro e w52 ⟨rfl, hi, hb, hk⟩; refine ⟨_, rfl, ?_⟩; have n0_ := Aside0.mk (Kd.R_mono (Kd.R_keep (IsS87.apart (show IsS87 w _ g589 t603 t604 t585 t605 t587 t588 from by repeat (first | (with_reducible first | exact HI589.out | apply IsS87.alloc | apply IsS87.drewN | apply IsS87.drew | apply IsS87.set_0 | apply IsS87.set_1 | apply IsS87.set_3 | refine IsS87.far ?_ NB589_582.out _) | exact HI589.out)) (by (with_reducible repeat (first | apply Kd.R_alloc | apply Kd.R_drewN | apply Kd.R_drew)); exact HO_14.out) (by decide)) hk (fun _ h => h.2)) (fun _ h => h.1)); have n1_ := Aside0.mk (KeepBut.blk hk (g' := gb582) (o := .cells #[.int .i64 a0_0, .int .i64 a0_1, .slice A0_2 l0_2.length c0_2] 24 (0, 0)) (by (with_reducible repeat (first | refine blk_drewN ?_ _ | refine blk_drew ?_ | refine blk_alloc ?_ _)); exact BK582.out) NB582_589.out (by simp)); have n2_ := Aside0.mk (hb); have n3_ := Aside0.mk (hi); clear HO_14; clear BK582; clear HB; clear HI589; have HO_14 := n0_; have BK582 := n1_; have HB := n2_; have HI589 := n3_; clear n0_ n1_ n2_ n3_; (try clear hb); (try clear hb2); (try clear hk); (try clear hi)))
                    go_ret
                    exact ⟨by first | rfl | (simp [errW_none, errW_some] <;> rfl) | (simp [*, errW_none, errW_some] <;> rfl), by repeat (first | (with_reducible first | exact HB.out | apply below_alloc | apply pw_below_drewN | apply below_drew1 | refine below_set ?_ (IsS87.ge HI589.out) | refine below_set ?_ GE582.out) | exact HB.out | exact below_tr HBW.out HB.out)⟩

end Go.Proofs.Ythgaihhlbgccoaa.Q
