import Derived.Test.YthgaihhlbgccoaaZQa
import Derived.Test.YthgaihhlbgccoaaZQb
import Derived.Test.YthgaihhlbgccoaaZQc
import Derived.Test.YthgaihhlbgccoaaZQd
import Derived.Test.YthgaihhlbgccoaaZQi
import Derived.Test.YthgaihhlbgccoaaZQk
-- Written by a program of this work over the kit's printer; Lean checks it.
namespace Go.Proofs.Ythgaihhlbgccoaa.Q
open Go.RowKit Go.Proofs.YthgaihhlbgccoaaW.PrintWords Go.Proofs.YthgaihhlbgccoaaW.PrintLast Go.Proofs.YthgaihhlbgccoaaW.PrintMore
attribute [local go_sem] max2_int min2_int max_two min_two max_three min_three max_four min_four   -- for this text's walks alone
set_option linter.unusedVariables false
set_option linter.unusedSimpArgs false

/-! ### codewrightlaw11_WordIndexes: function 11 -/
mutual
def codewrightlaw11_WordIndexes.j0 : Nat → List Int → List Int → Int → Int → Bool → Int → Int → List Int → Int → Int → List Int → Int → List Int → List Int → Option (Bool)
  | 0, _, _, _, _, _, _, _, _, _, _, _, _, _, _ => none
  | k + 1, x1, x2, x10, x13, x48, x749000, x749001, x749002, x756000, x756001, x756002, x756003, x756004, x756005 => if x48 = true then (some false) else ((word_Index.f k x756000 x756001 x756002 x756003 x756004 x756005 x2).bind fun bt765 => ((codewrightref11_Index.f k x749000 x749001 x749002 x2).bind fun bt770 => (if bt765.1 = bt770.1 then (codewrightlaw11_WordIndexes.j1 k x1 x2 x10 x13 bt765.1 (bt765.2.1 != bt770.2) bt765.2.2.1 bt765.2.2.2.1 x756002 bt765.2.2.2.2 x756004 x756005) else (codewrightlaw11_WordIndexes.j1 k x1 x2 x10 x13 bt765.1 true bt765.2.2.1 bt765.2.2.2.1 x756002 bt765.2.2.2.2 x756004 x756005))))
def codewrightlaw11_WordIndexes.j1 : Nat → List Int → List Int → Int → Int → Int → Bool → Int → Int → List Int → Int → List Int → List Int → Option (Bool)
  | 0, _, _, _, _, _, _, _, _, _, _, _, _ => none
  | k + 1, x1, x2, x10, x13, x14, x68, x756000, x756001, x756002, x756003, x756004, x756005 => if x68 = true then (some false) else (if (x1.length : Int) = (x2.length : Int) then (codewrightlaw11_WordIndexes.j2 k x1 x2 x10 x14 (x13 == 0) x756000 x756001 x756002 x756003 x756004 x756005) else (codewrightlaw11_WordIndexes.j2 k x1 x2 x10 x14 false x756000 x756001 x756002 x756003 x756004 x756005))
def codewrightlaw11_WordIndexes.j2 : Nat → List Int → List Int → Int → Int → Bool → Int → Int → List Int → Int → List Int → List Int → Option (Bool)
  | 0, _, _, _, _, _, _, _, _, _, _, _ => none
  | k + 1, x1, x2, x10, x14, x77, x756000, x756001, x756002, x756003, x756004, x756005 => if x77 = true then ((word_Clean.f k x756000 x756001 x756002 x756003 x756004 x756005 x1).bind fun bt772 => ((word_Clean.f k bt772.2.1 bt772.2.2.1 x756002 bt772.2.2.2 x756004 x756005 x2).bind fun bt778 => ((word_Compare.f k bt772.1 bt778.1).bind fun t784 => (if ((decide (t784 < 0)) != (decide (x10 < x14))) = true then (some false) else (if ((t784 == 0) != (x10 == x14)) = true then (some false) else ((word_Index.f k bt778.2.1 bt778.2.2.1 x756002 bt778.2.2.2 x756004 x756005 (([0, 1] : List Int))).bind fun bt788 => (if bt788.1 = 1 then (some (bt788.2.1 == 0)) else (some false)))))))) else ((word_Index.f k x756000 x756001 x756002 x756003 x756004 x756005 (([0, 1] : List Int))).bind fun bt796 => (if bt796.1 = 1 then (some (bt796.2.1 == 0)) else (some false)))
end
def codewrightlaw11_WordIndexes.f (k : Nat) (a0_0 : Int) (a0_1 : Int) (l0_2 : List Int) (l1 : List Int) (l2 : List Int) : Option (Bool) := (codewrightlaw11_open.f k a0_0 a0_1 l0_2).bind fun bt749 => (if bt749.2.2.2.2.2.2.1 = true then (some bt749.2.2.2.2.2.2.2) else ((word_Index.f k bt749.1 bt749.2.1 bt749.2.2.1 bt749.2.2.2.1 bt749.2.2.2.2.1 bt749.2.2.2.2.2.1 l1).bind fun bt758 => ((codewrightref11_Index.f k a0_0 a0_1 l0_2 l1).bind fun bt763 => (if bt758.1 = bt763.1 then (codewrightlaw11_WordIndexes.j0 k l1 l2 bt758.1 bt763.2 (bt758.2.1 != bt763.2) a0_0 a0_1 l0_2 bt758.2.2.1 bt758.2.2.2.1 bt749.2.2.1 bt758.2.2.2.2 bt749.2.2.2.2.1 bt749.2.2.2.2.2.1) else (codewrightlaw11_WordIndexes.j0 k l1 l2 bt758.1 bt763.2 true a0_0 a0_1 l0_2 bt758.2.2.1 bt758.2.2.2.1 bt749.2.2.1 bt758.2.2.2.2 bt749.2.2.2.2.1 bt749.2.2.2.2.2.1)))))
theorem codewrightlaw11_WordIndexes.mono_l : ∀ k, (∀ y0 y1 y2 y3 y4 y5 y6 y7 y8 y9 y10 y11 y12 y13, LeO (codewrightlaw11_WordIndexes.j0 k y0 y1 y2 y3 y4 y5 y6 y7 y8 y9 y10 y11 y12 y13) (codewrightlaw11_WordIndexes.j0 (k + 1) y0 y1 y2 y3 y4 y5 y6 y7 y8 y9 y10 y11 y12 y13)) ∧ (∀ y0 y1 y2 y3 y4 y5 y6 y7 y8 y9 y10 y11, LeO (codewrightlaw11_WordIndexes.j1 k y0 y1 y2 y3 y4 y5 y6 y7 y8 y9 y10 y11) (codewrightlaw11_WordIndexes.j1 (k + 1) y0 y1 y2 y3 y4 y5 y6 y7 y8 y9 y10 y11)) ∧ (∀ y0 y1 y2 y3 y4 y5 y6 y7 y8 y9 y10, LeO (codewrightlaw11_WordIndexes.j2 k y0 y1 y2 y3 y4 y5 y6 y7 y8 y9 y10) (codewrightlaw11_WordIndexes.j2 (k + 1) y0 y1 y2 y3 y4 y5 y6 y7 y8 y9 y10))
  | 0 => ⟨fun _ _ _ _ _ _ _ _ _ _ _ _ _ _ r h => by simp [codewrightlaw11_WordIndexes.j0] at h, fun _ _ _ _ _ _ _ _ _ _ _ _ r h => by simp [codewrightlaw11_WordIndexes.j1] at h, fun _ _ _ _ _ _ _ _ _ _ _ r h => by simp [codewrightlaw11_WordIndexes.j2] at h⟩
  | k + 1 => by
    obtain ⟨ih0, ih1, ih2⟩ := codewrightlaw11_WordIndexes.mono_l k
    refine ⟨?_, ?_, ?_⟩
    · intro y0 y1 y2 y3 y4 y5 y6 y7 y8 y9 y10 y11 y12 y13
      unfold codewrightlaw11_WordIndexes.j0
      repeat' first
      | (with_reducible exact ih0 _ _ _ _ _ _ _ _ _ _ _ _ _ _)
      | (with_reducible exact ih1 _ _ _ _ _ _ _ _ _ _ _ _)
      | (with_reducible exact ih2 _ _ _ _ _ _ _ _ _ _ _)
      | (with_reducible exact codewrightlaw11_open.mono _ _ _ _)
      | (with_reducible exact codewrightref11_Index.mono _ _ _ _ _)
      | (with_reducible exact word_Clean.mono _ _ _ _ _ _ _ _)
      | (with_reducible exact word_Compare.mono _ _ _)
      | (with_reducible exact word_Index.mono _ _ _ _ _ _ _ _)
      | (with_reducible exact LeO.refl _)
      | (with_reducible exact LeO.none _)
      | (with_reducible refine LeO.ite ?_ ?_)
      | (with_reducible refine LeO.bind ?_ (fun _ => ?_))
      | exact ih0 _ _ _ _ _ _ _ _ _ _ _ _ _ _
      | exact ih1 _ _ _ _ _ _ _ _ _ _ _ _
      | exact ih2 _ _ _ _ _ _ _ _ _ _ _
      | exact codewrightlaw11_open.mono _ _ _ _
      | exact codewrightref11_Index.mono _ _ _ _ _
      | exact word_Clean.mono _ _ _ _ _ _ _ _
      | exact word_Compare.mono _ _ _
      | exact word_Index.mono _ _ _ _ _ _ _ _
      | exact LeO.none _
      | refine LeO.ite ?_ ?_
      | refine LeO.bind ?_ (fun _ => ?_)
    · intro y0 y1 y2 y3 y4 y5 y6 y7 y8 y9 y10 y11
      unfold codewrightlaw11_WordIndexes.j1
      repeat' first
      | (with_reducible exact ih0 _ _ _ _ _ _ _ _ _ _ _ _ _ _)
      | (with_reducible exact ih1 _ _ _ _ _ _ _ _ _ _ _ _)
      | (with_reducible exact ih2 _ _ _ _ _ _ _ _ _ _ _)
      | (with_reducible exact codewrightlaw11_open.mono _ _ _ _)
      | (with_reducible exact codewrightref11_Index.mono _ _ _ _ _)
      | (with_reducible exact word_Clean.mono _ _ _ _ _ _ _ _)
      | (with_reducible exact word_Compare.mono _ _ _)
      | (with_reducible exact word_Index.mono _ _ _ _ _ _ _ _)
      | (with_reducible exact LeO.refl _)
      | (with_reducible exact LeO.none _)
      | (with_reducible refine LeO.ite ?_ ?_)
      | (with_reducible refine LeO.bind ?_ (fun _ => ?_))
      | exact ih0 _ _ _ _ _ _ _ _ _ _ _ _ _ _
      | exact ih1 _ _ _ _ _ _ _ _ _ _ _ _
      | exact ih2 _ _ _ _ _ _ _ _ _ _ _
      | exact codewrightlaw11_open.mono _ _ _ _
      | exact codewrightref11_Index.mono _ _ _ _ _
      | exact word_Clean.mono _ _ _ _ _ _ _ _
      | exact word_Compare.mono _ _ _
      | exact word_Index.mono _ _ _ _ _ _ _ _
      | exact LeO.none _
      | refine LeO.ite ?_ ?_
      | refine LeO.bind ?_ (fun _ => ?_)
    · intro y0 y1 y2 y3 y4 y5 y6 y7 y8 y9 y10
      unfold codewrightlaw11_WordIndexes.j2
      repeat' first
      | (with_reducible exact ih0 _ _ _ _ _ _ _ _ _ _ _ _ _ _)
      | (with_reducible exact ih1 _ _ _ _ _ _ _ _ _ _ _ _)
      | (with_reducible exact ih2 _ _ _ _ _ _ _ _ _ _ _)
      | (with_reducible exact codewrightlaw11_open.mono _ _ _ _)
      | (with_reducible exact codewrightref11_Index.mono _ _ _ _ _)
      | (with_reducible exact word_Clean.mono _ _ _ _ _ _ _ _)
      | (with_reducible exact word_Compare.mono _ _ _)
      | (with_reducible exact word_Index.mono _ _ _ _ _ _ _ _)
      | (with_reducible exact LeO.refl _)
      | (with_reducible exact LeO.none _)
      | (with_reducible refine LeO.ite ?_ ?_)
      | (with_reducible refine LeO.bind ?_ (fun _ => ?_))
      | exact ih0 _ _ _ _ _ _ _ _ _ _ _ _ _ _
      | exact ih1 _ _ _ _ _ _ _ _ _ _ _ _
      | exact ih2 _ _ _ _ _ _ _ _ _ _ _
      | exact codewrightlaw11_open.mono _ _ _ _
      | exact codewrightref11_Index.mono _ _ _ _ _
      | exact word_Clean.mono _ _ _ _ _ _ _ _
      | exact word_Compare.mono _ _ _
      | exact word_Index.mono _ _ _ _ _ _ _ _
      | exact LeO.none _
      | refine LeO.ite ?_ ?_
      | refine LeO.bind ?_ (fun _ => ?_)
theorem codewrightlaw11_WordIndexes.mono : ∀ a0 a1 a2 a3 a4 k, LeO (codewrightlaw11_WordIndexes.f k a0 a1 a2 a3 a4) (codewrightlaw11_WordIndexes.f (k + 1) a0 a1 a2 a3 a4) := by
  intro a0 a1 a2 a3 a4 k
  obtain ⟨ih0, ih1, ih2⟩ := codewrightlaw11_WordIndexes.mono_l k
  unfold codewrightlaw11_WordIndexes.f
  repeat' first
      | (with_reducible exact ih0 _ _ _ _ _ _ _ _ _ _ _ _ _ _)
      | (with_reducible exact ih1 _ _ _ _ _ _ _ _ _ _ _ _)
      | (with_reducible exact ih2 _ _ _ _ _ _ _ _ _ _ _)
      | (with_reducible exact codewrightlaw11_open.mono _ _ _ _)
      | (with_reducible exact codewrightref11_Index.mono _ _ _ _ _)
      | (with_reducible exact word_Clean.mono _ _ _ _ _ _ _ _)
      | (with_reducible exact word_Compare.mono _ _ _)
      | (with_reducible exact word_Index.mono _ _ _ _ _ _ _ _)
      | (with_reducible exact LeO.refl _)
      | (with_reducible exact LeO.none _)
      | (with_reducible refine LeO.ite ?_ ?_)
      | (with_reducible refine LeO.bind ?_ (fun _ => ?_))
      | exact ih0 _ _ _ _ _ _ _ _ _ _ _ _ _ _
      | exact ih1 _ _ _ _ _ _ _ _ _ _ _ _
      | exact ih2 _ _ _ _ _ _ _ _ _ _ _
      | exact codewrightlaw11_open.mono _ _ _ _
      | exact codewrightref11_Index.mono _ _ _ _ _
      | exact word_Clean.mono _ _ _ _ _ _ _ _
      | exact word_Compare.mono _ _ _
      | exact word_Index.mono _ _ _ _ _ _ _ _
      | exact LeO.none _
      | refine LeO.ite ?_ ?_
      | refine LeO.bind ?_ (fun _ => ?_)
set_option maxHeartbeats 8000000 in
set_option maxRecDepth 100000 in
theorem codewrightlaw11_WordIndexes.calls (k : Nat) (a0_0 : Int) (a0_1 : Int) (A0_2 : Option Addr) (c0_2 : Nat) (l0_2 : List Int) (A1 : Option Addr) (c1 : Nat) (l1 : List Int) (A2 : Option Addr) (c2 : Nat) (l2 : List Int) (r : Bool) (w : World) (hr0_2 : Kd.C (Kd.int .i64) w A0_2 l0_2.length l0_2) (hc0_2 : l0_2.length ≤ c0_2) (hr1 : Kd.C (Kd.int .i64) w A1 l1.length l1) (hc1 : l1.length ≤ c1) (hr2 : Kd.C (Kd.int .i64) w A2 l2.length l2) (hc2 : l2.length ≤ c2) (h : codewrightlaw11_WordIndexes.f k a0_0 a0_1 l0_2 l1 l2 = some r) :
    Calls Try.prog 11 #[.agg #[.int .i64 a0_0, .int .i64 a0_1, .slice A0_2 l0_2.length c0_2], .slice A1 l1.length c1, .slice A2 l2.length c2] w fun e w' => e = .returned (.bool r) ∧ Below w.heap.size w w' := by
  have hu24 := Try.underlying24
  have HR0_2 := Aside0.mk hr0_2
  have HC0_2 := Aside0.mk hc0_2
  clear hr0_2 hc0_2
  have HR1 := Aside0.mk hr1
  have HC1 := Aside0.mk hc1
  clear hr1 hc1
  have HR2 := Aside0.mk hr2
  have HC2 := Aside0.mk hc2
  clear hr2 hc2
  have HB := Aside0.mk (Below.refl w.heap.size w)
  have H : ((codewrightlaw11_open.f k a0_0 a0_1 l0_2).bind fun bt749 => (if bt749.2.2.2.2.2.2.1 = true then (some bt749.2.2.2.2.2.2.2) else ((word_Index.f k bt749.1 bt749.2.1 bt749.2.2.1 bt749.2.2.2.1 bt749.2.2.2.2.1 bt749.2.2.2.2.2.1 l1).bind fun bt758 => ((codewrightref11_Index.f k a0_0 a0_1 l0_2 l1).bind fun bt763 => (if bt758.1 = bt763.1 then (codewrightlaw11_WordIndexes.j0 k l1 l2 bt758.1 bt763.2 (bt758.2.1 != bt763.2) a0_0 a0_1 l0_2 bt758.2.2.1 bt758.2.2.2.1 bt749.2.2.1 bt758.2.2.2.2 bt749.2.2.2.2.1 bt749.2.2.2.2.2.1) else (codewrightlaw11_WordIndexes.j0 k l1 l2 bt758.1 bt763.2 true a0_0 a0_1 l0_2 bt758.2.2.1 bt758.2.2.2.1 bt749.2.2.1 bt758.2.2.2.2 bt749.2.2.2.2.1 bt749.2.2.2.2.2.1)))))) = some r := h
  clear h
  replace H := Option.bind_eq_some_iff.mp H
  obtain ⟨⟨t749, t750, t751, t752, t753, t754, t756, t757⟩, A40, H⟩ := H
  replace H : (if t756 = true then (some t757) else ((word_Index.f k t749 t750 t751 t752 t753 t754 l1).bind fun bt758 => ((codewrightref11_Index.f k a0_0 a0_1 l0_2 l1).bind fun bt763 => (if bt758.1 = bt763.1 then (codewrightlaw11_WordIndexes.j0 k l1 l2 bt758.1 bt763.2 (bt758.2.1 != bt763.2) a0_0 a0_1 l0_2 bt758.2.2.1 bt758.2.2.2.1 t751 bt758.2.2.2.2 t753 t754) else (codewrightlaw11_WordIndexes.j0 k l1 l2 bt758.1 bt763.2 true a0_0 a0_1 l0_2 bt758.2.2.1 bt758.2.2.2.1 t751 bt758.2.2.2.2 t753 t754))))) = some r := H
  have A4 := Aside0.mk A40
  clear A40
  by_cases c5 : t756 = true
  · subst c5
    exact absurd (codewrightlaw11_open.not_done A4.out) (by decide)
  · replace c5 := Bool.eq_false_iff.mpr c5
    subst c5
    have H1 : ((word_Index.f k t749 t750 t751 t752 t753 t754 l1).bind fun bt758 => ((codewrightref11_Index.f k a0_0 a0_1 l0_2 l1).bind fun bt763 => (if bt758.1 = bt763.1 then (codewrightlaw11_WordIndexes.j0 k l1 l2 bt758.1 bt763.2 (bt758.2.1 != bt763.2) a0_0 a0_1 l0_2 bt758.2.2.1 bt758.2.2.2.1 t751 bt758.2.2.2.2 t753 t754) else (codewrightlaw11_WordIndexes.j0 k l1 l2 bt758.1 bt763.2 true a0_0 a0_1 l0_2 bt758.2.2.1 bt758.2.2.2.1 t751 bt758.2.2.2.2 t753 t754)))) = some r := by rw [if_neg (show ¬ (false = true) by decide)] at H; exact H
    clear H
    have H := H1
    clear H1
    replace H := Option.bind_eq_some_iff.mp H
    obtain ⟨⟨t758, t759, t760, t761, t762⟩, A90, H⟩ := H
    replace H : ((codewrightref11_Index.f k a0_0 a0_1 l0_2 l1).bind fun bt763 => (if t758 = bt763.1 then (codewrightlaw11_WordIndexes.j0 k l1 l2 t758 bt763.2 (t759 != bt763.2) a0_0 a0_1 l0_2 t760 t761 t751 t762 t753 t754) else (codewrightlaw11_WordIndexes.j0 k l1 l2 t758 bt763.2 true a0_0 a0_1 l0_2 t760 t761 t751 t762 t753 t754))) = some r := H
    have A9 := Aside0.mk A90
    clear A90
    replace H := Option.bind_eq_some_iff.mp H
    obtain ⟨⟨t763, t764⟩, A100, H⟩ := H
    replace H : (if t758 = t763 then (codewrightlaw11_WordIndexes.j0 k l1 l2 t758 t764 (t759 != t764) a0_0 a0_1 l0_2 t760 t761 t751 t762 t753 t754) else (codewrightlaw11_WordIndexes.j0 k l1 l2 t758 t764 true a0_0 a0_1 l0_2 t760 t761 t751 t762 t753 t754)) = some r := H
    have A10 := Aside0.mk A100
    clear A100
    have HC11 := Aside0.mk H
    clear H
    go_enter Try.func11, Try.ntmps11
    go_upto_region 6 with (first | ((with_reducible refine gate_dst (N := 3) rfl ?_); refine box_event ?hg (N := 3) ?hd (cs := #[.int .i64 a0_0, .int .i64 a0_1, .slice A0_2 l0_2.length c0_2]) (t := 24) ?hr ?_; (case hd => rfl); (case hg => rfl); (case hr => first | (go_simp; done) | (go_simp; rfl)); intro gb748 hg w12 hbox hb; have n0_ := Aside0.mk (below_step (by repeat (first | (with_reducible first | exact HB.out | apply below_alloc | apply pw_below_drewN | apply below_drew1) | exact HB.out)) hb); have n1_ := Aside0.mk (hbox); have n2_ := Aside0.mk ((by rw [hg]; exact (below_size (by repeat (first | (with_reducible first | exact HB.out | apply below_alloc | apply pw_below_drewN | apply below_drew1) | exact HB.out))) : w.heap.size ≤ gb748)); have n3_ := Aside0.mk ((by rw [hg]; exact (below_size (by repeat (first | (with_reducible first | exact HB.out | apply below_alloc | apply pw_below_drewN | apply below_drew1) | exact HB.out))) : w.heap.size ≤ gb748)); clear HB; have HB := n0_; have BK748 := n1_; have GW748 := n2_; have GE748 := n3_; clear n0_ n1_ n2_ n3_; clear hb hbox hg; have hcz13_0 : w12.cell? ⟨gb748, 0, none⟩ = some (.int .i64 a0_0) := (blk_cell BK748.out 0).trans rfl; have hcz13_1 : w12.cell? ⟨gb748, 1, none⟩ = some (.int .i64 a0_1) := (blk_cell BK748.out 1).trans rfl; have hcz13_2 : w12.cell? ⟨gb748, 2, none⟩ = some (.slice A0_2 l0_2.length c0_2) := (blk_cell BK748.out 2).trans rfl; have hfz13_0 := blk_frozen BK748.out 0; have hfz13_1 := blk_frozen BK748.out 1; have hfz13_2 := blk_frozen BK748.out 2) | ((with_reducible refine gate_callee (f := 12) rfl ?_); refine goesL_ (some 23) rfl rfl Try.func12 (by kernel_rfl) rfl #[.agg #[.int .i64 a0_0, .int .i64 a0_1, .slice A0_2 l0_2.length c0_2]] rfl (by (try simp only [List.map_toArray, List.map_cons, List.map_nil]); first | done | rfl | (simp only [List.length_drop, List.length_take]; rfl)) ?_; (with_reducible refine (codewrightlaw11_open.calls k a0_0 a0_1 _ _ l0_2 t749 t750 t751 t752 t753 t754 false t757 w _ ?side1 ?side2 ?side3 A4.out).mono ?_); (case side1 => repeat (first | (with_reducible first | exact HB.out | apply below_alloc | apply pw_below_drewN | apply below_drew1 | refine below_set ?_ GE748.out) | exact HB.out)); (case side2 => exact HR0_2.out); (case side3 => exact HC0_2.out); rintro e w14 ⟨⟨_, _⟩, g755, rfl, ub_, hu1_, hi, hb, hb2⟩; refine ⟨_, rfl, ?_⟩; have HBW := Aside0.mk (below_tr (show Below w.heap.size w _ by repeat (first | (with_reducible first | exact HB.out | apply below_alloc | apply pw_below_drewN | apply below_drew1 | refine below_set ?_ GE748.out) | exact HB.out)) hu1_); have HR0_2_ := Aside0.mk (Kd.C_below (Kd.C_below HR0_2.out (show Below w.heap.size w _ by repeat (first | (with_reducible first | exact HB.out | apply below_alloc | apply pw_below_drewN | apply below_drew1 | refine below_set ?_ GE748.out) | exact HB.out))) hu1_); clear HR0_2; have HR0_2 := HR0_2_; clear HR0_2_; have HR1_ := Aside0.mk (Kd.C_below (Kd.C_below HR1.out (show Below w.heap.size w _ by repeat (first | (with_reducible first | exact HB.out | apply below_alloc | apply pw_below_drewN | apply below_drew1 | refine below_set ?_ GE748.out) | exact HB.out))) hu1_); clear HR1; have HR1 := HR1_; clear HR1_; have HR2_ := Aside0.mk (Kd.C_below (Kd.C_below HR2.out (show Below w.heap.size w _ by repeat (first | (with_reducible first | exact HB.out | apply below_alloc | apply pw_below_drewN | apply below_drew1 | refine below_set ?_ GE748.out) | exact HB.out))) hu1_); clear HR2; have HR2 := HR2_; clear HR2_; obtain ⟨w, hw_⟩ : ∃ x, x = ub_ := ⟨_, rfl⟩; subst hw_; have n0_ := Aside0.mk (blk_below (g := gb748) (o := .cells #[.int .i64 a0_0, .int .i64 a0_1, .slice A0_2 l0_2.length c0_2] 24 (0, 0)) (by (with_reducible repeat (first | refine blk_drewN ?_ _ | refine blk_drew ?_ | refine blk_alloc ?_ _)); exact BK748.out) hb2); have n1_ := Aside0.mk (hb); have n2_ := Aside0.mk (hi); have n3_ := Aside0.mk (IsS87.ne_blk hi (blk_below (g := gb748) (o := .cells #[.int .i64 a0_0, .int .i64 a0_1, .slice A0_2 l0_2.length c0_2] 24 (0, 0)) (by (with_reducible repeat (first | refine blk_drewN ?_ _ | refine blk_drew ?_ | refine blk_alloc ?_ _)); exact BK748.out) hb2) (by decide)); have n4_ := Aside0.mk (Ne.symm (IsS87.ne_blk hi (blk_below (g := gb748) (o := .cells #[.int .i64 a0_0, .int .i64 a0_1, .slice A0_2 l0_2.length c0_2] 24 (0, 0)) (by (with_reducible repeat (first | refine blk_drewN ?_ _ | refine blk_drew ?_ | refine blk_alloc ?_ _)); exact BK748.out) hb2) (by decide))); clear BK748; clear HB; have BK748 := n0_; have HB := n1_; have HI755 := n2_; have NB755_748 := n3_; have NB748_755 := n4_; clear n0_ n1_ n2_ n3_ n4_; (try clear hb); (try clear hb2); (try clear hk); (try clear hi)) | ((with_reducible refine gate_callee (f := 33) rfl ?_); refine goesL_ (some 32) rfl rfl Try.func33 (by kernel_rfl) rfl #[.pointer (some ⟨g755, 0, none⟩), .slice A1 l1.length c1] rfl (by (try simp only [List.map_toArray, List.map_cons, List.map_nil]); first | done | rfl | (simp only [List.length_drop, List.length_take]; rfl)) ?_; (with_reducible refine (word_Index.calls k g755 t749 t750 t751 t752 t753 t754 _ _ l1 t758 t759 t760 t761 t762 w _ ?side1 ?side2 ?side3 ?side4 ?side5 A9.out).mono ?_); (case side1 => repeat (first | (with_reducible first | exact HI755.out | apply IsS87.alloc | apply IsS87.drewN | apply IsS87.drew | apply IsS87.set_0 | apply IsS87.set_1 | apply IsS87.set_3 | refine IsS87.far ?_ NB755_748.out _) | exact HI755.out)); (case side2 => repeat (first | (with_reducible first | exact HB.out | apply below_alloc | apply pw_below_drewN | apply below_drew1 | refine below_set ?_ (IsS87.ge HI755.out) | refine below_set ?_ GE748.out) | exact HB.out)); (case side3 => repeat (first | exact (Kd.C_below HR1.out HB.out) | (with_reducible refine Kd.C_alloc ?_ _) | (with_reducible refine Kd.C_drewN ?_ _) | (with_reducible refine Kd.C_drew ?_))); (case side4 => exact HC1.out); (case side5 => exact Kd.far_C 0 HR1.out (IsS87.ge HI755.out)); rintro e w15 ⟨rfl, hi, hb, hk⟩; refine ⟨_, rfl, ?_⟩; have n0_ := Aside0.mk (KeepBut.blk hk (g' := gb748) (o := .cells #[.int .i64 a0_0, .int .i64 a0_1, .slice A0_2 l0_2.length c0_2] 24 (0, 0)) (by (with_reducible repeat (first | refine blk_drewN ?_ _ | refine blk_drew ?_ | refine blk_alloc ?_ _)); exact BK748.out) NB748_755.out (by simp)); have n1_ := Aside0.mk (hb); have n2_ := Aside0.mk (hi); clear BK748; clear HB; clear HI755; have BK748 := n0_; have HB := n1_; have HI755 := n2_; clear n0_ n1_ n2_; (try clear hb); (try clear hb2); (try clear hk); (try clear hi); have hnb16 := NB748_755.out; have hnc16 := NB755_748.out; have hcz17_0 : w15.cell? ⟨gb748, 0, none⟩ = some (.int .i64 a0_0) := (blk_cell BK748.out 0).trans rfl; have hcz17_1 : w15.cell? ⟨gb748, 1, none⟩ = some (.int .i64 a0_1) := (blk_cell BK748.out 1).trans rfl; have hcz17_2 : w15.cell? ⟨gb748, 2, none⟩ = some (.slice A0_2 l0_2.length c0_2) := (blk_cell BK748.out 2).trans rfl; have hfz17_0 := blk_frozen BK748.out 0; have hfz17_1 := blk_frozen BK748.out 1; have hfz17_2 := blk_frozen BK748.out 2) | ((with_reducible refine gate_callee (f := 37) rfl ?_); refine goesL_ (some 38) rfl rfl Try.func37 (by kernel_rfl) rfl #[.agg #[.int .i64 a0_0, .int .i64 a0_1, .slice A0_2 l0_2.length c0_2], .slice A1 l1.length c1] rfl (by (try simp only [List.map_toArray, List.map_cons, List.map_nil]); first | done | rfl | (simp only [List.length_drop, List.length_take]; rfl)) ?_; (with_reducible refine (codewrightref11_Index.calls k a0_0 a0_1 _ _ l0_2 _ _ l1 t763 t764 _ ?side1 ?side2 ?side3 ?side4 A10.out).mono ?_); (case side1 => repeat (first | exact (Kd.C_below HR0_2.out HB.out) | (with_reducible refine Kd.C_alloc ?_ _) | (with_reducible refine Kd.C_drewN ?_ _) | (with_reducible refine Kd.C_drew ?_))); (case side2 => exact HC0_2.out); (case side3 => repeat (first | exact (Kd.C_below HR1.out HB.out) | (with_reducible refine Kd.C_alloc ?_ _) | (with_reducible refine Kd.C_drewN ?_ _) | (with_reducible refine Kd.C_drew ?_))); (case side4 => exact HC1.out); rintro e w18 ⟨rfl, hb⟩; refine ⟨_, rfl, ?_⟩; have n0_ := Aside0.mk (blk_below (g := gb748) (o := .cells #[.int .i64 a0_0, .int .i64 a0_1, .slice A0_2 l0_2.length c0_2] 24 (0, 0)) (by (with_reducible repeat (first | refine blk_drewN ?_ _ | refine blk_drew ?_ | refine blk_alloc ?_ _)); exact BK748.out) hb); have n1_ := Aside0.mk (IsS87.below (by repeat (first | (with_reducible first | exact HI755.out | apply IsS87.alloc | apply IsS87.drewN | apply IsS87.drew | apply IsS87.set_0 | apply IsS87.set_1 | apply IsS87.set_3 | refine IsS87.far ?_ NB755_748.out _) | exact HI755.out)) hb); have n2_ := Aside0.mk (below_step (by repeat (first | (with_reducible first | exact HB.out | apply below_alloc | apply pw_below_drewN | apply below_drew1 | refine below_set ?_ (IsS87.ge HI755.out) | refine below_set ?_ GE748.out) | exact HB.out)) hb); clear BK748; clear HI755; clear HB; have BK748 := n0_; have HI755 := n1_; have HB := n2_; clear n0_ n1_ n2_; (try clear hb); (try clear hb2); (try clear hk); (try clear hi)))
    (try simp only [Act.put, List.setIfInBounds_toArray, List.set_cons_zero, List.set_cons_succ])
    go_cut [48] (fun v48 wc => ∃ (kq : Nat) (x48_10 : Bool), v48 = .bool x48_10 ∧ Aside0 (codewrightlaw11_WordIndexes.j0 kq l1 l2 t758 t764 x48_10 a0_0 a0_1 l0_2 t760 t761 t751 t762 t753 t754 = some r) ∧ Aside0 (kq ≤ k) ∧ Aside0 (wc.heap[gb748]? = some (.cells #[.int .i64 a0_0, .int .i64 a0_1, (.slice A0_2 l0_2.length c0_2)] 24 (0, 0))) ∧ Aside0 (IsS87 w wc g755 t760 t761 t751 t762 t753 t754) ∧ Aside0 (Below w.heap.size w wc))
    case first =>
      have H := HC11.out
      clear HC11
      by_cases c19 : t758 = t763
      · rw [if_pos c19] at H
        have c19b0 : (t758 == t763) = true := beq_iff_eq.mpr c19
        have c19b1 : (t758 != t763) = false := bne_eq_false_iff_eq.mpr c19
        clear c19
        (first | rw [c19b0] | (simp only [i64_w, i32_w]; rw [c19b0]) | skip)
        have H' := Aside0.mk H
        clear H
        go_wp2
        go_meet
        case rel => exact ⟨_, ((t759 != t764)), (by first | rfl | (simp; done) | (simp [*]; done)), H', ⟨by first | omega | exact Nat.le_refl _⟩, ⟨by (with_reducible repeat (first | refine blk_drewN ?_ _ | refine blk_drew ?_ | refine blk_alloc ?_ _)); exact BK748.out⟩, ⟨by repeat (first | (with_reducible first | exact HI755.out | apply IsS87.alloc | apply IsS87.drewN | apply IsS87.drew | apply IsS87.set_0 | apply IsS87.set_1 | apply IsS87.set_3 | refine IsS87.far ?_ NB755_748.out _) | exact HI755.out)⟩, ⟨by repeat (first | (with_reducible first | exact HB.out | apply below_alloc | apply pw_below_drewN | apply below_drew1 | refine below_set ?_ (IsS87.ge HI755.out) | refine below_set ?_ GE748.out) | exact HB.out)⟩⟩
      · rw [if_neg c19] at H
        have c19b0 : (t758 == t763) = false := beq_eq_false_iff_ne.mpr c19
        have c19b1 : (t758 != t763) = true := bne_iff_ne.mpr c19
        (first | rw [c19b0] | (simp only [i64_w, i32_w]; rw [c19b0]) | skip)
        have H' := Aside0.mk H
        clear H
        go_wp2
        go_meet
        case rel => exact ⟨_, (true), (by first | rfl | (simp; done) | (simp [*]; done)), H', ⟨by first | omega | exact Nat.le_refl _⟩, ⟨by (with_reducible repeat (first | refine blk_drewN ?_ _ | refine blk_drew ?_ | refine blk_alloc ?_ _)); exact BK748.out⟩, ⟨by repeat (first | (with_reducible first | exact HI755.out | apply IsS87.alloc | apply IsS87.drewN | apply IsS87.drew | apply IsS87.set_0 | apply IsS87.set_1 | apply IsS87.set_3 | refine IsS87.far ?_ NB755_748.out _) | exact HI755.out)⟩, ⟨by repeat (first | (with_reducible first | exact HB.out | apply below_alloc | apply pw_below_drewN | apply below_drew1 | refine below_set ?_ (IsS87.ge HI755.out) | refine below_set ?_ GE748.out) | exact HB.out)⟩⟩
    case rest =>
      clear HC11
      try clear c1
      try clear c2
      try clear p2
      try clear c3
      try clear c5
      try clear c11
      try clear c12
      try clear c16
      try clear c19
      try clear c19b0
      try clear c19b1
      try clear hcz13_0
      try clear hcz13_1
      try clear hcz13_2
      try clear hcz17_0
      try clear hcz17_1
      try clear hcz17_2
      try clear hcz7_0
      try clear hcz7_1
      try clear hcz7_2
      try clear hfz13_0
      try clear hfz13_1
      try clear hfz13_2
      try clear hfz17_0
      try clear hfz17_1
      try clear hfz17_2
      try clear hfz7_0
      try clear hfz7_1
      try clear hfz7_2
      obtain ⟨kq, x48_10, rfl, HA, HJ10, BK748, HI755, HB⟩ := hcut
      cases kq with
      | zero => exact absurd HA.out (by simp [codewrightlaw11_WordIndexes.j0])
      | succ kj10 =>
        have H := HA.out
        clear HA
        simp only [codewrightlaw11_WordIndexes.j0] at H
        by_cases c20 : x48_10 = true
        · subst c20
          have H1 : (some false) = some r := by rw [if_pos rfl] at H; exact H
          clear H
          have H := H1
          clear H1
          obtain rfl := Option.some.inj H
          go_wp2
          go_ret
          exact ⟨by first | rfl | (simp [errW_none, errW_some] <;> rfl) | (simp [*, errW_none, errW_some] <;> rfl), by repeat (first | (with_reducible first | exact HB.out | apply below_alloc | apply pw_below_drewN | apply below_drew1 | refine below_set ?_ (IsS87.ge HI755.out) | refine below_set ?_ GE748.out) | exact HB.out | exact below_tr HBW.out HB.out)⟩
        · replace c20 := Bool.eq_false_iff.mpr c20
          subst c20
          have H1 : ((word_Index.f kj10 t760 t761 t751 t762 t753 t754 l2).bind fun bt765 => ((codewrightref11_Index.f kj10 a0_0 a0_1 l0_2 l2).bind fun bt770 => (if bt765.1 = bt770.1 then (codewrightlaw11_WordIndexes.j1 kj10 l1 l2 t758 t764 bt765.1 (bt765.2.1 != bt770.2) bt765.2.2.1 bt765.2.2.2.1 t751 bt765.2.2.2.2 t753 t754) else (codewrightlaw11_WordIndexes.j1 kj10 l1 l2 t758 t764 bt765.1 true bt765.2.2.1 bt765.2.2.2.1 t751 bt765.2.2.2.2 t753 t754)))) = some r := by rw [if_neg (show ¬ (false = true) by decide)] at H; exact H
          clear H
          have H := H1
          clear H1
          replace H := Option.bind_eq_some_iff.mp H
          obtain ⟨⟨t765, t766, t767, t768, t769⟩, A210, H⟩ := H
          replace H : ((codewrightref11_Index.f kj10 a0_0 a0_1 l0_2 l2).bind fun bt770 => (if t765 = bt770.1 then (codewrightlaw11_WordIndexes.j1 kj10 l1 l2 t758 t764 t765 (t766 != bt770.2) t767 t768 t751 t769 t753 t754) else (codewrightlaw11_WordIndexes.j1 kj10 l1 l2 t758 t764 t765 true t767 t768 t751 t769 t753 t754))) = some r := H
          have A21 := Aside0.mk A210
          clear A210
          replace H := Option.bind_eq_some_iff.mp H
          obtain ⟨⟨t770, t771⟩, A220, H⟩ := H
          replace H : (if t765 = t770 then (codewrightlaw11_WordIndexes.j1 kj10 l1 l2 t758 t764 t765 (t766 != t771) t767 t768 t751 t769 t753 t754) else (codewrightlaw11_WordIndexes.j1 kj10 l1 l2 t758 t764 t765 true t767 t768 t751 t769 t753 t754)) = some r := H
          have A22 := Aside0.mk A220
          clear A220
          have HC23 := Aside0.mk H
          clear H
          go_upto_region 10 with (first | ((with_reducible refine gate_callee (f := 33) rfl ?_); refine goesL_ (some 52) rfl rfl Try.func33 (by kernel_rfl) rfl #[.pointer (some ⟨g755, 0, none⟩), .slice A2 l2.length c2] rfl (by (try simp only [List.map_toArray, List.map_cons, List.map_nil]); first | done | rfl | (simp only [List.length_drop, List.length_take]; rfl)) ?_; (with_reducible refine (word_Index.calls kj10 g755 t760 t761 t751 t762 t753 t754 _ _ l2 t765 t766 t767 t768 t769 w _ ?side1 ?side2 ?side3 ?side4 ?side5 A21.out).mono ?_); (case side1 => repeat (first | (with_reducible first | exact HI755.out | apply IsS87.alloc | apply IsS87.drewN | apply IsS87.drew | apply IsS87.set_0 | apply IsS87.set_1 | apply IsS87.set_3 | refine IsS87.far ?_ NB755_748.out _) | exact HI755.out)); (case side2 => repeat (first | (with_reducible first | exact HB.out | apply below_alloc | apply pw_below_drewN | apply below_drew1 | refine below_set ?_ (IsS87.ge HI755.out) | refine below_set ?_ GE748.out) | exact HB.out)); (case side3 => repeat (first | exact (Kd.C_below HR2.out HB.out) | (with_reducible refine Kd.C_alloc ?_ _) | (with_reducible refine Kd.C_drewN ?_ _) | (with_reducible refine Kd.C_drew ?_))); (case side4 => exact HC2.out); (case side5 => exact Kd.far_C 0 HR2.out (IsS87.ge HI755.out)); rintro e w24 ⟨rfl, hi, hb, hk⟩; refine ⟨_, rfl, ?_⟩; have n0_ := Aside0.mk (KeepBut.blk hk (g' := gb748) (o := .cells #[.int .i64 a0_0, .int .i64 a0_1, .slice A0_2 l0_2.length c0_2] 24 (0, 0)) (by (with_reducible repeat (first | refine blk_drewN ?_ _ | refine blk_drew ?_ | refine blk_alloc ?_ _)); exact BK748.out) NB748_755.out (by simp)); have n1_ := Aside0.mk (hb); have n2_ := Aside0.mk (hi); clear BK748; clear HB; clear HI755; have BK748 := n0_; have HB := n1_; have HI755 := n2_; clear n0_ n1_ n2_; (try clear hb); (try clear hb2); (try clear hk); (try clear hi); have hnb25 := NB748_755.out; have hnc25 := NB755_748.out; have hcz26_0 : w24.cell? ⟨gb748, 0, none⟩ = some (.int .i64 a0_0) := (blk_cell BK748.out 0).trans rfl; have hcz26_1 : w24.cell? ⟨gb748, 1, none⟩ = some (.int .i64 a0_1) := (blk_cell BK748.out 1).trans rfl; have hcz26_2 : w24.cell? ⟨gb748, 2, none⟩ = some (.slice A0_2 l0_2.length c0_2) := (blk_cell BK748.out 2).trans rfl; have hfz26_0 := blk_frozen BK748.out 0; have hfz26_1 := blk_frozen BK748.out 1; have hfz26_2 := blk_frozen BK748.out 2) | ((with_reducible refine gate_callee (f := 37) rfl ?_); refine goesL_ (some 58) rfl rfl Try.func37 (by kernel_rfl) rfl #[.agg #[.int .i64 a0_0, .int .i64 a0_1, .slice A0_2 l0_2.length c0_2], .slice A2 l2.length c2] rfl (by (try simp only [List.map_toArray, List.map_cons, List.map_nil]); first | done | rfl | (simp only [List.length_drop, List.length_take]; rfl)) ?_; (with_reducible refine (codewrightref11_Index.calls kj10 a0_0 a0_1 _ _ l0_2 _ _ l2 t770 t771 _ ?side1 ?side2 ?side3 ?side4 A22.out).mono ?_); (case side1 => repeat (first | exact (Kd.C_below HR0_2.out HB.out) | (with_reducible refine Kd.C_alloc ?_ _) | (with_reducible refine Kd.C_drewN ?_ _) | (with_reducible refine Kd.C_drew ?_))); (case side2 => exact HC0_2.out); (case side3 => repeat (first | exact (Kd.C_below HR2.out HB.out) | (with_reducible refine Kd.C_alloc ?_ _) | (with_reducible refine Kd.C_drewN ?_ _) | (with_reducible refine Kd.C_drew ?_))); (case side4 => exact HC2.out); rintro e w27 ⟨rfl, hb⟩; refine ⟨_, rfl, ?_⟩; have n0_ := Aside0.mk (blk_below (g := gb748) (o := .cells #[.int .i64 a0_0, .int .i64 a0_1, .slice A0_2 l0_2.length c0_2] 24 (0, 0)) (by (with_reducible repeat (first | refine blk_drewN ?_ _ | refine blk_drew ?_ | refine blk_alloc ?_ _)); exact BK748.out) hb); have n1_ := Aside0.mk (IsS87.below (by repeat (first | (with_reducible first | exact HI755.out | apply IsS87.alloc | apply IsS87.drewN | apply IsS87.drew | apply IsS87.set_0 | apply IsS87.set_1 | apply IsS87.set_3 | refine IsS87.far ?_ NB755_748.out _) | exact HI755.out)) hb); have n2_ := Aside0.mk (below_step (by repeat (first | (with_reducible first | exact HB.out | apply below_alloc | apply pw_below_drewN | apply below_drew1 | refine below_set ?_ (IsS87.ge HI755.out) | refine below_set ?_ GE748.out) | exact HB.out)) hb); clear BK748; clear HI755; clear HB; have BK748 := n0_; have HI755 := n1_; have HB := n2_; clear n0_ n1_ n2_; (try clear hb); (try clear hb2); (try clear hk); (try clear hi)))
          (try simp only [Act.put, List.setIfInBounds_toArray, List.set_cons_zero, List.set_cons_succ])
          go_cut [68] (fun v68 wc => ∃ (kq : Nat) (x68_22 : Bool), v68 = .bool x68_22 ∧ Aside0 (codewrightlaw11_WordIndexes.j1 kq l1 l2 t758 t764 t765 x68_22 t767 t768 t751 t769 t753 t754 = some r) ∧ Aside0 (kq ≤ kj10) ∧ Aside0 (wc.heap[gb748]? = some (.cells #[.int .i64 a0_0, .int .i64 a0_1, (.slice A0_2 l0_2.length c0_2)] 24 (0, 0))) ∧ Aside0 (IsS87 w wc g755 t767 t768 t751 t769 t753 t754) ∧ Aside0 (Below w.heap.size w wc))
          case first =>
            have H := HC23.out
            clear HC23
            by_cases c28 : t765 = t770
            · rw [if_pos c28] at H
              have c28b0 : (t765 == t770) = true := beq_iff_eq.mpr c28
              have c28b1 : (t765 != t770) = false := bne_eq_false_iff_eq.mpr c28
              clear c28
              (first | rw [c28b0] | (simp only [i64_w, i32_w]; rw [c28b0]) | skip)
              have H' := Aside0.mk H
              clear H
              go_wp2
              go_meet
              case rel => exact ⟨_, ((t766 != t771)), (by first | rfl | (simp; done) | (simp [*]; done)), H', ⟨by have := HJ10.out; first | omega | exact Nat.le_refl _⟩, ⟨by (with_reducible repeat (first | refine blk_drewN ?_ _ | refine blk_drew ?_ | refine blk_alloc ?_ _)); exact BK748.out⟩, ⟨by repeat (first | (with_reducible first | exact HI755.out | apply IsS87.alloc | apply IsS87.drewN | apply IsS87.drew | apply IsS87.set_0 | apply IsS87.set_1 | apply IsS87.set_3 | refine IsS87.far ?_ NB755_748.out _) | exact HI755.out)⟩, ⟨by repeat (first | (with_reducible first | exact HB.out | apply below_alloc | apply pw_below_drewN | apply below_drew1 | refine below_set ?_ (IsS87.ge HI755.out) | refine below_set ?_ GE748.out) | exact HB.out)⟩⟩
            · rw [if_neg c28] at H
              have c28b0 : (t765 == t770) = false := beq_eq_false_iff_ne.mpr c28
              have c28b1 : (t765 != t770) = true := bne_iff_ne.mpr c28
              (first | rw [c28b0] | (simp only [i64_w, i32_w]; rw [c28b0]) | skip)
              have H' := Aside0.mk H
              clear H
              go_wp2
              go_meet
              case rel => exact ⟨_, (true), (by first | rfl | (simp; done) | (simp [*]; done)), H', ⟨by have := HJ10.out; first | omega | exact Nat.le_refl _⟩, ⟨by (with_reducible repeat (first | refine blk_drewN ?_ _ | refine blk_drew ?_ | refine blk_alloc ?_ _)); exact BK748.out⟩, ⟨by repeat (first | (with_reducible first | exact HI755.out | apply IsS87.alloc | apply IsS87.drewN | apply IsS87.drew | apply IsS87.set_0 | apply IsS87.set_1 | apply IsS87.set_3 | refine IsS87.far ?_ NB755_748.out _) | exact HI755.out)⟩, ⟨by repeat (first | (with_reducible first | exact HB.out | apply below_alloc | apply pw_below_drewN | apply below_drew1 | refine below_set ?_ (IsS87.ge HI755.out) | refine below_set ?_ GE748.out) | exact HB.out)⟩⟩
          case rest =>
            clear HC23
            try clear c1
            try clear c2
            try clear p2
            try clear c3
            try clear c5
            try clear c11
            try clear c12
            try clear c16
            try clear c19
            try clear c19b0
            try clear c19b1
            try clear c20
            try clear c25
            try clear c28
            try clear c28b0
            try clear c28b1
            try clear hcz13_0
            try clear hcz13_1
            try clear hcz13_2
            try clear hcz17_0
            try clear hcz17_1
            try clear hcz17_2
            try clear hcz26_0
            try clear hcz26_1
            try clear hcz26_2
            try clear hcz7_0
            try clear hcz7_1
            try clear hcz7_2
            try clear hfz13_0
            try clear hfz13_1
            try clear hfz13_2
            try clear hfz17_0
            try clear hfz17_1
            try clear hfz17_2
            try clear hfz26_0
            try clear hfz26_1
            try clear hfz26_2
            try clear hfz7_0
            try clear hfz7_1
            try clear hfz7_2
            try clear p2
            obtain ⟨kq, x68_22, rfl, HA, HJ22, BK748, HI755, HB⟩ := hcut
            cases kq with
            | zero => exact absurd HA.out (by simp [codewrightlaw11_WordIndexes.j1])
            | succ kj22 =>
              have H := HA.out
              clear HA
              simp only [codewrightlaw11_WordIndexes.j1] at H
              by_cases c29 : x68_22 = true
              · subst c29
                have H1 : (some false) = some r := by rw [if_pos rfl] at H; exact H
                clear H
                have H := H1
                clear H1
                obtain rfl := Option.some.inj H
                go_wp2
                go_ret
                exact ⟨by first | rfl | (simp [errW_none, errW_some] <;> rfl) | (simp [*, errW_none, errW_some] <;> rfl), by repeat (first | (with_reducible first | exact HB.out | apply below_alloc | apply pw_below_drewN | apply below_drew1 | refine below_set ?_ (IsS87.ge HI755.out) | refine below_set ?_ GE748.out) | exact HB.out | exact below_tr HBW.out HB.out)⟩
              · replace c29 := Bool.eq_false_iff.mpr c29
                subst c29
                have H1 : (if (l1.length : Int) = (l2.length : Int) then (codewrightlaw11_WordIndexes.j2 kj22 l1 l2 t758 t765 (t764 == 0) t767 t768 t751 t769 t753 t754) else (codewrightlaw11_WordIndexes.j2 kj22 l1 l2 t758 t765 false t767 t768 t751 t769 t753 t754)) = some r := by rw [if_neg (show ¬ (false = true) by decide)] at H; exact H
                clear H
                have H := H1
                clear H1
                have HC30 := Aside0.mk H
                clear H
                go_upto_region 12 with (fail)
                go_cut [77] (fun v77 wc => ∃ (kq : Nat) (x77_29 : Bool), v77 = .bool x77_29 ∧ Aside0 (codewrightlaw11_WordIndexes.j2 kq l1 l2 t758 t765 x77_29 t767 t768 t751 t769 t753 t754 = some r) ∧ Aside0 (kq ≤ kj22) ∧ Aside0 (wc.heap[gb748]? = some (.cells #[.int .i64 a0_0, .int .i64 a0_1, (.slice A0_2 l0_2.length c0_2)] 24 (0, 0))) ∧ Aside0 (IsS87 w wc g755 t767 t768 t751 t769 t753 t754) ∧ Aside0 (Below w.heap.size w wc))
                case first =>
                  have H := HC30.out
                  clear HC30
                  by_cases c31 : (l1.length : Int) = (l2.length : Int)
                  · rw [if_pos c31] at H
                    have c31b0 : ((l1.length : Int) == (l2.length : Int)) = true := beq_iff_eq.mpr c31
                    have c31b1 : ((l1.length : Int) != (l2.length : Int)) = false := bne_eq_false_iff_eq.mpr c31
                    have c31b2 : (l1.length == l2.length) = true := by first | simpa using c31 | (simp at c31 ⊢; omega)
                    clear c31
                    (first | rw [c31b0] | (simp only [i64_w, i32_w]; rw [c31b0]) | skip)
                    have H' := Aside0.mk H
                    clear H
                    go_wp2
                    go_meet
                    case rel => exact ⟨_, ((t764 == 0)), (by first | rfl | (simp; done) | (simp [*]; done)), H', ⟨by have := HJ10.out; have := HJ22.out; first | omega | exact Nat.le_refl _⟩, ⟨by (with_reducible repeat (first | refine blk_drewN ?_ _ | refine blk_drew ?_ | refine blk_alloc ?_ _)); exact BK748.out⟩, ⟨by repeat (first | (with_reducible first | exact HI755.out | apply IsS87.alloc | apply IsS87.drewN | apply IsS87.drew | apply IsS87.set_0 | apply IsS87.set_1 | apply IsS87.set_3 | refine IsS87.far ?_ NB755_748.out _) | exact HI755.out)⟩, ⟨by repeat (first | (with_reducible first | exact HB.out | apply below_alloc | apply pw_below_drewN | apply below_drew1 | refine below_set ?_ (IsS87.ge HI755.out) | refine below_set ?_ GE748.out) | exact HB.out)⟩⟩
                  · rw [if_neg c31] at H
                    have c31b0 : ((l1.length : Int) == (l2.length : Int)) = false := beq_eq_false_iff_ne.mpr c31
                    have c31b1 : ((l1.length : Int) != (l2.length : Int)) = true := bne_iff_ne.mpr c31
                    have c31b2 : (l1.length == l2.length) = false := by first | simpa using c31 | (simp at c31 ⊢; omega)
                    (first | rw [c31b0] | (simp only [i64_w, i32_w]; rw [c31b0]) | skip)
                    have H' := Aside0.mk H
                    clear H
                    go_wp2
                    go_meet
                    case rel => exact ⟨_, (false), (by first | rfl | (simp; done) | (simp [*]; done)), H', ⟨by have := HJ10.out; have := HJ22.out; first | omega | exact Nat.le_refl _⟩, ⟨by (with_reducible repeat (first | refine blk_drewN ?_ _ | refine blk_drew ?_ | refine blk_alloc ?_ _)); exact BK748.out⟩, ⟨by repeat (first | (with_reducible first | exact HI755.out | apply IsS87.alloc | apply IsS87.drewN | apply IsS87.drew | apply IsS87.set_0 | apply IsS87.set_1 | apply IsS87.set_3 | refine IsS87.far ?_ NB755_748.out _) | exact HI755.out)⟩, ⟨by repeat (first | (with_reducible first | exact HB.out | apply below_alloc | apply pw_below_drewN | apply below_drew1 | refine below_set ?_ (IsS87.ge HI755.out) | refine below_set ?_ GE748.out) | exact HB.out)⟩⟩
                case rest =>
                  clear HC30
                  try clear c1
                  try clear c2
                  try clear p2
                  try clear c3
                  try clear c5
                  try clear c11
                  try clear c12
                  try clear c16
                  try clear c19
                  try clear c19b0
                  try clear c19b1
                  try clear c20
                  try clear c25
                  try clear c28
                  try clear c28b0
                  try clear c28b1
                  try clear c29
                  try clear c31
                  try clear c31b0
                  try clear c31b1
                  try clear c31b2
                  try clear hcz13_0
                  try clear hcz13_1
                  try clear hcz13_2
                  try clear hcz17_0
                  try clear hcz17_1
                  try clear hcz17_2
                  try clear hcz26_0
                  try clear hcz26_1
                  try clear hcz26_2
                  try clear hcz7_0
                  try clear hcz7_1
                  try clear hcz7_2
                  try clear hfz13_0
                  try clear hfz13_1
                  try clear hfz13_2
                  try clear hfz17_0
                  try clear hfz17_1
                  try clear hfz17_2
                  try clear hfz26_0
                  try clear hfz26_1
                  try clear hfz26_2
                  try clear hfz7_0
                  try clear hfz7_1
                  try clear hfz7_2
                  try clear p2
                  obtain ⟨kq, x77_29, rfl, HA, HJ29, BK748, HI755, HB⟩ := hcut
                  cases kq with
                  | zero => exact absurd HA.out (by simp [codewrightlaw11_WordIndexes.j2])
                  | succ kj29 =>
                    have H := HA.out
                    clear HA
                    simp only [codewrightlaw11_WordIndexes.j2] at H
                    by_cases c32 : x77_29 = true
                    · subst c32
                      have H1 : ((word_Clean.f kj29 t767 t768 t751 t769 t753 t754 l1).bind fun bt772 => ((word_Clean.f kj29 bt772.2.1 bt772.2.2.1 t751 bt772.2.2.2 t753 t754 l2).bind fun bt778 => ((word_Compare.f kj29 bt772.1 bt778.1).bind fun t784 => (if ((decide (t784 < 0)) != (decide (t758 < t765))) = true then (some false) else (if ((t784 == 0) != (t758 == t765)) = true then (some false) else ((word_Index.f kj29 bt778.2.1 bt778.2.2.1 t751 bt778.2.2.2 t753 t754 (([0, 1] : List Int))).bind fun bt788 => (if bt788.1 = 1 then (some (bt788.2.1 == 0)) else (some false)))))))) = some r := by rw [if_pos rfl] at H; exact H
                      clear H
                      have H := H1
                      clear H1
                      replace H := Option.bind_eq_some_iff.mp H
                      obtain ⟨⟨t772, t775, t776, t777⟩, A330, H⟩ := H
                      replace H : ((word_Clean.f kj29 t775 t776 t751 t777 t753 t754 l2).bind fun bt778 => ((word_Compare.f kj29 t772 bt778.1).bind fun t784 => (if ((decide (t784 < 0)) != (decide (t758 < t765))) = true then (some false) else (if ((t784 == 0) != (t758 == t765)) = true then (some false) else ((word_Index.f kj29 bt778.2.1 bt778.2.2.1 t751 bt778.2.2.2 t753 t754 (([0, 1] : List Int))).bind fun bt788 => (if bt788.1 = 1 then (some (bt788.2.1 == 0)) else (some false))))))) = some r := H
                      have A33 := Aside0.mk A330
                      clear A330
                      replace H := Option.bind_eq_some_iff.mp H
                      obtain ⟨⟨t778, t781, t782, t783⟩, A340, H⟩ := H
                      replace H : ((word_Compare.f kj29 t772 t778).bind fun t784 => (if ((decide (t784 < 0)) != (decide (t758 < t765))) = true then (some false) else (if ((t784 == 0) != (t758 == t765)) = true then (some false) else ((word_Index.f kj29 t781 t782 t751 t783 t753 t754 (([0, 1] : List Int))).bind fun bt788 => (if bt788.1 = 1 then (some (bt788.2.1 == 0)) else (some false)))))) = some r := H
                      have A34 := Aside0.mk A340
                      clear A340
                      replace H := Option.bind_eq_some_iff.mp H
                      obtain ⟨t784, A350, H⟩ := H
                      replace H : (if ((decide (t784 < 0)) != (decide (t758 < t765))) = true then (some false) else (if ((t784 == 0) != (t758 == t765)) = true then (some false) else ((word_Index.f kj29 t781 t782 t751 t783 t753 t754 (([0, 1] : List Int))).bind fun bt788 => (if bt788.1 = 1 then (some (bt788.2.1 == 0)) else (some false))))) = some r := H
                      have A35 := Aside0.mk A350
                      clear A350
                      by_cases c36 : ((decide (t784 < 0)) != (decide (t758 < t765))) = true
                      · rw [if_pos c36] at H
                        have c36b0 : ((decide (t784 < 0)) != (decide (t758 < t765))) = true := c36
                        (try (have c36b1 : decide ((decide (t784 < 0)) = (decide (t758 < t765))) = false := by simpa using c36))
                        (try (have c36b2 : ((decide (t784 < 0)) == (decide (t758 < t765))) = false := by simpa using c36))
                        (try (have c36b3 : ¬ ((decide (t784 < 0)) = (decide (t758 < t765))) := by simpa using c36))
                        clear c36
                        obtain rfl := Option.some.inj H
                        go_wp2_with (first | ((with_reducible refine gate_callee (f := 14) rfl ?_); refine goesL_ (some 80) rfl rfl Try.func14 (by kernel_rfl) rfl #[.pointer (some ⟨g755, 0, none⟩), .slice A1 l1.length c1] rfl (by (try simp only [List.map_toArray, List.map_cons, List.map_nil]); first | done | rfl | (simp only [List.length_drop, List.length_take]; rfl)) ?_; (with_reducible refine (word_Clean.calls kj29 g755 t767 t768 t751 t769 t753 t754 _ _ l1 t772 t775 t776 t777 w _ ?side1 ?side2 ?side3 ?side4 ?side5 A33.out).mono ?_); (case side1 => repeat (first | (with_reducible first | exact HI755.out | apply IsS87.alloc | apply IsS87.drewN | apply IsS87.drew | apply IsS87.set_0 | apply IsS87.set_1 | apply IsS87.set_3 | refine IsS87.far ?_ NB755_748.out _) | exact HI755.out)); (case side2 => repeat (first | (with_reducible first | exact HB.out | apply below_alloc | apply pw_below_drewN | apply below_drew1 | refine below_set ?_ (IsS87.ge HI755.out) | refine below_set ?_ GE748.out) | exact HB.out)); (case side3 => repeat (first | exact (Kd.C_below HR1.out HB.out) | (with_reducible refine Kd.C_alloc ?_ _) | (with_reducible refine Kd.C_drewN ?_ _) | (with_reducible refine Kd.C_drew ?_))); (case side4 => exact HC1.out); (case side5 => exact Kd.far_C 0 HR1.out (IsS87.ge HI755.out)); rintro e w37 ⟨v773, rfl, ho0, hi, hb, hk⟩; refine ⟨_, rfl, ?_⟩; have n0_ := Aside0.mk (KeepBut.blk hk (g' := gb748) (o := .cells #[.int .i64 a0_0, .int .i64 a0_1, .slice A0_2 l0_2.length c0_2] 24 (0, 0)) (by (with_reducible repeat (first | refine blk_drewN ?_ _ | refine blk_drew ?_ | refine blk_alloc ?_ _)); exact BK748.out) NB748_755.out (by simp)); have n1_ := Aside0.mk (Kd.R_lower ho0 (below_size (by repeat (first | (with_reducible first | exact HB.out | apply below_alloc | apply pw_below_drewN | apply below_drew1 | refine below_set ?_ (IsS87.ge HI755.out) | refine below_set ?_ GE748.out) | exact HB.out)))); have n2_ := Aside0.mk (hb); have n3_ := Aside0.mk (hi); clear BK748; clear HB; clear HI755; have BK748 := n0_; have HO774 := n1_; have HB := n2_; have HI755 := n3_; clear n0_ n1_ n2_ n3_; (try clear hb); (try clear hb2); (try clear hk); (try clear hi); (try clear ho0)) | ((with_reducible refine gate_callee (f := 14) rfl ?_); refine goesL_ (some 83) rfl rfl Try.func14 (by kernel_rfl) rfl #[.pointer (some ⟨g755, 0, none⟩), .slice A2 l2.length c2] rfl (by (try simp only [List.map_toArray, List.map_cons, List.map_nil]); first | done | rfl | (simp only [List.length_drop, List.length_take]; rfl)) ?_; (with_reducible refine (word_Clean.calls kj29 g755 t775 t776 t751 t777 t753 t754 _ _ l2 t778 t781 t782 t783 w _ ?side1 ?side2 ?side3 ?side4 ?side5 A34.out).mono ?_); (case side1 => repeat (first | (with_reducible first | exact HI755.out | apply IsS87.alloc | apply IsS87.drewN | apply IsS87.drew | apply IsS87.set_0 | apply IsS87.set_1 | apply IsS87.set_3 | refine IsS87.far ?_ NB755_748.out _) | exact HI755.out)); (case side2 => repeat (first | (with_reducible first | exact HB.out | apply below_alloc | apply pw_below_drewN | apply below_drew1 | refine below_set ?_ (IsS87.ge HI755.out) | refine below_set ?_ GE748.out) | exact HB.out)); (case side3 => repeat (first | exact (Kd.C_below HR2.out HB.out) | (with_reducible refine Kd.C_alloc ?_ _) | (with_reducible refine Kd.C_drewN ?_ _) | (with_reducible refine Kd.C_drew ?_))); (case side4 => exact HC2.out); (case side5 => exact Kd.far_C 0 HR2.out (IsS87.ge HI755.out)); rintro e w38 ⟨v779, rfl, ho0, hi, hb, hk⟩; refine ⟨_, rfl, ?_⟩; have n0_ := Aside0.mk (KeepBut.blk hk (g' := gb748) (o := .cells #[.int .i64 a0_0, .int .i64 a0_1, .slice A0_2 l0_2.length c0_2] 24 (0, 0)) (by (with_reducible repeat (first | refine blk_drewN ?_ _ | refine blk_drew ?_ | refine blk_alloc ?_ _)); exact BK748.out) NB748_755.out (by simp)); have n1_ := Aside0.mk (Kd.R_mono (Kd.R_told (Kd.R_oldK (IsS87.apart (show IsS87 w _ g755 t775 t776 t751 t777 t753 t754 from by repeat (first | (with_reducible first | exact HI755.out | apply IsS87.alloc | apply IsS87.drewN | apply IsS87.drew | apply IsS87.set_0 | apply IsS87.set_1 | apply IsS87.set_3 | refine IsS87.far ?_ NB755_748.out _) | exact HI755.out)) (by (with_reducible repeat (first | apply Kd.R_alloc | apply Kd.R_drewN | apply Kd.R_drew)); exact HO774.out) (by decide)) hk) (Kd.R_base ho0)) (fun _ h_ => h_.1)); have n2_ := Aside0.mk (Kd.R_lower (Kd.R_new' ho0 (Kd.R_lt (by (with_reducible repeat (first | apply Kd.R_alloc | apply Kd.R_drewN | apply Kd.R_drew)); exact HO774.out))) (below_size (by repeat (first | (with_reducible first | exact HB.out | apply below_alloc | apply pw_below_drewN | apply below_drew1 | refine below_set ?_ (IsS87.ge HI755.out) | refine below_set ?_ GE748.out) | exact HB.out)))); have n3_ := Aside0.mk (hb); have n4_ := Aside0.mk (hi); clear BK748; clear HO774; clear HB; clear HI755; have BK748 := n0_; have HO774 := n1_; have HO780 := n2_; have HB := n3_; have HI755 := n4_; clear n0_ n1_ n2_ n3_ n4_; (try clear hb); (try clear hb2); (try clear hk); (try clear hi); (try clear ho0); obtain ⟨Ao39, co39, eo39⟩ := Kd.R_slice HO774.out; subst eo39; obtain ⟨Ao40, co40, eo40⟩ := Kd.R_slice HO780.out; subst eo40) | ((with_reducible refine gate_callee (f := 38) rfl ?_); refine goesL_ (some 84) rfl rfl Try.func38 (by kernel_rfl) rfl #[.slice Ao39 t772.length co39, .slice Ao40 t778.length co40] rfl (by (try simp only [List.map_toArray, List.map_cons, List.map_nil]); first | done | rfl | (simp only [List.length_drop, List.length_take]; rfl)) ?_; (with_reducible refine (word_Compare.calls kj29 _ _ t772 _ _ t778 t784 _ ?side1 ?side2 ?side3 ?side4 A35.out).mono ?_); (case side1 => repeat (first | exact (Kd.R_reads' HO774.out).2.2 | (with_reducible refine Kd.C_alloc ?_ _) | (with_reducible refine Kd.C_drewN ?_ _) | (with_reducible refine Kd.C_drew ?_))); (case side2 => exact (Kd.R_reads' HO774.out).2.1); (case side3 => repeat (first | exact (Kd.R_reads' HO780.out).2.2 | (with_reducible refine Kd.C_alloc ?_ _) | (with_reducible refine Kd.C_drewN ?_ _) | (with_reducible refine Kd.C_drew ?_))); (case side4 => exact (Kd.R_reads' HO780.out).2.1); rintro e w' ⟨rfl, ⟨nd, rfl⟩⟩; refine ⟨_, rfl, ?_⟩))
                        go_ret
                        exact ⟨by first | rfl | (simp [errW_none, errW_some] <;> rfl) | (simp [*, errW_none, errW_some] <;> rfl), by repeat (first | (with_reducible first | exact HB.out | apply below_alloc | apply pw_below_drewN | apply below_drew1 | refine below_set ?_ (IsS87.ge HI755.out) | refine below_set ?_ GE748.out) | exact HB.out | exact below_tr HBW.out HB.out)⟩
                      · rw [if_neg c36] at H
                        have c36b0 : ((decide (t784 < 0)) != (decide (t758 < t765))) = false := by simpa using c36
                        (try (have c36b1 : decide ((decide (t784 < 0)) = (decide (t758 < t765))) = true := by simpa using c36))
                        (try (have c36b2 : ((decide (t784 < 0)) == (decide (t758 < t765))) = true := by simpa using c36))
                        clear c36
                        by_cases c41 : ((t784 == 0) != (t758 == t765)) = true
                        · rw [if_pos c41] at H
                          have c41b0 : ((t784 == 0) != (t758 == t765)) = true := c41
                          (try (have c41b1 : decide ((t784 == 0) = (t758 == t765)) = false := by simpa using c41))
                          (try (have c41b2 : ((t784 == 0) == (t758 == t765)) = false := by simpa using c41))
                          (try (have c41b3 : ¬ ((t784 == 0) = (t758 == t765)) := by simpa using c41))
                          clear c41
                          obtain rfl := Option.some.inj H
                          go_wp2_with (first | ((with_reducible refine gate_callee (f := 14) rfl ?_); refine goesL_ (some 80) rfl rfl Try.func14 (by kernel_rfl) rfl #[.pointer (some ⟨g755, 0, none⟩), .slice A1 l1.length c1] rfl (by (try simp only [List.map_toArray, List.map_cons, List.map_nil]); first | done | rfl | (simp only [List.length_drop, List.length_take]; rfl)) ?_; (with_reducible refine (word_Clean.calls kj29 g755 t767 t768 t751 t769 t753 t754 _ _ l1 t772 t775 t776 t777 w _ ?side1 ?side2 ?side3 ?side4 ?side5 A33.out).mono ?_); (case side1 => repeat (first | (with_reducible first | exact HI755.out | apply IsS87.alloc | apply IsS87.drewN | apply IsS87.drew | apply IsS87.set_0 | apply IsS87.set_1 | apply IsS87.set_3 | refine IsS87.far ?_ NB755_748.out _) | exact HI755.out)); (case side2 => repeat (first | (with_reducible first | exact HB.out | apply below_alloc | apply pw_below_drewN | apply below_drew1 | refine below_set ?_ (IsS87.ge HI755.out) | refine below_set ?_ GE748.out) | exact HB.out)); (case side3 => repeat (first | exact (Kd.C_below HR1.out HB.out) | (with_reducible refine Kd.C_alloc ?_ _) | (with_reducible refine Kd.C_drewN ?_ _) | (with_reducible refine Kd.C_drew ?_))); (case side4 => exact HC1.out); (case side5 => exact Kd.far_C 0 HR1.out (IsS87.ge HI755.out)); rintro e w42 ⟨v773, rfl, ho0, hi, hb, hk⟩; refine ⟨_, rfl, ?_⟩; have n0_ := Aside0.mk (KeepBut.blk hk (g' := gb748) (o := .cells #[.int .i64 a0_0, .int .i64 a0_1, .slice A0_2 l0_2.length c0_2] 24 (0, 0)) (by (with_reducible repeat (first | refine blk_drewN ?_ _ | refine blk_drew ?_ | refine blk_alloc ?_ _)); exact BK748.out) NB748_755.out (by simp)); have n1_ := Aside0.mk (Kd.R_lower ho0 (below_size (by repeat (first | (with_reducible first | exact HB.out | apply below_alloc | apply pw_below_drewN | apply below_drew1 | refine below_set ?_ (IsS87.ge HI755.out) | refine below_set ?_ GE748.out) | exact HB.out)))); have n2_ := Aside0.mk (hb); have n3_ := Aside0.mk (hi); clear BK748; clear HB; clear HI755; have BK748 := n0_; have HO774 := n1_; have HB := n2_; have HI755 := n3_; clear n0_ n1_ n2_ n3_; (try clear hb); (try clear hb2); (try clear hk); (try clear hi); (try clear ho0)) | ((with_reducible refine gate_callee (f := 14) rfl ?_); refine goesL_ (some 83) rfl rfl Try.func14 (by kernel_rfl) rfl #[.pointer (some ⟨g755, 0, none⟩), .slice A2 l2.length c2] rfl (by (try simp only [List.map_toArray, List.map_cons, List.map_nil]); first | done | rfl | (simp only [List.length_drop, List.length_take]; rfl)) ?_; (with_reducible refine (word_Clean.calls kj29 g755 t775 t776 t751 t777 t753 t754 _ _ l2 t778 t781 t782 t783 w _ ?side1 ?side2 ?side3 ?side4 ?side5 A34.out).mono ?_); (case side1 => repeat (first | (with_reducible first | exact HI755.out | apply IsS87.alloc | apply IsS87.drewN | apply IsS87.drew | apply IsS87.set_0 | apply IsS87.set_1 | apply IsS87.set_3 | refine IsS87.far ?_ NB755_748.out _) | exact HI755.out)); (case side2 => repeat (first | (with_reducible first | exact HB.out | apply below_alloc | apply pw_below_drewN | apply below_drew1 | refine below_set ?_ (IsS87.ge HI755.out) | refine below_set ?_ GE748.out) | exact HB.out)); (case side3 => repeat (first | exact (Kd.C_below HR2.out HB.out) | (with_reducible refine Kd.C_alloc ?_ _) | (with_reducible refine Kd.C_drewN ?_ _) | (with_reducible refine Kd.C_drew ?_))); (case side4 => exact HC2.out); (case side5 => exact Kd.far_C 0 HR2.out (IsS87.ge HI755.out)); rintro e w43 ⟨v779, rfl, ho0, hi, hb, hk⟩; refine ⟨_, rfl, ?_⟩; have n0_ := Aside0.mk (KeepBut.blk hk (g' := gb748) (o := .cells #[.int .i64 a0_0, .int .i64 a0_1, .slice A0_2 l0_2.length c0_2] 24 (0, 0)) (by (with_reducible repeat (first | refine blk_drewN ?_ _ | refine blk_drew ?_ | refine blk_alloc ?_ _)); exact BK748.out) NB748_755.out (by simp)); have n1_ := Aside0.mk (Kd.R_mono (Kd.R_told (Kd.R_oldK (IsS87.apart (show IsS87 w _ g755 t775 t776 t751 t777 t753 t754 from by repeat (first | (with_reducible first | exact HI755.out | apply IsS87.alloc | apply IsS87.drewN | apply IsS87.drew | apply IsS87.set_0 | apply IsS87.set_1 | apply IsS87.set_3 | refine IsS87.far ?_ NB755_748.out _) | exact HI755.out)) (by (with_reducible repeat (first | apply Kd.R_alloc | apply Kd.R_drewN | apply Kd.R_drew)); exact HO774.out) (by decide)) hk) (Kd.R_base ho0)) (fun _ h_ => h_.1)); have n2_ := Aside0.mk (Kd.R_lower (Kd.R_new' ho0 (Kd.R_lt (by (with_reducible repeat (first | apply Kd.R_alloc | apply Kd.R_drewN | apply Kd.R_drew)); exact HO774.out))) (below_size (by repeat (first | (with_reducible first | exact HB.out | apply below_alloc | apply pw_below_drewN | apply below_drew1 | refine below_set ?_ (IsS87.ge HI755.out) | refine below_set ?_ GE748.out) | exact HB.out)))); have n3_ := Aside0.mk (hb); have n4_ := Aside0.mk (hi); clear BK748; clear HO774; clear HB; clear HI755; have BK748 := n0_; have HO774 := n1_; have HO780 := n2_; have HB := n3_; have HI755 := n4_; clear n0_ n1_ n2_ n3_ n4_; (try clear hb); (try clear hb2); (try clear hk); (try clear hi); (try clear ho0); obtain ⟨Ao44, co44, eo44⟩ := Kd.R_slice HO774.out; subst eo44; obtain ⟨Ao45, co45, eo45⟩ := Kd.R_slice HO780.out; subst eo45) | ((with_reducible refine gate_callee (f := 38) rfl ?_); refine goesL_ (some 84) rfl rfl Try.func38 (by kernel_rfl) rfl #[.slice Ao44 t772.length co44, .slice Ao45 t778.length co45] rfl (by (try simp only [List.map_toArray, List.map_cons, List.map_nil]); first | done | rfl | (simp only [List.length_drop, List.length_take]; rfl)) ?_; (with_reducible refine (word_Compare.calls kj29 _ _ t772 _ _ t778 t784 _ ?side1 ?side2 ?side3 ?side4 A35.out).mono ?_); (case side1 => repeat (first | exact (Kd.R_reads' HO774.out).2.2 | (with_reducible refine Kd.C_alloc ?_ _) | (with_reducible refine Kd.C_drewN ?_ _) | (with_reducible refine Kd.C_drew ?_))); (case side2 => exact (Kd.R_reads' HO774.out).2.1); (case side3 => repeat (first | exact (Kd.R_reads' HO780.out).2.2 | (with_reducible refine Kd.C_alloc ?_ _) | (with_reducible refine Kd.C_drewN ?_ _) | (with_reducible refine Kd.C_drew ?_))); (case side4 => exact (Kd.R_reads' HO780.out).2.1); rintro e w' ⟨rfl, ⟨nd, rfl⟩⟩; refine ⟨_, rfl, ?_⟩))
                          go_ret
                          exact ⟨by first | rfl | (simp [errW_none, errW_some] <;> rfl) | (simp [*, errW_none, errW_some] <;> rfl), by repeat (first | (with_reducible first | exact HB.out | apply below_alloc | apply pw_below_drewN | apply below_drew1 | refine below_set ?_ (IsS87.ge HI755.out) | refine below_set ?_ GE748.out) | exact HB.out | exact below_tr HBW.out HB.out)⟩
                        · rw [if_neg c41] at H
                          have c41b0 : ((t784 == 0) != (t758 == t765)) = false := by simpa using c41
                          (try (have c41b1 : decide ((t784 == 0) = (t758 == t765)) = true := by simpa using c41))
                          (try (have c41b2 : ((t784 == 0) == (t758 == t765)) = true := by simpa using c41))
                          clear c41
                          obtain ⟨y785, hy785⟩ : ∃ y_ : List Int, y_ = (([0, 1] : List Int)) := ⟨_, rfl⟩
                          replace H : ((word_Index.f kj29 t781 t782 t751 t783 t753 t754 y785).bind fun bt788 => (if bt788.1 = 1 then (some (bt788.2.1 == 0)) else (some false))) = some r := by first | (rw [hy785]; with_reducible exact H) | (have H2_ := (Option.bind_some _ _).symm.trans H; rw [hy785]; with_reducible exact H2_) | (have H2_ := (Option.bind_some _ _).symm.trans H; with_reducible exact H2_) | with_reducible exact H | (rw [hy785]; exact H) | exact H
                          have Ny785 := Aside0.mk hy785
                          clear hy785
                          replace H := Option.bind_eq_some_iff.mp H
                          obtain ⟨⟨t788, t789, t790, t791, t792⟩, A460, H⟩ := H
                          replace H : (if t788 = 1 then (some (t789 == 0)) else (some false)) = some r := H
                          have A46 := Aside0.mk A460
                          clear A460
                          by_cases c47 : t788 = 1
                          · rw [if_pos c47] at H
                            have c47b0 : (t788 == 1) = true := beq_iff_eq.mpr c47
                            have c47b1 : (t788 != 1) = false := bne_eq_false_iff_eq.mpr c47
                            clear c47
                            obtain rfl := Option.some.inj H
                            go_wp2_with (first | ((with_reducible refine gate_callee (f := 14) rfl ?_); refine goesL_ (some 80) rfl rfl Try.func14 (by kernel_rfl) rfl #[.pointer (some ⟨g755, 0, none⟩), .slice A1 l1.length c1] rfl (by (try simp only [List.map_toArray, List.map_cons, List.map_nil]); first | done | rfl | (simp only [List.length_drop, List.length_take]; rfl)) ?_; (with_reducible refine (word_Clean.calls kj29 g755 t767 t768 t751 t769 t753 t754 _ _ l1 t772 t775 t776 t777 w _ ?side1 ?side2 ?side3 ?side4 ?side5 A33.out).mono ?_); (case side1 => repeat (first | (with_reducible first | exact HI755.out | apply IsS87.alloc | apply IsS87.drewN | apply IsS87.drew | apply IsS87.set_0 | apply IsS87.set_1 | apply IsS87.set_3 | refine IsS87.far ?_ NB755_748.out _) | exact HI755.out)); (case side2 => repeat (first | (with_reducible first | exact HB.out | apply below_alloc | apply pw_below_drewN | apply below_drew1 | refine below_set ?_ (IsS87.ge HI755.out) | refine below_set ?_ GE748.out) | exact HB.out)); (case side3 => repeat (first | exact (Kd.C_below HR1.out HB.out) | (with_reducible refine Kd.C_alloc ?_ _) | (with_reducible refine Kd.C_drewN ?_ _) | (with_reducible refine Kd.C_drew ?_))); (case side4 => exact HC1.out); (case side5 => exact Kd.far_C 0 HR1.out (IsS87.ge HI755.out)); rintro e w48 ⟨v773, rfl, ho0, hi, hb, hk⟩; refine ⟨_, rfl, ?_⟩; have n0_ := Aside0.mk (KeepBut.blk hk (g' := gb748) (o := .cells #[.int .i64 a0_0, .int .i64 a0_1, .slice A0_2 l0_2.length c0_2] 24 (0, 0)) (by (with_reducible repeat (first | refine blk_drewN ?_ _ | refine blk_drew ?_ | refine blk_alloc ?_ _)); exact BK748.out) NB748_755.out (by simp)); have n1_ := Aside0.mk (Kd.R_lower ho0 (below_size (by repeat (first | (with_reducible first | exact HB.out | apply below_alloc | apply pw_below_drewN | apply below_drew1 | refine below_set ?_ (IsS87.ge HI755.out) | refine below_set ?_ GE748.out) | exact HB.out)))); have n2_ := Aside0.mk (hb); have n3_ := Aside0.mk (hi); clear BK748; clear HB; clear HI755; have BK748 := n0_; have HO774 := n1_; have HB := n2_; have HI755 := n3_; clear n0_ n1_ n2_ n3_; (try clear hb); (try clear hb2); (try clear hk); (try clear hi); (try clear ho0)) | ((with_reducible refine gate_callee (f := 14) rfl ?_); refine goesL_ (some 83) rfl rfl Try.func14 (by kernel_rfl) rfl #[.pointer (some ⟨g755, 0, none⟩), .slice A2 l2.length c2] rfl (by (try simp only [List.map_toArray, List.map_cons, List.map_nil]); first | done | rfl | (simp only [List.length_drop, List.length_take]; rfl)) ?_; (with_reducible refine (word_Clean.calls kj29 g755 t775 t776 t751 t777 t753 t754 _ _ l2 t778 t781 t782 t783 w _ ?side1 ?side2 ?side3 ?side4 ?side5 A34.out).mono ?_); (case side1 => repeat (first | (with_reducible first | exact HI755.out | apply IsS87.alloc | apply IsS87.drewN | apply IsS87.drew | apply IsS87.set_0 | apply IsS87.set_1 | apply IsS87.set_3 | refine IsS87.far ?_ NB755_748.out _) | exact HI755.out)); (case side2 => repeat (first | (with_reducible first | exact HB.out | apply below_alloc | apply pw_below_drewN | apply below_drew1 | refine below_set ?_ (IsS87.ge HI755.out) | refine below_set ?_ GE748.out) | exact HB.out)); (case side3 => repeat (first | exact (Kd.C_below HR2.out HB.out) | (with_reducible refine Kd.C_alloc ?_ _) | (with_reducible refine Kd.C_drewN ?_ _) | (with_reducible refine Kd.C_drew ?_))); (case side4 => exact HC2.out); (case side5 => exact Kd.far_C 0 HR2.out (IsS87.ge HI755.out)); rintro e w49 ⟨v779, rfl, ho0, hi, hb, hk⟩; refine ⟨_, rfl, ?_⟩; have n0_ := Aside0.mk (KeepBut.blk hk (g' := gb748) (o := .cells #[.int .i64 a0_0, .int .i64 a0_1, .slice A0_2 l0_2.length c0_2] 24 (0, 0)) (by (with_reducible repeat (first | refine blk_drewN ?_ _ | refine blk_drew ?_ | refine blk_alloc ?_ _)); exact BK748.out) NB748_755.out (by simp)); have n1_ := Aside0.mk (Kd.R_mono (Kd.R_told (Kd.R_oldK (IsS87.apart (show IsS87 w _ g755 t775 t776 t751 t777 t753 t754 from by repeat (first | (with_reducible first | exact HI755.out | apply IsS87.alloc | apply IsS87.drewN | apply IsS87.drew | apply IsS87.set_0 | apply IsS87.set_1 | apply IsS87.set_3 | refine IsS87.far ?_ NB755_748.out _) | exact HI755.out)) (by (with_reducible repeat (first | apply Kd.R_alloc | apply Kd.R_drewN | apply Kd.R_drew)); exact HO774.out) (by decide)) hk) (Kd.R_base ho0)) (fun _ h_ => h_.1)); have n2_ := Aside0.mk (Kd.R_lower (Kd.R_new' ho0 (Kd.R_lt (by (with_reducible repeat (first | apply Kd.R_alloc | apply Kd.R_drewN | apply Kd.R_drew)); exact HO774.out))) (below_size (by repeat (first | (with_reducible first | exact HB.out | apply below_alloc | apply pw_below_drewN | apply below_drew1 | refine below_set ?_ (IsS87.ge HI755.out) | refine below_set ?_ GE748.out) | exact HB.out)))); have n3_ := Aside0.mk (hb); have n4_ := Aside0.mk (hi); clear BK748; clear HO774; clear HB; clear HI755; have BK748 := n0_; have HO774 := n1_; have HO780 := n2_; have HB := n3_; have HI755 := n4_; clear n0_ n1_ n2_ n3_ n4_; (try clear hb); (try clear hb2); (try clear hk); (try clear hi); (try clear ho0); obtain ⟨Ao50, co50, eo50⟩ := Kd.R_slice HO774.out; subst eo50; obtain ⟨Ao51, co51, eo51⟩ := Kd.R_slice HO780.out; subst eo51) | ((with_reducible refine gate_callee (f := 38) rfl ?_); refine goesL_ (some 84) rfl rfl Try.func38 (by kernel_rfl) rfl #[.slice Ao50 t772.length co50, .slice Ao51 t778.length co51] rfl (by (try simp only [List.map_toArray, List.map_cons, List.map_nil]); first | done | rfl | (simp only [List.length_drop, List.length_take]; rfl)) ?_; (with_reducible refine (word_Compare.calls kj29 _ _ t772 _ _ t778 t784 _ ?side1 ?side2 ?side3 ?side4 A35.out).mono ?_); (case side1 => repeat (first | exact (Kd.R_reads' HO774.out).2.2 | (with_reducible refine Kd.C_alloc ?_ _) | (with_reducible refine Kd.C_drewN ?_ _) | (with_reducible refine Kd.C_drew ?_))); (case side2 => exact (Kd.R_reads' HO774.out).2.1); (case side3 => repeat (first | exact (Kd.R_reads' HO780.out).2.2 | (with_reducible refine Kd.C_alloc ?_ _) | (with_reducible refine Kd.C_drewN ?_ _) | (with_reducible refine Kd.C_drew ?_))); (case side4 => exact (Kd.R_reads' HO780.out).2.1); rintro e w' ⟨rfl, ⟨nd, rfl⟩⟩; refine ⟨_, rfl, ?_⟩) | ((with_reducible refine gate_dst (N := 101) rfl ?_); refine Kd.R_lit (Kd.int .i64) _ 3 ?hg (N := 101) ?hd (xs := ([0, 1] : List Int)) (inner := [.int .i64 0, .int .i64 1]) (ok := fun _ => True) (okp := fun _ => True) ?hr ?hp (fun _ hk => hk) trivial (Below.refl _ _) (Nat.le_refl _) (by simp) ?_; (case hd => rfl); (case hg => rfl); (case hr => first | (go_simp; done) | (go_simp; rfl)); (case hp => exact (Reps.one (show Kd.M (Kd.int .i64) _ _ _ 0 [.int .i64 0] from rfl) (Reps.one (show Kd.M (Kd.int .i64) _ _ _ 1 [.int .i64 1] from rfl) (Reps.none _ _)))); intro v786 w52 ho53 hb hg_ hnew_; clear hg_ hnew_; (first | rw [← Ny785.out] at ho53 | (simp only [Int.reduceToNat] at ho53; rw [← Ny785.out] at ho53)); have n0_ := Aside0.mk (Kd.R_elder' (by (with_reducible repeat (first | apply Kd.R_alloc | apply Kd.R_drewN | apply Kd.R_drew)); exact HO774.out) (Kd.R_base ho53) hb); have n1_ := Aside0.mk (Kd.R_elder' (by (with_reducible repeat (first | apply Kd.R_alloc | apply Kd.R_drewN | apply Kd.R_drew)); exact HO780.out) (Kd.R_base ho53) hb); have n2_ := Aside0.mk (Kd.R_lower (Kd.R_new' (Kd.R_new' ho53 (Kd.R_lt (by (with_reducible repeat (first | apply Kd.R_alloc | apply Kd.R_drewN | apply Kd.R_drew)); exact HO774.out))) (Kd.R_lt (by (with_reducible repeat (first | apply Kd.R_alloc | apply Kd.R_drewN | apply Kd.R_drew)); exact HO780.out))) (below_size (by repeat (first | (with_reducible first | exact HB.out | apply below_alloc | apply pw_below_drewN | apply below_drew1 | refine below_set ?_ (IsS87.ge HI755.out) | refine below_set ?_ GE748.out) | exact HB.out)))); have n3_ := Aside0.mk (blk_below (g := gb748) (o := .cells #[.int .i64 a0_0, .int .i64 a0_1, .slice A0_2 l0_2.length c0_2] 24 (0, 0)) (by (with_reducible repeat (first | refine blk_drewN ?_ _ | refine blk_drew ?_ | refine blk_alloc ?_ _)); exact BK748.out) hb); have n4_ := Aside0.mk (IsS87.below (by repeat (first | (with_reducible first | exact HI755.out | apply IsS87.alloc | apply IsS87.drewN | apply IsS87.drew | apply IsS87.set_0 | apply IsS87.set_1 | apply IsS87.set_3 | refine IsS87.far ?_ NB755_748.out _) | exact HI755.out)) hb); have n5_ := Aside0.mk (below_step (by repeat (first | (with_reducible first | exact HB.out | apply below_alloc | apply pw_below_drewN | apply below_drew1 | refine below_set ?_ (IsS87.ge HI755.out) | refine below_set ?_ GE748.out) | exact HB.out)) hb); clear HO774; clear HO780; clear BK748; clear HI755; clear HB; have HO774 := n0_; have HO780 := n1_; have HO787 := n2_; have BK748 := n3_; have HI755 := n4_; have HB := n5_; clear n0_ n1_ n2_ n3_ n4_ n5_; clear hb ho53; obtain ⟨Ao54, co54, eo54⟩ := Kd.R_slice HO787.out; subst eo54) | ((with_reducible refine gate_callee (f := 33) rfl ?_); refine goesL_ (some 102) rfl rfl Try.func33 (by kernel_rfl) rfl #[.pointer (some ⟨g755, 0, none⟩), .slice Ao54 y785.length co54] rfl (by (try simp only [List.map_toArray, List.map_cons, List.map_nil]); first | done | rfl | (simp only [List.length_drop, List.length_take]; rfl)) ?_; (with_reducible refine (word_Index.calls kj29 g755 t781 t782 t751 t783 t753 t754 _ _ y785 t788 t789 t790 t791 t792 w _ ?side1 ?side2 ?side3 ?side4 ?side5 A46.out).mono ?_); (case side1 => repeat (first | (with_reducible first | exact HI755.out | apply IsS87.alloc | apply IsS87.drewN | apply IsS87.drew | apply IsS87.set_0 | apply IsS87.set_1 | apply IsS87.set_3 | refine IsS87.far ?_ NB755_748.out _) | exact HI755.out)); (case side2 => repeat (first | (with_reducible first | exact HB.out | apply below_alloc | apply pw_below_drewN | apply below_drew1 | refine below_set ?_ (IsS87.ge HI755.out) | refine below_set ?_ GE748.out) | exact HB.out)); (case side3 => repeat (first | exact (Kd.R_reads' HO787.out).2.2 | (with_reducible refine Kd.C_alloc ?_ _) | (with_reducible refine Kd.C_drewN ?_ _) | (with_reducible refine Kd.C_drew ?_))); (case side4 => exact (Kd.R_reads' HO787.out).2.1); (case side5 => exact far_slice (IsS87.own_ne HI755.out HO787.out (by decide))); rintro e w55 ⟨rfl, hi, hb, hk⟩; refine ⟨_, rfl, ?_⟩; have n0_ := Aside0.mk (KeepBut.blk hk (g' := gb748) (o := .cells #[.int .i64 a0_0, .int .i64 a0_1, .slice A0_2 l0_2.length c0_2] 24 (0, 0)) (by (with_reducible repeat (first | refine blk_drewN ?_ _ | refine blk_drew ?_ | refine blk_alloc ?_ _)); exact BK748.out) NB748_755.out (by simp)); have n1_ := Aside0.mk (Kd.R_mono (Kd.R_keep (IsS87.apart (show IsS87 w _ g755 t781 t782 t751 t783 t753 t754 from by repeat (first | (with_reducible first | exact HI755.out | apply IsS87.alloc | apply IsS87.drewN | apply IsS87.drew | apply IsS87.set_0 | apply IsS87.set_1 | apply IsS87.set_3 | refine IsS87.far ?_ NB755_748.out _) | exact HI755.out)) (by (with_reducible repeat (first | apply Kd.R_alloc | apply Kd.R_drewN | apply Kd.R_drew)); exact HO774.out) (by decide)) hk (fun _ h => h.2)) (fun _ h => h.1)); have n2_ := Aside0.mk (Kd.R_mono (Kd.R_keep (IsS87.apart (show IsS87 w _ g755 t781 t782 t751 t783 t753 t754 from by repeat (first | (with_reducible first | exact HI755.out | apply IsS87.alloc | apply IsS87.drewN | apply IsS87.drew | apply IsS87.set_0 | apply IsS87.set_1 | apply IsS87.set_3 | refine IsS87.far ?_ NB755_748.out _) | exact HI755.out)) (by (with_reducible repeat (first | apply Kd.R_alloc | apply Kd.R_drewN | apply Kd.R_drew)); exact HO780.out) (by decide)) hk (fun _ h => h.2)) (fun _ h => h.1)); have n3_ := Aside0.mk (Kd.R_mono (Kd.R_keep (IsS87.apart (show IsS87 w _ g755 t781 t782 t751 t783 t753 t754 from by repeat (first | (with_reducible first | exact HI755.out | apply IsS87.alloc | apply IsS87.drewN | apply IsS87.drew | apply IsS87.set_0 | apply IsS87.set_1 | apply IsS87.set_3 | refine IsS87.far ?_ NB755_748.out _) | exact HI755.out)) (by (with_reducible repeat (first | apply Kd.R_alloc | apply Kd.R_drewN | apply Kd.R_drew)); exact HO787.out) (by decide)) hk (fun _ h => h.2)) (fun _ h => h.1)); have n4_ := Aside0.mk (hb); have n5_ := Aside0.mk (hi); clear BK748; clear HO774; clear HO780; clear HO787; clear HB; clear HI755; have BK748 := n0_; have HO774 := n1_; have HO780 := n2_; have HO787 := n3_; have HB := n4_; have HI755 := n5_; clear n0_ n1_ n2_ n3_ n4_ n5_; (try clear hb); (try clear hb2); (try clear hk); (try clear hi)))
                            go_ret
                            exact ⟨by first | rfl | (simp [errW_none, errW_some] <;> rfl) | (simp [*, errW_none, errW_some] <;> rfl), by repeat (first | (with_reducible first | exact HB.out | apply below_alloc | apply pw_below_drewN | apply below_drew1 | refine below_set ?_ (IsS87.ge HI755.out) | refine below_set ?_ GE748.out) | exact HB.out | exact below_tr HBW.out HB.out)⟩
                          · rw [if_neg c47] at H
                            have c47b0 : (t788 == 1) = false := beq_eq_false_iff_ne.mpr c47
                            have c47b1 : (t788 != 1) = true := bne_iff_ne.mpr c47
                            obtain rfl := Option.some.inj H
                            go_wp2_with (first | ((with_reducible refine gate_callee (f := 14) rfl ?_); refine goesL_ (some 80) rfl rfl Try.func14 (by kernel_rfl) rfl #[.pointer (some ⟨g755, 0, none⟩), .slice A1 l1.length c1] rfl (by (try simp only [List.map_toArray, List.map_cons, List.map_nil]); first | done | rfl | (simp only [List.length_drop, List.length_take]; rfl)) ?_; (with_reducible refine (word_Clean.calls kj29 g755 t767 t768 t751 t769 t753 t754 _ _ l1 t772 t775 t776 t777 w _ ?side1 ?side2 ?side3 ?side4 ?side5 A33.out).mono ?_); (case side1 => repeat (first | (with_reducible first | exact HI755.out | apply IsS87.alloc | apply IsS87.drewN | apply IsS87.drew | apply IsS87.set_0 | apply IsS87.set_1 | apply IsS87.set_3 | refine IsS87.far ?_ NB755_748.out _) | exact HI755.out)); (case side2 => repeat (first | (with_reducible first | exact HB.out | apply below_alloc | apply pw_below_drewN | apply below_drew1 | refine below_set ?_ (IsS87.ge HI755.out) | refine below_set ?_ GE748.out) | exact HB.out)); (case side3 => repeat (first | exact (Kd.C_below HR1.out HB.out) | (with_reducible refine Kd.C_alloc ?_ _) | (with_reducible refine Kd.C_drewN ?_ _) | (with_reducible refine Kd.C_drew ?_))); (case side4 => exact HC1.out); (case side5 => exact Kd.far_C 0 HR1.out (IsS87.ge HI755.out)); rintro e w56 ⟨v773, rfl, ho0, hi, hb, hk⟩; refine ⟨_, rfl, ?_⟩; have n0_ := Aside0.mk (KeepBut.blk hk (g' := gb748) (o := .cells #[.int .i64 a0_0, .int .i64 a0_1, .slice A0_2 l0_2.length c0_2] 24 (0, 0)) (by (with_reducible repeat (first | refine blk_drewN ?_ _ | refine blk_drew ?_ | refine blk_alloc ?_ _)); exact BK748.out) NB748_755.out (by simp)); have n1_ := Aside0.mk (Kd.R_lower ho0 (below_size (by repeat (first | (with_reducible first | exact HB.out | apply below_alloc | apply pw_below_drewN | apply below_drew1 | refine below_set ?_ (IsS87.ge HI755.out) | refine below_set ?_ GE748.out) | exact HB.out)))); have n2_ := Aside0.mk (hb); have n3_ := Aside0.mk (hi); clear BK748; clear HB; clear HI755; have BK748 := n0_; have HO774 := n1_; have HB := n2_; have HI755 := n3_; clear n0_ n1_ n2_ n3_; (try clear hb); (try clear hb2); (try clear hk); (try clear hi); (try clear ho0)) | ((with_reducible refine gate_callee (f := 14) rfl ?_); refine goesL_ (some 83) rfl rfl Try.func14 (by kernel_rfl) rfl #[.pointer (some ⟨g755, 0, none⟩), .slice A2 l2.length c2] rfl (by (try simp only [List.map_toArray, List.map_cons, List.map_nil]); first | done | rfl | (simp only [List.length_drop, List.length_take]; rfl)) ?_; (with_reducible refine (word_Clean.calls kj29 g755 t775 t776 t751 t777 t753 t754 _ _ l2 t778 t781 t782 t783 w _ ?side1 ?side2 ?side3 ?side4 ?side5 A34.out).mono ?_); (case side1 => repeat (first | (with_reducible first | exact HI755.out | apply IsS87.alloc | apply IsS87.drewN | apply IsS87.drew | apply IsS87.set_0 | apply IsS87.set_1 | apply IsS87.set_3 | refine IsS87.far ?_ NB755_748.out _) | exact HI755.out)); (case side2 => repeat (first | (with_reducible first | exact HB.out | apply below_alloc | apply pw_below_drewN | apply below_drew1 | refine below_set ?_ (IsS87.ge HI755.out) | refine below_set ?_ GE748.out) | exact HB.out)); (case side3 => repeat (first | exact (Kd.C_below HR2.out HB.out) | (with_reducible refine Kd.C_alloc ?_ _) | (with_reducible refine Kd.C_drewN ?_ _) | (with_reducible refine Kd.C_drew ?_))); (case side4 => exact HC2.out); (case side5 => exact Kd.far_C 0 HR2.out (IsS87.ge HI755.out)); rintro e w57 ⟨v779, rfl, ho0, hi, hb, hk⟩; refine ⟨_, rfl, ?_⟩; have n0_ := Aside0.mk (KeepBut.blk hk (g' := gb748) (o := .cells #[.int .i64 a0_0, .int .i64 a0_1, .slice A0_2 l0_2.length c0_2] 24 (0, 0)) (by (with_reducible repeat (first | refine blk_drewN ?_ _ | refine blk_drew ?_ | refine blk_alloc ?_ _)); exact BK748.out) NB748_755.out (by simp)); have n1_ := Aside0.mk (Kd.R_mono (Kd.R_told (Kd.R_oldK (IsS87.apart (show IsS87 w _ g755 t775 t776 t751 t777 t753 t754 from by repeat (first | (with_reducible first | exact HI755.out | apply IsS87.alloc | apply IsS87.drewN | apply IsS87.drew | apply IsS87.set_0 | apply IsS87.set_1 | apply IsS87.set_3 | refine IsS87.far ?_ NB755_748.out _) | exact HI755.out)) (by (with_reducible repeat (first | apply Kd.R_alloc | apply Kd.R_drewN | apply Kd.R_drew)); exact HO774.out) (by decide)) hk) (Kd.R_base ho0)) (fun _ h_ => h_.1)); have n2_ := Aside0.mk (Kd.R_lower (Kd.R_new' ho0 (Kd.R_lt (by (with_reducible repeat (first | apply Kd.R_alloc | apply Kd.R_drewN | apply Kd.R_drew)); exact HO774.out))) (below_size (by repeat (first | (with_reducible first | exact HB.out | apply below_alloc | apply pw_below_drewN | apply below_drew1 | refine below_set ?_ (IsS87.ge HI755.out) | refine below_set ?_ GE748.out) | exact HB.out)))); have n3_ := Aside0.mk (hb); have n4_ := Aside0.mk (hi); clear BK748; clear HO774; clear HB; clear HI755; have BK748 := n0_; have HO774 := n1_; have HO780 := n2_; have HB := n3_; have HI755 := n4_; clear n0_ n1_ n2_ n3_ n4_; (try clear hb); (try clear hb2); (try clear hk); (try clear hi); (try clear ho0); obtain ⟨Ao58, co58, eo58⟩ := Kd.R_slice HO774.out; subst eo58; obtain ⟨Ao59, co59, eo59⟩ := Kd.R_slice HO780.out; subst eo59) | ((with_reducible refine gate_callee (f := 38) rfl ?_); refine goesL_ (some 84) rfl rfl Try.func38 (by kernel_rfl) rfl #[.slice Ao58 t772.length co58, .slice Ao59 t778.length co59] rfl (by (try simp only [List.map_toArray, List.map_cons, List.map_nil]); first | done | rfl | (simp only [List.length_drop, List.length_take]; rfl)) ?_; (with_reducible refine (word_Compare.calls kj29 _ _ t772 _ _ t778 t784 _ ?side1 ?side2 ?side3 ?side4 A35.out).mono ?_); (case side1 => repeat (first | exact (Kd.R_reads' HO774.out).2.2 | (with_reducible refine Kd.C_alloc ?_ _) | (with_reducible refine Kd.C_drewN ?_ _) | (with_reducible refine Kd.C_drew ?_))); (case side2 => exact (Kd.R_reads' HO774.out).2.1); (case side3 => repeat (first | exact (Kd.R_reads' HO780.out).2.2 | (with_reducible refine Kd.C_alloc ?_ _) | (with_reducible refine Kd.C_drewN ?_ _) | (with_reducible refine Kd.C_drew ?_))); (case side4 => exact (Kd.R_reads' HO780.out).2.1); rintro e w' ⟨rfl, ⟨nd, rfl⟩⟩; refine ⟨_, rfl, ?_⟩) | ((with_reducible refine gate_dst (N := 101) rfl ?_); refine Kd.R_lit (Kd.int .i64) _ 3 ?hg (N := 101) ?hd (xs := ([0, 1] : List Int)) (inner := [.int .i64 0, .int .i64 1]) (ok := fun _ => True) (okp := fun _ => True) ?hr ?hp (fun _ hk => hk) trivial (Below.refl _ _) (Nat.le_refl _) (by simp) ?_; (case hd => rfl); (case hg => rfl); (case hr => first | (go_simp; done) | (go_simp; rfl)); (case hp => exact (Reps.one (show Kd.M (Kd.int .i64) _ _ _ 0 [.int .i64 0] from rfl) (Reps.one (show Kd.M (Kd.int .i64) _ _ _ 1 [.int .i64 1] from rfl) (Reps.none _ _)))); intro v786 w60 ho61 hb hg_ hnew_; clear hg_ hnew_; (first | rw [← Ny785.out] at ho61 | (simp only [Int.reduceToNat] at ho61; rw [← Ny785.out] at ho61)); have n0_ := Aside0.mk (Kd.R_elder' (by (with_reducible repeat (first | apply Kd.R_alloc | apply Kd.R_drewN | apply Kd.R_drew)); exact HO774.out) (Kd.R_base ho61) hb); have n1_ := Aside0.mk (Kd.R_elder' (by (with_reducible repeat (first | apply Kd.R_alloc | apply Kd.R_drewN | apply Kd.R_drew)); exact HO780.out) (Kd.R_base ho61) hb); have n2_ := Aside0.mk (Kd.R_lower (Kd.R_new' (Kd.R_new' ho61 (Kd.R_lt (by (with_reducible repeat (first | apply Kd.R_alloc | apply Kd.R_drewN | apply Kd.R_drew)); exact HO774.out))) (Kd.R_lt (by (with_reducible repeat (first | apply Kd.R_alloc | apply Kd.R_drewN | apply Kd.R_drew)); exact HO780.out))) (below_size (by repeat (first | (with_reducible first | exact HB.out | apply below_alloc | apply pw_below_drewN | apply below_drew1 | refine below_set ?_ (IsS87.ge HI755.out) | refine below_set ?_ GE748.out) | exact HB.out)))); have n3_ := Aside0.mk (blk_below (g := gb748) (o := .cells #[.int .i64 a0_0, .int .i64 a0_1, .slice A0_2 l0_2.length c0_2] 24 (0, 0)) (by (with_reducible repeat (first | refine blk_drewN ?_ _ | refine blk_drew ?_ | refine blk_alloc ?_ _)); exact BK748.out) hb); have n4_ := Aside0.mk (IsS87.below (by repeat (first | (with_reducible first | exact HI755.out | apply IsS87.alloc | apply IsS87.drewN | apply IsS87.drew | apply IsS87.set_0 | apply IsS87.set_1 | apply IsS87.set_3 | refine IsS87.far ?_ NB755_748.out _) | exact HI755.out)) hb); have n5_ := Aside0.mk (below_step (by repeat (first | (with_reducible first | exact HB.out | apply below_alloc | apply pw_below_drewN | apply below_drew1 | refine below_set ?_ (IsS87.ge HI755.out) | refine below_set ?_ GE748.out) | exact HB.out)) hb); clear HO774; clear HO780; clear BK748; clear HI755; clear HB; have HO774 := n0_; have HO780 := n1_; have HO787 := n2_; have BK748 := n3_; have HI755 := n4_; have HB := n5_; clear n0_ n1_ n2_ n3_ n4_ n5_; clear hb ho61; obtain ⟨Ao62, co62, eo62⟩ := Kd.R_slice HO787.out; subst eo62) | ((with_reducible refine gate_callee (f := 33) rfl ?_); refine goesL_ (some 102) rfl rfl Try.func33 (by kernel_rfl) rfl #[.pointer (some ⟨g755, 0, none⟩), .slice Ao62 y785.length co62] rfl (by (try simp only [List.map_toArray, List.map_cons, List.map_nil]); first | done | rfl | (simp only [List.length_drop, List.length_take]; rfl)) ?_; (with_reducible refine (word_Index.calls kj29 g755 t781 t782 t751 t783 t753 t754 _ _ y785 t788 t789 t790 t791 t792 w _ ?side1 ?side2 ?side3 ?side4 ?side5 A46.out).mono ?_); (case side1 => repeat (first | (with_reducible first | exact HI755.out | apply IsS87.alloc | apply IsS87.drewN | apply IsS87.drew | apply IsS87.set_0 | apply IsS87.set_1 | apply IsS87.set_3 | refine IsS87.far ?_ NB755_748.out _) | exact HI755.out)); (case side2 => repeat (first | (with_reducible first | exact HB.out | apply below_alloc | apply pw_below_drewN | apply below_drew1 | refine below_set ?_ (IsS87.ge HI755.out) | refine below_set ?_ GE748.out) | exact HB.out)); (case side3 => repeat (first | exact (Kd.R_reads' HO787.out).2.2 | (with_reducible refine Kd.C_alloc ?_ _) | (with_reducible refine Kd.C_drewN ?_ _) | (with_reducible refine Kd.C_drew ?_))); (case side4 => exact (Kd.R_reads' HO787.out).2.1); (case side5 => exact far_slice (IsS87.own_ne HI755.out HO787.out (by decide))); rintro e w63 ⟨rfl, hi, hb, hk⟩; refine ⟨_, rfl, ?_⟩; have n0_ := Aside0.mk (KeepBut.blk hk (g' := gb748) (o := .cells #[.int .i64 a0_0, .int .i64 a0_1, .slice A0_2 l0_2.length c0_2] 24 (0, 0)) (by (with_reducible repeat (first | refine blk_drewN ?_ _ | refine blk_drew ?_ | refine blk_alloc ?_ _)); exact BK748.out) NB748_755.out (by simp)); have n1_ := Aside0.mk (Kd.R_mono (Kd.R_keep (IsS87.apart (show IsS87 w _ g755 t781 t782 t751 t783 t753 t754 from by repeat (first | (with_reducible first | exact HI755.out | apply IsS87.alloc | apply IsS87.drewN | apply IsS87.drew | apply IsS87.set_0 | apply IsS87.set_1 | apply IsS87.set_3 | refine IsS87.far ?_ NB755_748.out _) | exact HI755.out)) (by (with_reducible repeat (first | apply Kd.R_alloc | apply Kd.R_drewN | apply Kd.R_drew)); exact HO774.out) (by decide)) hk (fun _ h => h.2)) (fun _ h => h.1)); have n2_ := Aside0.mk (Kd.R_mono (Kd.R_keep (IsS87.apart (show IsS87 w _ g755 t781 t782 t751 t783 t753 t754 from by repeat (first | (with_reducible first | exact HI755.out | apply IsS87.alloc | apply IsS87.drewN | apply IsS87.drew | apply IsS87.set_0 | apply IsS87.set_1 | apply IsS87.set_3 | refine IsS87.far ?_ NB755_748.out _) | exact HI755.out)) (by (with_reducible repeat (first | apply Kd.R_alloc | apply Kd.R_drewN | apply Kd.R_drew)); exact HO780.out) (by decide)) hk (fun _ h => h.2)) (fun _ h => h.1)); have n3_ := Aside0.mk (Kd.R_mono (Kd.R_keep (IsS87.apart (show IsS87 w _ g755 t781 t782 t751 t783 t753 t754 from by repeat (first | (with_reducible first | exact HI755.out | apply IsS87.alloc | apply IsS87.drewN | apply IsS87.drew | apply IsS87.set_0 | apply IsS87.set_1 | apply IsS87.set_3 | refine IsS87.far ?_ NB755_748.out _) | exact HI755.out)) (by (with_reducible repeat (first | apply Kd.R_alloc | apply Kd.R_drewN | apply Kd.R_drew)); exact HO787.out) (by decide)) hk (fun _ h => h.2)) (fun _ h => h.1)); have n4_ := Aside0.mk (hb); have n5_ := Aside0.mk (hi); clear BK748; clear HO774; clear HO780; clear HO787; clear HB; clear HI755; have BK748 := n0_; have HO774 := n1_; have HO780 := n2_; have HO787 := n3_; have HB := n4_; have HI755 := n5_; clear n0_ n1_ n2_ n3_ n4_ n5_; (try clear hb); (try clear hb2); (try clear hk); (try clear hi)))
                            go_ret
                            exact ⟨by first | rfl | (simp [errW_none, errW_some] <;> rfl) | (simp [*, errW_none, errW_some] <;> rfl), by repeat (first | (with_reducible first | exact HB.out | apply below_alloc | apply pw_below_drewN | apply below_drew1 | refine below_set ?_ (IsS87.ge HI755.out) | refine below_set ?_ GE748.out) | exact HB.out | exact below_tr HBW.out HB.out)⟩
                    · replace c32 := Bool.eq_false_iff.mpr c32
                      subst c32
                      have H1 : ((word_Index.f kj29 t767 t768 t751 t769 t753 t754 (([0, 1] : List Int))).bind fun bt796 => (if bt796.1 = 1 then (some (bt796.2.1 == 0)) else (some false))) = some r := by rw [if_neg (show ¬ (false = true) by decide)] at H; exact H
                      clear H
                      have H := H1
                      clear H1
                      obtain ⟨y793, hy793⟩ : ∃ y_ : List Int, y_ = (([0, 1] : List Int)) := ⟨_, rfl⟩
                      replace H : ((word_Index.f kj29 t767 t768 t751 t769 t753 t754 y793).bind fun bt796 => (if bt796.1 = 1 then (some (bt796.2.1 == 0)) else (some false))) = some r := by first | (rw [hy793]; with_reducible exact H) | (have H2_ := (Option.bind_some _ _).symm.trans H; rw [hy793]; with_reducible exact H2_) | (have H2_ := (Option.bind_some _ _).symm.trans H; with_reducible exact H2_) | with_reducible exact H | (rw [hy793]; exact H) | exact H
                      have Ny793 := Aside0.mk hy793
                      clear hy793
                      replace H := Option.bind_eq_some_iff.mp H
                      obtain ⟨⟨t796, t797, t798, t799, t800⟩, A640, H⟩ := H
                      replace H : (if t796 = 1 then (some (t797 == 0)) else (some false)) = some r := H
                      have A64 := Aside0.mk A640
                      clear A640
                      by_cases c65 : t796 = 1
                      · rw [if_pos c65] at H
                        have c65b0 : (t796 == 1) = true := beq_iff_eq.mpr c65
                        have c65b1 : (t796 != 1) = false := bne_eq_false_iff_eq.mpr c65
                        clear c65
                        obtain rfl := Option.some.inj H
                        go_wp2_with (first | ((with_reducible refine gate_dst (N := 101) rfl ?_); refine Kd.R_lit (Kd.int .i64) _ 3 ?hg (N := 101) ?hd (xs := ([0, 1] : List Int)) (inner := [.int .i64 0, .int .i64 1]) (ok := fun _ => True) (okp := fun _ => True) ?hr ?hp (fun _ hk => hk) trivial (Below.refl _ _) (Nat.le_refl _) (by simp) ?_; (case hd => rfl); (case hg => rfl); (case hr => first | (go_simp; done) | (go_simp; rfl)); (case hp => exact (Reps.one (show Kd.M (Kd.int .i64) _ _ _ 0 [.int .i64 0] from rfl) (Reps.one (show Kd.M (Kd.int .i64) _ _ _ 1 [.int .i64 1] from rfl) (Reps.none _ _)))); intro v794 w66 ho67 hb hg_ hnew_; clear hg_ hnew_; (first | rw [← Ny793.out] at ho67 | (simp only [Int.reduceToNat] at ho67; rw [← Ny793.out] at ho67)); have n0_ := Aside0.mk (Kd.R_lower ho67 (below_size (by repeat (first | (with_reducible first | exact HB.out | apply below_alloc | apply pw_below_drewN | apply below_drew1 | refine below_set ?_ (IsS87.ge HI755.out) | refine below_set ?_ GE748.out) | exact HB.out)))); have n1_ := Aside0.mk (blk_below (g := gb748) (o := .cells #[.int .i64 a0_0, .int .i64 a0_1, .slice A0_2 l0_2.length c0_2] 24 (0, 0)) (by (with_reducible repeat (first | refine blk_drewN ?_ _ | refine blk_drew ?_ | refine blk_alloc ?_ _)); exact BK748.out) hb); have n2_ := Aside0.mk (IsS87.below (by repeat (first | (with_reducible first | exact HI755.out | apply IsS87.alloc | apply IsS87.drewN | apply IsS87.drew | apply IsS87.set_0 | apply IsS87.set_1 | apply IsS87.set_3 | refine IsS87.far ?_ NB755_748.out _) | exact HI755.out)) hb); have n3_ := Aside0.mk (below_step (by repeat (first | (with_reducible first | exact HB.out | apply below_alloc | apply pw_below_drewN | apply below_drew1 | refine below_set ?_ (IsS87.ge HI755.out) | refine below_set ?_ GE748.out) | exact HB.out)) hb); clear BK748; clear HI755; clear HB; have HO795 := n0_; have BK748 := n1_; have HI755 := n2_; have HB := n3_; clear n0_ n1_ n2_ n3_; clear hb ho67; obtain ⟨Ao68, co68, eo68⟩ := Kd.R_slice HO795.out; subst eo68) | ((with_reducible refine gate_callee (f := 33) rfl ?_); refine goesL_ (some 102) rfl rfl Try.func33 (by kernel_rfl) rfl #[.pointer (some ⟨g755, 0, none⟩), .slice Ao68 y793.length co68] rfl (by (try simp only [List.map_toArray, List.map_cons, List.map_nil]); first | done | rfl | (simp only [List.length_drop, List.length_take]; rfl)) ?_; (with_reducible refine (word_Index.calls kj29 g755 t767 t768 t751 t769 t753 t754 _ _ y793 t796 t797 t798 t799 t800 w _ ?side1 ?side2 ?side3 ?side4 ?side5 A64.out).mono ?_); (case side1 => repeat (first | (with_reducible first | exact HI755.out | apply IsS87.alloc | apply IsS87.drewN | apply IsS87.drew | apply IsS87.set_0 | apply IsS87.set_1 | apply IsS87.set_3 | refine IsS87.far ?_ NB755_748.out _) | exact HI755.out)); (case side2 => repeat (first | (with_reducible first | exact HB.out | apply below_alloc | apply pw_below_drewN | apply below_drew1 | refine below_set ?_ (IsS87.ge HI755.out) | refine below_set ?_ GE748.out) | exact HB.out)); (case side3 => repeat (first | exact (Kd.R_reads' HO795.out).2.2 | (with_reducible refine Kd.C_alloc ?_ _) | (with_reducible refine Kd.C_drewN ?_ _) | (with_reducible refine Kd.C_drew ?_))); (case side4 => exact (Kd.R_reads' HO795.out).2.1); (case side5 => exact far_slice (IsS87.own_ne HI755.out HO795.out (by decide))); rintro e w69 ⟨rfl, hi, hb, hk⟩; refine ⟨_, rfl, ?_⟩; have n0_ := Aside0.mk (KeepBut.blk hk (g' := gb748) (o := .cells #[.int .i64 a0_0, .int .i64 a0_1, .slice A0_2 l0_2.length c0_2] 24 (0, 0)) (by (with_reducible repeat (first | refine blk_drewN ?_ _ | refine blk_drew ?_ | refine blk_alloc ?_ _)); exact BK748.out) NB748_755.out (by simp)); have n1_ := Aside0.mk (Kd.R_mono (Kd.R_keep (IsS87.apart (show IsS87 w _ g755 t767 t768 t751 t769 t753 t754 from by repeat (first | (with_reducible first | exact HI755.out | apply IsS87.alloc | apply IsS87.drewN | apply IsS87.drew | apply IsS87.set_0 | apply IsS87.set_1 | apply IsS87.set_3 | refine IsS87.far ?_ NB755_748.out _) | exact HI755.out)) (by (with_reducible repeat (first | apply Kd.R_alloc | apply Kd.R_drewN | apply Kd.R_drew)); exact HO795.out) (by decide)) hk (fun _ h => h.2)) (fun _ h => h.1)); have n2_ := Aside0.mk (hb); have n3_ := Aside0.mk (hi); clear BK748; clear HO795; clear HB; clear HI755; have BK748 := n0_; have HO795 := n1_; have HB := n2_; have HI755 := n3_; clear n0_ n1_ n2_ n3_; (try clear hb); (try clear hb2); (try clear hk); (try clear hi)))
                        go_ret
                        exact ⟨by first | rfl | (simp [errW_none, errW_some] <;> rfl) | (simp [*, errW_none, errW_some] <;> rfl), by repeat (first | (with_reducible first | exact HB.out | apply below_alloc | apply pw_below_drewN | apply below_drew1 | refine below_set ?_ (IsS87.ge HI755.out) | refine below_set ?_ GE748.out) | exact HB.out | exact below_tr HBW.out HB.out)⟩
                      · rw [if_neg c65] at H
                        have c65b0 : (t796 == 1) = false := beq_eq_false_iff_ne.mpr c65
                        have c65b1 : (t796 != 1) = true := bne_iff_ne.mpr c65
                        obtain rfl := Option.some.inj H
                        go_wp2_with (first | ((with_reducible refine gate_dst (N := 101) rfl ?_); refine Kd.R_lit (Kd.int .i64) _ 3 ?hg (N := 101) ?hd (xs := ([0, 1] : List Int)) (inner := [.int .i64 0, .int .i64 1]) (ok := fun _ => True) (okp := fun _ => True) ?hr ?hp (fun _ hk => hk) trivial (Below.refl _ _) (Nat.le_refl _) (by simp) ?_; (case hd => rfl); (case hg => rfl); (case hr => first | (go_simp; done) | (go_simp; rfl)); (case hp => exact (Reps.one (show Kd.M (Kd.int .i64) _ _ _ 0 [.int .i64 0] from rfl) (Reps.one (show Kd.M (Kd.int .i64) _ _ _ 1 [.int .i64 1] from rfl) (Reps.none _ _)))); intro v794 w70 ho71 hb hg_ hnew_; clear hg_ hnew_; (first | rw [← Ny793.out] at ho71 | (simp only [Int.reduceToNat] at ho71; rw [← Ny793.out] at ho71)); have n0_ := Aside0.mk (Kd.R_lower ho71 (below_size (by repeat (first | (with_reducible first | exact HB.out | apply below_alloc | apply pw_below_drewN | apply below_drew1 | refine below_set ?_ (IsS87.ge HI755.out) | refine below_set ?_ GE748.out) | exact HB.out)))); have n1_ := Aside0.mk (blk_below (g := gb748) (o := .cells #[.int .i64 a0_0, .int .i64 a0_1, .slice A0_2 l0_2.length c0_2] 24 (0, 0)) (by (with_reducible repeat (first | refine blk_drewN ?_ _ | refine blk_drew ?_ | refine blk_alloc ?_ _)); exact BK748.out) hb); have n2_ := Aside0.mk (IsS87.below (by repeat (first | (with_reducible first | exact HI755.out | apply IsS87.alloc | apply IsS87.drewN | apply IsS87.drew | apply IsS87.set_0 | apply IsS87.set_1 | apply IsS87.set_3 | refine IsS87.far ?_ NB755_748.out _) | exact HI755.out)) hb); have n3_ := Aside0.mk (below_step (by repeat (first | (with_reducible first | exact HB.out | apply below_alloc | apply pw_below_drewN | apply below_drew1 | refine below_set ?_ (IsS87.ge HI755.out) | refine below_set ?_ GE748.out) | exact HB.out)) hb); clear BK748; clear HI755; clear HB; have HO795 := n0_; have BK748 := n1_; have HI755 := n2_; have HB := n3_; clear n0_ n1_ n2_ n3_; clear hb ho71; obtain ⟨Ao72, co72, eo72⟩ := Kd.R_slice HO795.out; subst eo72) | ((with_reducible refine gate_callee (f := 33) rfl ?_); refine goesL_ (some 102) rfl rfl Try.func33 (by kernel_rfl) rfl #[.pointer (some ⟨g755, 0, none⟩), .slice Ao72 y793.length co72] rfl (by (try simp only [List.map_toArray, List.map_cons, List.map_nil]); first | done | rfl | (simp only [List.length_drop, List.length_take]; rfl)) ?_; (with_reducible refine (word_Index.calls kj29 g755 t767 t768 t751 t769 t753 t754 _ _ y793 t796 t797 t798 t799 t800 w _ ?side1 ?side2 ?side3 ?side4 ?side5 A64.out).mono ?_); (case side1 => repeat (first | (with_reducible first | exact HI755.out | apply IsS87.alloc | apply IsS87.drewN | apply IsS87.drew | apply IsS87.set_0 | apply IsS87.set_1 | apply IsS87.set_3 | refine IsS87.far ?_ NB755_748.out _) | exact HI755.out)); (case side2 => repeat (first | (with_reducible first | exact HB.out | apply below_alloc | apply pw_below_drewN | apply below_drew1 | refine below_set ?_ (IsS87.ge HI755.out) | refine below_set ?_ GE748.out) | exact HB.out)); (case side3 => repeat (first | exact (Kd.R_reads' HO795.out).2.2 | (with_reducible refine Kd.C_alloc ?_ _) | (with_reducible refine Kd.C_drewN ?_ _) | (with_reducible refine Kd.C_drew ?_))); (case side4 => exact (Kd.R_reads' HO795.out).2.1); (case side5 => exact far_slice (IsS87.own_ne HI755.out HO795.out (by decide))); rintro e w73 ⟨rfl, hi, hb, hk⟩; refine ⟨_, rfl, ?_⟩; have n0_ := Aside0.mk (KeepBut.blk hk (g' := gb748) (o := .cells #[.int .i64 a0_0, .int .i64 a0_1, .slice A0_2 l0_2.length c0_2] 24 (0, 0)) (by (with_reducible repeat (first | refine blk_drewN ?_ _ | refine blk_drew ?_ | refine blk_alloc ?_ _)); exact BK748.out) NB748_755.out (by simp)); have n1_ := Aside0.mk (Kd.R_mono (Kd.R_keep (IsS87.apart (show IsS87 w _ g755 t767 t768 t751 t769 t753 t754 from by repeat (first | (with_reducible first | exact HI755.out | apply IsS87.alloc | apply IsS87.drewN | apply IsS87.drew | apply IsS87.set_0 | apply IsS87.set_1 | apply IsS87.set_3 | refine IsS87.far ?_ NB755_748.out _) | exact HI755.out)) (by (with_reducible repeat (first | apply Kd.R_alloc | apply Kd.R_drewN | apply Kd.R_drew)); exact HO795.out) (by decide)) hk (fun _ h => h.2)) (fun _ h => h.1)); have n2_ := Aside0.mk (hb); have n3_ := Aside0.mk (hi); clear BK748; clear HO795; clear HB; clear HI755; have BK748 := n0_; have HO795 := n1_; have HB := n2_; have HI755 := n3_; clear n0_ n1_ n2_ n3_; (try clear hb); (try clear hb2); (try clear hk); (try clear hi)))
                        go_ret
                        exact ⟨by first | rfl | (simp [errW_none, errW_some] <;> rfl) | (simp [*, errW_none, errW_some] <;> rfl), by repeat (first | (with_reducible first | exact HB.out | apply below_alloc | apply pw_below_drewN | apply below_drew1 | refine below_set ?_ (IsS87.ge HI755.out) | refine below_set ?_ GE748.out) | exact HB.out | exact below_tr HBW.out HB.out)⟩

end Go.Proofs.Ythgaihhlbgccoaa.Q
