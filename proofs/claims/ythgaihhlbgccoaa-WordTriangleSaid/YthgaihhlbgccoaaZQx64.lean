import Derived.Test.YthgaihhlbgccoaaZQa
import Derived.Test.YthgaihhlbgccoaaZQb
import Derived.Test.YthgaihhlbgccoaaZQc
import Derived.Test.YthgaihhlbgccoaaZQd
import Derived.Test.YthgaihhlbgccoaaZQj
-- Written by a program of this work over the kit's printer; Lean checks it.
namespace Go.Proofs.Ythgaihhlbgccoaa.Q
open Go.RowKit Go.Proofs.YthgaihhlbgccoaaW.PrintWords Go.Proofs.YthgaihhlbgccoaaW.PrintLast Go.Proofs.YthgaihhlbgccoaaW.PrintMore
attribute [local go_sem] max2_int min2_int max_two min_two max_three min_three max_four min_four   -- for this text's walks alone
set_option linter.unusedVariables false
set_option linter.unusedSimpArgs false

/-! ### cw_WordTriangle: function 8 -/
mutual
def cw_WordTriangle.j0 : Nat → Bool → Int → Int → List Int → List Int → List Int → List Int → Int → Int → List Int → Int → List Int → List Int → Option (Bool)
 | 0, _, _, _, _, _, _, _, _, _, _, _, _, _ => none
 | k + 1, x37, x627000, x627001, x627002, x627003, x627004, x627005, x634000, x634001, x634002, x634003, x634004, x634005 => if x37 = true then (some false) else (if (x627003.length : Int) = (x627004.length : Int) then (cw_WordTriangle.j1 k ((x627004.length : Int) != (x627005.length : Int)) x627000 x627001 x627002 x627003 x627004 x627005 x634000 x634001 x634002 x634003 x634004 x634005) else (cw_WordTriangle.j1 k true x627000 x627001 x627002 x627003 x627004 x627005 x634000 x634001 x634002 x634003 x634004 x634005))
def cw_WordTriangle.j1 : Nat → Bool → Int → Int → List Int → List Int → List Int → List Int → Int → Int → List Int → Int → List Int → List Int → Option (Bool)
 | 0, _, _, _, _, _, _, _, _, _, _, _, _, _ => none
 | k + 1, x53, x627000, x627001, x627002, x627003, x627004, x627005, x634000, x634001, x634002, x634003, x634004, x634005 => if x53 = true then (some true) else ((word_Distance.f k x634000 x634001 x634002 x634003 x634004 x634005 x627003 x627004).bind fun bt647 => ((word_Distance.f k bt647.2.2.1 bt647.2.2.2.1 x634002 bt647.2.2.2.2 x634004 x634005 x627004 x627003).bind fun bt652 => ((word_Distance.f k bt652.2.2.1 bt652.2.2.2.1 x634002 bt652.2.2.2.2 x634004 x634005 x627004 x627005).bind fun bt657 => ((word_Distance.f k bt657.2.2.1 bt657.2.2.2.1 x634002 bt657.2.2.2.2 x634004 x634005 x627003 x627005).bind fun bt662 => (if bt647.2.1 = 0 then (if bt652.2.1 = 0 then (if bt657.2.1 = 0 then (cw_WordTriangle.j2 k bt647.1 bt652.1 bt657.1 bt662.1 (bt662.2.1 != 0) x627000 x627001 x627002 x627003 x627004 x627005) else (cw_WordTriangle.j2 k bt647.1 bt652.1 bt657.1 bt662.1 true x627000 x627001 x627002 x627003 x627004 x627005)) else (cw_WordTriangle.j2 k bt647.1 bt652.1 bt657.1 bt662.1 true x627000 x627001 x627002 x627003 x627004 x627005)) else (cw_WordTriangle.j2 k bt647.1 bt652.1 bt657.1 bt662.1 true x627000 x627001 x627002 x627003 x627004 x627005))))))
def cw_WordTriangle.j2 : Nat → Int → Int → Int → Int → Bool → Int → Int → List Int → List Int → List Int → List Int → Option (Bool)
 | 0, _, _, _, _, _, _, _, _, _, _, _ => none
 | k + 1, x8, x10, x12, x14, x103, x627000, x627001, x627002, x627003, x627004, x627005 => if x103 = true then (some false) else (if x8 = x10 then ((crB_Clean.f k x627000 x627001 x627002 x627003).bind fun t667 => ((crB_Clean.f k x627000 x627001 x627002 x627004).bind fun t670 => ((crB_Same.f k t667 t670).bind fun t673 => (if ((x8 == 0) != t673) = true then (some false) else (some (decide (x14 ≤ (wrap64 (x8 + x12))))))))) else (some false))
end
def cw_WordTriangle.f (k : Nat) (a0_0 : Int) (a0_1 : Int) (l0_2 : List Int) (l0_3 : List Int) (l0_4 : List Int) (l0_5 : List Int) : Option (Bool) := (cw_open.f k a0_0 a0_1 l0_2).bind fun bt627 => (if bt627.2.2.2.2.2.2.1 = true then (some bt627.2.2.2.2.2.2.2) else ((word_Distance.f k bt627.1 bt627.2.1 bt627.2.2.1 bt627.2.2.2.1 bt627.2.2.2.2.1 bt627.2.2.2.2.2.1 (([1, 0, 1] : List Int)) (([0, 0, 1] : List Int))).bind fun bt642 => (if bt642.1 = 1 then (cw_WordTriangle.j0 k (bt642.2.1 != 0) a0_0 a0_1 l0_2 l0_3 l0_4 l0_5 bt642.2.2.1 bt642.2.2.2.1 bt627.2.2.1 bt642.2.2.2.2 bt627.2.2.2.2.1 bt627.2.2.2.2.2.1) else (cw_WordTriangle.j0 k true a0_0 a0_1 l0_2 l0_3 l0_4 l0_5 bt642.2.2.1 bt642.2.2.2.1 bt627.2.2.1 bt642.2.2.2.2 bt627.2.2.2.2.1 bt627.2.2.2.2.2.1))))
theorem cw_WordTriangle.mono_l : ∀ k, (∀ y0 y1 y2 y3 y4 y5 y6 y7 y8 y9 y10 y11 y12, LeO (cw_WordTriangle.j0 k y0 y1 y2 y3 y4 y5 y6 y7 y8 y9 y10 y11 y12) (cw_WordTriangle.j0 (k + 1) y0 y1 y2 y3 y4 y5 y6 y7 y8 y9 y10 y11 y12)) ∧ (∀ y0 y1 y2 y3 y4 y5 y6 y7 y8 y9 y10 y11 y12, LeO (cw_WordTriangle.j1 k y0 y1 y2 y3 y4 y5 y6 y7 y8 y9 y10 y11 y12) (cw_WordTriangle.j1 (k + 1) y0 y1 y2 y3 y4 y5 y6 y7 y8 y9 y10 y11 y12)) ∧ (∀ y0 y1 y2 y3 y4 y5 y6 y7 y8 y9 y10, LeO (cw_WordTriangle.j2 k y0 y1 y2 y3 y4 y5 y6 y7 y8 y9 y10) (cw_WordTriangle.j2 (k + 1) y0 y1 y2 y3 y4 y5 y6 y7 y8 y9 y10))
 | 0 => ⟨fun _ _ _ _ _ _ _ _ _ _ _ _ _ r h => by simp [cw_WordTriangle.j0] at h, fun _ _ _ _ _ _ _ _ _ _ _ _ _ r h => by simp [cw_WordTriangle.j1] at h, fun _ _ _ _ _ _ _ _ _ _ _ r h => by simp [cw_WordTriangle.j2] at h⟩
 | k + 1 => by
  obtain ⟨ih0, ih1, ih2⟩ := cw_WordTriangle.mono_l k
  refine ⟨?_, ?_, ?_⟩
  ·intro y0 y1 y2 y3 y4 y5 y6 y7 y8 y9 y10 y11 y12
   unfold cw_WordTriangle.j0
   repeat' first
   | (with_reducible exact ih0 _ _ _ _ _ _ _ _ _ _ _ _ _)
   | (with_reducible exact ih1 _ _ _ _ _ _ _ _ _ _ _ _ _)
   | (with_reducible exact ih2 _ _ _ _ _ _ _ _ _ _ _)
   | (with_reducible exact cw_open.mono _ _ _ _)
   | (with_reducible exact crB_Clean.mono _ _ _ _ _)
   | (with_reducible exact crB_Same.mono _ _ _)
   | (with_reducible exact word_Distance.mono _ _ _ _ _ _ _ _ _)
   | (with_reducible exact LeO.refl _)
   | (with_reducible exact LeO.none _)
   | (with_reducible refine LeO.ite ?_ ?_)
   | (with_reducible refine LeO.bind ?_ (fun _ => ?_))
   | exact ih0 _ _ _ _ _ _ _ _ _ _ _ _ _
   | exact ih1 _ _ _ _ _ _ _ _ _ _ _ _ _
   | exact ih2 _ _ _ _ _ _ _ _ _ _ _
   | exact cw_open.mono _ _ _ _
   | exact crB_Clean.mono _ _ _ _ _
   | exact crB_Same.mono _ _ _
   | exact word_Distance.mono _ _ _ _ _ _ _ _ _
   | exact LeO.none _
   | refine LeO.ite ?_ ?_
   | refine LeO.bind ?_ (fun _ => ?_)
  ·intro y0 y1 y2 y3 y4 y5 y6 y7 y8 y9 y10 y11 y12
   unfold cw_WordTriangle.j1
   repeat' first
   | (with_reducible exact ih0 _ _ _ _ _ _ _ _ _ _ _ _ _)
   | (with_reducible exact ih1 _ _ _ _ _ _ _ _ _ _ _ _ _)
   | (with_reducible exact ih2 _ _ _ _ _ _ _ _ _ _ _)
   | (with_reducible exact cw_open.mono _ _ _ _)
   | (with_reducible exact crB_Clean.mono _ _ _ _ _)
   | (with_reducible exact crB_Same.mono _ _ _)
   | (with_reducible exact word_Distance.mono _ _ _ _ _ _ _ _ _)
   | (with_reducible exact LeO.refl _)
   | (with_reducible exact LeO.none _)
   | (with_reducible refine LeO.ite ?_ ?_)
   | (with_reducible refine LeO.bind ?_ (fun _ => ?_))
   | exact ih0 _ _ _ _ _ _ _ _ _ _ _ _ _
   | exact ih1 _ _ _ _ _ _ _ _ _ _ _ _ _
   | exact ih2 _ _ _ _ _ _ _ _ _ _ _
   | exact cw_open.mono _ _ _ _
   | exact crB_Clean.mono _ _ _ _ _
   | exact crB_Same.mono _ _ _
   | exact word_Distance.mono _ _ _ _ _ _ _ _ _
   | exact LeO.none _
   | refine LeO.ite ?_ ?_
   | refine LeO.bind ?_ (fun _ => ?_)
  ·intro y0 y1 y2 y3 y4 y5 y6 y7 y8 y9 y10
   unfold cw_WordTriangle.j2
   repeat' first
   | (with_reducible exact ih0 _ _ _ _ _ _ _ _ _ _ _ _ _)
   | (with_reducible exact ih1 _ _ _ _ _ _ _ _ _ _ _ _ _)
   | (with_reducible exact ih2 _ _ _ _ _ _ _ _ _ _ _)
   | (with_reducible exact cw_open.mono _ _ _ _)
   | (with_reducible exact crB_Clean.mono _ _ _ _ _)
   | (with_reducible exact crB_Same.mono _ _ _)
   | (with_reducible exact word_Distance.mono _ _ _ _ _ _ _ _ _)
   | (with_reducible exact LeO.refl _)
   | (with_reducible exact LeO.none _)
   | (with_reducible refine LeO.ite ?_ ?_)
   | (with_reducible refine LeO.bind ?_ (fun _ => ?_))
   | exact ih0 _ _ _ _ _ _ _ _ _ _ _ _ _
   | exact ih1 _ _ _ _ _ _ _ _ _ _ _ _ _
   | exact ih2 _ _ _ _ _ _ _ _ _ _ _
   | exact cw_open.mono _ _ _ _
   | exact crB_Clean.mono _ _ _ _ _
   | exact crB_Same.mono _ _ _
   | exact word_Distance.mono _ _ _ _ _ _ _ _ _
   | exact LeO.none _
   | refine LeO.ite ?_ ?_
   | refine LeO.bind ?_ (fun _ => ?_)
theorem cw_WordTriangle.mono : ∀ a0 a1 a2 a3 a4 a5 k, LeO (cw_WordTriangle.f k a0 a1 a2 a3 a4 a5) (cw_WordTriangle.f (k + 1) a0 a1 a2 a3 a4 a5) := by
 intro a0 a1 a2 a3 a4 a5 k
 obtain ⟨ih0, ih1, ih2⟩ := cw_WordTriangle.mono_l k
 unfold cw_WordTriangle.f
 repeat' first
   | (with_reducible exact ih0 _ _ _ _ _ _ _ _ _ _ _ _ _)
   | (with_reducible exact ih1 _ _ _ _ _ _ _ _ _ _ _ _ _)
   | (with_reducible exact ih2 _ _ _ _ _ _ _ _ _ _ _)
   | (with_reducible exact cw_open.mono _ _ _ _)
   | (with_reducible exact crB_Clean.mono _ _ _ _ _)
   | (with_reducible exact crB_Same.mono _ _ _)
   | (with_reducible exact word_Distance.mono _ _ _ _ _ _ _ _ _)
   | (with_reducible exact LeO.refl _)
   | (with_reducible exact LeO.none _)
   | (with_reducible refine LeO.ite ?_ ?_)
   | (with_reducible refine LeO.bind ?_ (fun _ => ?_))
   | exact ih0 _ _ _ _ _ _ _ _ _ _ _ _ _
   | exact ih1 _ _ _ _ _ _ _ _ _ _ _ _ _
   | exact ih2 _ _ _ _ _ _ _ _ _ _ _
   | exact cw_open.mono _ _ _ _
   | exact crB_Clean.mono _ _ _ _ _
   | exact crB_Same.mono _ _ _
   | exact word_Distance.mono _ _ _ _ _ _ _ _ _
   | exact LeO.none _
   | refine LeO.ite ?_ ?_
   | refine LeO.bind ?_ (fun _ => ?_)
def cw_WordTriangle.T15 : Bool × List (List Nat × List Nat) := (true, [([], []), ([], []), ([0, 1], [0, 1]), ([2], [2]), ([3], [3]), ([4, 3], [3, 4]), ([3], [3]), ([6, 3], [3, 6]), ([3], [3]), ([8, 3], [3, 8]), ([7, 9, 3, 3], [3, 7, 9]), ([3], [3]), ([11, 3], [3, 11]), ([3], [3]), ([13, 3], [3, 13]), ([12, 14, 10, 3], [3, 12, 14]), ([10, 15, 15, 3], [3, 10, 15]), ([5, 16, 3], [3, 5, 16]), ([3, 17], [3, 17])])
def cw_WordTriangle.B15 : List Nat := [0, 0, 3, 7, 15, 31, 15, 79, 15, 271, 975, 15, 2063, 15, 8207, 32719, 65487, 131071, 262143]
theorem cw_WordTriangle.tab15 : rtab .any (opsOf Try.f8 15) = cw_WordTriangle.T15 := by kernel_rfl
theorem cw_WordTriangle.bits15 : waitsOk cw_WordTriangle.T15.2 cw_WordTriangle.B15 = true := by kernel_rfl
set_option maxHeartbeats 8000000 in
set_option maxRecDepth 100000 in
theorem cw_WordTriangle.calls (k : Nat) (a0_0 : Int) (a0_1 : Int) (A0_2 : Option Addr) (c0_2 : Nat) (l0_2 : List Int) (A0_3 : Option Addr) (c0_3 : Nat) (l0_3 : List Int) (A0_4 : Option Addr) (c0_4 : Nat) (l0_4 : List Int) (A0_5 : Option Addr) (c0_5 : Nat) (l0_5 : List Int) (r : Bool) (w : World) (hr0_2 : Kd.C (Kd.int .i64) w A0_2 l0_2.length l0_2) (hc0_2 : l0_2.length ≤ c0_2) (hr0_3 : Kd.C (Kd.int .i64) w A0_3 l0_3.length l0_3) (hc0_3 : l0_3.length ≤ c0_3) (hr0_4 : Kd.C (Kd.int .i64) w A0_4 l0_4.length l0_4) (hc0_4 : l0_4.length ≤ c0_4) (hr0_5 : Kd.C (Kd.int .i64) w A0_5 l0_5.length l0_5) (hc0_5 : l0_5.length ≤ c0_5) (h : cw_WordTriangle.f k a0_0 a0_1 l0_2 l0_3 l0_4 l0_5 = some r) :
  Calls Try.prog 8 #[.agg #[.int .i64 a0_0, .int .i64 a0_1, .slice A0_2 l0_2.length c0_2, .slice A0_3 l0_3.length c0_3, .slice A0_4 l0_4.length c0_4, .slice A0_5 l0_5.length c0_5]] w fun e w' => e = .returned (.bool r) ∧ Below w.heap.size w w' := by
 have hu49 := Try.underlying49
 have hu24 := Try.underlying24
 have HR0_2 := Aside0.mk hr0_2
 have HC0_2 := Aside0.mk hc0_2
 clear hr0_2 hc0_2
 have HR0_3 := Aside0.mk hr0_3
 have HC0_3 := Aside0.mk hc0_3
 clear hr0_3 hc0_3
 have HR0_4 := Aside0.mk hr0_4
 have HC0_4 := Aside0.mk hc0_4
 clear hr0_4 hc0_4
 have HR0_5 := Aside0.mk hr0_5
 have HC0_5 := Aside0.mk hc0_5
 clear hr0_5 hc0_5
 have HB := Aside0.mk (Below.refl w.heap.size w)
 have H : ((cw_open.f k a0_0 a0_1 l0_2).bind fun bt627 => (if bt627.2.2.2.2.2.2.1 = true then (some bt627.2.2.2.2.2.2.2) else ((word_Distance.f k bt627.1 bt627.2.1 bt627.2.2.1 bt627.2.2.2.1 bt627.2.2.2.2.1 bt627.2.2.2.2.2.1 (([1, 0, 1] : List Int)) (([0, 0, 1] : List Int))).bind fun bt642 => (if bt642.1 = 1 then (cw_WordTriangle.j0 k (bt642.2.1 != 0) a0_0 a0_1 l0_2 l0_3 l0_4 l0_5 bt642.2.2.1 bt642.2.2.2.1 bt627.2.2.1 bt642.2.2.2.2 bt627.2.2.2.2.1 bt627.2.2.2.2.2.1) else (cw_WordTriangle.j0 k true a0_0 a0_1 l0_2 l0_3 l0_4 l0_5 bt642.2.2.1 bt642.2.2.2.1 bt627.2.2.1 bt642.2.2.2.2 bt627.2.2.2.2.1 bt627.2.2.2.2.2.1))))) = some r := h
 clear h
 replace H := Option.bind_eq_some_iff.mp H
 obtain ⟨⟨t627, t628, t629, t630, t631, t632, t634, t635⟩, A20, H⟩ := H
 replace H : (if t634 = true then (some t635) else ((word_Distance.f k t627 t628 t629 t630 t631 t632 (([1, 0, 1] : List Int)) (([0, 0, 1] : List Int))).bind fun bt642 => (if bt642.1 = 1 then (cw_WordTriangle.j0 k (bt642.2.1 != 0) a0_0 a0_1 l0_2 l0_3 l0_4 l0_5 bt642.2.2.1 bt642.2.2.2.1 t629 bt642.2.2.2.2 t631 t632) else (cw_WordTriangle.j0 k true a0_0 a0_1 l0_2 l0_3 l0_4 l0_5 bt642.2.2.1 bt642.2.2.2.1 t629 bt642.2.2.2.2 t631 t632)))) = some r := H
 have A2 := Aside0.mk A20
 clear A20
 by_cases c3 : t634 = true
 ·subst c3
  exact absurd (cw_open.not_done A2.out) (by decide)
 ·replace c3 := Bool.eq_false_iff.mpr c3
  subst c3
  have H1 : ((word_Distance.f k t627 t628 t629 t630 t631 t632 (([1, 0, 1] : List Int)) (([0, 0, 1] : List Int))).bind fun bt642 => (if bt642.1 = 1 then (cw_WordTriangle.j0 k (bt642.2.1 != 0) a0_0 a0_1 l0_2 l0_3 l0_4 l0_5 bt642.2.2.1 bt642.2.2.2.1 t629 bt642.2.2.2.2 t631 t632) else (cw_WordTriangle.j0 k true a0_0 a0_1 l0_2 l0_3 l0_4 l0_5 bt642.2.2.1 bt642.2.2.2.1 t629 bt642.2.2.2.2 t631 t632))) = some r := by rw [if_neg (show ¬ (false = true) by decide)] at H; exact H
  clear H
  have H := H1
  clear H1
  obtain ⟨y636, hy636⟩ : ∃ y_ : List Int, y_ = (([1, 0, 1] : List Int)) := ⟨_, rfl⟩
  replace H : ((word_Distance.f k t627 t628 t629 t630 t631 t632 y636 (([0, 0, 1] : List Int))).bind fun bt642 => (if bt642.1 = 1 then (cw_WordTriangle.j0 k (bt642.2.1 != 0) a0_0 a0_1 l0_2 l0_3 l0_4 l0_5 bt642.2.2.1 bt642.2.2.2.1 t629 bt642.2.2.2.2 t631 t632) else (cw_WordTriangle.j0 k true a0_0 a0_1 l0_2 l0_3 l0_4 l0_5 bt642.2.2.1 bt642.2.2.2.1 t629 bt642.2.2.2.2 t631 t632))) = some r := by first | (rw [hy636]; with_reducible exact H) | (have H2_ := (Option.bind_some _ _).symm.trans H; rw [hy636]; with_reducible exact H2_) | (have H2_ := (Option.bind_some _ _).symm.trans H; with_reducible exact H2_) | with_reducible exact H | (rw [hy636]; exact H) | exact H
  have Ny636 := Aside0.mk hy636
  clear hy636
  obtain ⟨y639, hy639⟩ : ∃ y_ : List Int, y_ = (([0, 0, 1] : List Int)) := ⟨_, rfl⟩
  replace H : ((word_Distance.f k t627 t628 t629 t630 t631 t632 y636 y639).bind fun bt642 => (if bt642.1 = 1 then (cw_WordTriangle.j0 k (bt642.2.1 != 0) a0_0 a0_1 l0_2 l0_3 l0_4 l0_5 bt642.2.2.1 bt642.2.2.2.1 t629 bt642.2.2.2.2 t631 t632) else (cw_WordTriangle.j0 k true a0_0 a0_1 l0_2 l0_3 l0_4 l0_5 bt642.2.2.1 bt642.2.2.2.1 t629 bt642.2.2.2.2 t631 t632))) = some r := by first | (rw [hy639]; with_reducible exact H) | (have H2_ := (Option.bind_some _ _).symm.trans H; rw [hy639]; with_reducible exact H2_) | (have H2_ := (Option.bind_some _ _).symm.trans H; with_reducible exact H2_) | with_reducible exact H | (rw [hy639]; exact H) | exact H
  have Ny639 := Aside0.mk hy639
  clear hy639
  replace H := Option.bind_eq_some_iff.mp H
  obtain ⟨⟨t642, t643, t644, t645, t646⟩, A70, H⟩ := H
  replace H : (if t642 = 1 then (cw_WordTriangle.j0 k (t643 != 0) a0_0 a0_1 l0_2 l0_3 l0_4 l0_5 t644 t645 t629 t646 t631 t632) else (cw_WordTriangle.j0 k true a0_0 a0_1 l0_2 l0_3 l0_4 l0_5 t644 t645 t629 t646 t631 t632)) = some r := H
  have A7 := Aside0.mk A70
  clear A70
  have HC8 := Aside0.mk H
  clear H
  go_enter Try.func8, Try.ntmps8
  go_upto_region 5 with (first | ((with_reducible refine gate_dst (N := 1) rfl ?_); (try (refine gate_guard (by rfl) ?_; dsimp only)); refine box_event ?hg (N := 1) ?hd (cs := #[.int .i64 a0_0, .int .i64 a0_1, .slice A0_2 l0_2.length c0_2, .slice A0_3 l0_3.length c0_3, .slice A0_4 l0_4.length c0_4, .slice A0_5 l0_5.length c0_5]) (t := 49) ?hr ?_; (case hd => rfl); (case hg => rfl); (case hr => first | (go_simp; done) | (go_simp; rfl)); intro gb626 hg w9 hbox hb; have n0_ := Aside0.mk (below_step (by repeat (first | (with_reducible first | exact HB.out | apply below_alloc | apply pw_below_drewN | apply below_drew1) | exact HB.out)) hb); have n1_ := Aside0.mk (hbox); have n2_ := Aside0.mk ((by rw [hg]; exact (below_size (by repeat (first | (with_reducible first | exact HB.out | apply below_alloc | apply pw_below_drewN | apply below_drew1) | exact HB.out))) : w.heap.size ≤ gb626)); have n3_ := Aside0.mk ((by rw [hg]; exact (below_size (by repeat (first | (with_reducible first | exact HB.out | apply below_alloc | apply pw_below_drewN | apply below_drew1) | exact HB.out))) : w.heap.size ≤ gb626)); clear HB; have HB := n0_; have BK626 := n1_; have GW626 := n2_; have GE626 := n3_; clear n0_ n1_ n2_ n3_; clear hb hbox hg; have hcz10_0 : w9.cell? ⟨gb626, 0, none⟩ = some (.int .i64 a0_0) := (blk_cell BK626.out 0).trans rfl; have hcz10_1 : w9.cell? ⟨gb626, 1, none⟩ = some (.int .i64 a0_1) := (blk_cell BK626.out 1).trans rfl; have hcz10_2 : w9.cell? ⟨gb626, 2, none⟩ = some (.slice A0_2 l0_2.length c0_2) := (blk_cell BK626.out 2).trans rfl; have hcz10_3 : w9.cell? ⟨gb626, 3, none⟩ = some (.slice A0_3 l0_3.length c0_3) := (blk_cell BK626.out 3).trans rfl; have hcz10_4 : w9.cell? ⟨gb626, 4, none⟩ = some (.slice A0_4 l0_4.length c0_4) := (blk_cell BK626.out 4).trans rfl; have hcz10_5 : w9.cell? ⟨gb626, 5, none⟩ = some (.slice A0_5 l0_5.length c0_5) := (blk_cell BK626.out 5).trans rfl; have hfz10_0 := blk_frozen BK626.out 0; have hfz10_1 := blk_frozen BK626.out 1; have hfz10_2 := blk_frozen BK626.out 2; have hfz10_3 := blk_frozen BK626.out 3; have hfz10_4 := blk_frozen BK626.out 4; have hfz10_5 := blk_frozen BK626.out 5) | ((with_reducible refine gate_callee (f := 12) rfl ?_); refine goesL_ (some 19) rfl rfl Try.func12 (by kernel_rfl) rfl #[.agg #[.int .i64 a0_0, .int .i64 a0_1, .slice A0_2 l0_2.length c0_2]] rfl (by (try simp only [List.map_toArray, List.map_cons, List.map_nil]); first | done | rfl | (simp only [List.length_drop, List.length_take]; rfl)) ?_; (with_reducible refine (cw_open.calls k a0_0 a0_1 _ _ l0_2 t627 t628 t629 t630 t631 t632 false t635 w _ ?side1 ?side2 ?side3 A2.out).mono ?_); (case side1 => repeat (first | (with_reducible first | exact HB.out | apply below_alloc | apply pw_below_drewN | apply below_drew1 | refine below_set ?_ GE626.out) | exact HB.out)); (case side2 => exact HR0_2.out); (case side3 => exact HC0_2.out); rintro e w11 ⟨⟨_, _⟩, g633, rfl, ub_, hu1_, hi, hb, hb2⟩; refine ⟨_, rfl, ?_⟩; have HBW := Aside0.mk (below_tr (show Below w.heap.size w _ by repeat (first | (with_reducible first | exact HB.out | apply below_alloc | apply pw_below_drewN | apply below_drew1 | refine below_set ?_ GE626.out) | exact HB.out)) hu1_); have HR0_2_ := Aside0.mk (Kd.C_below (Kd.C_below HR0_2.out (show Below w.heap.size w _ by repeat (first | (with_reducible first | exact HB.out | apply below_alloc | apply pw_below_drewN | apply below_drew1 | refine below_set ?_ GE626.out) | exact HB.out))) hu1_); clear HR0_2; have HR0_2 := HR0_2_; clear HR0_2_; have HR0_3_ := Aside0.mk (Kd.C_below (Kd.C_below HR0_3.out (show Below w.heap.size w _ by repeat (first | (with_reducible first | exact HB.out | apply below_alloc | apply pw_below_drewN | apply below_drew1 | refine below_set ?_ GE626.out) | exact HB.out))) hu1_); clear HR0_3; have HR0_3 := HR0_3_; clear HR0_3_; have HR0_4_ := Aside0.mk (Kd.C_below (Kd.C_below HR0_4.out (show Below w.heap.size w _ by repeat (first | (with_reducible first | exact HB.out | apply below_alloc | apply pw_below_drewN | apply below_drew1 | refine below_set ?_ GE626.out) | exact HB.out))) hu1_); clear HR0_4; have HR0_4 := HR0_4_; clear HR0_4_; have HR0_5_ := Aside0.mk (Kd.C_below (Kd.C_below HR0_5.out (show Below w.heap.size w _ by repeat (first | (with_reducible first | exact HB.out | apply below_alloc | apply pw_below_drewN | apply below_drew1 | refine below_set ?_ GE626.out) | exact HB.out))) hu1_); clear HR0_5; have HR0_5 := HR0_5_; clear HR0_5_; obtain ⟨w, hw_⟩ : ∃ x, x = ub_ := ⟨_, rfl⟩; subst hw_; have n0_ := Aside0.mk (blk_below (g := gb626) (o := .cells #[.int .i64 a0_0, .int .i64 a0_1, .slice A0_2 l0_2.length c0_2, .slice A0_3 l0_3.length c0_3, .slice A0_4 l0_4.length c0_4, .slice A0_5 l0_5.length c0_5] 49 (0, 0)) (by (with_reducible repeat (first | refine blk_drewN ?_ _ | refine blk_drew ?_ | refine blk_alloc ?_ _)); exact BK626.out) hb2); have n1_ := Aside0.mk (hb); have n2_ := Aside0.mk (hi); have n3_ := Aside0.mk (IsS87.ne_blk hi (blk_below (g := gb626) (o := .cells #[.int .i64 a0_0, .int .i64 a0_1, .slice A0_2 l0_2.length c0_2, .slice A0_3 l0_3.length c0_3, .slice A0_4 l0_4.length c0_4, .slice A0_5 l0_5.length c0_5] 49 (0, 0)) (by (with_reducible repeat (first | refine blk_drewN ?_ _ | refine blk_drew ?_ | refine blk_alloc ?_ _)); exact BK626.out) hb2) (by decide)); have n4_ := Aside0.mk (Ne.symm (IsS87.ne_blk hi (blk_below (g := gb626) (o := .cells #[.int .i64 a0_0, .int .i64 a0_1, .slice A0_2 l0_2.length c0_2, .slice A0_3 l0_3.length c0_3, .slice A0_4 l0_4.length c0_4, .slice A0_5 l0_5.length c0_5] 49 (0, 0)) (by (with_reducible repeat (first | refine blk_drewN ?_ _ | refine blk_drew ?_ | refine blk_alloc ?_ _)); exact BK626.out) hb2) (by decide))); clear BK626; clear HB; have BK626 := n0_; have HB := n1_; have HI633 := n2_; have NB633_626 := n3_; have NB626_633 := n4_; clear n0_ n1_ n2_ n3_ n4_; (try clear hb); (try clear hb2); (try clear hk); (try clear hi)) | ((with_reducible refine gate_dst (N := 27) rfl ?_); (try (refine gate_guard (by rfl) ?_; dsimp only)); refine Kd.R_lit (Kd.int .i64) _ 3 ?hg (N := 27) ?hd (xs := ([1, 0, 1] : List Int)) (inner := [.int .i64 1, .int .i64 0, .int .i64 1]) (ok := fun _ => True) (okp := fun _ => True) ?hr ?hp (fun _ hk => hk) trivial (Below.refl _ _) (Nat.le_refl _) (by simp) ?_; (case hd => rfl); (case hg => rfl); (case hr => first | (go_simp; done) | (go_simp; rfl)); (case hp => exact (Reps.one (show Kd.M (Kd.int .i64) _ _ _ 1 [.int .i64 1] from rfl) (Reps.one (show Kd.M (Kd.int .i64) _ _ _ 0 [.int .i64 0] from rfl) (Reps.one (show Kd.M (Kd.int .i64) _ _ _ 1 [.int .i64 1] from rfl) (Reps.none _ _))))); intro v637 w12 ho13 hb hg_ hnew_; clear hg_ hnew_; (first | rw [← Ny636.out] at ho13 | (simp only [Int.reduceToNat] at ho13; rw [← Ny636.out] at ho13)); have n0_ := Aside0.mk (Kd.R_lower ho13 (below_size (by repeat (first | (with_reducible first | exact HB.out | apply below_alloc | apply pw_below_drewN | apply below_drew1 | refine below_set ?_ (IsS87.ge HI633.out) | refine below_set ?_ GE626.out) | exact HB.out)))); have n1_ := Aside0.mk (blk_below (g := gb626) (o := .cells #[.int .i64 a0_0, .int .i64 a0_1, .slice A0_2 l0_2.length c0_2, .slice A0_3 l0_3.length c0_3, .slice A0_4 l0_4.length c0_4, .slice A0_5 l0_5.length c0_5] 49 (0, 0)) (by (with_reducible repeat (first | refine blk_drewN ?_ _ | refine blk_drew ?_ | refine blk_alloc ?_ _)); exact BK626.out) hb); have n2_ := Aside0.mk (IsS87.below (by repeat (first | (with_reducible first | exact HI633.out | apply IsS87.alloc | apply IsS87.drewN | apply IsS87.drew | apply IsS87.set_0 | apply IsS87.set_1 | apply IsS87.set_3 | refine IsS87.far ?_ NB633_626.out _) | exact HI633.out)) hb); have n3_ := Aside0.mk (below_step (by repeat (first | (with_reducible first | exact HB.out | apply below_alloc | apply pw_below_drewN | apply below_drew1 | refine below_set ?_ (IsS87.ge HI633.out) | refine below_set ?_ GE626.out) | exact HB.out)) hb); clear BK626; clear HI633; clear HB; have HO638 := n0_; have BK626 := n1_; have HI633 := n2_; have HB := n3_; clear n0_ n1_ n2_ n3_; clear hb ho13) | ((with_reducible refine gate_dst (N := 28) rfl ?_); (try (refine gate_guard (by rfl) ?_; dsimp only)); refine Kd.R_lit (Kd.int .i64) _ 3 ?hg (N := 28) ?hd (xs := ([0, 0, 1] : List Int)) (inner := [.int .i64 0, .int .i64 0, .int .i64 1]) (ok := fun _ => True) (okp := fun _ => True) ?hr ?hp (fun _ hk => hk) trivial (Below.refl _ _) (Nat.le_refl _) (by simp) ?_; (case hd => rfl); (case hg => rfl); (case hr => first | (go_simp; done) | (go_simp; rfl)); (case hp => exact (Reps.one (show Kd.M (Kd.int .i64) _ _ _ 0 [.int .i64 0] from rfl) (Reps.one (show Kd.M (Kd.int .i64) _ _ _ 0 [.int .i64 0] from rfl) (Reps.one (show Kd.M (Kd.int .i64) _ _ _ 1 [.int .i64 1] from rfl) (Reps.none _ _))))); intro v640 w14 ho15 hb hg_ hnew_; clear hg_ hnew_; (first | rw [← Ny639.out] at ho15 | (simp only [Int.reduceToNat] at ho15; rw [← Ny639.out] at ho15)); have n0_ := Aside0.mk (Kd.R_elder' (by (with_reducible repeat (first | apply Kd.R_alloc | apply Kd.R_drewN | apply Kd.R_drew)); exact HO638.out) (Kd.R_base ho15) hb); have n1_ := Aside0.mk (Kd.R_lower (Kd.R_new' ho15 (Kd.R_lt (by (with_reducible repeat (first | apply Kd.R_alloc | apply Kd.R_drewN | apply Kd.R_drew)); exact HO638.out))) (below_size (by repeat (first | (with_reducible first | exact HB.out | apply below_alloc | apply pw_below_drewN | apply below_drew1 | refine below_set ?_ (IsS87.ge HI633.out) | refine below_set ?_ GE626.out) | exact HB.out)))); have n2_ := Aside0.mk (blk_below (g := gb626) (o := .cells #[.int .i64 a0_0, .int .i64 a0_1, .slice A0_2 l0_2.length c0_2, .slice A0_3 l0_3.length c0_3, .slice A0_4 l0_4.length c0_4, .slice A0_5 l0_5.length c0_5] 49 (0, 0)) (by (with_reducible repeat (first | refine blk_drewN ?_ _ | refine blk_drew ?_ | refine blk_alloc ?_ _)); exact BK626.out) hb); have n3_ := Aside0.mk (IsS87.below (by repeat (first | (with_reducible first | exact HI633.out | apply IsS87.alloc | apply IsS87.drewN | apply IsS87.drew | apply IsS87.set_0 | apply IsS87.set_1 | apply IsS87.set_3 | refine IsS87.far ?_ NB633_626.out _) | exact HI633.out)) hb); have n4_ := Aside0.mk (below_step (by repeat (first | (with_reducible first | exact HB.out | apply below_alloc | apply pw_below_drewN | apply below_drew1 | refine below_set ?_ (IsS87.ge HI633.out) | refine below_set ?_ GE626.out) | exact HB.out)) hb); clear HO638; clear BK626; clear HI633; clear HB; have HO638 := n0_; have HO641 := n1_; have BK626 := n2_; have HI633 := n3_; have HB := n4_; clear n0_ n1_ n2_ n3_ n4_; clear hb ho15; obtain ⟨Ao16, co16, eo16⟩ := Kd.R_slice HO638.out; subst eo16; obtain ⟨Ao17, co17, eo17⟩ := Kd.R_slice HO641.out; subst eo17) | ((with_reducible refine gate_callee (f := 34) rfl ?_); refine goesL_ (some 29) rfl rfl Try.func34 (by kernel_rfl) rfl #[.pointer (some ⟨g633, 0, none⟩), .slice Ao16 y636.length co16, .slice Ao17 y639.length co17] rfl (by (try simp only [List.map_toArray, List.map_cons, List.map_nil]); first | done | rfl | (simp only [List.length_drop, List.length_take]; rfl)) ?_; (with_reducible refine (word_Distance.calls k g633 t627 t628 t629 t630 t631 t632 _ _ y636 _ _ y639 t642 t643 t644 t645 t646 w _ ?side1 ?side2 ?side3 ?side4 ?side5 ?side6 ?side7 ?side8 A7.out).mono ?_); (case side1 => repeat (first | (with_reducible first | exact HI633.out | apply IsS87.alloc | apply IsS87.drewN | apply IsS87.drew | apply IsS87.set_0 | apply IsS87.set_1 | apply IsS87.set_3 | refine IsS87.far ?_ NB633_626.out _) | exact HI633.out)); (case side2 => repeat (first | (with_reducible first | exact HB.out | apply below_alloc | apply pw_below_drewN | apply below_drew1 | refine below_set ?_ (IsS87.ge HI633.out) | refine below_set ?_ GE626.out) | exact HB.out)); (case side3 => repeat (first | exact (Kd.R_reads' HO638.out).2.2 | (with_reducible refine Kd.C_alloc ?_ _) | (with_reducible refine Kd.C_drewN ?_ _) | (with_reducible refine Kd.C_drew ?_))); (case side4 => exact (Kd.R_reads' HO638.out).2.1); (case side5 => exact far_slice (IsS87.own_ne HI633.out HO638.out (by decide))); (case side6 => repeat (first | exact (Kd.R_reads' HO641.out).2.2 | (with_reducible refine Kd.C_alloc ?_ _) | (with_reducible refine Kd.C_drewN ?_ _) | (with_reducible refine Kd.C_drew ?_))); (case side7 => exact (Kd.R_reads' HO641.out).2.1); (case side8 => exact far_slice (IsS87.own_ne HI633.out HO641.out (by decide))); rintro e w18 ⟨rfl, hi, hb, hk⟩; refine ⟨_, rfl, ?_⟩; have n0_ := Aside0.mk (KeepBut.blk hk (g' := gb626) (o := .cells #[.int .i64 a0_0, .int .i64 a0_1, .slice A0_2 l0_2.length c0_2, .slice A0_3 l0_3.length c0_3, .slice A0_4 l0_4.length c0_4, .slice A0_5 l0_5.length c0_5] 49 (0, 0)) (by (with_reducible repeat (first | refine blk_drewN ?_ _ | refine blk_drew ?_ | refine blk_alloc ?_ _)); exact BK626.out) NB626_633.out (by simp)); have n1_ := Aside0.mk (Kd.R_mono (Kd.R_keep (IsS87.apart (show IsS87 w _ g633 t627 t628 t629 t630 t631 t632 from by repeat (first | (with_reducible first | exact HI633.out | apply IsS87.alloc | apply IsS87.drewN | apply IsS87.drew | apply IsS87.set_0 | apply IsS87.set_1 | apply IsS87.set_3 | refine IsS87.far ?_ NB633_626.out _) | exact HI633.out)) (by (with_reducible repeat (first | apply Kd.R_alloc | apply Kd.R_drewN | apply Kd.R_drew)); exact HO638.out) (by decide)) hk (fun _ h => h.2)) (fun _ h => h.1)); have n2_ := Aside0.mk (Kd.R_mono (Kd.R_keep (IsS87.apart (show IsS87 w _ g633 t627 t628 t629 t630 t631 t632 from by repeat (first | (with_reducible first | exact HI633.out | apply IsS87.alloc | apply IsS87.drewN | apply IsS87.drew | apply IsS87.set_0 | apply IsS87.set_1 | apply IsS87.set_3 | refine IsS87.far ?_ NB633_626.out _) | exact HI633.out)) (by (with_reducible repeat (first | apply Kd.R_alloc | apply Kd.R_drewN | apply Kd.R_drew)); exact HO641.out) (by decide)) hk (fun _ h => h.2)) (fun _ h => h.1)); have n3_ := Aside0.mk (hb); have n4_ := Aside0.mk (hi); clear BK626; clear HO638; clear HO641; clear HB; clear HI633; have BK626 := n0_; have HO638 := n1_; have HO641 := n2_; have HB := n3_; have HI633 := n4_; clear n0_ n1_ n2_ n3_ n4_; (try clear hb); (try clear hb2); (try clear hk); (try clear hi)))
  (try simp only [Act.put, List.setIfInBounds_toArray, List.set_cons_zero, List.set_cons_succ])
  go_cut [37] (fun v37 wc => ∃ (kq : Nat) (x37_7 : Bool), v37 = .bool x37_7 ∧ Aside0 (cw_WordTriangle.j0 kq x37_7 a0_0 a0_1 l0_2 l0_3 l0_4 l0_5 t644 t645 t629 t646 t631 t632 = some r) ∧ Aside0 (kq ≤ k) ∧ Aside0 (wc.heap[gb626]? = some (.cells #[.int .i64 a0_0, .int .i64 a0_1, (.slice A0_2 l0_2.length c0_2), (.slice A0_3 l0_3.length c0_3), (.slice A0_4 l0_4.length c0_4), (.slice A0_5 l0_5.length c0_5)] 49 (0, 0))) ∧ Aside0 (IsS87 w wc g633 t644 t645 t629 t646 t631 t632) ∧ Aside0 (Below w.heap.size w wc))
  case first =>
   have H := HC8.out
   clear HC8
   by_cases c19 : t642 = 1
   ·rw [if_pos c19] at H
    have c19b0 : (t642 == 1) = true := beq_iff_eq.mpr c19
    have c19b1 : (t642 != 1) = false := bne_eq_false_iff_eq.mpr c19
    clear c19
    (first | rw [c19b0] | (simp only [i64_w, i32_w]; rw [c19b0]) | skip)
    have H' := Aside0.mk H
    clear H
    go_wp2
    go_meet
    case rel => exact ⟨_, ((t643 != 0)), (by first | rfl | (simp; done) | (simp [*]; done)), H', ⟨by first | omega | exact Nat.le_refl _⟩, ⟨by (with_reducible repeat (first | refine blk_drewN ?_ _ | refine blk_drew ?_ | refine blk_alloc ?_ _)); exact BK626.out⟩, ⟨by repeat (first | (with_reducible first | exact HI633.out | apply IsS87.alloc | apply IsS87.drewN | apply IsS87.drew | apply IsS87.set_0 | apply IsS87.set_1 | apply IsS87.set_3 | refine IsS87.far ?_ NB633_626.out _) | exact HI633.out)⟩, ⟨by repeat (first | (with_reducible first | exact HB.out | apply below_alloc | apply pw_below_drewN | apply below_drew1 | refine below_set ?_ (IsS87.ge HI633.out) | refine below_set ?_ GE626.out) | exact HB.out)⟩⟩
   ·rw [if_neg c19] at H
    have c19b0 : (t642 == 1) = false := beq_eq_false_iff_ne.mpr c19
    have c19b1 : (t642 != 1) = true := bne_iff_ne.mpr c19
    (first | rw [c19b0] | (simp only [i64_w, i32_w]; rw [c19b0]) | skip)
    have H' := Aside0.mk H
    clear H
    go_wp2
    go_meet
    case rel => exact ⟨_, (true), (by first | rfl | (simp; done) | (simp [*]; done)), H', ⟨by first | omega | exact Nat.le_refl _⟩, ⟨by (with_reducible repeat (first | refine blk_drewN ?_ _ | refine blk_drew ?_ | refine blk_alloc ?_ _)); exact BK626.out⟩, ⟨by repeat (first | (with_reducible first | exact HI633.out | apply IsS87.alloc | apply IsS87.drewN | apply IsS87.drew | apply IsS87.set_0 | apply IsS87.set_1 | apply IsS87.set_3 | refine IsS87.far ?_ NB633_626.out _) | exact HI633.out)⟩, ⟨by repeat (first | (with_reducible first | exact HB.out | apply below_alloc | apply pw_below_drewN | apply below_drew1 | refine below_set ?_ (IsS87.ge HI633.out) | refine below_set ?_ GE626.out) | exact HB.out)⟩⟩
  case rest =>
   clear HC8
   try clear c1
   try clear p2
   try clear c3
   try clear c8
   try clear c12
   try clear c19
   try clear c19b0
   try clear c19b1
   try clear hcz10_0
   try clear hcz10_1
   try clear hcz10_2
   try clear hcz10_3
   try clear hcz10_4
   try clear hcz10_5
   try clear hcz5_0
   try clear hcz5_1
   try clear hcz5_2
   try clear hcz5_3
   try clear hcz5_4
   try clear hcz5_5
   try clear hfz10_0
   try clear hfz10_1
   try clear hfz10_2
   try clear hfz10_3
   try clear hfz10_4
   try clear hfz10_5
   try clear hfz5_0
   try clear hfz5_1
   try clear hfz5_2
   try clear hfz5_3
   try clear hfz5_4
   try clear hfz5_5
   obtain ⟨kq, x37_7, rfl, HA, HJ7, BK626, HI633, HB⟩ := hcut
   cases kq with
   | zero => exact absurd HA.out (by simp [cw_WordTriangle.j0])
   | succ kj7 =>
    have H := HA.out
    clear HA
    simp only [cw_WordTriangle.j0] at H
    by_cases c20 : x37_7 = true
    ·subst c20
     have H1 : (some false) = some r := by rw [if_pos rfl] at H; exact H
     clear H
     have H := H1
     clear H1
     obtain rfl := Option.some.inj H
     go_wp2
     go_ret
     exact ⟨by first | rfl | (simp [errW_none, errW_some] <;> rfl) | (simp [*, errW_none, errW_some] <;> rfl), by repeat (first | (with_reducible first | exact HB.out | apply below_alloc | apply pw_below_drewN | apply below_drew1 | refine below_set ?_ (IsS87.ge HI633.out) | refine below_set ?_ GE626.out) | exact HB.out | exact below_tr HBW.out HB.out)⟩
    ·replace c20 := Bool.eq_false_iff.mpr c20
     subst c20
     have H1 : (if (l0_3.length : Int) = (l0_4.length : Int) then (cw_WordTriangle.j1 kj7 ((l0_4.length : Int) != (l0_5.length : Int)) a0_0 a0_1 l0_2 l0_3 l0_4 l0_5 t644 t645 t629 t646 t631 t632) else (cw_WordTriangle.j1 kj7 true a0_0 a0_1 l0_2 l0_3 l0_4 l0_5 t644 t645 t629 t646 t631 t632)) = some r := by rw [if_neg (show ¬ (false = true) by decide)] at H; exact H
     clear H
     have H := H1
     clear H1
     have HC21 := Aside0.mk H
     clear H
     go_upto_region 7 with (fail)
     go_cut [53] (fun v53 wc => ∃ (kq : Nat) (x53_20 : Bool), v53 = .bool x53_20 ∧ Aside0 (cw_WordTriangle.j1 kq x53_20 a0_0 a0_1 l0_2 l0_3 l0_4 l0_5 t644 t645 t629 t646 t631 t632 = some r) ∧ Aside0 (kq ≤ kj7) ∧ Aside0 (wc.heap[gb626]? = some (.cells #[.int .i64 a0_0, .int .i64 a0_1, (.slice A0_2 l0_2.length c0_2), (.slice A0_3 l0_3.length c0_3), (.slice A0_4 l0_4.length c0_4), (.slice A0_5 l0_5.length c0_5)] 49 (0, 0))) ∧ Aside0 (IsS87 w wc g633 t644 t645 t629 t646 t631 t632) ∧ Aside0 (Below w.heap.size w wc))
     case first =>
      have H := HC21.out
      clear HC21
      by_cases c22 : (l0_3.length : Int) = (l0_4.length : Int)
      ·rw [if_pos c22] at H
       have c22b0 : ((l0_3.length : Int) == (l0_4.length : Int)) = true := beq_iff_eq.mpr c22
       have c22b1 : ((l0_3.length : Int) != (l0_4.length : Int)) = false := bne_eq_false_iff_eq.mpr c22
       have c22b2 : (l0_3.length == l0_4.length) = true := by first | simpa using c22 | (simp at c22 ⊢; omega)
       clear c22
       (first | rw [c22b0] | (simp only [i64_w, i32_w]; rw [c22b0]) | skip)
       have H' := Aside0.mk H
       clear H
       have hnb23 := NB626_633.out
       have hnc23 := NB633_626.out
       have hcz24_0 : wc.cell? ⟨gb626, 0, none⟩ = some (.int .i64 a0_0) := (blk_cell BK626.out 0).trans rfl
       have hcz24_1 : wc.cell? ⟨gb626, 1, none⟩ = some (.int .i64 a0_1) := (blk_cell BK626.out 1).trans rfl
       have hcz24_2 : wc.cell? ⟨gb626, 2, none⟩ = some (.slice A0_2 l0_2.length c0_2) := (blk_cell BK626.out 2).trans rfl
       have hcz24_3 : wc.cell? ⟨gb626, 3, none⟩ = some (.slice A0_3 l0_3.length c0_3) := (blk_cell BK626.out 3).trans rfl
       have hcz24_4 : wc.cell? ⟨gb626, 4, none⟩ = some (.slice A0_4 l0_4.length c0_4) := (blk_cell BK626.out 4).trans rfl
       have hcz24_5 : wc.cell? ⟨gb626, 5, none⟩ = some (.slice A0_5 l0_5.length c0_5) := (blk_cell BK626.out 5).trans rfl
       have hfz24_0 := blk_frozen BK626.out 0
       have hfz24_1 := blk_frozen BK626.out 1
       have hfz24_2 := blk_frozen BK626.out 2
       have hfz24_3 := blk_frozen BK626.out 3
       have hfz24_4 := blk_frozen BK626.out 4
       have hfz24_5 := blk_frozen BK626.out 5
       go_wp2
       go_meet
       case rel => exact ⟨_, (((l0_4.length : Int) != (l0_5.length : Int))), (by first | rfl | (simp; done) | (simp [*]; done)), H', ⟨by have := HJ7.out; first | omega | exact Nat.le_refl _⟩, ⟨by (with_reducible repeat (first | refine blk_drewN ?_ _ | refine blk_drew ?_ | refine blk_alloc ?_ _)); exact BK626.out⟩, ⟨by repeat (first | (with_reducible first | exact HI633.out | apply IsS87.alloc | apply IsS87.drewN | apply IsS87.drew | apply IsS87.set_0 | apply IsS87.set_1 | apply IsS87.set_3 | refine IsS87.far ?_ NB633_626.out _) | exact HI633.out)⟩, ⟨by repeat (first | (with_reducible first | exact HB.out | apply below_alloc | apply pw_below_drewN | apply below_drew1 | refine below_set ?_ (IsS87.ge HI633.out) | refine below_set ?_ GE626.out) | exact HB.out)⟩⟩
      ·rw [if_neg c22] at H
       have c22b0 : ((l0_3.length : Int) == (l0_4.length : Int)) = false := beq_eq_false_iff_ne.mpr c22
       have c22b1 : ((l0_3.length : Int) != (l0_4.length : Int)) = true := bne_iff_ne.mpr c22
       have c22b2 : (l0_3.length == l0_4.length) = false := by first | simpa using c22 | (simp at c22 ⊢; omega)
       (first | rw [c22b0] | (simp only [i64_w, i32_w]; rw [c22b0]) | skip)
       have H' := Aside0.mk H
       clear H
       have hnb25 := NB626_633.out
       have hnc25 := NB633_626.out
       have hcz26_0 : wc.cell? ⟨gb626, 0, none⟩ = some (.int .i64 a0_0) := (blk_cell BK626.out 0).trans rfl
       have hcz26_1 : wc.cell? ⟨gb626, 1, none⟩ = some (.int .i64 a0_1) := (blk_cell BK626.out 1).trans rfl
       have hcz26_2 : wc.cell? ⟨gb626, 2, none⟩ = some (.slice A0_2 l0_2.length c0_2) := (blk_cell BK626.out 2).trans rfl
       have hcz26_3 : wc.cell? ⟨gb626, 3, none⟩ = some (.slice A0_3 l0_3.length c0_3) := (blk_cell BK626.out 3).trans rfl
       have hcz26_4 : wc.cell? ⟨gb626, 4, none⟩ = some (.slice A0_4 l0_4.length c0_4) := (blk_cell BK626.out 4).trans rfl
       have hcz26_5 : wc.cell? ⟨gb626, 5, none⟩ = some (.slice A0_5 l0_5.length c0_5) := (blk_cell BK626.out 5).trans rfl
       have hfz26_0 := blk_frozen BK626.out 0
       have hfz26_1 := blk_frozen BK626.out 1
       have hfz26_2 := blk_frozen BK626.out 2
       have hfz26_3 := blk_frozen BK626.out 3
       have hfz26_4 := blk_frozen BK626.out 4
       have hfz26_5 := blk_frozen BK626.out 5
       go_wp2
       go_meet
       case rel => exact ⟨_, (true), (by first | rfl | (simp; done) | (simp [*]; done)), H', ⟨by have := HJ7.out; first | omega | exact Nat.le_refl _⟩, ⟨by (with_reducible repeat (first | refine blk_drewN ?_ _ | refine blk_drew ?_ | refine blk_alloc ?_ _)); exact BK626.out⟩, ⟨by repeat (first | (with_reducible first | exact HI633.out | apply IsS87.alloc | apply IsS87.drewN | apply IsS87.drew | apply IsS87.set_0 | apply IsS87.set_1 | apply IsS87.set_3 | refine IsS87.far ?_ NB633_626.out _) | exact HI633.out)⟩, ⟨by repeat (first | (with_reducible first | exact HB.out | apply below_alloc | apply pw_below_drewN | apply below_drew1 | refine below_set ?_ (IsS87.ge HI633.out) | refine below_set ?_ GE626.out) | exact HB.out)⟩⟩
     case rest =>
      clear HC21
      try clear c1
      try clear c2
      try clear p2
      try clear c3
      try clear c8
      try clear c12
      try clear c19
      try clear c19b0
      try clear c19b1
      try clear c20
      try clear c22
      try clear c22b0
      try clear c22b1
      try clear c22b2
      try clear c23
      try clear c25
      try clear hcz10_0
      try clear hcz10_1
      try clear hcz10_2
      try clear hcz10_3
      try clear hcz10_4
      try clear hcz10_5
      try clear hcz24_0
      try clear hcz24_1
      try clear hcz24_2
      try clear hcz24_3
      try clear hcz24_4
      try clear hcz24_5
      try clear hcz26_0
      try clear hcz26_1
      try clear hcz26_2
      try clear hcz26_3
      try clear hcz26_4
      try clear hcz26_5
      try clear hcz5_0
      try clear hcz5_1
      try clear hcz5_2
      try clear hcz5_3
      try clear hcz5_4
      try clear hcz5_5
      try clear hfz10_0
      try clear hfz10_1
      try clear hfz10_2
      try clear hfz10_3
      try clear hfz10_4
      try clear hfz10_5
      try clear hfz24_0
      try clear hfz24_1
      try clear hfz24_2
      try clear hfz24_3
      try clear hfz24_4
      try clear hfz24_5
      try clear hfz26_0
      try clear hfz26_1
      try clear hfz26_2
      try clear hfz26_3
      try clear hfz26_4
      try clear hfz26_5
      try clear hfz5_0
      try clear hfz5_1
      try clear hfz5_2
      try clear hfz5_3
      try clear hfz5_4
      try clear hfz5_5
      try clear p2
      obtain ⟨kq, x53_20, rfl, HA, HJ20, BK626, HI633, HB⟩ := hcut
      cases kq with
      | zero => exact absurd HA.out (by simp [cw_WordTriangle.j1])
      | succ kj20 =>
       have H := HA.out
       clear HA
       simp only [cw_WordTriangle.j1] at H
       by_cases c27 : x53_20 = true
       ·subst c27
        have H1 : (some true) = some r := by rw [if_pos rfl] at H; exact H
        clear H
        have H := H1
        clear H1
        obtain rfl := Option.some.inj H
        go_wp2
        go_ret
        exact ⟨by first | rfl | (simp [errW_none, errW_some] <;> rfl) | (simp [*, errW_none, errW_some] <;> rfl), by repeat (first | (with_reducible first | exact HB.out | apply below_alloc | apply pw_below_drewN | apply below_drew1 | refine below_set ?_ (IsS87.ge HI633.out) | refine below_set ?_ GE626.out) | exact HB.out | exact below_tr HBW.out HB.out)⟩
       ·replace c27 := Bool.eq_false_iff.mpr c27
        subst c27
        have H1 : ((word_Distance.f kj20 t644 t645 t629 t646 t631 t632 l0_3 l0_4).bind fun bt647 => ((word_Distance.f kj20 bt647.2.2.1 bt647.2.2.2.1 t629 bt647.2.2.2.2 t631 t632 l0_4 l0_3).bind fun bt652 => ((word_Distance.f kj20 bt652.2.2.1 bt652.2.2.2.1 t629 bt652.2.2.2.2 t631 t632 l0_4 l0_5).bind fun bt657 => ((word_Distance.f kj20 bt657.2.2.1 bt657.2.2.2.1 t629 bt657.2.2.2.2 t631 t632 l0_3 l0_5).bind fun bt662 => (if bt647.2.1 = 0 then (if bt652.2.1 = 0 then (if bt657.2.1 = 0 then (cw_WordTriangle.j2 kj20 bt647.1 bt652.1 bt657.1 bt662.1 (bt662.2.1 != 0) a0_0 a0_1 l0_2 l0_3 l0_4 l0_5) else (cw_WordTriangle.j2 kj20 bt647.1 bt652.1 bt657.1 bt662.1 true a0_0 a0_1 l0_2 l0_3 l0_4 l0_5)) else (cw_WordTriangle.j2 kj20 bt647.1 bt652.1 bt657.1 bt662.1 true a0_0 a0_1 l0_2 l0_3 l0_4 l0_5)) else (cw_WordTriangle.j2 kj20 bt647.1 bt652.1 bt657.1 bt662.1 true a0_0 a0_1 l0_2 l0_3 l0_4 l0_5)))))) = some r := by rw [if_neg (show ¬ (false = true) by decide)] at H; exact H
        clear H
        have H := H1
        clear H1
        replace H := Option.bind_eq_some_iff.mp H
        obtain ⟨⟨t647, t648, t649, t650, t651⟩, A280, H⟩ := H
        replace H : ((word_Distance.f kj20 t649 t650 t629 t651 t631 t632 l0_4 l0_3).bind fun bt652 => ((word_Distance.f kj20 bt652.2.2.1 bt652.2.2.2.1 t629 bt652.2.2.2.2 t631 t632 l0_4 l0_5).bind fun bt657 => ((word_Distance.f kj20 bt657.2.2.1 bt657.2.2.2.1 t629 bt657.2.2.2.2 t631 t632 l0_3 l0_5).bind fun bt662 => (if t648 = 0 then (if bt652.2.1 = 0 then (if bt657.2.1 = 0 then (cw_WordTriangle.j2 kj20 t647 bt652.1 bt657.1 bt662.1 (bt662.2.1 != 0) a0_0 a0_1 l0_2 l0_3 l0_4 l0_5) else (cw_WordTriangle.j2 kj20 t647 bt652.1 bt657.1 bt662.1 true a0_0 a0_1 l0_2 l0_3 l0_4 l0_5)) else (cw_WordTriangle.j2 kj20 t647 bt652.1 bt657.1 bt662.1 true a0_0 a0_1 l0_2 l0_3 l0_4 l0_5)) else (cw_WordTriangle.j2 kj20 t647 bt652.1 bt657.1 bt662.1 true a0_0 a0_1 l0_2 l0_3 l0_4 l0_5))))) = some r := H
        have A28 := Aside0.mk A280
        clear A280
        replace H := Option.bind_eq_some_iff.mp H
        obtain ⟨⟨t652, t653, t654, t655, t656⟩, A290, H⟩ := H
        replace H : ((word_Distance.f kj20 t654 t655 t629 t656 t631 t632 l0_4 l0_5).bind fun bt657 => ((word_Distance.f kj20 bt657.2.2.1 bt657.2.2.2.1 t629 bt657.2.2.2.2 t631 t632 l0_3 l0_5).bind fun bt662 => (if t648 = 0 then (if t653 = 0 then (if bt657.2.1 = 0 then (cw_WordTriangle.j2 kj20 t647 t652 bt657.1 bt662.1 (bt662.2.1 != 0) a0_0 a0_1 l0_2 l0_3 l0_4 l0_5) else (cw_WordTriangle.j2 kj20 t647 t652 bt657.1 bt662.1 true a0_0 a0_1 l0_2 l0_3 l0_4 l0_5)) else (cw_WordTriangle.j2 kj20 t647 t652 bt657.1 bt662.1 true a0_0 a0_1 l0_2 l0_3 l0_4 l0_5)) else (cw_WordTriangle.j2 kj20 t647 t652 bt657.1 bt662.1 true a0_0 a0_1 l0_2 l0_3 l0_4 l0_5)))) = some r := H
        have A29 := Aside0.mk A290
        clear A290
        replace H := Option.bind_eq_some_iff.mp H
        obtain ⟨⟨t657, t658, t659, t660, t661⟩, A300, H⟩ := H
        replace H : ((word_Distance.f kj20 t659 t660 t629 t661 t631 t632 l0_3 l0_5).bind fun bt662 => (if t648 = 0 then (if t653 = 0 then (if t658 = 0 then (cw_WordTriangle.j2 kj20 t647 t652 t657 bt662.1 (bt662.2.1 != 0) a0_0 a0_1 l0_2 l0_3 l0_4 l0_5) else (cw_WordTriangle.j2 kj20 t647 t652 t657 bt662.1 true a0_0 a0_1 l0_2 l0_3 l0_4 l0_5)) else (cw_WordTriangle.j2 kj20 t647 t652 t657 bt662.1 true a0_0 a0_1 l0_2 l0_3 l0_4 l0_5)) else (cw_WordTriangle.j2 kj20 t647 t652 t657 bt662.1 true a0_0 a0_1 l0_2 l0_3 l0_4 l0_5))) = some r := H
        have A30 := Aside0.mk A300
        clear A300
        replace H := Option.bind_eq_some_iff.mp H
        obtain ⟨⟨t662, t663, t664, t665, t666⟩, A310, H⟩ := H
        replace H : (if t648 = 0 then (if t653 = 0 then (if t658 = 0 then (cw_WordTriangle.j2 kj20 t647 t652 t657 t662 (t663 != 0) a0_0 a0_1 l0_2 l0_3 l0_4 l0_5) else (cw_WordTriangle.j2 kj20 t647 t652 t657 t662 true a0_0 a0_1 l0_2 l0_3 l0_4 l0_5)) else (cw_WordTriangle.j2 kj20 t647 t652 t657 t662 true a0_0 a0_1 l0_2 l0_3 l0_4 l0_5)) else (cw_WordTriangle.j2 kj20 t647 t652 t657 t662 true a0_0 a0_1 l0_2 l0_3 l0_4 l0_5)) = some r := H
        have A31 := Aside0.mk A310
        clear A310
        have HC32 := Aside0.mk H
        clear H
        have hnb33 := NB626_633.out
        have hnc33 := NB633_626.out
        have hcz34_0 : wc.cell? ⟨gb626, 0, none⟩ = some (.int .i64 a0_0) := (blk_cell BK626.out 0).trans rfl
        have hcz34_1 : wc.cell? ⟨gb626, 1, none⟩ = some (.int .i64 a0_1) := (blk_cell BK626.out 1).trans rfl
        have hcz34_2 : wc.cell? ⟨gb626, 2, none⟩ = some (.slice A0_2 l0_2.length c0_2) := (blk_cell BK626.out 2).trans rfl
        have hcz34_3 : wc.cell? ⟨gb626, 3, none⟩ = some (.slice A0_3 l0_3.length c0_3) := (blk_cell BK626.out 3).trans rfl
        have hcz34_4 : wc.cell? ⟨gb626, 4, none⟩ = some (.slice A0_4 l0_4.length c0_4) := (blk_cell BK626.out 4).trans rfl
        have hcz34_5 : wc.cell? ⟨gb626, 5, none⟩ = some (.slice A0_5 l0_5.length c0_5) := (blk_cell BK626.out 5).trans rfl
        have hfz34_0 := blk_frozen BK626.out 0
        have hfz34_1 := blk_frozen BK626.out 1
        have hfz34_2 := blk_frozen BK626.out 2
        have hfz34_3 := blk_frozen BK626.out 3
        have hfz34_4 := blk_frozen BK626.out 4
        have hfz34_5 := blk_frozen BK626.out 5
        go_upto_region 13 with (first | ((with_reducible refine gate_callee (f := 34) rfl ?_); refine goesL_ (some 60) rfl rfl Try.func34 (by kernel_rfl) rfl #[.pointer (some ⟨g633, 0, none⟩), .slice A0_3 l0_3.length c0_3, .slice A0_4 l0_4.length c0_4] rfl (by (try simp only [List.map_toArray, List.map_cons, List.map_nil]); first | done | rfl | (simp only [List.length_drop, List.length_take]; rfl)) ?_; (with_reducible refine (word_Distance.calls kj20 g633 t644 t645 t629 t646 t631 t632 _ _ l0_3 _ _ l0_4 t647 t648 t649 t650 t651 w _ ?side1 ?side2 ?side3 ?side4 ?side5 ?side6 ?side7 ?side8 A28.out).mono ?_); (case side1 => repeat (first | (with_reducible first | exact HI633.out | apply IsS87.alloc | apply IsS87.drewN | apply IsS87.drew | apply IsS87.set_0 | apply IsS87.set_1 | apply IsS87.set_3 | refine IsS87.far ?_ NB633_626.out _) | exact HI633.out)); (case side2 => repeat (first | (with_reducible first | exact HB.out | apply below_alloc | apply pw_below_drewN | apply below_drew1 | refine below_set ?_ (IsS87.ge HI633.out) | refine below_set ?_ GE626.out) | exact HB.out)); (case side3 => repeat (first | exact (Kd.C_below HR0_3.out HB.out) | (with_reducible refine Kd.C_alloc ?_ _) | (with_reducible refine Kd.C_drewN ?_ _) | (with_reducible refine Kd.C_drew ?_))); (case side4 => exact HC0_3.out); (case side5 => exact Kd.far_C 0 HR0_3.out (IsS87.ge HI633.out)); (case side6 => repeat (first | exact (Kd.C_below HR0_4.out HB.out) | (with_reducible refine Kd.C_alloc ?_ _) | (with_reducible refine Kd.C_drewN ?_ _) | (with_reducible refine Kd.C_drew ?_))); (case side7 => exact HC0_4.out); (case side8 => exact Kd.far_C 0 HR0_4.out (IsS87.ge HI633.out)); rintro e w35 ⟨rfl, hi, hb, hk⟩; refine ⟨_, rfl, ?_⟩; have n0_ := Aside0.mk (KeepBut.blk hk (g' := gb626) (o := .cells #[.int .i64 a0_0, .int .i64 a0_1, .slice A0_2 l0_2.length c0_2, .slice A0_3 l0_3.length c0_3, .slice A0_4 l0_4.length c0_4, .slice A0_5 l0_5.length c0_5] 49 (0, 0)) (by (with_reducible repeat (first | refine blk_drewN ?_ _ | refine blk_drew ?_ | refine blk_alloc ?_ _)); exact BK626.out) NB626_633.out (by simp)); have n1_ := Aside0.mk (hb); have n2_ := Aside0.mk (hi); clear BK626; clear HB; clear HI633; have BK626 := n0_; have HB := n1_; have HI633 := n2_; clear n0_ n1_ n2_; (try clear hb); (try clear hb2); (try clear hk); (try clear hi); have hcz36_0 : w35.cell? ⟨gb626, 0, none⟩ = some (.int .i64 a0_0) := (blk_cell BK626.out 0).trans rfl; have hcz36_1 : w35.cell? ⟨gb626, 1, none⟩ = some (.int .i64 a0_1) := (blk_cell BK626.out 1).trans rfl; have hcz36_2 : w35.cell? ⟨gb626, 2, none⟩ = some (.slice A0_2 l0_2.length c0_2) := (blk_cell BK626.out 2).trans rfl; have hcz36_3 : w35.cell? ⟨gb626, 3, none⟩ = some (.slice A0_3 l0_3.length c0_3) := (blk_cell BK626.out 3).trans rfl; have hcz36_4 : w35.cell? ⟨gb626, 4, none⟩ = some (.slice A0_4 l0_4.length c0_4) := (blk_cell BK626.out 4).trans rfl; have hcz36_5 : w35.cell? ⟨gb626, 5, none⟩ = some (.slice A0_5 l0_5.length c0_5) := (blk_cell BK626.out 5).trans rfl; have hfz36_0 := blk_frozen BK626.out 0; have hfz36_1 := blk_frozen BK626.out 1; have hfz36_2 := blk_frozen BK626.out 2; have hfz36_3 := blk_frozen BK626.out 3; have hfz36_4 := blk_frozen BK626.out 4; have hfz36_5 := blk_frozen BK626.out 5) | ((with_reducible refine gate_callee (f := 34) rfl ?_); refine goesL_ (some 69) rfl rfl Try.func34 (by kernel_rfl) rfl #[.pointer (some ⟨g633, 0, none⟩), .slice A0_4 l0_4.length c0_4, .slice A0_3 l0_3.length c0_3] rfl (by (try simp only [List.map_toArray, List.map_cons, List.map_nil]); first | done | rfl | (simp only [List.length_drop, List.length_take]; rfl)) ?_; (with_reducible refine (word_Distance.calls kj20 g633 t649 t650 t629 t651 t631 t632 _ _ l0_4 _ _ l0_3 t652 t653 t654 t655 t656 w _ ?side1 ?side2 ?side3 ?side4 ?side5 ?side6 ?side7 ?side8 A29.out).mono ?_); (case side1 => repeat (first | (with_reducible first | exact HI633.out | apply IsS87.alloc | apply IsS87.drewN | apply IsS87.drew | apply IsS87.set_0 | apply IsS87.set_1 | apply IsS87.set_3 | refine IsS87.far ?_ NB633_626.out _) | exact HI633.out)); (case side2 => repeat (first | (with_reducible first | exact HB.out | apply below_alloc | apply pw_below_drewN | apply below_drew1 | refine below_set ?_ (IsS87.ge HI633.out) | refine below_set ?_ GE626.out) | exact HB.out)); (case side3 => repeat (first | exact (Kd.C_below HR0_4.out HB.out) | (with_reducible refine Kd.C_alloc ?_ _) | (with_reducible refine Kd.C_drewN ?_ _) | (with_reducible refine Kd.C_drew ?_))); (case side4 => exact HC0_4.out); (case side5 => exact Kd.far_C 0 HR0_4.out (IsS87.ge HI633.out)); (case side6 => repeat (first | exact (Kd.C_below HR0_3.out HB.out) | (with_reducible refine Kd.C_alloc ?_ _) | (with_reducible refine Kd.C_drewN ?_ _) | (with_reducible refine Kd.C_drew ?_))); (case side7 => exact HC0_3.out); (case side8 => exact Kd.far_C 0 HR0_3.out (IsS87.ge HI633.out)); rintro e w37 ⟨rfl, hi, hb, hk⟩; refine ⟨_, rfl, ?_⟩; have n0_ := Aside0.mk (KeepBut.blk hk (g' := gb626) (o := .cells #[.int .i64 a0_0, .int .i64 a0_1, .slice A0_2 l0_2.length c0_2, .slice A0_3 l0_3.length c0_3, .slice A0_4 l0_4.length c0_4, .slice A0_5 l0_5.length c0_5] 49 (0, 0)) (by (with_reducible repeat (first | refine blk_drewN ?_ _ | refine blk_drew ?_ | refine blk_alloc ?_ _)); exact BK626.out) NB626_633.out (by simp)); have n1_ := Aside0.mk (hb); have n2_ := Aside0.mk (hi); clear BK626; clear HB; clear HI633; have BK626 := n0_; have HB := n1_; have HI633 := n2_; clear n0_ n1_ n2_; (try clear hb); (try clear hb2); (try clear hk); (try clear hi); have hcz38_0 : w37.cell? ⟨gb626, 0, none⟩ = some (.int .i64 a0_0) := (blk_cell BK626.out 0).trans rfl; have hcz38_1 : w37.cell? ⟨gb626, 1, none⟩ = some (.int .i64 a0_1) := (blk_cell BK626.out 1).trans rfl; have hcz38_2 : w37.cell? ⟨gb626, 2, none⟩ = some (.slice A0_2 l0_2.length c0_2) := (blk_cell BK626.out 2).trans rfl; have hcz38_3 : w37.cell? ⟨gb626, 3, none⟩ = some (.slice A0_3 l0_3.length c0_3) := (blk_cell BK626.out 3).trans rfl; have hcz38_4 : w37.cell? ⟨gb626, 4, none⟩ = some (.slice A0_4 l0_4.length c0_4) := (blk_cell BK626.out 4).trans rfl; have hcz38_5 : w37.cell? ⟨gb626, 5, none⟩ = some (.slice A0_5 l0_5.length c0_5) := (blk_cell BK626.out 5).trans rfl; have hfz38_0 := blk_frozen BK626.out 0; have hfz38_1 := blk_frozen BK626.out 1; have hfz38_2 := blk_frozen BK626.out 2; have hfz38_3 := blk_frozen BK626.out 3; have hfz38_4 := blk_frozen BK626.out 4; have hfz38_5 := blk_frozen BK626.out 5) | ((with_reducible refine gate_callee (f := 34) rfl ?_); refine goesL_ (some 78) rfl rfl Try.func34 (by kernel_rfl) rfl #[.pointer (some ⟨g633, 0, none⟩), .slice A0_4 l0_4.length c0_4, .slice A0_5 l0_5.length c0_5] rfl (by (try simp only [List.map_toArray, List.map_cons, List.map_nil]); first | done | rfl | (simp only [List.length_drop, List.length_take]; rfl)) ?_; (with_reducible refine (word_Distance.calls kj20 g633 t654 t655 t629 t656 t631 t632 _ _ l0_4 _ _ l0_5 t657 t658 t659 t660 t661 w _ ?side1 ?side2 ?side3 ?side4 ?side5 ?side6 ?side7 ?side8 A30.out).mono ?_); (case side1 => repeat (first | (with_reducible first | exact HI633.out | apply IsS87.alloc | apply IsS87.drewN | apply IsS87.drew | apply IsS87.set_0 | apply IsS87.set_1 | apply IsS87.set_3 | refine IsS87.far ?_ NB633_626.out _) | exact HI633.out)); (case side2 => repeat (first | (with_reducible first | exact HB.out | apply below_alloc | apply pw_below_drewN | apply below_drew1 | refine below_set ?_ (IsS87.ge HI633.out) | refine below_set ?_ GE626.out) | exact HB.out)); (case side3 => repeat (first | exact (Kd.C_below HR0_4.out HB.out) | (with_reducible refine Kd.C_alloc ?_ _) | (with_reducible refine Kd.C_drewN ?_ _) | (with_reducible refine Kd.C_drew ?_))); (case side4 => exact HC0_4.out); (case side5 => exact Kd.far_C 0 HR0_4.out (IsS87.ge HI633.out)); (case side6 => repeat (first | exact (Kd.C_below HR0_5.out HB.out) | (with_reducible refine Kd.C_alloc ?_ _) | (with_reducible refine Kd.C_drewN ?_ _) | (with_reducible refine Kd.C_drew ?_))); (case side7 => exact HC0_5.out); (case side8 => exact Kd.far_C 0 HR0_5.out (IsS87.ge HI633.out)); rintro e w39 ⟨rfl, hi, hb, hk⟩; refine ⟨_, rfl, ?_⟩; have n0_ := Aside0.mk (KeepBut.blk hk (g' := gb626) (o := .cells #[.int .i64 a0_0, .int .i64 a0_1, .slice A0_2 l0_2.length c0_2, .slice A0_3 l0_3.length c0_3, .slice A0_4 l0_4.length c0_4, .slice A0_5 l0_5.length c0_5] 49 (0, 0)) (by (with_reducible repeat (first | refine blk_drewN ?_ _ | refine blk_drew ?_ | refine blk_alloc ?_ _)); exact BK626.out) NB626_633.out (by simp)); have n1_ := Aside0.mk (hb); have n2_ := Aside0.mk (hi); clear BK626; clear HB; clear HI633; have BK626 := n0_; have HB := n1_; have HI633 := n2_; clear n0_ n1_ n2_; (try clear hb); (try clear hb2); (try clear hk); (try clear hi); have hcz40_0 : w39.cell? ⟨gb626, 0, none⟩ = some (.int .i64 a0_0) := (blk_cell BK626.out 0).trans rfl; have hcz40_1 : w39.cell? ⟨gb626, 1, none⟩ = some (.int .i64 a0_1) := (blk_cell BK626.out 1).trans rfl; have hcz40_2 : w39.cell? ⟨gb626, 2, none⟩ = some (.slice A0_2 l0_2.length c0_2) := (blk_cell BK626.out 2).trans rfl; have hcz40_3 : w39.cell? ⟨gb626, 3, none⟩ = some (.slice A0_3 l0_3.length c0_3) := (blk_cell BK626.out 3).trans rfl; have hcz40_4 : w39.cell? ⟨gb626, 4, none⟩ = some (.slice A0_4 l0_4.length c0_4) := (blk_cell BK626.out 4).trans rfl; have hcz40_5 : w39.cell? ⟨gb626, 5, none⟩ = some (.slice A0_5 l0_5.length c0_5) := (blk_cell BK626.out 5).trans rfl; have hfz40_0 := blk_frozen BK626.out 0; have hfz40_1 := blk_frozen BK626.out 1; have hfz40_2 := blk_frozen BK626.out 2; have hfz40_3 := blk_frozen BK626.out 3; have hfz40_4 := blk_frozen BK626.out 4; have hfz40_5 := blk_frozen BK626.out 5) | ((with_reducible refine gate_callee (f := 34) rfl ?_); refine goesL_ (some 87) rfl rfl Try.func34 (by kernel_rfl) rfl #[.pointer (some ⟨g633, 0, none⟩), .slice A0_3 l0_3.length c0_3, .slice A0_5 l0_5.length c0_5] rfl (by (try simp only [List.map_toArray, List.map_cons, List.map_nil]); first | done | rfl | (simp only [List.length_drop, List.length_take]; rfl)) ?_; (with_reducible refine (word_Distance.calls kj20 g633 t659 t660 t629 t661 t631 t632 _ _ l0_3 _ _ l0_5 t662 t663 t664 t665 t666 w _ ?side1 ?side2 ?side3 ?side4 ?side5 ?side6 ?side7 ?side8 A31.out).mono ?_); (case side1 => repeat (first | (with_reducible first | exact HI633.out | apply IsS87.alloc | apply IsS87.drewN | apply IsS87.drew | apply IsS87.set_0 | apply IsS87.set_1 | apply IsS87.set_3 | refine IsS87.far ?_ NB633_626.out _) | exact HI633.out)); (case side2 => repeat (first | (with_reducible first | exact HB.out | apply below_alloc | apply pw_below_drewN | apply below_drew1 | refine below_set ?_ (IsS87.ge HI633.out) | refine below_set ?_ GE626.out) | exact HB.out)); (case side3 => repeat (first | exact (Kd.C_below HR0_3.out HB.out) | (with_reducible refine Kd.C_alloc ?_ _) | (with_reducible refine Kd.C_drewN ?_ _) | (with_reducible refine Kd.C_drew ?_))); (case side4 => exact HC0_3.out); (case side5 => exact Kd.far_C 0 HR0_3.out (IsS87.ge HI633.out)); (case side6 => repeat (first | exact (Kd.C_below HR0_5.out HB.out) | (with_reducible refine Kd.C_alloc ?_ _) | (with_reducible refine Kd.C_drewN ?_ _) | (with_reducible refine Kd.C_drew ?_))); (case side7 => exact HC0_5.out); (case side8 => exact Kd.far_C 0 HR0_5.out (IsS87.ge HI633.out)); rintro e w41 ⟨rfl, hi, hb, hk⟩; refine ⟨_, rfl, ?_⟩; have n0_ := Aside0.mk (KeepBut.blk hk (g' := gb626) (o := .cells #[.int .i64 a0_0, .int .i64 a0_1, .slice A0_2 l0_2.length c0_2, .slice A0_3 l0_3.length c0_3, .slice A0_4 l0_4.length c0_4, .slice A0_5 l0_5.length c0_5] 49 (0, 0)) (by (with_reducible repeat (first | refine blk_drewN ?_ _ | refine blk_drew ?_ | refine blk_alloc ?_ _)); exact BK626.out) NB626_633.out (by simp)); have n1_ := Aside0.mk (hb); have n2_ := Aside0.mk (hi); clear BK626; clear HB; clear HI633; have BK626 := n0_; have HB := n1_; have HI633 := n2_; clear n0_ n1_ n2_; (try clear hb); (try clear hb2); (try clear hk); (try clear hi)))
        (try simp only [Act.put, List.setIfInBounds_toArray, List.set_cons_zero, List.set_cons_succ])
        go_cut [103] (fun v103 wc => ∃ (kq : Nat) (x103_31 : Bool), v103 = .bool x103_31 ∧ Aside0 (cw_WordTriangle.j2 kq t647 t652 t657 t662 x103_31 a0_0 a0_1 l0_2 l0_3 l0_4 l0_5 = some r) ∧ Aside0 (kq ≤ kj20) ∧ Aside0 (wc.heap[gb626]? = some (.cells #[.int .i64 a0_0, .int .i64 a0_1, (.slice A0_2 l0_2.length c0_2), (.slice A0_3 l0_3.length c0_3), (.slice A0_4 l0_4.length c0_4), (.slice A0_5 l0_5.length c0_5)] 49 (0, 0))) ∧ Aside0 (Below w.heap.size w wc))
        case first =>
         have H := HC32.out
         clear HC32
         by_cases c42 : t648 = 0
         ·rw [if_pos c42] at H
          have c42b0 : (t648 == 0) = true := beq_iff_eq.mpr c42
          have c42b1 : (t648 != 0) = false := bne_eq_false_iff_eq.mpr c42
          clear c42
          (first | rw [c42b0] | (simp only [i64_w, i32_w]; rw [c42b0]) | skip)
          by_cases c43 : t653 = 0
          ·rw [if_pos c43] at H
           have c43b0 : (t653 == 0) = true := beq_iff_eq.mpr c43
           have c43b1 : (t653 != 0) = false := bne_eq_false_iff_eq.mpr c43
           clear c43
           by_cases c44 : t658 = 0
           ·rw [if_pos c44] at H
            have c44b0 : (t658 == 0) = true := beq_iff_eq.mpr c44
            have c44b1 : (t658 != 0) = false := bne_eq_false_iff_eq.mpr c44
            clear c44
            have H' := Aside0.mk H
            clear H
            go_wp2
            go_meet
            case rel => exact ⟨_, ((t663 != 0)), (by first | rfl | (simp; done) | (simp [*]; done)), H', ⟨by have := HJ7.out; have := HJ20.out; first | omega | exact Nat.le_refl _⟩, ⟨by (with_reducible repeat (first | refine blk_drewN ?_ _ | refine blk_drew ?_ | refine blk_alloc ?_ _)); exact BK626.out⟩, ⟨by repeat (first | (with_reducible first | exact HB.out | apply below_alloc | apply pw_below_drewN | apply below_drew1 | refine below_set ?_ (IsS87.ge HI633.out) | refine below_set ?_ GE626.out) | exact HB.out)⟩⟩
           ·rw [if_neg c44] at H
            have c44b0 : (t658 == 0) = false := beq_eq_false_iff_ne.mpr c44
            have c44b1 : (t658 != 0) = true := bne_iff_ne.mpr c44
            have H' := Aside0.mk H
            clear H
            go_wp2
            go_meet
            case rel => exact ⟨_, (true), (by first | rfl | (simp; done) | (simp [*]; done)), H', ⟨by have := HJ7.out; have := HJ20.out; first | omega | exact Nat.le_refl _⟩, ⟨by (with_reducible repeat (first | refine blk_drewN ?_ _ | refine blk_drew ?_ | refine blk_alloc ?_ _)); exact BK626.out⟩, ⟨by repeat (first | (with_reducible first | exact HB.out | apply below_alloc | apply pw_below_drewN | apply below_drew1 | refine below_set ?_ (IsS87.ge HI633.out) | refine below_set ?_ GE626.out) | exact HB.out)⟩⟩
          ·rw [if_neg c43] at H
           have c43b0 : (t653 == 0) = false := beq_eq_false_iff_ne.mpr c43
           have c43b1 : (t653 != 0) = true := bne_iff_ne.mpr c43
           have H' := Aside0.mk H
           clear H
           go_wp2
           go_meet
           case rel => exact ⟨_, (true), (by first | rfl | (simp; done) | (simp [*]; done)), H', ⟨by have := HJ7.out; have := HJ20.out; first | omega | exact Nat.le_refl _⟩, ⟨by (with_reducible repeat (first | refine blk_drewN ?_ _ | refine blk_drew ?_ | refine blk_alloc ?_ _)); exact BK626.out⟩, ⟨by repeat (first | (with_reducible first | exact HB.out | apply below_alloc | apply pw_below_drewN | apply below_drew1 | refine below_set ?_ (IsS87.ge HI633.out) | refine below_set ?_ GE626.out) | exact HB.out)⟩⟩
         ·rw [if_neg c42] at H
          have c42b0 : (t648 == 0) = false := beq_eq_false_iff_ne.mpr c42
          have c42b1 : (t648 != 0) = true := bne_iff_ne.mpr c42
          (first | rw [c42b0] | (simp only [i64_w, i32_w]; rw [c42b0]) | skip)
          have H' := Aside0.mk H
          clear H
          go_wp2
          go_meet
          case rel => exact ⟨_, (true), (by first | rfl | (simp; done) | (simp [*]; done)), H', ⟨by have := HJ7.out; have := HJ20.out; first | omega | exact Nat.le_refl _⟩, ⟨by (with_reducible repeat (first | refine blk_drewN ?_ _ | refine blk_drew ?_ | refine blk_alloc ?_ _)); exact BK626.out⟩, ⟨by repeat (first | (with_reducible first | exact HB.out | apply below_alloc | apply pw_below_drewN | apply below_drew1 | refine below_set ?_ (IsS87.ge HI633.out) | refine below_set ?_ GE626.out) | exact HB.out)⟩⟩
        case rest =>
         clear HC32
         try clear c1
         try clear c2
         try clear p2
         try clear c3
         try clear c4
         try clear c8
         try clear c12
         try clear c19
         try clear c19b0
         try clear c19b1
         try clear c20
         try clear c22
         try clear c22b0
         try clear c22b1
         try clear c22b2
         try clear c23
         try clear c25
         try clear c27
         try clear c33
         try clear c34
         try clear c42
         try clear c42b0
         try clear c42b1
         try clear c43
         try clear c43b0
         try clear c43b1
         try clear c44
         try clear c44b0
         try clear c44b1
         try clear hcz10_0
         try clear hcz10_1
         try clear hcz10_2
         try clear hcz10_3
         try clear hcz10_4
         try clear hcz10_5
         try clear hcz24_0
         try clear hcz24_1
         try clear hcz24_2
         try clear hcz24_3
         try clear hcz24_4
         try clear hcz24_5
         try clear hcz26_0
         try clear hcz26_1
         try clear hcz26_2
         try clear hcz26_3
         try clear hcz26_4
         try clear hcz26_5
         try clear hcz34_0
         try clear hcz34_1
         try clear hcz34_2
         try clear hcz34_3
         try clear hcz34_4
         try clear hcz34_5
         try clear hcz36_0
         try clear hcz36_1
         try clear hcz36_2
         try clear hcz36_3
         try clear hcz36_4
         try clear hcz36_5
         try clear hcz38_0
         try clear hcz38_1
         try clear hcz38_2
         try clear hcz38_3
         try clear hcz38_4
         try clear hcz38_5
         try clear hcz40_0
         try clear hcz40_1
         try clear hcz40_2
         try clear hcz40_3
         try clear hcz40_4
         try clear hcz40_5
         try clear hcz5_0
         try clear hcz5_1
         try clear hcz5_2
         try clear hcz5_3
         try clear hcz5_4
         try clear hcz5_5
         try clear hfz10_0
         try clear hfz10_1
         try clear hfz10_2
         try clear hfz10_3
         try clear hfz10_4
         try clear hfz10_5
         try clear hfz24_0
         try clear hfz24_1
         try clear hfz24_2
         try clear hfz24_3
         try clear hfz24_4
         try clear hfz24_5
         try clear hfz26_0
         try clear hfz26_1
         try clear hfz26_2
         try clear hfz26_3
         try clear hfz26_4
         try clear hfz26_5
         try clear hfz34_0
         try clear hfz34_1
         try clear hfz34_2
         try clear hfz34_3
         try clear hfz34_4
         try clear hfz34_5
         try clear hfz36_0
         try clear hfz36_1
         try clear hfz36_2
         try clear hfz36_3
         try clear hfz36_4
         try clear hfz36_5
         try clear hfz38_0
         try clear hfz38_1
         try clear hfz38_2
         try clear hfz38_3
         try clear hfz38_4
         try clear hfz38_5
         try clear hfz40_0
         try clear hfz40_1
         try clear hfz40_2
         try clear hfz40_3
         try clear hfz40_4
         try clear hfz40_5
         try clear hfz5_0
         try clear hfz5_1
         try clear hfz5_2
         try clear hfz5_3
         try clear hfz5_4
         try clear hfz5_5
         try clear p2
         obtain ⟨kq, x103_31, rfl, HA, HJ31, BK626, HB⟩ := hcut
         cases kq with
         | zero => exact absurd HA.out (by simp [cw_WordTriangle.j2])
         | succ kj31 =>
          have H := HA.out
          clear HA
          simp only [cw_WordTriangle.j2] at H
          by_cases c45 : x103_31 = true
          ·subst c45
           have H1 : (some false) = some r := by rw [if_pos rfl] at H; exact H
           clear H
           have H := H1
           clear H1
           obtain rfl := Option.some.inj H
           go_wp2
           go_ret
           exact ⟨by first | rfl | (simp [errW_none, errW_some] <;> rfl) | (simp [*, errW_none, errW_some] <;> rfl), by repeat (first | (with_reducible first | exact HB.out | apply below_alloc | apply pw_below_drewN | apply below_drew1 | refine below_set ?_ GE626.out) | exact HB.out | exact below_tr HBW.out HB.out)⟩
          ·replace c45 := Bool.eq_false_iff.mpr c45
           subst c45
           have H1 : (if t647 = t652 then ((crB_Clean.f kj31 a0_0 a0_1 l0_2 l0_3).bind fun t667 => ((crB_Clean.f kj31 a0_0 a0_1 l0_2 l0_4).bind fun t670 => ((crB_Same.f kj31 t667 t670).bind fun t673 => (if ((t647 == 0) != t673) = true then (some false) else (some (decide (t662 ≤ (wrap64 (t647 + t657))))))))) else (some false)) = some r := by rw [if_neg (show ¬ (false = true) by decide)] at H; exact H
           clear H
           have H := H1
           clear H1
           by_cases c46 : t647 = t652
           ·rw [if_pos c46] at H
            have c46b0 : (t647 == t652) = true := beq_iff_eq.mpr c46
            have c46b1 : (t647 != t652) = false := bne_eq_false_iff_eq.mpr c46
            clear c46
            replace H := Option.bind_eq_some_iff.mp H
            obtain ⟨t667, A470, H⟩ := H
            replace H : ((crB_Clean.f kj31 a0_0 a0_1 l0_2 l0_4).bind fun t670 => ((crB_Same.f kj31 t667 t670).bind fun t673 => (if ((t647 == 0) != t673) = true then (some false) else (some (decide (t662 ≤ (wrap64 (t647 + t657)))))))) = some r := H
            have A47 := Aside0.mk A470
            clear A470
            replace H := Option.bind_eq_some_iff.mp H
            obtain ⟨t670, A480, H⟩ := H
            replace H : ((crB_Same.f kj31 t667 t670).bind fun t673 => (if ((t647 == 0) != t673) = true then (some false) else (some (decide (t662 ≤ (wrap64 (t647 + t657))))))) = some r := H
            have A48 := Aside0.mk A480
            clear A480
            replace H := Option.bind_eq_some_iff.mp H
            obtain ⟨t673, A490, H⟩ := H
            replace H : (if ((t647 == 0) != t673) = true then (some false) else (some (decide (t662 ≤ (wrap64 (t647 + t657)))))) = some r := H
            have A49 := Aside0.mk A490
            clear A490
            by_cases c50 : ((t647 == 0) != t673) = true
            ·rw [if_pos c50] at H
             have c50b0 : ((t647 == 0) != t673) = true := c50
             (try (have c50b1 : decide ((t647 == 0) = t673) = false := by simpa using c50))
             (try (have c50b2 : ((t647 == 0) == t673) = false := by simpa using c50))
             (try (have c50b3 : ¬ ((t647 == 0) = t673) := by simpa using c50))
             clear c50
             obtain rfl := Option.some.inj H
             try go_wp2
             have n0_ := Aside0.mk (blk_drew BK626.out)
             have n1_ := Aside0.mk (below_drew1 HB.out)
             clear BK626
             clear HB
             have BK626 := n0_
             have HB := n1_
             clear n0_ n1_
             refine start_ (n := 19) (S := fun w' => w'.cell? ⟨gb626, 0, none⟩ = some (.int .i64 a0_0) ∧ w'.cell? ⟨gb626, 1, none⟩ = some (.int .i64 a0_1) ∧ w'.cell? ⟨gb626, 2, none⟩ = some (.slice A0_2 l0_2.length c0_2) ∧ w'.cell? ⟨gb626, 3, none⟩ = some (.slice A0_3 l0_3.length c0_3) ∧ w'.cell? ⟨gb626, 4, none⟩ = some (.slice A0_4 l0_4.length c0_4) ∧ w'.cell? ⟨gb626, 5, none⟩ = some (.slice A0_5 l0_5.length c0_5)) (ds := []) #[false, false, false, false, false, false, false, false, false, false, false, false, false, false, false, false, false, false, false] (by kernel_rfl) rfl rfl ⟨(blk_cell BK626.out 0).trans rfl, (blk_cell BK626.out 1).trans rfl, (blk_cell BK626.out 2).trans rfl, (blk_cell BK626.out 3).trans rfl, (blk_cell BK626.out 4).trans rfl, (blk_cell BK626.out 5).trans rfl⟩ (fun hHeld => ?_); refine with_tabW cw_WordTriangle.tab15 cw_WordTriangle.bits15 (fun HT_ HW_ => ?_)
             generalize wc.drew = w51 at BK626 HB hHeld ⊢
             refine pure_ (i := 0) (N := some 104) (v := ?_) (a' := ?_) #[true, false, false, false, false, false, false, false, false, false, false, false, false, false, false, false, false, false, false] rfl rfl (any_of HT_.out (by kernel_rfl)) (fun _ _ _ h => h) (Or.inl ⟨by rfl, ?_⟩) ?_ ?_
             rotate_left
             ·intro w'
              go_simp
              with_reducible rfl
             rotate_left
             ·simp only [Act.put, List.setIfInBounds_toArray, List.set_cons_zero, List.set_cons_succ, i64_w, i32_w]
              rfl
             refine pure_ (i := 1) (N := some 105) (v := ?_) (a' := ?_) #[true, true, false, false, false, false, false, false, false, false, false, false, false, false, false, false, false, false, false] rfl rfl (any_of HT_.out (by kernel_rfl)) (fun _ _ _ h => h) (Or.inl ⟨by rfl, ?_⟩) ?_ ?_
             rotate_left
             ·intro w'
              go_simp
              with_reducible rfl
             rotate_left
             ·simp only [Act.put, List.setIfInBounds_toArray, List.set_cons_zero, List.set_cons_succ, i64_w, i32_w]
              rfl
             refine pure_ (i := 2) (N := some 106) (v := ?_) (a' := ?_) #[true, true, true, false, false, false, false, false, false, false, false, false, false, false, false, false, false, false, false] rfl rfl (any_of HT_.out (by kernel_rfl)) (fun _ _ _ h => h) (Or.inl ⟨by rfl, ?_⟩) ?_ ?_
             rotate_left
             ·intro w'
              go_simp
              with_reducible rfl
             rotate_left
             ·simp only [Act.put, List.setIfInBounds_toArray, List.set_cons_zero, List.set_cons_succ, i64_w, i32_w]
              rfl
             refine pure_ (i := 3) (N := some 107) (v := ?_) (a' := ?_) #[true, true, true, true, false, false, false, false, false, false, false, false, false, false, false, false, false, false, false] rfl rfl (any_of HT_.out (by kernel_rfl)) (fun _ _ _ h => h) (Or.inl ⟨by rfl, ?_⟩) ?_ ?_
             rotate_left
             ·intro w'
              go_simp
              with_reducible rfl
             rotate_left
             ·simp only [Act.put, List.setIfInBounds_toArray, List.set_cons_zero, List.set_cons_succ, i64_w, i32_w]
              rfl
             refine pure_ (i := 4) (N := some 108) (v := ?_) (a' := ?_) #[true, true, true, true, true, false, false, false, false, false, false, false, false, false, false, false, false, false, false] rfl rfl (any_of HT_.out (by kernel_rfl)) (fun _ _ _ h => h) (Or.inl ⟨by rfl, ?_⟩) ?_ ?_
             rotate_left
             ·intro w'
              go_simp
              with_reducible rfl
             rotate_left
             ·simp only [Act.put, List.setIfInBounds_toArray, List.set_cons_zero, List.set_cons_succ, i64_w, i32_w]
              rfl
             refine pure_ (i := 5) (N := some 109) (v := ?_) (a' := ?_) #[true, true, true, true, true, true, false, false, false, false, false, false, false, false, false, false, false, false, false] rfl rfl (any_of HT_.out (by kernel_rfl)) (fun _ _ _ h => h) (Or.inl ⟨by rfl, ?_⟩) ?_ ?_
             rotate_left
             ·intro w'
              go_simp
              with_reducible rfl
             rotate_left
             ·simp only [Act.put, List.setIfInBounds_toArray, List.set_cons_zero, List.set_cons_succ, i64_w, i32_w]
              rfl
             refine pure_ (i := 6) (N := some 110) (v := ?_) (a' := ?_) #[true, true, true, true, true, true, true, false, false, false, false, false, false, false, false, false, false, false, false] rfl rfl (any_of HT_.out (by kernel_rfl)) (fun _ _ _ h => h) (Or.inl ⟨by rfl, ?_⟩) ?_ ?_
             rotate_left
             ·intro w'
              go_simp
              with_reducible rfl
             rotate_left
             ·simp only [Act.put, List.setIfInBounds_toArray, List.set_cons_zero, List.set_cons_succ, i64_w, i32_w]
              rfl
             refine pure_ (i := 8) (N := some 112) (v := ?_) (a' := ?_) #[true, true, true, true, true, true, true, false, true, false, false, false, false, false, false, false, false, false, false] rfl rfl (any_of HT_.out (by kernel_rfl)) (fun _ _ _ h => h) (Or.inl ⟨by rfl, ?_⟩) ?_ ?_
             rotate_left
             ·intro w'
              go_simp
              with_reducible rfl
             rotate_left
             ·simp only [Act.put, List.setIfInBounds_toArray, List.set_cons_zero, List.set_cons_succ, i64_w, i32_w]
              rfl
             refine pure_ (i := 11) (N := some 115) (v := ?_) (a' := ?_) #[true, true, true, true, true, true, true, false, true, false, false, true, false, false, false, false, false, false, false] rfl rfl (any_of HT_.out (by kernel_rfl)) (fun _ _ _ h => h) (Or.inl ⟨by rfl, ?_⟩) ?_ ?_
             rotate_left
             ·intro w'
              go_simp
              with_reducible rfl
             rotate_left
             ·simp only [Act.put, List.setIfInBounds_toArray, List.set_cons_zero, List.set_cons_succ, i64_w, i32_w]
              rfl
             refine pure_ (i := 13) (N := some 117) (v := ?_) (a' := ?_) #[true, true, true, true, true, true, true, false, true, false, false, true, false, true, false, false, false, false, false] rfl rfl (any_of HT_.out (by kernel_rfl)) (fun _ _ _ h => h) (Or.inl ⟨by rfl, ?_⟩) ?_ ?_
             rotate_left
             ·intro w'
              go_simp
              with_reducible rfl
             rotate_left
             ·simp only [Act.put, List.setIfInBounds_toArray, List.set_cons_zero, List.set_cons_succ, i64_w, i32_w]
              rfl
             refine take_ (i := 7) (N := some 111) (v := ?_) (a' := ?_) #[true, true, true, true, true, true, true, true, true, false, false, true, false, true, false, false, false, false, false] rfl rfl (take_ofW HT_.out HW_.out (by kernel_rfl)) (fun _ _ _ h => h) (Or.inl ⟨by rfl, ?_⟩) hHeld ?_ ?_
             rotate_left
             ·rintro w' ⟨s0, s1, s2, s3, s4, s5⟩
              go_simp
              with_reducible rfl
             rotate_left
             ·simp only [Act.put, List.setIfInBounds_toArray, List.set_cons_zero, List.set_cons_succ, i64_w, i32_w]
              rfl
             refine take_ (i := 9) (N := some 113) (v := ?_) (a' := ?_) #[true, true, true, true, true, true, true, true, true, true, false, true, false, true, false, false, false, false, false] rfl rfl (take_ofW HT_.out HW_.out (by kernel_rfl)) (fun _ _ _ h => h) (Or.inl ⟨by rfl, ?_⟩) hHeld ?_ ?_
             rotate_left
             ·rintro w' ⟨s0, s1, s2, s3, s4, s5⟩
              go_simp
              with_reducible rfl
             rotate_left
             ·simp only [Act.put, List.setIfInBounds_toArray, List.set_cons_zero, List.set_cons_succ, i64_w, i32_w]
              rfl
             refine take_ (i := 12) (N := some 116) (v := ?_) (a' := ?_) #[true, true, true, true, true, true, true, true, true, true, false, true, true, true, false, false, false, false, false] rfl rfl (take_ofW HT_.out HW_.out (by kernel_rfl)) (fun _ _ _ h => h) (Or.inl ⟨by rfl, ?_⟩) hHeld ?_ ?_
             rotate_left
             ·rintro w' ⟨s0, s1, s2, s3, s4, s5⟩
              go_simp
              with_reducible rfl
             rotate_left
             ·simp only [Act.put, List.setIfInBounds_toArray, List.set_cons_zero, List.set_cons_succ, i64_w, i32_w]
              rfl
             refine take_ (i := 14) (N := some 118) (v := ?_) (a' := ?_) #[true, true, true, true, true, true, true, true, true, true, false, true, true, true, true, false, false, false, false] rfl rfl (take_ofW HT_.out HW_.out (by kernel_rfl)) (fun _ _ _ h => h) (Or.inl ⟨by rfl, ?_⟩) hHeld ?_ ?_
             rotate_left
             ·rintro w' ⟨s0, s1, s2, s3, s4, s5⟩
              go_simp
              with_reducible rfl
             rotate_left
             ·simp only [Act.put, List.setIfInBounds_toArray, List.set_cons_zero, List.set_cons_succ, i64_w, i32_w]
              rfl
             refine one_ (i := 10) (N := some 114) #[true, true, true, true, true, true, true, true, true, true, true, true, true, true, true, false, false, false, false] rfl rfl (one_of HT_.out (by kernel_rfl)) (by decide) (fun K hK => ?_)
             refine goes_ Try.func15 (by kernel_rfl) rfl #[.agg #[.int .i64 a0_0, .int .i64 a0_1, .slice A0_2 l0_2.length c0_2], .slice A0_3 l0_3.length c0_3] (by rfl) rfl rfl (by (try simp only [List.map_toArray, List.map_cons, List.map_nil]); first | done | rfl | (simp only [List.length_drop, List.length_take]; rfl)) ?_
             with_reducible refine (crB_Clean.calls kj31 a0_0 a0_1 _ _ l0_2 _ _ l0_3 t667 _ ?side1 ?side2 ?side3 ?side4 A47.out).mono ?_
             (case side1 => repeat (first | exact (Kd.C_below HR0_2.out HB.out) | (with_reducible refine Kd.C_alloc ?_ _) | (with_reducible refine Kd.C_drewN ?_ _) | (with_reducible refine Kd.C_drew ?_)))
             (case side2 => exact HC0_2.out)
             (case side3 => repeat (first | exact (Kd.C_below HR0_3.out HB.out) | (with_reducible refine Kd.C_alloc ?_ _) | (with_reducible refine Kd.C_drewN ?_ _) | (with_reducible refine Kd.C_drew ?_)))
             (case side4 => exact HC0_3.out)
             rintro e w52 ⟨v668, rfl, ho0, hb⟩
             refine ⟨_, rfl, ?_⟩
             have n0_ := Aside0.mk (Kd.R_lower ho0 (below_size (by repeat (first | (with_reducible first | exact HB.out | apply below_alloc | apply pw_below_drewN | apply below_drew1 | refine below_set ?_ GE626.out) | exact HB.out))))
             have n1_ := Aside0.mk (blk_below (g := gb626) (o := .cells #[.int .i64 a0_0, .int .i64 a0_1, .slice A0_2 l0_2.length c0_2, .slice A0_3 l0_3.length c0_3, .slice A0_4 l0_4.length c0_4, .slice A0_5 l0_5.length c0_5] 49 (0, 0)) (by (with_reducible repeat (first | refine blk_drewN ?_ _ | refine blk_drew ?_ | refine blk_alloc ?_ _)); exact BK626.out) hb)
             have n2_ := Aside0.mk (below_step (by repeat (first | (with_reducible first | exact HB.out | apply below_alloc | apply pw_below_drewN | apply below_drew1 | refine below_set ?_ GE626.out) | exact HB.out)) hb)
             clear BK626
             clear HB
             have HO669 := n0_
             have BK626 := n1_
             have HB := n2_
             clear n0_ n1_ n2_
             (try clear hb)
             (try clear hb2)
             (try clear hk)
             (try clear hi)
             (try clear ho0)
             refine hK.out _ _ ⟨(blk_cell BK626.out 0).trans rfl, (blk_cell BK626.out 1).trans rfl, (blk_cell BK626.out 2).trans rfl, (blk_cell BK626.out 3).trans rfl, (blk_cell BK626.out 4).trans rfl, (blk_cell BK626.out 5).trans rfl⟩ (fun hHeld => ?_)
             clear hK K
             refine norm_ (a' := ?_) ?_ ?_
             rotate_left
             ·show Act.put _ (some 114) _ = _
              simp only [Act.put, List.setIfInBounds_toArray, List.set_cons_zero, List.set_cons_succ, i64_w, i32_w]
              rfl
             refine one_ (i := 15) (N := some 119) #[true, true, true, true, true, true, true, true, true, true, true, true, true, true, true, true, false, false, false] rfl rfl (one_of HT_.out (by kernel_rfl)) (by decide) (fun K hK => ?_)
             refine goes_ Try.func15 (by kernel_rfl) rfl #[.agg #[.int .i64 a0_0, .int .i64 a0_1, .slice A0_2 l0_2.length c0_2], .slice A0_4 l0_4.length c0_4] (by rfl) rfl rfl (by (try simp only [List.map_toArray, List.map_cons, List.map_nil]); first | done | rfl | (simp only [List.length_drop, List.length_take]; rfl)) ?_
             with_reducible refine (crB_Clean.calls kj31 a0_0 a0_1 _ _ l0_2 _ _ l0_4 t670 _ ?side1 ?side2 ?side3 ?side4 A48.out).mono ?_
             (case side1 => repeat (first | exact (Kd.C_below HR0_2.out HB.out) | (with_reducible refine Kd.C_alloc ?_ _) | (with_reducible refine Kd.C_drewN ?_ _) | (with_reducible refine Kd.C_drew ?_)))
             (case side2 => exact HC0_2.out)
             (case side3 => repeat (first | exact (Kd.C_below HR0_4.out HB.out) | (with_reducible refine Kd.C_alloc ?_ _) | (with_reducible refine Kd.C_drewN ?_ _) | (with_reducible refine Kd.C_drew ?_)))
             (case side4 => exact HC0_4.out)
             rintro e w53 ⟨v671, rfl, ho0, hb⟩
             refine ⟨_, rfl, ?_⟩
             have n0_ := Aside0.mk (Kd.R_elder' (by (with_reducible repeat (first | apply Kd.R_alloc | apply Kd.R_drewN | apply Kd.R_drew)); exact HO669.out) (Kd.R_base ho0) hb)
             have n1_ := Aside0.mk (Kd.R_lower (Kd.R_new' ho0 (Kd.R_lt (by (with_reducible repeat (first | apply Kd.R_alloc | apply Kd.R_drewN | apply Kd.R_drew)); exact HO669.out))) (below_size (by repeat (first | (with_reducible first | exact HB.out | apply below_alloc | apply pw_below_drewN | apply below_drew1 | refine below_set ?_ GE626.out) | exact HB.out))))
             have n2_ := Aside0.mk (blk_below (g := gb626) (o := .cells #[.int .i64 a0_0, .int .i64 a0_1, .slice A0_2 l0_2.length c0_2, .slice A0_3 l0_3.length c0_3, .slice A0_4 l0_4.length c0_4, .slice A0_5 l0_5.length c0_5] 49 (0, 0)) (by (with_reducible repeat (first | refine blk_drewN ?_ _ | refine blk_drew ?_ | refine blk_alloc ?_ _)); exact BK626.out) hb)
             have n3_ := Aside0.mk (below_step (by repeat (first | (with_reducible first | exact HB.out | apply below_alloc | apply pw_below_drewN | apply below_drew1 | refine below_set ?_ GE626.out) | exact HB.out)) hb)
             clear HO669
             clear BK626
             clear HB
             have HO669 := n0_
             have HO672 := n1_
             have BK626 := n2_
             have HB := n3_
             clear n0_ n1_ n2_ n3_
             (try clear hb)
             (try clear hb2)
             (try clear hk)
             (try clear hi)
             (try clear ho0)
             obtain ⟨Ao54, co54, eo54⟩ := Kd.R_slice HO669.out
             (first | subst eo54 | (injection eo54 with f1_ f2_ f3_; have f4_ := f1_.symm; have f5_ := f3_.symm; clear f1_ f2_ f3_; subst f4_; subst f5_))
             obtain ⟨Ao55, co55, eo55⟩ := Kd.R_slice HO672.out
             (first | subst eo55 | (injection eo55 with f1_ f2_ f3_; have f4_ := f1_.symm; have f5_ := f3_.symm; clear f1_ f2_ f3_; subst f4_; subst f5_))
             refine hK.out _ _ ⟨(blk_cell BK626.out 0).trans rfl, (blk_cell BK626.out 1).trans rfl, (blk_cell BK626.out 2).trans rfl, (blk_cell BK626.out 3).trans rfl, (blk_cell BK626.out 4).trans rfl, (blk_cell BK626.out 5).trans rfl⟩ (fun hHeld => ?_)
             clear hK K
             refine norm_ (a' := ?_) ?_ ?_
             rotate_left
             ·show Act.put _ (some 119) _ = _
              simp only [Act.put, List.setIfInBounds_toArray, List.set_cons_zero, List.set_cons_succ, i64_w, i32_w]
              rfl
             refine one_ (i := 16) (N := some 120) #[true, true, true, true, true, true, true, true, true, true, true, true, true, true, true, true, true, false, false] rfl rfl (one_of HT_.out (by kernel_rfl)) (by decide) (fun K hK => ?_)
             refine goes_ Try.func13 (by kernel_rfl) rfl #[.slice Ao54 t667.length co54, .slice Ao55 t670.length co55] (by rfl) rfl rfl (by (try simp only [List.map_toArray, List.map_cons, List.map_nil]); first | done | rfl | (simp only [List.length_drop, List.length_take]; rfl)) ?_
             with_reducible refine (crB_Same.calls kj31 _ _ t667 _ _ t670 t673 _ ?side1 ?side2 ?side3 ?side4 A49.out).mono ?_
             (case side1 => repeat (first | exact (Kd.R_reads' HO669.out).2.2 | (with_reducible refine Kd.C_alloc ?_ _) | (with_reducible refine Kd.C_drewN ?_ _) | (with_reducible refine Kd.C_drew ?_)))
             (case side2 => exact (Kd.R_reads' HO669.out).2.1)
             (case side3 => repeat (first | exact (Kd.R_reads' HO672.out).2.2 | (with_reducible refine Kd.C_alloc ?_ _) | (with_reducible refine Kd.C_drewN ?_ _) | (with_reducible refine Kd.C_drew ?_)))
             (case side4 => exact (Kd.R_reads' HO672.out).2.1)
             rintro e w' ⟨rfl, ⟨nd, rfl⟩⟩
             refine ⟨_, rfl, ?_⟩
             refine hK.out _ _ ⟨(blk_cell BK626.out 0).trans rfl, (blk_cell BK626.out 1).trans rfl, (blk_cell BK626.out 2).trans rfl, (blk_cell BK626.out 3).trans rfl, (blk_cell BK626.out 4).trans rfl, (blk_cell BK626.out 5).trans rfl⟩ (fun hHeld => ?_)
             clear hK K
             refine norm_ (a' := ?_) ?_ ?_
             rotate_left
             ·show Act.put _ (some 120) _ = _
              simp only [Act.put, List.setIfInBounds_toArray, List.set_cons_zero, List.set_cons_succ, i64_w, i32_w]
              rfl
             refine pure_ (i := 17) (N := some 121) (v := ?_) (a' := ?_) #[true, true, true, true, true, true, true, true, true, true, true, true, true, true, true, true, true, true, false] rfl rfl (any_of HT_.out (by kernel_rfl)) (fun _ _ _ h => h) (Or.inl ⟨by rfl, ?_⟩) ?_ ?_
             rotate_left
             ·intro w'
              go_simp
              with_reducible rfl
             rotate_left
             ·simp only [Act.put, List.setIfInBounds_toArray, List.set_cons_zero, List.set_cons_succ, i64_w, i32_w]
              rfl
             refine pure_ (i := 18) (N := some 122) (v := ?_) (a' := ?_) #[true, true, true, true, true, true, true, true, true, true, true, true, true, true, true, true, true, true, true] rfl rfl (any_of HT_.out (by kernel_rfl)) (fun _ _ _ h => h) (Or.inl ⟨by rfl, ?_⟩) ?_ ?_
             rotate_left
             ·intro w'
              go_simp
              with_reducible rfl
             rotate_left
             ·simp only [Act.put, List.setIfInBounds_toArray, List.set_cons_zero, List.set_cons_succ, i64_w, i32_w]
              rfl
             refine done_ (done_of HT_.out (by kernel_rfl)) ?_
             try go_wp2
             go_ret
             exact ⟨by first | rfl | (simp [errW_none, errW_some] <;> rfl) | (simp [*, errW_none, errW_some] <;> rfl), by repeat (first | (with_reducible first | exact HB.out | apply below_alloc | apply pw_below_drewN | apply below_drew1 | refine below_set ?_ GE626.out) | exact HB.out | exact below_tr HBW.out HB.out)⟩
            ·rw [if_neg c50] at H
             have c50b0 : ((t647 == 0) != t673) = false := by simpa using c50
             (try (have c50b1 : decide ((t647 == 0) = t673) = true := by simpa using c50))
             (try (have c50b2 : ((t647 == 0) == t673) = true := by simpa using c50))
             clear c50
             obtain rfl := Option.some.inj H
             try go_wp2
             have n0_ := Aside0.mk (blk_drew BK626.out)
             have n1_ := Aside0.mk (below_drew1 HB.out)
             clear BK626
             clear HB
             have BK626 := n0_
             have HB := n1_
             clear n0_ n1_
             refine start_ (n := 19) (S := fun w' => w'.cell? ⟨gb626, 0, none⟩ = some (.int .i64 a0_0) ∧ w'.cell? ⟨gb626, 1, none⟩ = some (.int .i64 a0_1) ∧ w'.cell? ⟨gb626, 2, none⟩ = some (.slice A0_2 l0_2.length c0_2) ∧ w'.cell? ⟨gb626, 3, none⟩ = some (.slice A0_3 l0_3.length c0_3) ∧ w'.cell? ⟨gb626, 4, none⟩ = some (.slice A0_4 l0_4.length c0_4) ∧ w'.cell? ⟨gb626, 5, none⟩ = some (.slice A0_5 l0_5.length c0_5)) (ds := []) #[false, false, false, false, false, false, false, false, false, false, false, false, false, false, false, false, false, false, false] (by kernel_rfl) rfl rfl ⟨(blk_cell BK626.out 0).trans rfl, (blk_cell BK626.out 1).trans rfl, (blk_cell BK626.out 2).trans rfl, (blk_cell BK626.out 3).trans rfl, (blk_cell BK626.out 4).trans rfl, (blk_cell BK626.out 5).trans rfl⟩ (fun hHeld => ?_); refine with_tabW cw_WordTriangle.tab15 cw_WordTriangle.bits15 (fun HT_ HW_ => ?_)
             generalize wc.drew = w56 at BK626 HB hHeld ⊢
             refine pure_ (i := 0) (N := some 104) (v := ?_) (a' := ?_) #[true, false, false, false, false, false, false, false, false, false, false, false, false, false, false, false, false, false, false] rfl rfl (any_of HT_.out (by kernel_rfl)) (fun _ _ _ h => h) (Or.inl ⟨by rfl, ?_⟩) ?_ ?_
             rotate_left
             ·intro w'
              go_simp
              with_reducible rfl
             rotate_left
             ·simp only [Act.put, List.setIfInBounds_toArray, List.set_cons_zero, List.set_cons_succ, i64_w, i32_w]
              rfl
             refine pure_ (i := 1) (N := some 105) (v := ?_) (a' := ?_) #[true, true, false, false, false, false, false, false, false, false, false, false, false, false, false, false, false, false, false] rfl rfl (any_of HT_.out (by kernel_rfl)) (fun _ _ _ h => h) (Or.inl ⟨by rfl, ?_⟩) ?_ ?_
             rotate_left
             ·intro w'
              go_simp
              with_reducible rfl
             rotate_left
             ·simp only [Act.put, List.setIfInBounds_toArray, List.set_cons_zero, List.set_cons_succ, i64_w, i32_w]
              rfl
             refine pure_ (i := 2) (N := some 106) (v := ?_) (a' := ?_) #[true, true, true, false, false, false, false, false, false, false, false, false, false, false, false, false, false, false, false] rfl rfl (any_of HT_.out (by kernel_rfl)) (fun _ _ _ h => h) (Or.inl ⟨by rfl, ?_⟩) ?_ ?_
             rotate_left
             ·intro w'
              go_simp
              with_reducible rfl
             rotate_left
             ·simp only [Act.put, List.setIfInBounds_toArray, List.set_cons_zero, List.set_cons_succ, i64_w, i32_w]
              rfl
             refine pure_ (i := 3) (N := some 107) (v := ?_) (a' := ?_) #[true, true, true, true, false, false, false, false, false, false, false, false, false, false, false, false, false, false, false] rfl rfl (any_of HT_.out (by kernel_rfl)) (fun _ _ _ h => h) (Or.inl ⟨by rfl, ?_⟩) ?_ ?_
             rotate_left
             ·intro w'
              go_simp
              with_reducible rfl
             rotate_left
             ·simp only [Act.put, List.setIfInBounds_toArray, List.set_cons_zero, List.set_cons_succ, i64_w, i32_w]
              rfl
             refine pure_ (i := 4) (N := some 108) (v := ?_) (a' := ?_) #[true, true, true, true, true, false, false, false, false, false, false, false, false, false, false, false, false, false, false] rfl rfl (any_of HT_.out (by kernel_rfl)) (fun _ _ _ h => h) (Or.inl ⟨by rfl, ?_⟩) ?_ ?_
             rotate_left
             ·intro w'
              go_simp
              with_reducible rfl
             rotate_left
             ·simp only [Act.put, List.setIfInBounds_toArray, List.set_cons_zero, List.set_cons_succ, i64_w, i32_w]
              rfl
             refine pure_ (i := 5) (N := some 109) (v := ?_) (a' := ?_) #[true, true, true, true, true, true, false, false, false, false, false, false, false, false, false, false, false, false, false] rfl rfl (any_of HT_.out (by kernel_rfl)) (fun _ _ _ h => h) (Or.inl ⟨by rfl, ?_⟩) ?_ ?_
             rotate_left
             ·intro w'
              go_simp
              with_reducible rfl
             rotate_left
             ·simp only [Act.put, List.setIfInBounds_toArray, List.set_cons_zero, List.set_cons_succ, i64_w, i32_w]
              rfl
             refine pure_ (i := 6) (N := some 110) (v := ?_) (a' := ?_) #[true, true, true, true, true, true, true, false, false, false, false, false, false, false, false, false, false, false, false] rfl rfl (any_of HT_.out (by kernel_rfl)) (fun _ _ _ h => h) (Or.inl ⟨by rfl, ?_⟩) ?_ ?_
             rotate_left
             ·intro w'
              go_simp
              with_reducible rfl
             rotate_left
             ·simp only [Act.put, List.setIfInBounds_toArray, List.set_cons_zero, List.set_cons_succ, i64_w, i32_w]
              rfl
             refine pure_ (i := 8) (N := some 112) (v := ?_) (a' := ?_) #[true, true, true, true, true, true, true, false, true, false, false, false, false, false, false, false, false, false, false] rfl rfl (any_of HT_.out (by kernel_rfl)) (fun _ _ _ h => h) (Or.inl ⟨by rfl, ?_⟩) ?_ ?_
             rotate_left
             ·intro w'
              go_simp
              with_reducible rfl
             rotate_left
             ·simp only [Act.put, List.setIfInBounds_toArray, List.set_cons_zero, List.set_cons_succ, i64_w, i32_w]
              rfl
             refine pure_ (i := 11) (N := some 115) (v := ?_) (a' := ?_) #[true, true, true, true, true, true, true, false, true, false, false, true, false, false, false, false, false, false, false] rfl rfl (any_of HT_.out (by kernel_rfl)) (fun _ _ _ h => h) (Or.inl ⟨by rfl, ?_⟩) ?_ ?_
             rotate_left
             ·intro w'
              go_simp
              with_reducible rfl
             rotate_left
             ·simp only [Act.put, List.setIfInBounds_toArray, List.set_cons_zero, List.set_cons_succ, i64_w, i32_w]
              rfl
             refine pure_ (i := 13) (N := some 117) (v := ?_) (a' := ?_) #[true, true, true, true, true, true, true, false, true, false, false, true, false, true, false, false, false, false, false] rfl rfl (any_of HT_.out (by kernel_rfl)) (fun _ _ _ h => h) (Or.inl ⟨by rfl, ?_⟩) ?_ ?_
             rotate_left
             ·intro w'
              go_simp
              with_reducible rfl
             rotate_left
             ·simp only [Act.put, List.setIfInBounds_toArray, List.set_cons_zero, List.set_cons_succ, i64_w, i32_w]
              rfl
             refine take_ (i := 7) (N := some 111) (v := ?_) (a' := ?_) #[true, true, true, true, true, true, true, true, true, false, false, true, false, true, false, false, false, false, false] rfl rfl (take_ofW HT_.out HW_.out (by kernel_rfl)) (fun _ _ _ h => h) (Or.inl ⟨by rfl, ?_⟩) hHeld ?_ ?_
             rotate_left
             ·rintro w' ⟨s0, s1, s2, s3, s4, s5⟩
              go_simp
              with_reducible rfl
             rotate_left
             ·simp only [Act.put, List.setIfInBounds_toArray, List.set_cons_zero, List.set_cons_succ, i64_w, i32_w]
              rfl
             refine take_ (i := 9) (N := some 113) (v := ?_) (a' := ?_) #[true, true, true, true, true, true, true, true, true, true, false, true, false, true, false, false, false, false, false] rfl rfl (take_ofW HT_.out HW_.out (by kernel_rfl)) (fun _ _ _ h => h) (Or.inl ⟨by rfl, ?_⟩) hHeld ?_ ?_
             rotate_left
             ·rintro w' ⟨s0, s1, s2, s3, s4, s5⟩
              go_simp
              with_reducible rfl
             rotate_left
             ·simp only [Act.put, List.setIfInBounds_toArray, List.set_cons_zero, List.set_cons_succ, i64_w, i32_w]
              rfl
             refine take_ (i := 12) (N := some 116) (v := ?_) (a' := ?_) #[true, true, true, true, true, true, true, true, true, true, false, true, true, true, false, false, false, false, false] rfl rfl (take_ofW HT_.out HW_.out (by kernel_rfl)) (fun _ _ _ h => h) (Or.inl ⟨by rfl, ?_⟩) hHeld ?_ ?_
             rotate_left
             ·rintro w' ⟨s0, s1, s2, s3, s4, s5⟩
              go_simp
              with_reducible rfl
             rotate_left
             ·simp only [Act.put, List.setIfInBounds_toArray, List.set_cons_zero, List.set_cons_succ, i64_w, i32_w]
              rfl
             refine take_ (i := 14) (N := some 118) (v := ?_) (a' := ?_) #[true, true, true, true, true, true, true, true, true, true, false, true, true, true, true, false, false, false, false] rfl rfl (take_ofW HT_.out HW_.out (by kernel_rfl)) (fun _ _ _ h => h) (Or.inl ⟨by rfl, ?_⟩) hHeld ?_ ?_
             rotate_left
             ·rintro w' ⟨s0, s1, s2, s3, s4, s5⟩
              go_simp
              with_reducible rfl
             rotate_left
             ·simp only [Act.put, List.setIfInBounds_toArray, List.set_cons_zero, List.set_cons_succ, i64_w, i32_w]
              rfl
             refine one_ (i := 10) (N := some 114) #[true, true, true, true, true, true, true, true, true, true, true, true, true, true, true, false, false, false, false] rfl rfl (one_of HT_.out (by kernel_rfl)) (by decide) (fun K hK => ?_)
             refine goes_ Try.func15 (by kernel_rfl) rfl #[.agg #[.int .i64 a0_0, .int .i64 a0_1, .slice A0_2 l0_2.length c0_2], .slice A0_3 l0_3.length c0_3] (by rfl) rfl rfl (by (try simp only [List.map_toArray, List.map_cons, List.map_nil]); first | done | rfl | (simp only [List.length_drop, List.length_take]; rfl)) ?_
             with_reducible refine (crB_Clean.calls kj31 a0_0 a0_1 _ _ l0_2 _ _ l0_3 t667 _ ?side1 ?side2 ?side3 ?side4 A47.out).mono ?_
             (case side1 => repeat (first | exact (Kd.C_below HR0_2.out HB.out) | (with_reducible refine Kd.C_alloc ?_ _) | (with_reducible refine Kd.C_drewN ?_ _) | (with_reducible refine Kd.C_drew ?_)))
             (case side2 => exact HC0_2.out)
             (case side3 => repeat (first | exact (Kd.C_below HR0_3.out HB.out) | (with_reducible refine Kd.C_alloc ?_ _) | (with_reducible refine Kd.C_drewN ?_ _) | (with_reducible refine Kd.C_drew ?_)))
             (case side4 => exact HC0_3.out)
             rintro e w57 ⟨v668, rfl, ho0, hb⟩
             refine ⟨_, rfl, ?_⟩
             have n0_ := Aside0.mk (Kd.R_lower ho0 (below_size (by repeat (first | (with_reducible first | exact HB.out | apply below_alloc | apply pw_below_drewN | apply below_drew1 | refine below_set ?_ GE626.out) | exact HB.out))))
             have n1_ := Aside0.mk (blk_below (g := gb626) (o := .cells #[.int .i64 a0_0, .int .i64 a0_1, .slice A0_2 l0_2.length c0_2, .slice A0_3 l0_3.length c0_3, .slice A0_4 l0_4.length c0_4, .slice A0_5 l0_5.length c0_5] 49 (0, 0)) (by (with_reducible repeat (first | refine blk_drewN ?_ _ | refine blk_drew ?_ | refine blk_alloc ?_ _)); exact BK626.out) hb)
             have n2_ := Aside0.mk (below_step (by repeat (first | (with_reducible first | exact HB.out | apply below_alloc | apply pw_below_drewN | apply below_drew1 | refine below_set ?_ GE626.out) | exact HB.out)) hb)
             clear BK626
             clear HB
             have HO669 := n0_
             have BK626 := n1_
             have HB := n2_
             clear n0_ n1_ n2_
             (try clear hb)
             (try clear hb2)
             (try clear hk)
             (try clear hi)
             (try clear ho0)
             refine hK.out _ _ ⟨(blk_cell BK626.out 0).trans rfl, (blk_cell BK626.out 1).trans rfl, (blk_cell BK626.out 2).trans rfl, (blk_cell BK626.out 3).trans rfl, (blk_cell BK626.out 4).trans rfl, (blk_cell BK626.out 5).trans rfl⟩ (fun hHeld => ?_)
             clear hK K
             refine norm_ (a' := ?_) ?_ ?_
             rotate_left
             ·show Act.put _ (some 114) _ = _
              simp only [Act.put, List.setIfInBounds_toArray, List.set_cons_zero, List.set_cons_succ, i64_w, i32_w]
              rfl
             refine one_ (i := 15) (N := some 119) #[true, true, true, true, true, true, true, true, true, true, true, true, true, true, true, true, false, false, false] rfl rfl (one_of HT_.out (by kernel_rfl)) (by decide) (fun K hK => ?_)
             refine goes_ Try.func15 (by kernel_rfl) rfl #[.agg #[.int .i64 a0_0, .int .i64 a0_1, .slice A0_2 l0_2.length c0_2], .slice A0_4 l0_4.length c0_4] (by rfl) rfl rfl (by (try simp only [List.map_toArray, List.map_cons, List.map_nil]); first | done | rfl | (simp only [List.length_drop, List.length_take]; rfl)) ?_
             with_reducible refine (crB_Clean.calls kj31 a0_0 a0_1 _ _ l0_2 _ _ l0_4 t670 _ ?side1 ?side2 ?side3 ?side4 A48.out).mono ?_
             (case side1 => repeat (first | exact (Kd.C_below HR0_2.out HB.out) | (with_reducible refine Kd.C_alloc ?_ _) | (with_reducible refine Kd.C_drewN ?_ _) | (with_reducible refine Kd.C_drew ?_)))
             (case side2 => exact HC0_2.out)
             (case side3 => repeat (first | exact (Kd.C_below HR0_4.out HB.out) | (with_reducible refine Kd.C_alloc ?_ _) | (with_reducible refine Kd.C_drewN ?_ _) | (with_reducible refine Kd.C_drew ?_)))
             (case side4 => exact HC0_4.out)
             rintro e w58 ⟨v671, rfl, ho0, hb⟩
             refine ⟨_, rfl, ?_⟩
             have n0_ := Aside0.mk (Kd.R_elder' (by (with_reducible repeat (first | apply Kd.R_alloc | apply Kd.R_drewN | apply Kd.R_drew)); exact HO669.out) (Kd.R_base ho0) hb)
             have n1_ := Aside0.mk (Kd.R_lower (Kd.R_new' ho0 (Kd.R_lt (by (with_reducible repeat (first | apply Kd.R_alloc | apply Kd.R_drewN | apply Kd.R_drew)); exact HO669.out))) (below_size (by repeat (first | (with_reducible first | exact HB.out | apply below_alloc | apply pw_below_drewN | apply below_drew1 | refine below_set ?_ GE626.out) | exact HB.out))))
             have n2_ := Aside0.mk (blk_below (g := gb626) (o := .cells #[.int .i64 a0_0, .int .i64 a0_1, .slice A0_2 l0_2.length c0_2, .slice A0_3 l0_3.length c0_3, .slice A0_4 l0_4.length c0_4, .slice A0_5 l0_5.length c0_5] 49 (0, 0)) (by (with_reducible repeat (first | refine blk_drewN ?_ _ | refine blk_drew ?_ | refine blk_alloc ?_ _)); exact BK626.out) hb)
             have n3_ := Aside0.mk (below_step (by repeat (first | (with_reducible first | exact HB.out | apply below_alloc | apply pw_below_drewN | apply below_drew1 | refine below_set ?_ GE626.out) | exact HB.out)) hb)
             clear HO669
             clear BK626
             clear HB
             have HO669 := n0_
             have HO672 := n1_
             have BK626 := n2_
             have HB := n3_
             clear n0_ n1_ n2_ n3_
             (try clear hb)
             (try clear hb2)
             (try clear hk)
             (try clear hi)
             (try clear ho0)
             obtain ⟨Ao59, co59, eo59⟩ := Kd.R_slice HO669.out
             (first | subst eo59 | (injection eo59 with f1_ f2_ f3_; have f4_ := f1_.symm; have f5_ := f3_.symm; clear f1_ f2_ f3_; subst f4_; subst f5_))
             obtain ⟨Ao60, co60, eo60⟩ := Kd.R_slice HO672.out
             (first | subst eo60 | (injection eo60 with f1_ f2_ f3_; have f4_ := f1_.symm; have f5_ := f3_.symm; clear f1_ f2_ f3_; subst f4_; subst f5_))
             refine hK.out _ _ ⟨(blk_cell BK626.out 0).trans rfl, (blk_cell BK626.out 1).trans rfl, (blk_cell BK626.out 2).trans rfl, (blk_cell BK626.out 3).trans rfl, (blk_cell BK626.out 4).trans rfl, (blk_cell BK626.out 5).trans rfl⟩ (fun hHeld => ?_)
             clear hK K
             refine norm_ (a' := ?_) ?_ ?_
             rotate_left
             ·show Act.put _ (some 119) _ = _
              simp only [Act.put, List.setIfInBounds_toArray, List.set_cons_zero, List.set_cons_succ, i64_w, i32_w]
              rfl
             refine one_ (i := 16) (N := some 120) #[true, true, true, true, true, true, true, true, true, true, true, true, true, true, true, true, true, false, false] rfl rfl (one_of HT_.out (by kernel_rfl)) (by decide) (fun K hK => ?_)
             refine goes_ Try.func13 (by kernel_rfl) rfl #[.slice Ao59 t667.length co59, .slice Ao60 t670.length co60] (by rfl) rfl rfl (by (try simp only [List.map_toArray, List.map_cons, List.map_nil]); first | done | rfl | (simp only [List.length_drop, List.length_take]; rfl)) ?_
             with_reducible refine (crB_Same.calls kj31 _ _ t667 _ _ t670 t673 _ ?side1 ?side2 ?side3 ?side4 A49.out).mono ?_
             (case side1 => repeat (first | exact (Kd.R_reads' HO669.out).2.2 | (with_reducible refine Kd.C_alloc ?_ _) | (with_reducible refine Kd.C_drewN ?_ _) | (with_reducible refine Kd.C_drew ?_)))
             (case side2 => exact (Kd.R_reads' HO669.out).2.1)
             (case side3 => repeat (first | exact (Kd.R_reads' HO672.out).2.2 | (with_reducible refine Kd.C_alloc ?_ _) | (with_reducible refine Kd.C_drewN ?_ _) | (with_reducible refine Kd.C_drew ?_)))
             (case side4 => exact (Kd.R_reads' HO672.out).2.1)
             rintro e w' ⟨rfl, ⟨nd, rfl⟩⟩
             refine ⟨_, rfl, ?_⟩
             refine hK.out _ _ ⟨(blk_cell BK626.out 0).trans rfl, (blk_cell BK626.out 1).trans rfl, (blk_cell BK626.out 2).trans rfl, (blk_cell BK626.out 3).trans rfl, (blk_cell BK626.out 4).trans rfl, (blk_cell BK626.out 5).trans rfl⟩ (fun hHeld => ?_)
             clear hK K
             refine norm_ (a' := ?_) ?_ ?_
             rotate_left
             ·show Act.put _ (some 120) _ = _
              simp only [Act.put, List.setIfInBounds_toArray, List.set_cons_zero, List.set_cons_succ, i64_w, i32_w]
              rfl
             refine pure_ (i := 17) (N := some 121) (v := ?_) (a' := ?_) #[true, true, true, true, true, true, true, true, true, true, true, true, true, true, true, true, true, true, false] rfl rfl (any_of HT_.out (by kernel_rfl)) (fun _ _ _ h => h) (Or.inl ⟨by rfl, ?_⟩) ?_ ?_
             rotate_left
             ·intro w'
              go_simp
              with_reducible rfl
             rotate_left
             ·simp only [Act.put, List.setIfInBounds_toArray, List.set_cons_zero, List.set_cons_succ, i64_w, i32_w]
              rfl
             refine pure_ (i := 18) (N := some 122) (v := ?_) (a' := ?_) #[true, true, true, true, true, true, true, true, true, true, true, true, true, true, true, true, true, true, true] rfl rfl (any_of HT_.out (by kernel_rfl)) (fun _ _ _ h => h) (Or.inl ⟨by rfl, ?_⟩) ?_ ?_
             rotate_left
             ·intro w'
              go_simp
              with_reducible rfl
             rotate_left
             ·simp only [Act.put, List.setIfInBounds_toArray, List.set_cons_zero, List.set_cons_succ, i64_w, i32_w]
              rfl
             refine done_ (done_of HT_.out (by kernel_rfl)) ?_
             try go_wp2
             go_ret
             exact ⟨by first | rfl | (simp [errW_none, errW_some] <;> rfl) | (simp [*, errW_none, errW_some] <;> rfl), by repeat (first | (with_reducible first | exact HB.out | apply below_alloc | apply pw_below_drewN | apply below_drew1 | refine below_set ?_ GE626.out) | exact HB.out | exact below_tr HBW.out HB.out)⟩
           ·rw [if_neg c46] at H
            have c46b0 : (t647 == t652) = false := beq_eq_false_iff_ne.mpr c46
            have c46b1 : (t647 != t652) = true := bne_iff_ne.mpr c46
            obtain rfl := Option.some.inj H
            try go_wp2
            have n0_ := Aside0.mk (blk_drew BK626.out)
            have n1_ := Aside0.mk (below_drew1 HB.out)
            clear BK626
            clear HB
            have BK626 := n0_
            have HB := n1_
            clear n0_ n1_
            refine start_ (n := 19) (S := fun w' => True) (ds := []) #[false, false, false, false, false, false, false, false, false, false, false, false, false, false, false, false, false, false, false] (by kernel_rfl) rfl rfl trivial (fun hHeld => ?_); refine with_tabW cw_WordTriangle.tab15 cw_WordTriangle.bits15 (fun HT_ HW_ => ?_)
            generalize wc.drew = w61 at BK626 HB hHeld ⊢
            refine pure_ (i := 0) (N := some 104) (v := ?_) (a' := ?_) #[true, false, false, false, false, false, false, false, false, false, false, false, false, false, false, false, false, false, false] rfl rfl (any_of HT_.out (by kernel_rfl)) (fun _ _ _ h => h) (Or.inl ⟨by rfl, ?_⟩) ?_ ?_
            rotate_left
            ·intro w'
             go_simp
             with_reducible rfl
            rotate_left
            ·simp only [Act.put, List.setIfInBounds_toArray, List.set_cons_zero, List.set_cons_succ, i64_w, i32_w]
             rfl
            refine pure_ (i := 1) (N := some 105) (v := ?_) (a' := ?_) #[true, true, false, false, false, false, false, false, false, false, false, false, false, false, false, false, false, false, false] rfl rfl (any_of HT_.out (by kernel_rfl)) (fun _ _ _ h => h) (Or.inl ⟨by rfl, ?_⟩) ?_ ?_
            rotate_left
            ·intro w'
             go_simp
             with_reducible rfl
            rotate_left
            ·simp only [Act.put, List.setIfInBounds_toArray, List.set_cons_zero, List.set_cons_succ, i64_w, i32_w]
             rfl
            refine pure_ (i := 2) (N := some 106) (v := ?_) (a' := ?_) #[true, true, true, false, false, false, false, false, false, false, false, false, false, false, false, false, false, false, false] rfl rfl (any_of HT_.out (by kernel_rfl)) (fun _ _ _ h => h) (Or.inl ⟨by rfl, ?_⟩) ?_ ?_
            rotate_left
            ·intro w'
             go_simp
             with_reducible rfl
            rotate_left
            ·simp only [Act.put, List.setIfInBounds_toArray, List.set_cons_zero, List.set_cons_succ, i64_w, i32_w]
             rfl
            refine pure_ (i := 3) (N := some 107) (v := ?_) (a' := ?_) #[true, true, true, true, false, false, false, false, false, false, false, false, false, false, false, false, false, false, false] rfl rfl (any_of HT_.out (by kernel_rfl)) (fun _ _ _ h => h) (Or.inl ⟨by rfl, ?_⟩) ?_ ?_
            rotate_left
            ·intro w'
             go_simp
             with_reducible rfl
            rotate_left
            ·simp only [Act.put, List.setIfInBounds_toArray, List.set_cons_zero, List.set_cons_succ, i64_w, i32_w]
             rfl
            refine pure_ (i := 4) (N := some 108) (v := undef) (a' := ?_) #[true, true, true, true, true, false, false, false, false, false, false, false, false, false, false, false, false, false, false] rfl rfl (any_of HT_.out (by kernel_rfl)) (fun _ _ _ h => h) (Or.inr ⟨by rfl, rfl⟩) ?_ ?_
            rotate_left
            ·simp only [Act.put, List.setIfInBounds_toArray, List.set_cons_zero, List.set_cons_succ, i64_w, i32_w]
             rfl
            refine pure_ (i := 5) (N := some 109) (v := undef) (a' := ?_) #[true, true, true, true, true, true, false, false, false, false, false, false, false, false, false, false, false, false, false] rfl rfl (any_of HT_.out (by kernel_rfl)) (fun _ _ _ h => h) (Or.inr ⟨by rfl, rfl⟩) ?_ ?_
            rotate_left
            ·simp only [Act.put, List.setIfInBounds_toArray, List.set_cons_zero, List.set_cons_succ, i64_w, i32_w]
             rfl
            refine pure_ (i := 6) (N := some 110) (v := undef) (a' := ?_) #[true, true, true, true, true, true, true, false, false, false, false, false, false, false, false, false, false, false, false] rfl rfl (any_of HT_.out (by kernel_rfl)) (fun _ _ _ h => h) (Or.inr ⟨by rfl, rfl⟩) ?_ ?_
            rotate_left
            ·simp only [Act.put, List.setIfInBounds_toArray, List.set_cons_zero, List.set_cons_succ, i64_w, i32_w]
             rfl
            refine pure_ (i := 7) (N := some 111) (v := undef) (a' := ?_) #[true, true, true, true, true, true, true, true, false, false, false, false, false, false, false, false, false, false, false] rfl rfl (any_of HT_.out (by kernel_rfl)) (fun _ _ _ h => h) (Or.inr ⟨by rfl, rfl⟩) ?_ ?_
            rotate_left
            ·simp only [Act.put, List.setIfInBounds_toArray, List.set_cons_zero, List.set_cons_succ, i64_w, i32_w]
             rfl
            refine pure_ (i := 8) (N := some 112) (v := undef) (a' := ?_) #[true, true, true, true, true, true, true, true, true, false, false, false, false, false, false, false, false, false, false] rfl rfl (any_of HT_.out (by kernel_rfl)) (fun _ _ _ h => h) (Or.inr ⟨by rfl, rfl⟩) ?_ ?_
            rotate_left
            ·simp only [Act.put, List.setIfInBounds_toArray, List.set_cons_zero, List.set_cons_succ, i64_w, i32_w]
             rfl
            refine pure_ (i := 9) (N := some 113) (v := undef) (a' := ?_) #[true, true, true, true, true, true, true, true, true, true, false, false, false, false, false, false, false, false, false] rfl rfl (any_of HT_.out (by kernel_rfl)) (fun _ _ _ h => h) (Or.inr ⟨by rfl, rfl⟩) ?_ ?_
            rotate_left
            ·simp only [Act.put, List.setIfInBounds_toArray, List.set_cons_zero, List.set_cons_succ, i64_w, i32_w]
             rfl
            refine pure_ (i := 10) (N := some 114) (v := undef) (a' := ?_) #[true, true, true, true, true, true, true, true, true, true, true, false, false, false, false, false, false, false, false] rfl rfl (any_of HT_.out (by kernel_rfl)) (fun _ _ _ h => h) (Or.inr ⟨by rfl, rfl⟩) ?_ ?_
            rotate_left
            ·simp only [Act.put, List.setIfInBounds_toArray, List.set_cons_zero, List.set_cons_succ, i64_w, i32_w]
             rfl
            refine pure_ (i := 11) (N := some 115) (v := undef) (a' := ?_) #[true, true, true, true, true, true, true, true, true, true, true, true, false, false, false, false, false, false, false] rfl rfl (any_of HT_.out (by kernel_rfl)) (fun _ _ _ h => h) (Or.inr ⟨by rfl, rfl⟩) ?_ ?_
            rotate_left
            ·simp only [Act.put, List.setIfInBounds_toArray, List.set_cons_zero, List.set_cons_succ, i64_w, i32_w]
             rfl
            refine pure_ (i := 12) (N := some 116) (v := undef) (a' := ?_) #[true, true, true, true, true, true, true, true, true, true, true, true, true, false, false, false, false, false, false] rfl rfl (any_of HT_.out (by kernel_rfl)) (fun _ _ _ h => h) (Or.inr ⟨by rfl, rfl⟩) ?_ ?_
            rotate_left
            ·simp only [Act.put, List.setIfInBounds_toArray, List.set_cons_zero, List.set_cons_succ, i64_w, i32_w]
             rfl
            refine pure_ (i := 13) (N := some 117) (v := undef) (a' := ?_) #[true, true, true, true, true, true, true, true, true, true, true, true, true, true, false, false, false, false, false] rfl rfl (any_of HT_.out (by kernel_rfl)) (fun _ _ _ h => h) (Or.inr ⟨by rfl, rfl⟩) ?_ ?_
            rotate_left
            ·simp only [Act.put, List.setIfInBounds_toArray, List.set_cons_zero, List.set_cons_succ, i64_w, i32_w]
             rfl
            refine pure_ (i := 14) (N := some 118) (v := undef) (a' := ?_) #[true, true, true, true, true, true, true, true, true, true, true, true, true, true, true, false, false, false, false] rfl rfl (any_of HT_.out (by kernel_rfl)) (fun _ _ _ h => h) (Or.inr ⟨by rfl, rfl⟩) ?_ ?_
            rotate_left
            ·simp only [Act.put, List.setIfInBounds_toArray, List.set_cons_zero, List.set_cons_succ, i64_w, i32_w]
             rfl
            refine pure_ (i := 15) (N := some 119) (v := undef) (a' := ?_) #[true, true, true, true, true, true, true, true, true, true, true, true, true, true, true, true, false, false, false] rfl rfl (any_of HT_.out (by kernel_rfl)) (fun _ _ _ h => h) (Or.inr ⟨by rfl, rfl⟩) ?_ ?_
            rotate_left
            ·simp only [Act.put, List.setIfInBounds_toArray, List.set_cons_zero, List.set_cons_succ, i64_w, i32_w]
             rfl
            refine pure_ (i := 16) (N := some 120) (v := undef) (a' := ?_) #[true, true, true, true, true, true, true, true, true, true, true, true, true, true, true, true, true, false, false] rfl rfl (any_of HT_.out (by kernel_rfl)) (fun _ _ _ h => h) (Or.inr ⟨by rfl, rfl⟩) ?_ ?_
            rotate_left
            ·simp only [Act.put, List.setIfInBounds_toArray, List.set_cons_zero, List.set_cons_succ, i64_w, i32_w]
             rfl
            refine pure_ (i := 17) (N := some 121) (v := undef) (a' := ?_) #[true, true, true, true, true, true, true, true, true, true, true, true, true, true, true, true, true, true, false] rfl rfl (any_of HT_.out (by kernel_rfl)) (fun _ _ _ h => h) (Or.inr ⟨by rfl, rfl⟩) ?_ ?_
            rotate_left
            ·simp only [Act.put, List.setIfInBounds_toArray, List.set_cons_zero, List.set_cons_succ, i64_w, i32_w]
             rfl
            refine pure_ (i := 18) (N := some 122) (v := ?_) (a' := ?_) #[true, true, true, true, true, true, true, true, true, true, true, true, true, true, true, true, true, true, true] rfl rfl (any_of HT_.out (by kernel_rfl)) (fun _ _ _ h => h) (Or.inl ⟨by rfl, ?_⟩) ?_ ?_
            rotate_left
            ·intro w'
             go_simp
             with_reducible rfl
            rotate_left
            ·simp only [Act.put, List.setIfInBounds_toArray, List.set_cons_zero, List.set_cons_succ, i64_w, i32_w]
             rfl
            refine done_ (done_of HT_.out (by kernel_rfl)) ?_
            try go_wp2
            go_ret
            exact ⟨by first | rfl | (simp [errW_none, errW_some] <;> rfl) | (simp [*, errW_none, errW_some] <;> rfl), by repeat (first | (with_reducible first | exact HB.out | apply below_alloc | apply pw_below_drewN | apply below_drew1 | refine below_set ?_ GE626.out) | exact HB.out | exact below_tr HBW.out HB.out)⟩

end Go.Proofs.Ythgaihhlbgccoaa.Q
