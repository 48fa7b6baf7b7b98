import Derived.Test.YthgaihhlbgccoaaZQa
import Derived.Test.YthgaihhlbgccoaaZQb
import Derived.Test.YthgaihhlbgccoaaZQc
import Derived.Test.YthgaihhlbgccoaaZQd
import Derived.Test.YthgaihhlbgccoaaZQf
-- Written by a program of this work over the kit's printer; Lean checks it.
namespace Go.Proofs.Ythgaihhlbgccoaa.Q
open Go.RowKit Go.Proofs.YthgaihhlbgccoaaW.PrintWords Go.Proofs.YthgaihhlbgccoaaW.PrintLast Go.Proofs.YthgaihhlbgccoaaW.PrintMore
attribute [local go_sem] max2_int min2_int max_two min_two max_three min_three max_four min_four   -- for this text's walks alone
set_option linter.unusedVariables false
set_option linter.unusedSimpArgs false

/-! ### codewrightlaw11_WordAdds: function 4 -/
mutual
def codewrightlaw11_WordAdds.j0 : Nat → List Int → List Int → List Int → Int → Bool → Int → Int → List Int → Int → Int → List Int → Int → List Int → List Int → Option (Bool)
 | 0, _, _, _, _, _, _, _, _, _, _, _, _, _, _ => none
 | k + 1, x1, x2, x10, x13, x52, x329000, x329001, x329002, x336000, x336001, x336002, x336003, x336004, x336005 => if x52 = true then (some false) else ((word_Sub.f k x336000 x336001 x336002 x336003 x336004 x336005 x1 x2).bind fun bt350 => ((codewrightref11_Sub.f k x329000 x329001 x329002 x1 x2).bind fun bt357 => (if bt350.2.1 = bt357.2 then ((codewrightref11_Same.f k bt350.1 bt357.1).bind fun t361 => (codewrightlaw11_WordAdds.j1 k x1 x2 x10 x13 (!t361) x329000 x329001 x329002 bt350.2.2.1 bt350.2.2.2.1 x336002 bt350.2.2.2.2 x336004 x336005)) else (codewrightlaw11_WordAdds.j1 k x1 x2 x10 x13 true x329000 x329001 x329002 bt350.2.2.1 bt350.2.2.2.1 x336002 bt350.2.2.2.2 x336004 x336005))))
def codewrightlaw11_WordAdds.j1 : Nat → List Int → List Int → List Int → Int → Bool → Int → Int → List Int → Int → Int → List Int → Int → List Int → List Int → Option (Bool)
 | 0, _, _, _, _, _, _, _, _, _, _, _, _, _, _ => none
 | k + 1, x1, x2, x10, x13, x75, x329000, x329001, x329002, x336000, x336001, x336002, x336003, x336004, x336005 => if x75 = true then (some false) else (if x13 = 0 then ((word_Sub.f k x336000 x336001 x336002 x336003 x336004 x336005 x10 x2).bind fun bt362 => (if bt362.2.1 = 0 then ((codewrightref11_Clean.f k x329000 x329001 x329002 x1).bind fun t369 => ((codewrightref11_Same.f k bt362.1 t369).bind fun t372 => (codewrightlaw11_WordAdds.j2 k (!t372) bt362.2.2.1 bt362.2.2.2.1 x336002 bt362.2.2.2.2 x336004 x336005))) else (codewrightlaw11_WordAdds.j2 k true bt362.2.2.1 bt362.2.2.2.1 x336002 bt362.2.2.2.2 x336004 x336005))) else ((word_Add.f k x336000 x336001 x336002 x336003 x336004 x336005 (([1, 0] : List Int)) (([0, 1] : List Int))).bind fun bt396 => (if bt396.2.1 = 0 then ((codewrightref11_Same.f k bt396.1 (([1, 1] : List Int))).bind fun t406 => (some t406)) else (some false))))
def codewrightlaw11_WordAdds.j2 : Nat → Bool → Int → Int → List Int → Int → List Int → List Int → Option (Bool)
 | 0, _, _, _, _, _, _, _ => none
 | k + 1, x94, x336000, x336001, x336002, x336003, x336004, x336005 => if x94 = true then (some false) else ((word_Add.f k x336000 x336001 x336002 x336003 x336004 x336005 (([1, 0] : List Int)) (([0, 1] : List Int))).bind fun bt379 => (if bt379.2.1 = 0 then ((codewrightref11_Same.f k bt379.1 (([1, 1] : List Int))).bind fun t389 => (some t389)) else (some false)))
end
def codewrightlaw11_WordAdds.f (k : Nat) (a0_0 : Int) (a0_1 : Int) (l0_2 : List Int) (l1 : List Int) (l2 : List Int) : Option (Bool) := (codewrightlaw11_open.f k a0_0 a0_1 l0_2).bind fun bt329 => (if bt329.2.2.2.2.2.2.1 = true then (some bt329.2.2.2.2.2.2.2) else ((word_Add.f k bt329.1 bt329.2.1 bt329.2.2.1 bt329.2.2.2.1 bt329.2.2.2.2.1 bt329.2.2.2.2.2.1 l1 l2).bind fun bt338 => ((codewrightref11_Add.f k a0_0 a0_1 l0_2 l1 l2).bind fun bt345 => (if bt338.2.1 = bt345.2 then ((codewrightref11_Same.f k bt338.1 bt345.1).bind fun t349 => (codewrightlaw11_WordAdds.j0 k l1 l2 bt338.1 bt345.2 (!t349) a0_0 a0_1 l0_2 bt338.2.2.1 bt338.2.2.2.1 bt329.2.2.1 bt338.2.2.2.2 bt329.2.2.2.2.1 bt329.2.2.2.2.2.1)) else (codewrightlaw11_WordAdds.j0 k l1 l2 bt338.1 bt345.2 true a0_0 a0_1 l0_2 bt338.2.2.1 bt338.2.2.2.1 bt329.2.2.1 bt338.2.2.2.2 bt329.2.2.2.2.1 bt329.2.2.2.2.2.1)))))
theorem codewrightlaw11_WordAdds.mono_l : ∀ k, (∀ y0 y1 y2 y3 y4 y5 y6 y7 y8 y9 y10 y11 y12 y13, LeO (codewrightlaw11_WordAdds.j0 k y0 y1 y2 y3 y4 y5 y6 y7 y8 y9 y10 y11 y12 y13) (codewrightlaw11_WordAdds.j0 (k + 1) y0 y1 y2 y3 y4 y5 y6 y7 y8 y9 y10 y11 y12 y13)) ∧ (∀ y0 y1 y2 y3 y4 y5 y6 y7 y8 y9 y10 y11 y12 y13, LeO (codewrightlaw11_WordAdds.j1 k y0 y1 y2 y3 y4 y5 y6 y7 y8 y9 y10 y11 y12 y13) (codewrightlaw11_WordAdds.j1 (k + 1) y0 y1 y2 y3 y4 y5 y6 y7 y8 y9 y10 y11 y12 y13)) ∧ (∀ y0 y1 y2 y3 y4 y5 y6, LeO (codewrightlaw11_WordAdds.j2 k y0 y1 y2 y3 y4 y5 y6) (codewrightlaw11_WordAdds.j2 (k + 1) y0 y1 y2 y3 y4 y5 y6))
 | 0 => ⟨fun _ _ _ _ _ _ _ _ _ _ _ _ _ _ r h => by simp [codewrightlaw11_WordAdds.j0] at h, fun _ _ _ _ _ _ _ _ _ _ _ _ _ _ r h => by simp [codewrightlaw11_WordAdds.j1] at h, fun _ _ _ _ _ _ _ r h => by simp [codewrightlaw11_WordAdds.j2] at h⟩
 | k + 1 => by
  obtain ⟨ih0, ih1, ih2⟩ := codewrightlaw11_WordAdds.mono_l k
  refine ⟨?_, ?_, ?_⟩
  ·intro y0 y1 y2 y3 y4 y5 y6 y7 y8 y9 y10 y11 y12 y13
   unfold codewrightlaw11_WordAdds.j0
   repeat' first
   | (with_reducible exact ih0 _ _ _ _ _ _ _ _ _ _ _ _ _ _)
   | (with_reducible exact ih1 _ _ _ _ _ _ _ _ _ _ _ _ _ _)
   | (with_reducible exact ih2 _ _ _ _ _ _ _)
   | (with_reducible exact codewrightlaw11_open.mono _ _ _ _)
   | (with_reducible exact codewrightref11_Add.mono _ _ _ _ _ _)
   | (with_reducible exact codewrightref11_Clean.mono _ _ _ _ _)
   | (with_reducible exact codewrightref11_Same.mono _ _ _)
   | (with_reducible exact codewrightref11_Sub.mono _ _ _ _ _ _)
   | (with_reducible exact word_Add.mono _ _ _ _ _ _ _ _ _)
   | (with_reducible exact word_Sub.mono _ _ _ _ _ _ _ _ _)
   | (with_reducible exact LeO.refl _)
   | (with_reducible exact LeO.none _)
   | (with_reducible refine LeO.ite ?_ ?_)
   | (with_reducible refine LeO.bind ?_ (fun _ => ?_))
   | exact ih0 _ _ _ _ _ _ _ _ _ _ _ _ _ _
   | exact ih1 _ _ _ _ _ _ _ _ _ _ _ _ _ _
   | exact ih2 _ _ _ _ _ _ _
   | exact codewrightlaw11_open.mono _ _ _ _
   | exact codewrightref11_Add.mono _ _ _ _ _ _
   | exact codewrightref11_Clean.mono _ _ _ _ _
   | exact codewrightref11_Same.mono _ _ _
   | exact codewrightref11_Sub.mono _ _ _ _ _ _
   | exact word_Add.mono _ _ _ _ _ _ _ _ _
   | exact word_Sub.mono _ _ _ _ _ _ _ _ _
   | exact LeO.none _
   | refine LeO.ite ?_ ?_
   | refine LeO.bind ?_ (fun _ => ?_)
  ·intro y0 y1 y2 y3 y4 y5 y6 y7 y8 y9 y10 y11 y12 y13
   unfold codewrightlaw11_WordAdds.j1
   repeat' first
   | (with_reducible exact ih0 _ _ _ _ _ _ _ _ _ _ _ _ _ _)
   | (with_reducible exact ih1 _ _ _ _ _ _ _ _ _ _ _ _ _ _)
   | (with_reducible exact ih2 _ _ _ _ _ _ _)
   | (with_reducible exact codewrightlaw11_open.mono _ _ _ _)
   | (with_reducible exact codewrightref11_Add.mono _ _ _ _ _ _)
   | (with_reducible exact codewrightref11_Clean.mono _ _ _ _ _)
   | (with_reducible exact codewrightref11_Same.mono _ _ _)
   | (with_reducible exact codewrightref11_Sub.mono _ _ _ _ _ _)
   | (with_reducible exact word_Add.mono _ _ _ _ _ _ _ _ _)
   | (with_reducible exact word_Sub.mono _ _ _ _ _ _ _ _ _)
   | (with_reducible exact LeO.refl _)
   | (with_reducible exact LeO.none _)
   | (with_reducible refine LeO.ite ?_ ?_)
   | (with_reducible refine LeO.bind ?_ (fun _ => ?_))
   | exact ih0 _ _ _ _ _ _ _ _ _ _ _ _ _ _
   | exact ih1 _ _ _ _ _ _ _ _ _ _ _ _ _ _
   | exact ih2 _ _ _ _ _ _ _
   | exact codewrightlaw11_open.mono _ _ _ _
   | exact codewrightref11_Add.mono _ _ _ _ _ _
   | exact codewrightref11_Clean.mono _ _ _ _ _
   | exact codewrightref11_Same.mono _ _ _
   | exact codewrightref11_Sub.mono _ _ _ _ _ _
   | exact word_Add.mono _ _ _ _ _ _ _ _ _
   | exact word_Sub.mono _ _ _ _ _ _ _ _ _
   | exact LeO.none _
   | refine LeO.ite ?_ ?_
   | refine LeO.bind ?_ (fun _ => ?_)
  ·intro y0 y1 y2 y3 y4 y5 y6
   unfold codewrightlaw11_WordAdds.j2
   repeat' first
   | (with_reducible exact ih0 _ _ _ _ _ _ _ _ _ _ _ _ _ _)
   | (with_reducible exact ih1 _ _ _ _ _ _ _ _ _ _ _ _ _ _)
   | (with_reducible exact ih2 _ _ _ _ _ _ _)
   | (with_reducible exact codewrightlaw11_open.mono _ _ _ _)
   | (with_reducible exact codewrightref11_Add.mono _ _ _ _ _ _)
   | (with_reducible exact codewrightref11_Clean.mono _ _ _ _ _)
   | (with_reducible exact codewrightref11_Same.mono _ _ _)
   | (with_reducible exact codewrightref11_Sub.mono _ _ _ _ _ _)
   | (with_reducible exact word_Add.mono _ _ _ _ _ _ _ _ _)
   | (with_reducible exact word_Sub.mono _ _ _ _ _ _ _ _ _)
   | (with_reducible exact LeO.refl _)
   | (with_reducible exact LeO.none _)
   | (with_reducible refine LeO.ite ?_ ?_)
   | (with_reducible refine LeO.bind ?_ (fun _ => ?_))
   | exact ih0 _ _ _ _ _ _ _ _ _ _ _ _ _ _
   | exact ih1 _ _ _ _ _ _ _ _ _ _ _ _ _ _
   | exact ih2 _ _ _ _ _ _ _
   | exact codewrightlaw11_open.mono _ _ _ _
   | exact codewrightref11_Add.mono _ _ _ _ _ _
   | exact codewrightref11_Clean.mono _ _ _ _ _
   | exact codewrightref11_Same.mono _ _ _
   | exact codewrightref11_Sub.mono _ _ _ _ _ _
   | exact word_Add.mono _ _ _ _ _ _ _ _ _
   | exact word_Sub.mono _ _ _ _ _ _ _ _ _
   | exact LeO.none _
   | refine LeO.ite ?_ ?_
   | refine LeO.bind ?_ (fun _ => ?_)
theorem codewrightlaw11_WordAdds.mono : ∀ a0 a1 a2 a3 a4 k, LeO (codewrightlaw11_WordAdds.f k a0 a1 a2 a3 a4) (codewrightlaw11_WordAdds.f (k + 1) a0 a1 a2 a3 a4) := by
 intro a0 a1 a2 a3 a4 k
 obtain ⟨ih0, ih1, ih2⟩ := codewrightlaw11_WordAdds.mono_l k
 unfold codewrightlaw11_WordAdds.f
 repeat' first
   | (with_reducible exact ih0 _ _ _ _ _ _ _ _ _ _ _ _ _ _)
   | (with_reducible exact ih1 _ _ _ _ _ _ _ _ _ _ _ _ _ _)
   | (with_reducible exact ih2 _ _ _ _ _ _ _)
   | (with_reducible exact codewrightlaw11_open.mono _ _ _ _)
   | (with_reducible exact codewrightref11_Add.mono _ _ _ _ _ _)
   | (with_reducible exact codewrightref11_Clean.mono _ _ _ _ _)
   | (with_reducible exact codewrightref11_Same.mono _ _ _)
   | (with_reducible exact codewrightref11_Sub.mono _ _ _ _ _ _)
   | (with_reducible exact word_Add.mono _ _ _ _ _ _ _ _ _)
   | (with_reducible exact word_Sub.mono _ _ _ _ _ _ _ _ _)
   | (with_reducible exact LeO.refl _)
   | (with_reducible exact LeO.none _)
   | (with_reducible refine LeO.ite ?_ ?_)
   | (with_reducible refine LeO.bind ?_ (fun _ => ?_))
   | exact ih0 _ _ _ _ _ _ _ _ _ _ _ _ _ _
   | exact ih1 _ _ _ _ _ _ _ _ _ _ _ _ _ _
   | exact ih2 _ _ _ _ _ _ _
   | exact codewrightlaw11_open.mono _ _ _ _
   | exact codewrightref11_Add.mono _ _ _ _ _ _
   | exact codewrightref11_Clean.mono _ _ _ _ _
   | exact codewrightref11_Same.mono _ _ _
   | exact codewrightref11_Sub.mono _ _ _ _ _ _
   | exact word_Add.mono _ _ _ _ _ _ _ _ _
   | exact word_Sub.mono _ _ _ _ _ _ _ _ _
   | exact LeO.none _
   | refine LeO.ite ?_ ?_
   | refine LeO.bind ?_ (fun _ => ?_)
set_option maxHeartbeats 8000000 in
set_option maxRecDepth 100000 in
theorem codewrightlaw11_WordAdds.calls (k : Nat) (a0_0 : Int) (a0_1 : Int) (A0_2 : Option Addr) (c0_2 : Nat) (l0_2 : List Int) (A1 : Option Addr) (c1 : Nat) (l1 : List Int) (A2 : Option Addr) (c2 : Nat) (l2 : List Int) (r : Bool) (w : World) (hr0_2 : Kd.C (Kd.int .i64) w A0_2 l0_2.length l0_2) (hc0_2 : l0_2.length ≤ c0_2) (hr1 : Kd.C (Kd.int .i64) w A1 l1.length l1) (hc1 : l1.length ≤ c1) (hr2 : Kd.C (Kd.int .i64) w A2 l2.length l2) (hc2 : l2.length ≤ c2) (h : codewrightlaw11_WordAdds.f k a0_0 a0_1 l0_2 l1 l2 = some r) :
  Calls Try.prog 4 #[.agg #[.int .i64 a0_0, .int .i64 a0_1, .slice A0_2 l0_2.length c0_2], .slice A1 l1.length c1, .slice A2 l2.length c2] w fun e w' => e = .returned (.bool r) ∧ Below w.heap.size w w' := by
 have hu24 := Try.underlying24
 have HR0_2 := Aside0.mk hr0_2
 have HC0_2 := Aside0.mk hc0_2
 clear hr0_2 hc0_2
 have HR1 := Aside0.mk hr1
 have HC1 := Aside0.mk hc1
 clear hr1 hc1
 have HR2 := Aside0.mk hr2
 have HC2 := Aside0.mk hc2
 clear hr2 hc2
 have HB := Aside0.mk (Below.refl w.heap.size w)
 have H : ((codewrightlaw11_open.f k a0_0 a0_1 l0_2).bind fun bt329 => (if bt329.2.2.2.2.2.2.1 = true then (some bt329.2.2.2.2.2.2.2) else ((word_Add.f k bt329.1 bt329.2.1 bt329.2.2.1 bt329.2.2.2.1 bt329.2.2.2.2.1 bt329.2.2.2.2.2.1 l1 l2).bind fun bt338 => ((codewrightref11_Add.f k a0_0 a0_1 l0_2 l1 l2).bind fun bt345 => (if bt338.2.1 = bt345.2 then ((codewrightref11_Same.f k bt338.1 bt345.1).bind fun t349 => (codewrightlaw11_WordAdds.j0 k l1 l2 bt338.1 bt345.2 (!t349) a0_0 a0_1 l0_2 bt338.2.2.1 bt338.2.2.2.1 bt329.2.2.1 bt338.2.2.2.2 bt329.2.2.2.2.1 bt329.2.2.2.2.2.1)) else (codewrightlaw11_WordAdds.j0 k l1 l2 bt338.1 bt345.2 true a0_0 a0_1 l0_2 bt338.2.2.1 bt338.2.2.2.1 bt329.2.2.1 bt338.2.2.2.2 bt329.2.2.2.2.1 bt329.2.2.2.2.2.1)))))) = some r := h
 clear h
 replace H := Option.bind_eq_some_iff.mp H
 obtain ⟨⟨t329, t330, t331, t332, t333, t334, t336, t337⟩, A40, H⟩ := H
 replace H : (if t336 = true then (some t337) else ((word_Add.f k t329 t330 t331 t332 t333 t334 l1 l2).bind fun bt338 => ((codewrightref11_Add.f k a0_0 a0_1 l0_2 l1 l2).bind fun bt345 => (if bt338.2.1 = bt345.2 then ((codewrightref11_Same.f k bt338.1 bt345.1).bind fun t349 => (codewrightlaw11_WordAdds.j0 k l1 l2 bt338.1 bt345.2 (!t349) a0_0 a0_1 l0_2 bt338.2.2.1 bt338.2.2.2.1 t331 bt338.2.2.2.2 t333 t334)) else (codewrightlaw11_WordAdds.j0 k l1 l2 bt338.1 bt345.2 true a0_0 a0_1 l0_2 bt338.2.2.1 bt338.2.2.2.1 t331 bt338.2.2.2.2 t333 t334))))) = some r := H
 have A4 := Aside0.mk A40
 clear A40
 by_cases c5 : t336 = true
 ·subst c5
  exact absurd (codewrightlaw11_open.not_done A4.out) (by decide)
 ·replace c5 := Bool.eq_false_iff.mpr c5
  subst c5
  have H1 : ((word_Add.f k t329 t330 t331 t332 t333 t334 l1 l2).bind fun bt338 => ((codewrightref11_Add.f k a0_0 a0_1 l0_2 l1 l2).bind fun bt345 => (if bt338.2.1 = bt345.2 then ((codewrightref11_Same.f k bt338.1 bt345.1).bind fun t349 => (codewrightlaw11_WordAdds.j0 k l1 l2 bt338.1 bt345.2 (!t349) a0_0 a0_1 l0_2 bt338.2.2.1 bt338.2.2.2.1 t331 bt338.2.2.2.2 t333 t334)) else (codewrightlaw11_WordAdds.j0 k l1 l2 bt338.1 bt345.2 true a0_0 a0_1 l0_2 bt338.2.2.1 bt338.2.2.2.1 t331 bt338.2.2.2.2 t333 t334)))) = some r := by rw [if_neg (show ¬ (false = true) by decide)] at H; exact H
  clear H
  have H := H1
  clear H1
  replace H := Option.bind_eq_some_iff.mp H
  obtain ⟨⟨t338, t341, t342, t343, t344⟩, A90, H⟩ := H
  replace H : ((codewrightref11_Add.f k a0_0 a0_1 l0_2 l1 l2).bind fun bt345 => (if t341 = bt345.2 then ((codewrightref11_Same.f k t338 bt345.1).bind fun t349 => (codewrightlaw11_WordAdds.j0 k l1 l2 t338 bt345.2 (!t349) a0_0 a0_1 l0_2 t342 t343 t331 t344 t333 t334)) else (codewrightlaw11_WordAdds.j0 k l1 l2 t338 bt345.2 true a0_0 a0_1 l0_2 t342 t343 t331 t344 t333 t334))) = some r := H
  have A9 := Aside0.mk A90
  clear A90
  replace H := Option.bind_eq_some_iff.mp H
  obtain ⟨⟨t345, t348⟩, A100, H⟩ := H
  replace H : (if t341 = t348 then ((codewrightref11_Same.f k t338 t345).bind fun t349 => (codewrightlaw11_WordAdds.j0 k l1 l2 t338 t348 (!t349) a0_0 a0_1 l0_2 t342 t343 t331 t344 t333 t334)) else (codewrightlaw11_WordAdds.j0 k l1 l2 t338 t348 true a0_0 a0_1 l0_2 t342 t343 t331 t344 t333 t334)) = some r := H
  have A10 := Aside0.mk A100
  clear A100
  have HC11 := Aside0.mk H
  clear H
  go_enter Try.func4, Try.ntmps4
  go_upto_region 6 with (first | ((with_reducible refine gate_dst (N := 3) rfl ?_); (try (refine gate_guard (by rfl) ?_; dsimp only)); refine box_event ?hg (N := 3) ?hd (cs := #[.int .i64 a0_0, .int .i64 a0_1, .slice A0_2 l0_2.length c0_2]) (t := 24) ?hr ?_; (case hd => rfl); (case hg => rfl); (case hr => first | (go_simp; done) | (go_simp; rfl)); intro gb328 hg w12 hbox hb; have n0_ := Aside0.mk (below_step (by repeat (first | (with_reducible first | exact HB.out | apply below_alloc | apply pw_below_drewN | apply below_drew1) | exact HB.out)) hb); have n1_ := Aside0.mk (hbox); have n2_ := Aside0.mk ((by rw [hg]; exact (below_size (by repeat (first | (with_reducible first | exact HB.out | apply below_alloc | apply pw_below_drewN | apply below_drew1) | exact HB.out))) : w.heap.size ≤ gb328)); have n3_ := Aside0.mk ((by rw [hg]; exact (below_size (by repeat (first | (with_reducible first | exact HB.out | apply below_alloc | apply pw_below_drewN | apply below_drew1) | exact HB.out))) : w.heap.size ≤ gb328)); clear HB; have HB := n0_; have BK328 := n1_; have GW328 := n2_; have GE328 := n3_; clear n0_ n1_ n2_ n3_; clear hb hbox hg; have hcz13_0 : w12.cell? ⟨gb328, 0, none⟩ = some (.int .i64 a0_0) := (blk_cell BK328.out 0).trans rfl; have hcz13_1 : w12.cell? ⟨gb328, 1, none⟩ = some (.int .i64 a0_1) := (blk_cell BK328.out 1).trans rfl; have hcz13_2 : w12.cell? ⟨gb328, 2, none⟩ = some (.slice A0_2 l0_2.length c0_2) := (blk_cell BK328.out 2).trans rfl; have hfz13_0 := blk_frozen BK328.out 0; have hfz13_1 := blk_frozen BK328.out 1; have hfz13_2 := blk_frozen BK328.out 2) | ((with_reducible refine gate_callee (f := 12) rfl ?_); refine goesL_ (some 24) rfl rfl Try.func12 (by kernel_rfl) rfl #[.agg #[.int .i64 a0_0, .int .i64 a0_1, .slice A0_2 l0_2.length c0_2]] rfl (by (try simp only [List.map_toArray, List.map_cons, List.map_nil]); first | done | rfl | (simp only [List.length_drop, List.length_take]; rfl)) ?_; (with_reducible refine (codewrightlaw11_open.calls k a0_0 a0_1 _ _ l0_2 t329 t330 t331 t332 t333 t334 false t337 w _ ?side1 ?side2 ?side3 A4.out).mono ?_); (case side1 => repeat (first | (with_reducible first | exact HB.out | apply below_alloc | apply pw_below_drewN | apply below_drew1 | refine below_set ?_ GE328.out) | exact HB.out)); (case side2 => exact HR0_2.out); (case side3 => exact HC0_2.out); rintro e w14 ⟨⟨_, _⟩, g335, rfl, ub_, hu1_, hi, hb, hb2⟩; refine ⟨_, rfl, ?_⟩; have HBW := Aside0.mk (below_tr (show Below w.heap.size w _ by repeat (first | (with_reducible first | exact HB.out | apply below_alloc | apply pw_below_drewN | apply below_drew1 | refine below_set ?_ GE328.out) | exact HB.out)) hu1_); have HR0_2_ := Aside0.mk (Kd.C_below (Kd.C_below HR0_2.out (show Below w.heap.size w _ by repeat (first | (with_reducible first | exact HB.out | apply below_alloc | apply pw_below_drewN | apply below_drew1 | refine below_set ?_ GE328.out) | exact HB.out))) hu1_); clear HR0_2; have HR0_2 := HR0_2_; clear HR0_2_; have HR1_ := Aside0.mk (Kd.C_below (Kd.C_below HR1.out (show Below w.heap.size w _ by repeat (first | (with_reducible first | exact HB.out | apply below_alloc | apply pw_below_drewN | apply below_drew1 | refine below_set ?_ GE328.out) | exact HB.out))) hu1_); clear HR1; have HR1 := HR1_; clear HR1_; have HR2_ := Aside0.mk (Kd.C_below (Kd.C_below HR2.out (show Below w.heap.size w _ by repeat (first | (with_reducible first | exact HB.out | apply below_alloc | apply pw_below_drewN | apply below_drew1 | refine below_set ?_ GE328.out) | exact HB.out))) hu1_); clear HR2; have HR2 := HR2_; clear HR2_; obtain ⟨w, hw_⟩ : ∃ x, x = ub_ := ⟨_, rfl⟩; subst hw_; have n0_ := Aside0.mk (blk_below (g := gb328) (o := .cells #[.int .i64 a0_0, .int .i64 a0_1, .slice A0_2 l0_2.length c0_2] 24 (0, 0)) (by (with_reducible repeat (first | refine blk_drewN ?_ _ | refine blk_drew ?_ | refine blk_alloc ?_ _)); exact BK328.out) hb2); have n1_ := Aside0.mk (hb); have n2_ := Aside0.mk (hi); have n3_ := Aside0.mk (IsS87.ne_blk hi (blk_below (g := gb328) (o := .cells #[.int .i64 a0_0, .int .i64 a0_1, .slice A0_2 l0_2.length c0_2] 24 (0, 0)) (by (with_reducible repeat (first | refine blk_drewN ?_ _ | refine blk_drew ?_ | refine blk_alloc ?_ _)); exact BK328.out) hb2) (by decide)); have n4_ := Aside0.mk (Ne.symm (IsS87.ne_blk hi (blk_below (g := gb328) (o := .cells #[.int .i64 a0_0, .int .i64 a0_1, .slice A0_2 l0_2.length c0_2] 24 (0, 0)) (by (with_reducible repeat (first | refine blk_drewN ?_ _ | refine blk_drew ?_ | refine blk_alloc ?_ _)); exact BK328.out) hb2) (by decide))); clear BK328; clear HB; have BK328 := n0_; have HB := n1_; have HI335 := n2_; have NB335_328 := n3_; have NB328_335 := n4_; clear n0_ n1_ n2_ n3_ n4_; (try clear hb); (try clear hb2); (try clear hk); (try clear hi)) | ((with_reducible refine gate_callee (f := 19) rfl ?_); refine goesL_ (some 34) rfl rfl Try.func19 (by kernel_rfl) rfl #[.pointer (some ⟨g335, 0, none⟩), .slice A1 l1.length c1, .slice A2 l2.length c2] rfl (by (try simp only [List.map_toArray, List.map_cons, List.map_nil]); first | done | rfl | (simp only [List.length_drop, List.length_take]; rfl)) ?_; (with_reducible refine (word_Add.calls k g335 t329 t330 t331 t332 t333 t334 _ _ l1 _ _ l2 t338 t341 t342 t343 t344 w _ ?side1 ?side2 ?side3 ?side4 ?side5 ?side6 ?side7 ?side8 A9.out).mono ?_); (case side1 => repeat (first | (with_reducible first | exact HI335.out | apply IsS87.alloc | apply IsS87.drewN | apply IsS87.drew | apply IsS87.set_0 | apply IsS87.set_1 | apply IsS87.set_3 | refine IsS87.far ?_ NB335_328.out _) | exact HI335.out)); (case side2 => repeat (first | (with_reducible first | exact HB.out | apply below_alloc | apply pw_below_drewN | apply below_drew1 | refine below_set ?_ (IsS87.ge HI335.out) | refine below_set ?_ GE328.out) | exact HB.out)); (case side3 => repeat (first | exact (Kd.C_below HR1.out HB.out) | (with_reducible refine Kd.C_alloc ?_ _) | (with_reducible refine Kd.C_drewN ?_ _) | (with_reducible refine Kd.C_drew ?_))); (case side4 => exact HC1.out); (case side5 => exact Kd.far_C 0 HR1.out (IsS87.ge HI335.out)); (case side6 => repeat (first | exact (Kd.C_below HR2.out HB.out) | (with_reducible refine Kd.C_alloc ?_ _) | (with_reducible refine Kd.C_drewN ?_ _) | (with_reducible refine Kd.C_drew ?_))); (case side7 => exact HC2.out); (case side8 => exact Kd.far_C 0 HR2.out (IsS87.ge HI335.out)); rintro e w15 ⟨v339, rfl, ho0, hi, hb, hk⟩; refine ⟨_, rfl, ?_⟩; have n0_ := Aside0.mk (KeepBut.blk hk (g' := gb328) (o := .cells #[.int .i64 a0_0, .int .i64 a0_1, .slice A0_2 l0_2.length c0_2] 24 (0, 0)) (by (with_reducible repeat (first | refine blk_drewN ?_ _ | refine blk_drew ?_ | refine blk_alloc ?_ _)); exact BK328.out) NB328_335.out (by simp)); have n1_ := Aside0.mk (Kd.R_lower ho0 (below_size (by repeat (first | (with_reducible first | exact HB.out | apply below_alloc | apply pw_below_drewN | apply below_drew1 | refine below_set ?_ (IsS87.ge HI335.out) | refine below_set ?_ GE328.out) | exact HB.out)))); have n2_ := Aside0.mk (hb); have n3_ := Aside0.mk (hi); clear BK328; clear HB; clear HI335; have BK328 := n0_; have HO340 := n1_; have HB := n2_; have HI335 := n3_; clear n0_ n1_ n2_ n3_; (try clear hb); (try clear hb2); (try clear hk); (try clear hi); (try clear ho0); have hnb16 := NB328_335.out; have hnc16 := NB335_328.out; have hcz17_0 : w15.cell? ⟨gb328, 0, none⟩ = some (.int .i64 a0_0) := (blk_cell BK328.out 0).trans rfl; have hcz17_1 : w15.cell? ⟨gb328, 1, none⟩ = some (.int .i64 a0_1) := (blk_cell BK328.out 1).trans rfl; have hcz17_2 : w15.cell? ⟨gb328, 2, none⟩ = some (.slice A0_2 l0_2.length c0_2) := (blk_cell BK328.out 2).trans rfl; have hfz17_0 := blk_frozen BK328.out 0; have hfz17_1 := blk_frozen BK328.out 1; have hfz17_2 := blk_frozen BK328.out 2) | ((with_reducible refine gate_callee (f := 20) rfl ?_); refine goesL_ (some 41) rfl rfl Try.func20 (by kernel_rfl) rfl #[.agg #[.int .i64 a0_0, .int .i64 a0_1, .slice A0_2 l0_2.length c0_2], .slice A1 l1.length c1, .slice A2 l2.length c2] rfl (by (try simp only [List.map_toArray, List.map_cons, List.map_nil]); first | done | rfl | (simp only [List.length_drop, List.length_take]; rfl)) ?_; (with_reducible refine (codewrightref11_Add.calls k a0_0 a0_1 _ _ l0_2 _ _ l1 _ _ l2 t345 t348 _ ?side1 ?side2 ?side3 ?side4 ?side5 ?side6 A10.out).mono ?_); (case side1 => repeat (first | exact (Kd.C_below HR0_2.out HB.out) | (with_reducible refine Kd.C_alloc ?_ _) | (with_reducible refine Kd.C_drewN ?_ _) | (with_reducible refine Kd.C_drew ?_))); (case side2 => exact HC0_2.out); (case side3 => repeat (first | exact (Kd.C_below HR1.out HB.out) | (with_reducible refine Kd.C_alloc ?_ _) | (with_reducible refine Kd.C_drewN ?_ _) | (with_reducible refine Kd.C_drew ?_))); (case side4 => exact HC1.out); (case side5 => repeat (first | exact (Kd.C_below HR2.out HB.out) | (with_reducible refine Kd.C_alloc ?_ _) | (with_reducible refine Kd.C_drewN ?_ _) | (with_reducible refine Kd.C_drew ?_))); (case side6 => exact HC2.out); rintro e w18 ⟨v346, rfl, ho0, hb⟩; refine ⟨_, rfl, ?_⟩; have n0_ := Aside0.mk (Kd.R_elder' (by (with_reducible repeat (first | apply Kd.R_alloc | apply Kd.R_drewN | apply Kd.R_drew)); exact HO340.out) (Kd.R_base ho0) hb); have n1_ := Aside0.mk (Kd.R_lower (Kd.R_new' ho0 (Kd.R_lt (by (with_reducible repeat (first | apply Kd.R_alloc | apply Kd.R_drewN | apply Kd.R_drew)); exact HO340.out))) (below_size (by repeat (first | (with_reducible first | exact HB.out | apply below_alloc | apply pw_below_drewN | apply below_drew1 | refine below_set ?_ (IsS87.ge HI335.out) | refine below_set ?_ GE328.out) | exact HB.out)))); have n2_ := Aside0.mk (blk_below (g := gb328) (o := .cells #[.int .i64 a0_0, .int .i64 a0_1, .slice A0_2 l0_2.length c0_2] 24 (0, 0)) (by (with_reducible repeat (first | refine blk_drewN ?_ _ | refine blk_drew ?_ | refine blk_alloc ?_ _)); exact BK328.out) hb); have n3_ := Aside0.mk (IsS87.below (by repeat (first | (with_reducible first | exact HI335.out | apply IsS87.alloc | apply IsS87.drewN | apply IsS87.drew | apply IsS87.set_0 | apply IsS87.set_1 | apply IsS87.set_3 | refine IsS87.far ?_ NB335_328.out _) | exact HI335.out)) hb); have n4_ := Aside0.mk (below_step (by repeat (first | (with_reducible first | exact HB.out | apply below_alloc | apply pw_below_drewN | apply below_drew1 | refine below_set ?_ (IsS87.ge HI335.out) | refine below_set ?_ GE328.out) | exact HB.out)) hb); clear HO340; clear BK328; clear HI335; clear HB; have HO340 := n0_; have HO347 := n1_; have BK328 := n2_; have HI335 := n3_; have HB := n4_; clear n0_ n1_ n2_ n3_ n4_; (try clear hb); (try clear hb2); (try clear hk); (try clear hi); (try clear ho0)))
  (try simp only [Act.put, List.setIfInBounds_toArray, List.set_cons_zero, List.set_cons_succ])
  go_cut [52] (fun v52 wc => ∃ (kq : Nat) (x52_10 : Bool), v52 = .bool x52_10 ∧ Aside0 (codewrightlaw11_WordAdds.j0 kq l1 l2 t338 t348 x52_10 a0_0 a0_1 l0_2 t342 t343 t331 t344 t333 t334 = some r) ∧ Aside0 (kq ≤ k) ∧ Aside0 (Kd.R (Kd.int .i64) 3 wc w.heap.size (fun _ => True) v339 t338) ∧ Aside0 (wc.heap[gb328]? = some (.cells #[.int .i64 a0_0, .int .i64 a0_1, (.slice A0_2 l0_2.length c0_2)] 24 (0, 0))) ∧ Aside0 (IsS87 w wc g335 t342 t343 t331 t344 t333 t334) ∧ Aside0 (Below w.heap.size w wc))
  case first =>
   have H := HC11.out
   clear HC11
   by_cases c19 : t341 = t348
   ·rw [if_pos c19] at H
    have c19b0 : (t341 == t348) = true := beq_iff_eq.mpr c19
    have c19b1 : (t341 != t348) = false := bne_eq_false_iff_eq.mpr c19
    clear c19
    (first | rw [c19b0] | (simp only [i64_w, i32_w]; rw [c19b0]) | skip)
    replace H := Option.bind_eq_some_iff.mp H
    obtain ⟨t349, A200, H⟩ := H
    replace H : (codewrightlaw11_WordAdds.j0 k l1 l2 t338 t348 (!t349) a0_0 a0_1 l0_2 t342 t343 t331 t344 t333 t334) = some r := H
    have A20 := Aside0.mk A200
    clear A200
    have H' := Aside0.mk H
    clear H
    obtain ⟨Ao21, co21, eo21⟩ := Kd.R_slice HO340.out
    subst eo21
    obtain ⟨Ao22, co22, eo22⟩ := Kd.R_slice HO347.out
    subst eo22
    go_wp2_with (first | (go_at_call 13; (with_reducible refine (codewrightref11_Same.calls k _ _ t338 _ _ t345 t349 _ ?side1 ?side2 ?side3 ?side4 A20.out).mono ?_); (case side1 => repeat (first | exact (Kd.R_reads' HO340.out).2.2 | (with_reducible refine Kd.C_alloc ?_ _) | (with_reducible refine Kd.C_drewN ?_ _) | (with_reducible refine Kd.C_drew ?_))); (case side2 => exact (Kd.R_reads' HO340.out).2.1); (case side3 => repeat (first | exact (Kd.R_reads' HO347.out).2.2 | (with_reducible refine Kd.C_alloc ?_ _) | (with_reducible refine Kd.C_drewN ?_ _) | (with_reducible refine Kd.C_drew ?_))); (case side4 => exact (Kd.R_reads' HO347.out).2.1); rintro e w' ⟨rfl, ⟨nd, rfl⟩⟩))
    go_meet
    case rel => exact ⟨_, (!t349), (by first | rfl | (simp; done) | (simp [*]; done)), H', ⟨by first | omega | exact Nat.le_refl _⟩, ⟨by (with_reducible repeat (first | apply Kd.R_alloc | apply Kd.R_drewN | apply Kd.R_drew)); exact Kd.R_mono HO340.out (fun _ hk => trivial)⟩, ⟨by (with_reducible repeat (first | refine blk_drewN ?_ _ | refine blk_drew ?_ | refine blk_alloc ?_ _)); exact BK328.out⟩, ⟨by repeat (first | (with_reducible first | exact HI335.out | apply IsS87.alloc | apply IsS87.drewN | apply IsS87.drew | apply IsS87.set_0 | apply IsS87.set_1 | apply IsS87.set_3 | refine IsS87.far ?_ NB335_328.out _) | exact HI335.out)⟩, ⟨by repeat (first | (with_reducible first | exact HB.out | apply below_alloc | apply pw_below_drewN | apply below_drew1 | refine below_set ?_ (IsS87.ge HI335.out) | refine below_set ?_ GE328.out) | exact HB.out)⟩⟩
   ·rw [if_neg c19] at H
    have c19b0 : (t341 == t348) = false := beq_eq_false_iff_ne.mpr c19
    have c19b1 : (t341 != t348) = true := bne_iff_ne.mpr c19
    (first | rw [c19b0] | (simp only [i64_w, i32_w]; rw [c19b0]) | skip)
    have H' := Aside0.mk H
    clear H
    go_wp2
    go_meet
    case rel => exact ⟨_, (true), (by first | rfl | (simp; done) | (simp [*]; done)), H', ⟨by first | omega | exact Nat.le_refl _⟩, ⟨by (with_reducible repeat (first | apply Kd.R_alloc | apply Kd.R_drewN | apply Kd.R_drew)); exact Kd.R_mono HO340.out (fun _ hk => trivial)⟩, ⟨by (with_reducible repeat (first | refine blk_drewN ?_ _ | refine blk_drew ?_ | refine blk_alloc ?_ _)); exact BK328.out⟩, ⟨by repeat (first | (with_reducible first | exact HI335.out | apply IsS87.alloc | apply IsS87.drewN | apply IsS87.drew | apply IsS87.set_0 | apply IsS87.set_1 | apply IsS87.set_3 | refine IsS87.far ?_ NB335_328.out _) | exact HI335.out)⟩, ⟨by repeat (first | (with_reducible first | exact HB.out | apply below_alloc | apply pw_below_drewN | apply below_drew1 | refine below_set ?_ (IsS87.ge HI335.out) | refine below_set ?_ GE328.out) | exact HB.out)⟩⟩
  case rest =>
   clear HC11
   try clear c1
   try clear c2
   try clear p2
   try clear c4
   try clear c5
   try clear c12
   try clear c16
   try clear c19
   try clear c19b0
   try clear c19b1
   try clear c20
   try clear hcz13_0
   try clear hcz13_1
   try clear hcz13_2
   try clear hcz17_0
   try clear hcz17_1
   try clear hcz17_2
   try clear hcz7_0
   try clear hcz7_1
   try clear hcz7_2
   try clear hfz13_0
   try clear hfz13_1
   try clear hfz13_2
   try clear hfz17_0
   try clear hfz17_1
   try clear hfz17_2
   try clear hfz7_0
   try clear hfz7_1
   try clear hfz7_2
   obtain ⟨kq, x52_10, rfl, HA, HJ10, HO_10, BK328, HI335, HB⟩ := hcut
   cases kq with
   | zero => exact absurd HA.out (by simp [codewrightlaw11_WordAdds.j0])
   | succ kj10 =>
    have H := HA.out
    clear HA
    simp only [codewrightlaw11_WordAdds.j0] at H
    by_cases c23 : x52_10 = true
    ·subst c23
     have H1 : (some false) = some r := by rw [if_pos rfl] at H; exact H
     clear H
     have H := H1
     clear H1
     obtain rfl := Option.some.inj H
     go_wp2
     go_ret
     exact ⟨by first | rfl | (simp [errW_none, errW_some] <;> rfl) | (simp [*, errW_none, errW_some] <;> rfl), by repeat (first | (with_reducible first | exact HB.out | apply below_alloc | apply pw_below_drewN | apply below_drew1 | refine below_set ?_ (IsS87.ge HI335.out) | refine below_set ?_ GE328.out) | exact HB.out | exact below_tr HBW.out HB.out)⟩
    ·replace c23 := Bool.eq_false_iff.mpr c23
     subst c23
     have H1 : ((word_Sub.f kj10 t342 t343 t331 t344 t333 t334 l1 l2).bind fun bt350 => ((codewrightref11_Sub.f kj10 a0_0 a0_1 l0_2 l1 l2).bind fun bt357 => (if bt350.2.1 = bt357.2 then ((codewrightref11_Same.f kj10 bt350.1 bt357.1).bind fun t361 => (codewrightlaw11_WordAdds.j1 kj10 l1 l2 t338 t348 (!t361) a0_0 a0_1 l0_2 bt350.2.2.1 bt350.2.2.2.1 t331 bt350.2.2.2.2 t333 t334)) else (codewrightlaw11_WordAdds.j1 kj10 l1 l2 t338 t348 true a0_0 a0_1 l0_2 bt350.2.2.1 bt350.2.2.2.1 t331 bt350.2.2.2.2 t333 t334)))) = some r := by rw [if_neg (show ¬ (false = true) by decide)] at H; exact H
     clear H
     have H := H1
     clear H1
     replace H := Option.bind_eq_some_iff.mp H
     obtain ⟨⟨t350, t353, t354, t355, t356⟩, A240, H⟩ := H
     replace H : ((codewrightref11_Sub.f kj10 a0_0 a0_1 l0_2 l1 l2).bind fun bt357 => (if t353 = bt357.2 then ((codewrightref11_Same.f kj10 t350 bt357.1).bind fun t361 => (codewrightlaw11_WordAdds.j1 kj10 l1 l2 t338 t348 (!t361) a0_0 a0_1 l0_2 t354 t355 t331 t356 t333 t334)) else (codewrightlaw11_WordAdds.j1 kj10 l1 l2 t338 t348 true a0_0 a0_1 l0_2 t354 t355 t331 t356 t333 t334))) = some r := H
     have A24 := Aside0.mk A240
     clear A240
     replace H := Option.bind_eq_some_iff.mp H
     obtain ⟨⟨t357, t360⟩, A250, H⟩ := H
     replace H : (if t353 = t360 then ((codewrightref11_Same.f kj10 t350 t357).bind fun t361 => (codewrightlaw11_WordAdds.j1 kj10 l1 l2 t338 t348 (!t361) a0_0 a0_1 l0_2 t354 t355 t331 t356 t333 t334)) else (codewrightlaw11_WordAdds.j1 kj10 l1 l2 t338 t348 true a0_0 a0_1 l0_2 t354 t355 t331 t356 t333 t334)) = some r := H
     have A25 := Aside0.mk A250
     clear A250
     have HC26 := Aside0.mk H
     clear H
     go_upto_region 10 with (first | ((with_reducible refine gate_callee (f := 21) rfl ?_); refine goesL_ (some 57) rfl rfl Try.func21 (by kernel_rfl) rfl #[.pointer (some ⟨g335, 0, none⟩), .slice A1 l1.length c1, .slice A2 l2.length c2] rfl (by (try simp only [List.map_toArray, List.map_cons, List.map_nil]); first | done | rfl | (simp only [List.length_drop, List.length_take]; rfl)) ?_; (with_reducible refine (word_Sub.calls kj10 g335 t342 t343 t331 t344 t333 t334 _ _ l1 _ _ l2 t350 t353 t354 t355 t356 w _ ?side1 ?side2 ?side3 ?side4 ?side5 ?side6 ?side7 ?side8 A24.out).mono ?_); (case side1 => repeat (first | (with_reducible first | exact HI335.out | apply IsS87.alloc | apply IsS87.drewN | apply IsS87.drew | apply IsS87.set_0 | apply IsS87.set_1 | apply IsS87.set_3 | refine IsS87.far ?_ NB335_328.out _) | exact HI335.out)); (case side2 => repeat (first | (with_reducible first | exact HB.out | apply below_alloc | apply pw_below_drewN | apply below_drew1 | refine below_set ?_ (IsS87.ge HI335.out) | refine below_set ?_ GE328.out) | exact HB.out)); (case side3 => repeat (first | exact (Kd.C_below HR1.out HB.out) | (with_reducible refine Kd.C_alloc ?_ _) | (with_reducible refine Kd.C_drewN ?_ _) | (with_reducible refine Kd.C_drew ?_))); (case side4 => exact HC1.out); (case side5 => exact Kd.far_C 0 HR1.out (IsS87.ge HI335.out)); (case side6 => repeat (first | exact (Kd.C_below HR2.out HB.out) | (with_reducible refine Kd.C_alloc ?_ _) | (with_reducible refine Kd.C_drewN ?_ _) | (with_reducible refine Kd.C_drew ?_))); (case side7 => exact HC2.out); (case side8 => exact Kd.far_C 0 HR2.out (IsS87.ge HI335.out)); rintro e w27 ⟨v351, rfl, ho0, hi, hb, hk⟩; refine ⟨_, rfl, ?_⟩; have n0_ := Aside0.mk (Kd.R_mono (Kd.R_told (Kd.R_oldK (IsS87.apart (show IsS87 w _ g335 t342 t343 t331 t344 t333 t334 from by repeat (first | (with_reducible first | exact HI335.out | apply IsS87.alloc | apply IsS87.drewN | apply IsS87.drew | apply IsS87.set_0 | apply IsS87.set_1 | apply IsS87.set_3 | refine IsS87.far ?_ NB335_328.out _) | exact HI335.out)) (by (with_reducible repeat (first | apply Kd.R_alloc | apply Kd.R_drewN | apply Kd.R_drew)); exact HO_10.out) (by decide)) hk) (Kd.R_base ho0)) (fun _ h_ => h_.1)); have n1_ := Aside0.mk (KeepBut.blk hk (g' := gb328) (o := .cells #[.int .i64 a0_0, .int .i64 a0_1, .slice A0_2 l0_2.length c0_2] 24 (0, 0)) (by (with_reducible repeat (first | refine blk_drewN ?_ _ | refine blk_drew ?_ | refine blk_alloc ?_ _)); exact BK328.out) NB328_335.out (by simp)); have n2_ := Aside0.mk (Kd.R_lower (Kd.R_new' ho0 (Kd.R_lt (by (with_reducible repeat (first | apply Kd.R_alloc | apply Kd.R_drewN | apply Kd.R_drew)); exact HO_10.out))) (below_size (by repeat (first | (with_reducible first | exact HB.out | apply below_alloc | apply pw_below_drewN | apply below_drew1 | refine below_set ?_ (IsS87.ge HI335.out) | refine below_set ?_ GE328.out) | exact HB.out)))); have n3_ := Aside0.mk (hb); have n4_ := Aside0.mk (hi); clear HO_10; clear BK328; clear HB; clear HI335; have HO_10 := n0_; have BK328 := n1_; have HO352 := n2_; have HB := n3_; have HI335 := n4_; clear n0_ n1_ n2_ n3_ n4_; (try clear hb); (try clear hb2); (try clear hk); (try clear hi); (try clear ho0); have hnb28 := NB328_335.out; have hnc28 := NB335_328.out; have hcz29_0 : w27.cell? ⟨gb328, 0, none⟩ = some (.int .i64 a0_0) := (blk_cell BK328.out 0).trans rfl; have hcz29_1 : w27.cell? ⟨gb328, 1, none⟩ = some (.int .i64 a0_1) := (blk_cell BK328.out 1).trans rfl; have hcz29_2 : w27.cell? ⟨gb328, 2, none⟩ = some (.slice A0_2 l0_2.length c0_2) := (blk_cell BK328.out 2).trans rfl; have hfz29_0 := blk_frozen BK328.out 0; have hfz29_1 := blk_frozen BK328.out 1; have hfz29_2 := blk_frozen BK328.out 2) | ((with_reducible refine gate_callee (f := 22) rfl ?_); refine goesL_ (some 64) rfl rfl Try.func22 (by kernel_rfl) rfl #[.agg #[.int .i64 a0_0, .int .i64 a0_1, .slice A0_2 l0_2.length c0_2], .slice A1 l1.length c1, .slice A2 l2.length c2] rfl (by (try simp only [List.map_toArray, List.map_cons, List.map_nil]); first | done | rfl | (simp only [List.length_drop, List.length_take]; rfl)) ?_; (with_reducible refine (codewrightref11_Sub.calls kj10 a0_0 a0_1 _ _ l0_2 _ _ l1 _ _ l2 t357 t360 _ ?side1 ?side2 ?side3 ?side4 ?side5 ?side6 A25.out).mono ?_); (case side1 => repeat (first | exact (Kd.C_below HR0_2.out HB.out) | (with_reducible refine Kd.C_alloc ?_ _) | (with_reducible refine Kd.C_drewN ?_ _) | (with_reducible refine Kd.C_drew ?_))); (case side2 => exact HC0_2.out); (case side3 => repeat (first | exact (Kd.C_below HR1.out HB.out) | (with_reducible refine Kd.C_alloc ?_ _) | (with_reducible refine Kd.C_drewN ?_ _) | (with_reducible refine Kd.C_drew ?_))); (case side4 => exact HC1.out); (case side5 => repeat (first | exact (Kd.C_below HR2.out HB.out) | (with_reducible refine Kd.C_alloc ?_ _) | (with_reducible refine Kd.C_drewN ?_ _) | (with_reducible refine Kd.C_drew ?_))); (case side6 => exact HC2.out); rintro e w30 ⟨v358, rfl, ho0, hb⟩; refine ⟨_, rfl, ?_⟩; have n0_ := Aside0.mk (Kd.R_elder' (by (with_reducible repeat (first | apply Kd.R_alloc | apply Kd.R_drewN | apply Kd.R_drew)); exact HO_10.out) (Kd.R_base ho0) hb); have n1_ := Aside0.mk (Kd.R_elder' (by (with_reducible repeat (first | apply Kd.R_alloc | apply Kd.R_drewN | apply Kd.R_drew)); exact HO352.out) (Kd.R_base ho0) hb); have n2_ := Aside0.mk (Kd.R_lower (Kd.R_new' (Kd.R_new' ho0 (Kd.R_lt (by (with_reducible repeat (first | apply Kd.R_alloc | apply Kd.R_drewN | apply Kd.R_drew)); exact HO_10.out))) (Kd.R_lt (by (with_reducible repeat (first | apply Kd.R_alloc | apply Kd.R_drewN | apply Kd.R_drew)); exact HO352.out))) (below_size (by repeat (first | (with_reducible first | exact HB.out | apply below_alloc | apply pw_below_drewN | apply below_drew1 | refine below_set ?_ (IsS87.ge HI335.out) | refine below_set ?_ GE328.out) | exact HB.out)))); have n3_ := Aside0.mk (blk_below (g := gb328) (o := .cells #[.int .i64 a0_0, .int .i64 a0_1, .slice A0_2 l0_2.length c0_2] 24 (0, 0)) (by (with_reducible repeat (first | refine blk_drewN ?_ _ | refine blk_drew ?_ | refine blk_alloc ?_ _)); exact BK328.out) hb); have n4_ := Aside0.mk (IsS87.below (by repeat (first | (with_reducible first | exact HI335.out | apply IsS87.alloc | apply IsS87.drewN | apply IsS87.drew | apply IsS87.set_0 | apply IsS87.set_1 | apply IsS87.set_3 | refine IsS87.far ?_ NB335_328.out _) | exact HI335.out)) hb); have n5_ := Aside0.mk (below_step (by repeat (first | (with_reducible first | exact HB.out | apply below_alloc | apply pw_below_drewN | apply below_drew1 | refine below_set ?_ (IsS87.ge HI335.out) | refine below_set ?_ GE328.out) | exact HB.out)) hb); clear HO_10; clear HO352; clear BK328; clear HI335; clear HB; have HO_10 := n0_; have HO352 := n1_; have HO359 := n2_; have BK328 := n3_; have HI335 := n4_; have HB := n5_; clear n0_ n1_ n2_ n3_ n4_ n5_; (try clear hb); (try clear hb2); (try clear hk); (try clear hi); (try clear ho0)))
     (try simp only [Act.put, List.setIfInBounds_toArray, List.set_cons_zero, List.set_cons_succ])
     go_cut [75] (fun v75 wc => ∃ (kq : Nat) (x75_25 : Bool), v75 = .bool x75_25 ∧ Aside0 (codewrightlaw11_WordAdds.j1 kq l1 l2 t338 t348 x75_25 a0_0 a0_1 l0_2 t354 t355 t331 t356 t333 t334 = some r) ∧ Aside0 (kq ≤ kj10) ∧ Aside0 (Kd.R (Kd.int .i64) 3 wc w.heap.size (fun _ => True) v339 t338) ∧ Aside0 (wc.heap[gb328]? = some (.cells #[.int .i64 a0_0, .int .i64 a0_1, (.slice A0_2 l0_2.length c0_2)] 24 (0, 0))) ∧ Aside0 (IsS87 w wc g335 t354 t355 t331 t356 t333 t334) ∧ Aside0 (Below w.heap.size w wc))
     case first =>
      have H := HC26.out
      clear HC26
      by_cases c31 : t353 = t360
      ·rw [if_pos c31] at H
       have c31b0 : (t353 == t360) = true := beq_iff_eq.mpr c31
       have c31b1 : (t353 != t360) = false := bne_eq_false_iff_eq.mpr c31
       clear c31
       (first | rw [c31b0] | (simp only [i64_w, i32_w]; rw [c31b0]) | skip)
       replace H := Option.bind_eq_some_iff.mp H
       obtain ⟨t361, A320, H⟩ := H
       replace H : (codewrightlaw11_WordAdds.j1 kj10 l1 l2 t338 t348 (!t361) a0_0 a0_1 l0_2 t354 t355 t331 t356 t333 t334) = some r := H
       have A32 := Aside0.mk A320
       clear A320
       have H' := Aside0.mk H
       clear H
       obtain ⟨Ao33, co33, eo33⟩ := Kd.R_slice HO352.out
       subst eo33
       obtain ⟨Ao34, co34, eo34⟩ := Kd.R_slice HO359.out
       subst eo34
       go_wp2_with (first | (go_at_call 13; (with_reducible refine (codewrightref11_Same.calls kj10 _ _ t350 _ _ t357 t361 _ ?side1 ?side2 ?side3 ?side4 A32.out).mono ?_); (case side1 => repeat (first | exact (Kd.R_reads' HO352.out).2.2 | (with_reducible refine Kd.C_alloc ?_ _) | (with_reducible refine Kd.C_drewN ?_ _) | (with_reducible refine Kd.C_drew ?_))); (case side2 => exact (Kd.R_reads' HO352.out).2.1); (case side3 => repeat (first | exact (Kd.R_reads' HO359.out).2.2 | (with_reducible refine Kd.C_alloc ?_ _) | (with_reducible refine Kd.C_drewN ?_ _) | (with_reducible refine Kd.C_drew ?_))); (case side4 => exact (Kd.R_reads' HO359.out).2.1); rintro e w' ⟨rfl, ⟨nd, rfl⟩⟩))
       go_meet
       case rel => exact ⟨_, (!t361), (by first | rfl | (simp; done) | (simp [*]; done)), H', ⟨by have := HJ10.out; first | omega | exact Nat.le_refl _⟩, ⟨by (with_reducible repeat (first | apply Kd.R_alloc | apply Kd.R_drewN | apply Kd.R_drew)); exact Kd.R_mono HO_10.out (fun _ hk => trivial)⟩, ⟨by (with_reducible repeat (first | refine blk_drewN ?_ _ | refine blk_drew ?_ | refine blk_alloc ?_ _)); exact BK328.out⟩, ⟨by repeat (first | (with_reducible first | exact HI335.out | apply IsS87.alloc | apply IsS87.drewN | apply IsS87.drew | apply IsS87.set_0 | apply IsS87.set_1 | apply IsS87.set_3 | refine IsS87.far ?_ NB335_328.out _) | exact HI335.out)⟩, ⟨by repeat (first | (with_reducible first | exact HB.out | apply below_alloc | apply pw_below_drewN | apply below_drew1 | refine below_set ?_ (IsS87.ge HI335.out) | refine below_set ?_ GE328.out) | exact HB.out)⟩⟩
      ·rw [if_neg c31] at H
       have c31b0 : (t353 == t360) = false := beq_eq_false_iff_ne.mpr c31
       have c31b1 : (t353 != t360) = true := bne_iff_ne.mpr c31
       (first | rw [c31b0] | (simp only [i64_w, i32_w]; rw [c31b0]) | skip)
       have H' := Aside0.mk H
       clear H
       go_wp2
       go_meet
       case rel => exact ⟨_, (true), (by first | rfl | (simp; done) | (simp [*]; done)), H', ⟨by have := HJ10.out; first | omega | exact Nat.le_refl _⟩, ⟨by (with_reducible repeat (first | apply Kd.R_alloc | apply Kd.R_drewN | apply Kd.R_drew)); exact Kd.R_mono HO_10.out (fun _ hk => trivial)⟩, ⟨by (with_reducible repeat (first | refine blk_drewN ?_ _ | refine blk_drew ?_ | refine blk_alloc ?_ _)); exact BK328.out⟩, ⟨by repeat (first | (with_reducible first | exact HI335.out | apply IsS87.alloc | apply IsS87.drewN | apply IsS87.drew | apply IsS87.set_0 | apply IsS87.set_1 | apply IsS87.set_3 | refine IsS87.far ?_ NB335_328.out _) | exact HI335.out)⟩, ⟨by repeat (first | (with_reducible first | exact HB.out | apply below_alloc | apply pw_below_drewN | apply below_drew1 | refine below_set ?_ (IsS87.ge HI335.out) | refine below_set ?_ GE328.out) | exact HB.out)⟩⟩
     case rest =>
      clear HC26
      try clear c1
      try clear c2
      try clear p2
      try clear c3
      try clear c4
      try clear c5
      try clear c12
      try clear c16
      try clear c19
      try clear c19b0
      try clear c19b1
      try clear c20
      try clear c21
      try clear c22
      try clear c23
      try clear c28
      try clear c31
      try clear c31b0
      try clear c31b1
      try clear hcz13_0
      try clear hcz13_1
      try clear hcz13_2
      try clear hcz17_0
      try clear hcz17_1
      try clear hcz17_2
      try clear hcz29_0
      try clear hcz29_1
      try clear hcz29_2
      try clear hcz7_0
      try clear hcz7_1
      try clear hcz7_2
      try clear hfz13_0
      try clear hfz13_1
      try clear hfz13_2
      try clear hfz17_0
      try clear hfz17_1
      try clear hfz17_2
      try clear hfz29_0
      try clear hfz29_1
      try clear hfz29_2
      try clear hfz7_0
      try clear hfz7_1
      try clear hfz7_2
      try clear p2
      obtain ⟨kq, x75_25, rfl, HA, HJ25, HO_10, BK328, HI335, HB⟩ := hcut
      cases kq with
      | zero => exact absurd HA.out (by simp [codewrightlaw11_WordAdds.j1])
      | succ kj25 =>
       have H := HA.out
       clear HA
       simp only [codewrightlaw11_WordAdds.j1] at H
       by_cases c35 : x75_25 = true
       ·subst c35
        have H1 : (some false) = some r := by rw [if_pos rfl] at H; exact H
        clear H
        have H := H1
        clear H1
        obtain rfl := Option.some.inj H
        go_wp2
        go_ret
        exact ⟨by first | rfl | (simp [errW_none, errW_some] <;> rfl) | (simp [*, errW_none, errW_some] <;> rfl), by repeat (first | (with_reducible first | exact HB.out | apply below_alloc | apply pw_below_drewN | apply below_drew1 | refine below_set ?_ (IsS87.ge HI335.out) | refine below_set ?_ GE328.out) | exact HB.out | exact below_tr HBW.out HB.out)⟩
       ·replace c35 := Bool.eq_false_iff.mpr c35
        subst c35
        have H1 : (if t348 = 0 then ((word_Sub.f kj25 t354 t355 t331 t356 t333 t334 t338 l2).bind fun bt362 => (if bt362.2.1 = 0 then ((codewrightref11_Clean.f kj25 a0_0 a0_1 l0_2 l1).bind fun t369 => ((codewrightref11_Same.f kj25 bt362.1 t369).bind fun t372 => (codewrightlaw11_WordAdds.j2 kj25 (!t372) bt362.2.2.1 bt362.2.2.2.1 t331 bt362.2.2.2.2 t333 t334))) else (codewrightlaw11_WordAdds.j2 kj25 true bt362.2.2.1 bt362.2.2.2.1 t331 bt362.2.2.2.2 t333 t334))) else ((word_Add.f kj25 t354 t355 t331 t356 t333 t334 (([1, 0] : List Int)) (([0, 1] : List Int))).bind fun bt396 => (if bt396.2.1 = 0 then ((codewrightref11_Same.f kj25 bt396.1 (([1, 1] : List Int))).bind fun t406 => (some t406)) else (some false)))) = some r := by rw [if_neg (show ¬ (false = true) by decide)] at H; exact H
        clear H
        have H := H1
        clear H1
        by_cases c36 : t348 = 0
        ·rw [if_pos c36] at H
         have c36b0 : (t348 == 0) = true := beq_iff_eq.mpr c36
         have c36b1 : (t348 != 0) = false := bne_eq_false_iff_eq.mpr c36
         clear c36
         replace H := Option.bind_eq_some_iff.mp H
         obtain ⟨⟨t362, t365, t366, t367, t368⟩, A370, H⟩ := H
         replace H : (if t365 = 0 then ((codewrightref11_Clean.f kj25 a0_0 a0_1 l0_2 l1).bind fun t369 => ((codewrightref11_Same.f kj25 t362 t369).bind fun t372 => (codewrightlaw11_WordAdds.j2 kj25 (!t372) t366 t367 t331 t368 t333 t334))) else (codewrightlaw11_WordAdds.j2 kj25 true t366 t367 t331 t368 t333 t334)) = some r := H
         have A37 := Aside0.mk A370
         clear A370
         have HC38 := Aside0.mk H
         clear H
         obtain ⟨Ao39, co39, eo39⟩ := Kd.R_slice HO_10.out
         subst eo39
         go_upto_region 14 with (first | ((with_reducible refine gate_callee (f := 21) rfl ?_); refine goesL_ (some 82) rfl rfl Try.func21 (by kernel_rfl) rfl #[.pointer (some ⟨g335, 0, none⟩), .slice Ao39 t338.length co39, .slice A2 l2.length c2] rfl (by (try simp only [List.map_toArray, List.map_cons, List.map_nil]); first | done | rfl | (simp only [List.length_drop, List.length_take]; rfl)) ?_; (with_reducible refine (word_Sub.calls kj25 g335 t354 t355 t331 t356 t333 t334 _ _ t338 _ _ l2 t362 t365 t366 t367 t368 w _ ?side1 ?side2 ?side3 ?side4 ?side5 ?side6 ?side7 ?side8 A37.out).mono ?_); (case side1 => repeat (first | (with_reducible first | exact HI335.out | apply IsS87.alloc | apply IsS87.drewN | apply IsS87.drew | apply IsS87.set_0 | apply IsS87.set_1 | apply IsS87.set_3 | refine IsS87.far ?_ NB335_328.out _) | exact HI335.out)); (case side2 => repeat (first | (with_reducible first | exact HB.out | apply below_alloc | apply pw_below_drewN | apply below_drew1 | refine below_set ?_ (IsS87.ge HI335.out) | refine below_set ?_ GE328.out) | exact HB.out)); (case side3 => repeat (first | exact (Kd.R_reads' HO_10.out).2.2 | (with_reducible refine Kd.C_alloc ?_ _) | (with_reducible refine Kd.C_drewN ?_ _) | (with_reducible refine Kd.C_drew ?_))); (case side4 => exact (Kd.R_reads' HO_10.out).2.1); (case side5 => exact far_slice (IsS87.own_ne HI335.out HO_10.out (by decide))); (case side6 => repeat (first | exact (Kd.C_below HR2.out HB.out) | (with_reducible refine Kd.C_alloc ?_ _) | (with_reducible refine Kd.C_drewN ?_ _) | (with_reducible refine Kd.C_drew ?_))); (case side7 => exact HC2.out); (case side8 => exact Kd.far_C 0 HR2.out (IsS87.ge HI335.out)); rintro e w40 ⟨v363, rfl, ho0, hi, hb, hk⟩; refine ⟨_, rfl, ?_⟩; have n0_ := Aside0.mk (Kd.R_mono (Kd.R_told (Kd.R_oldK (IsS87.apart (show IsS87 w _ g335 t354 t355 t331 t356 t333 t334 from by repeat (first | (with_reducible first | exact HI335.out | apply IsS87.alloc | apply IsS87.drewN | apply IsS87.drew | apply IsS87.set_0 | apply IsS87.set_1 | apply IsS87.set_3 | refine IsS87.far ?_ NB335_328.out _) | exact HI335.out)) (by (with_reducible repeat (first | apply Kd.R_alloc | apply Kd.R_drewN | apply Kd.R_drew)); exact HO_10.out) (by decide)) hk) (Kd.R_base ho0)) (fun _ h_ => h_.1)); have n1_ := Aside0.mk (KeepBut.blk hk (g' := gb328) (o := .cells #[.int .i64 a0_0, .int .i64 a0_1, .slice A0_2 l0_2.length c0_2] 24 (0, 0)) (by (with_reducible repeat (first | refine blk_drewN ?_ _ | refine blk_drew ?_ | refine blk_alloc ?_ _)); exact BK328.out) NB328_335.out (by simp)); have n2_ := Aside0.mk (Kd.R_lower (Kd.R_new' ho0 (Kd.R_lt (by (with_reducible repeat (first | apply Kd.R_alloc | apply Kd.R_drewN | apply Kd.R_drew)); exact HO_10.out))) (below_size (by repeat (first | (with_reducible first | exact HB.out | apply below_alloc | apply pw_below_drewN | apply below_drew1 | refine below_set ?_ (IsS87.ge HI335.out) | refine below_set ?_ GE328.out) | exact HB.out)))); have n3_ := Aside0.mk (hb); have n4_ := Aside0.mk (hi); clear HO_10; clear BK328; clear HB; clear HI335; have HO_10 := n0_; have BK328 := n1_; have HO364 := n2_; have HB := n3_; have HI335 := n4_; clear n0_ n1_ n2_ n3_ n4_; (try clear hb); (try clear hb2); (try clear hk); (try clear hi); (try clear ho0)))
         (try simp only [Act.put, List.setIfInBounds_toArray, List.set_cons_zero, List.set_cons_succ])
         go_cut [94] (fun v94 wc => ∃ (kq : Nat) (x94_37 : Bool), v94 = .bool x94_37 ∧ Aside0 (codewrightlaw11_WordAdds.j2 kq x94_37 t366 t367 t331 t368 t333 t334 = some r) ∧ Aside0 (kq ≤ kj25) ∧ Aside0 (wc.heap[gb328]? = some (.cells #[.int .i64 a0_0, .int .i64 a0_1, (.slice A0_2 l0_2.length c0_2)] 24 (0, 0))) ∧ Aside0 (IsS87 w wc g335 t366 t367 t331 t368 t333 t334) ∧ Aside0 (Below w.heap.size w wc))
         case first =>
          have H := HC38.out
          clear HC38
          by_cases c41 : t365 = 0
          ·rw [if_pos c41] at H
           have c41b0 : (t365 == 0) = true := beq_iff_eq.mpr c41
           have c41b1 : (t365 != 0) = false := bne_eq_false_iff_eq.mpr c41
           clear c41
           (first | rw [c41b0] | (simp only [i64_w, i32_w]; rw [c41b0]) | skip)
           replace H := Option.bind_eq_some_iff.mp H
           obtain ⟨t369, A420, H⟩ := H
           replace H : ((codewrightref11_Same.f kj25 t362 t369).bind fun t372 => (codewrightlaw11_WordAdds.j2 kj25 (!t372) t366 t367 t331 t368 t333 t334)) = some r := H
           have A42 := Aside0.mk A420
           clear A420
           replace H := Option.bind_eq_some_iff.mp H
           obtain ⟨t372, A430, H⟩ := H
           replace H : (codewrightlaw11_WordAdds.j2 kj25 (!t372) t366 t367 t331 t368 t333 t334) = some r := H
           have A43 := Aside0.mk A430
           clear A430
           have H' := Aside0.mk H
           clear H
           have hnb44 := NB328_335.out
           have hnc44 := NB335_328.out
           have hcz45_0 : w40.cell? ⟨gb328, 0, none⟩ = some (.int .i64 a0_0) := (blk_cell BK328.out 0).trans rfl
           have hcz45_1 : w40.cell? ⟨gb328, 1, none⟩ = some (.int .i64 a0_1) := (blk_cell BK328.out 1).trans rfl
           have hcz45_2 : w40.cell? ⟨gb328, 2, none⟩ = some (.slice A0_2 l0_2.length c0_2) := (blk_cell BK328.out 2).trans rfl
           have hfz45_0 := blk_frozen BK328.out 0
           have hfz45_1 := blk_frozen BK328.out 1
           have hfz45_2 := blk_frozen BK328.out 2
           go_wp2_with (first | (go_at_call 15; (with_reducible refine (codewrightref11_Clean.calls kj25 a0_0 a0_1 _ _ l0_2 _ _ l1 t369 _ ?side1 ?side2 ?side3 ?side4 A42.out).mono ?_); (case side1 => repeat (first | exact (Kd.C_below HR0_2.out HB.out) | (with_reducible refine Kd.C_alloc ?_ _) | (with_reducible refine Kd.C_drewN ?_ _) | (with_reducible refine Kd.C_drew ?_))); (case side2 => exact HC0_2.out); (case side3 => repeat (first | exact (Kd.C_below HR1.out HB.out) | (with_reducible refine Kd.C_alloc ?_ _) | (with_reducible refine Kd.C_drewN ?_ _) | (with_reducible refine Kd.C_drew ?_))); (case side4 => exact HC1.out); rintro e w46 ⟨v370, rfl, ho0, hb⟩; have n0_ := Aside0.mk (Kd.R_elder' (by (with_reducible repeat (first | apply Kd.R_alloc | apply Kd.R_drewN | apply Kd.R_drew)); exact HO_10.out) (Kd.R_base ho0) hb); have n1_ := Aside0.mk (Kd.R_elder' (by (with_reducible repeat (first | apply Kd.R_alloc | apply Kd.R_drewN | apply Kd.R_drew)); exact HO364.out) (Kd.R_base ho0) hb); have n2_ := Aside0.mk (Kd.R_lower (Kd.R_new' (Kd.R_new' ho0 (Kd.R_lt (by (with_reducible repeat (first | apply Kd.R_alloc | apply Kd.R_drewN | apply Kd.R_drew)); exact HO_10.out))) (Kd.R_lt (by (with_reducible repeat (first | apply Kd.R_alloc | apply Kd.R_drewN | apply Kd.R_drew)); exact HO364.out))) (below_size (by repeat (first | (with_reducible first | exact HB.out | apply below_alloc | apply pw_below_drewN | apply below_drew1 | refine below_set ?_ (IsS87.ge HI335.out) | refine below_set ?_ GE328.out) | exact HB.out)))); have n3_ := Aside0.mk (blk_below (g := gb328) (o := .cells #[.int .i64 a0_0, .int .i64 a0_1, .slice A0_2 l0_2.length c0_2] 24 (0, 0)) (by (with_reducible repeat (first | refine blk_drewN ?_ _ | refine blk_drew ?_ | refine blk_alloc ?_ _)); exact BK328.out) hb); have n4_ := Aside0.mk (IsS87.below (by repeat (first | (with_reducible first | exact HI335.out | apply IsS87.alloc | apply IsS87.drewN | apply IsS87.drew | apply IsS87.set_0 | apply IsS87.set_1 | apply IsS87.set_3 | refine IsS87.far ?_ NB335_328.out _) | exact HI335.out)) hb); have n5_ := Aside0.mk (below_step (by repeat (first | (with_reducible first | exact HB.out | apply below_alloc | apply pw_below_drewN | apply below_drew1 | refine below_set ?_ (IsS87.ge HI335.out) | refine below_set ?_ GE328.out) | exact HB.out)) hb); clear HO_10; clear HO364; clear BK328; clear HI335; clear HB; have HO_10 := n0_; have HO364 := n1_; have HO371 := n2_; have BK328 := n3_; have HI335 := n4_; have HB := n5_; clear n0_ n1_ n2_ n3_ n4_ n5_; (try clear hb); (try clear hb2); (try clear hk); (try clear hi); (try clear ho0); obtain ⟨Ao47, co47, eo47⟩ := Kd.R_slice HO364.out; subst eo47; obtain ⟨Ao48, co48, eo48⟩ := Kd.R_slice HO371.out; subst eo48) | (go_at_call 13; (with_reducible refine (codewrightref11_Same.calls kj25 _ _ t362 _ _ t369 t372 _ ?side1 ?side2 ?side3 ?side4 A43.out).mono ?_); (case side1 => repeat (first | exact (Kd.R_reads' HO364.out).2.2 | (with_reducible refine Kd.C_alloc ?_ _) | (with_reducible refine Kd.C_drewN ?_ _) | (with_reducible refine Kd.C_drew ?_))); (case side2 => exact (Kd.R_reads' HO364.out).2.1); (case side3 => repeat (first | exact (Kd.R_reads' HO371.out).2.2 | (with_reducible refine Kd.C_alloc ?_ _) | (with_reducible refine Kd.C_drewN ?_ _) | (with_reducible refine Kd.C_drew ?_))); (case side4 => exact (Kd.R_reads' HO371.out).2.1); rintro e w' ⟨rfl, ⟨nd, rfl⟩⟩))
           go_meet
           case rel => exact ⟨_, (!t372), (by first | rfl | (simp; done) | (simp [*]; done)), H', ⟨by have := HJ10.out; have := HJ25.out; first | omega | exact Nat.le_refl _⟩, ⟨by (with_reducible repeat (first | refine blk_drewN ?_ _ | refine blk_drew ?_ | refine blk_alloc ?_ _)); exact BK328.out⟩, ⟨by repeat (first | (with_reducible first | exact HI335.out | apply IsS87.alloc | apply IsS87.drewN | apply IsS87.drew | apply IsS87.set_0 | apply IsS87.set_1 | apply IsS87.set_3 | refine IsS87.far ?_ NB335_328.out _) | exact HI335.out)⟩, ⟨by repeat (first | (with_reducible first | exact HB.out | apply below_alloc | apply pw_below_drewN | apply below_drew1 | refine below_set ?_ (IsS87.ge HI335.out) | refine below_set ?_ GE328.out) | exact HB.out)⟩⟩
          ·rw [if_neg c41] at H
           have c41b0 : (t365 == 0) = false := beq_eq_false_iff_ne.mpr c41
           have c41b1 : (t365 != 0) = true := bne_iff_ne.mpr c41
           (first | rw [c41b0] | (simp only [i64_w, i32_w]; rw [c41b0]) | skip)
           have H' := Aside0.mk H
           clear H
           go_wp2
           go_meet
           case rel => exact ⟨_, (true), (by first | rfl | (simp; done) | (simp [*]; done)), H', ⟨by have := HJ10.out; have := HJ25.out; first | omega | exact Nat.le_refl _⟩, ⟨by (with_reducible repeat (first | refine blk_drewN ?_ _ | refine blk_drew ?_ | refine blk_alloc ?_ _)); exact BK328.out⟩, ⟨by repeat (first | (with_reducible first | exact HI335.out | apply IsS87.alloc | apply IsS87.drewN | apply IsS87.drew | apply IsS87.set_0 | apply IsS87.set_1 | apply IsS87.set_3 | refine IsS87.far ?_ NB335_328.out _) | exact HI335.out)⟩, ⟨by repeat (first | (with_reducible first | exact HB.out | apply below_alloc | apply pw_below_drewN | apply below_drew1 | refine below_set ?_ (IsS87.ge HI335.out) | refine below_set ?_ GE328.out) | exact HB.out)⟩⟩
         case rest =>
          clear HC38
          try clear c1
          try clear c2
          try clear p2
          try clear c3
          try clear c4
          try clear c5
          try clear c12
          try clear c16
          try clear c19
          try clear c19b0
          try clear c19b1
          try clear c20
          try clear c21
          try clear c22
          try clear c23
          try clear c28
          try clear c31
          try clear c31b0
          try clear c31b1
          try clear c35
          try clear c36
          try clear c36b0
          try clear c36b1
          try clear c41
          try clear c41b0
          try clear c41b1
          try clear c44
          try clear hcz13_0
          try clear hcz13_1
          try clear hcz13_2
          try clear hcz17_0
          try clear hcz17_1
          try clear hcz17_2
          try clear hcz29_0
          try clear hcz29_1
          try clear hcz29_2
          try clear hcz45_0
          try clear hcz45_1
          try clear hcz45_2
          try clear hcz7_0
          try clear hcz7_1
          try clear hcz7_2
          try clear hfz13_0
          try clear hfz13_1
          try clear hfz13_2
          try clear hfz17_0
          try clear hfz17_1
          try clear hfz17_2
          try clear hfz29_0
          try clear hfz29_1
          try clear hfz29_2
          try clear hfz45_0
          try clear hfz45_1
          try clear hfz45_2
          try clear hfz7_0
          try clear hfz7_1
          try clear hfz7_2
          try clear p2
          obtain ⟨kq, x94_37, rfl, HA, HJ37, BK328, HI335, HB⟩ := hcut
          cases kq with
          | zero => exact absurd HA.out (by simp [codewrightlaw11_WordAdds.j2])
          | succ kj37 =>
           have H := HA.out
           clear HA
           simp only [codewrightlaw11_WordAdds.j2] at H
           by_cases c49 : x94_37 = true
           ·subst c49
            have H1 : (some false) = some r := by rw [if_pos rfl] at H; exact H
            clear H
            have H := H1
            clear H1
            obtain rfl := Option.some.inj H
            go_wp2
            go_ret
            exact ⟨by first | rfl | (simp [errW_none, errW_some] <;> rfl) | (simp [*, errW_none, errW_some] <;> rfl), by repeat (first | (with_reducible first | exact HB.out | apply below_alloc | apply pw_below_drewN | apply below_drew1 | refine below_set ?_ (IsS87.ge HI335.out) | refine below_set ?_ GE328.out) | exact HB.out | exact below_tr HBW.out HB.out)⟩
           ·replace c49 := Bool.eq_false_iff.mpr c49
            subst c49
            have H1 : ((word_Add.f kj37 t366 t367 t331 t368 t333 t334 (([1, 0] : List Int)) (([0, 1] : List Int))).bind fun bt379 => (if bt379.2.1 = 0 then ((codewrightref11_Same.f kj37 bt379.1 (([1, 1] : List Int))).bind fun t389 => (some t389)) else (some false))) = some r := by rw [if_neg (show ¬ (false = true) by decide)] at H; exact H
            clear H
            have H := H1
            clear H1
            obtain ⟨y373, hy373⟩ : ∃ y_ : List Int, y_ = (([1, 0] : List Int)) := ⟨_, rfl⟩
            replace H : ((word_Add.f kj37 t366 t367 t331 t368 t333 t334 y373 (([0, 1] : List Int))).bind fun bt379 => (if bt379.2.1 = 0 then ((codewrightref11_Same.f kj37 bt379.1 (([1, 1] : List Int))).bind fun t389 => (some t389)) else (some false))) = some r := by first | (rw [hy373]; with_reducible exact H) | (have H2_ := (Option.bind_some _ _).symm.trans H; rw [hy373]; with_reducible exact H2_) | (have H2_ := (Option.bind_some _ _).symm.trans H; with_reducible exact H2_) | with_reducible exact H | (rw [hy373]; exact H) | exact H
            have Ny373 := Aside0.mk hy373
            clear hy373
            obtain ⟨y376, hy376⟩ : ∃ y_ : List Int, y_ = (([0, 1] : List Int)) := ⟨_, rfl⟩
            replace H : ((word_Add.f kj37 t366 t367 t331 t368 t333 t334 y373 y376).bind fun bt379 => (if bt379.2.1 = 0 then ((codewrightref11_Same.f kj37 bt379.1 (([1, 1] : List Int))).bind fun t389 => (some t389)) else (some false))) = some r := by first | (rw [hy376]; with_reducible exact H) | (have H2_ := (Option.bind_some _ _).symm.trans H; rw [hy376]; with_reducible exact H2_) | (have H2_ := (Option.bind_some _ _).symm.trans H; with_reducible exact H2_) | with_reducible exact H | (rw [hy376]; exact H) | exact H
            have Ny376 := Aside0.mk hy376
            clear hy376
            replace H := Option.bind_eq_some_iff.mp H
            obtain ⟨⟨t379, t382, t383, t384, t385⟩, A500, H⟩ := H
            replace H : (if t382 = 0 then ((codewrightref11_Same.f kj37 t379 (([1, 1] : List Int))).bind fun t389 => (some t389)) else (some false)) = some r := H
            have A50 := Aside0.mk A500
            clear A500
            by_cases c51 : t382 = 0
            ·rw [if_pos c51] at H
             have c51b0 : (t382 == 0) = true := beq_iff_eq.mpr c51
             have c51b1 : (t382 != 0) = false := bne_eq_false_iff_eq.mpr c51
             clear c51
             obtain ⟨y386, hy386⟩ : ∃ y_ : List Int, y_ = (([1, 1] : List Int)) := ⟨_, rfl⟩
             replace H : ((codewrightref11_Same.f kj37 t379 y386).bind fun t389 => (some t389)) = some r := by first | (rw [hy386]; with_reducible exact H) | (have H2_ := (Option.bind_some _ _).symm.trans H; rw [hy386]; with_reducible exact H2_) | (have H2_ := (Option.bind_some _ _).symm.trans H; with_reducible exact H2_) | with_reducible exact H | (rw [hy386]; exact H) | exact H
             have Ny386 := Aside0.mk hy386
             clear hy386
             replace H := Option.bind_eq_some_iff.mp H
             obtain ⟨t389, A520, H⟩ := H
             replace H : (some t389) = some r := H
             have A52 := Aside0.mk A520
             clear A520
             obtain rfl := Option.some.inj H
             go_wp2_with (first | ((with_reducible refine gate_dst (N := 97) rfl ?_); (try (refine gate_guard (by rfl) ?_; dsimp only)); refine Kd.R_lit (Kd.int .i64) _ 3 ?hg (N := 97) ?hd (xs := ([1, 0] : List Int)) (inner := [.int .i64 1, .int .i64 0]) (ok := fun _ => True) (okp := fun _ => True) ?hr ?hp (fun _ hk => hk) trivial (Below.refl _ _) (Nat.le_refl _) (by simp) ?_; (case hd => rfl); (case hg => rfl); (case hr => first | (go_simp; done) | (go_simp; rfl)); (case hp => exact (Reps.one (show Kd.M (Kd.int .i64) _ _ _ 1 [.int .i64 1] from rfl) (Reps.one (show Kd.M (Kd.int .i64) _ _ _ 0 [.int .i64 0] from rfl) (Reps.none _ _)))); intro v374 w53 ho54 hb hg_ hnew_; clear hg_ hnew_; (first | rw [← Ny373.out] at ho54 | (simp only [Int.reduceToNat] at ho54; rw [← Ny373.out] at ho54)); have n0_ := Aside0.mk (Kd.R_lower ho54 (below_size (by repeat (first | (with_reducible first | exact HB.out | apply below_alloc | apply pw_below_drewN | apply below_drew1 | refine below_set ?_ (IsS87.ge HI335.out) | refine below_set ?_ GE328.out) | exact HB.out)))); have n1_ := Aside0.mk (blk_below (g := gb328) (o := .cells #[.int .i64 a0_0, .int .i64 a0_1, .slice A0_2 l0_2.length c0_2] 24 (0, 0)) (by (with_reducible repeat (first | refine blk_drewN ?_ _ | refine blk_drew ?_ | refine blk_alloc ?_ _)); exact BK328.out) hb); have n2_ := Aside0.mk (IsS87.below (by repeat (first | (with_reducible first | exact HI335.out | apply IsS87.alloc | apply IsS87.drewN | apply IsS87.drew | apply IsS87.set_0 | apply IsS87.set_1 | apply IsS87.set_3 | refine IsS87.far ?_ NB335_328.out _) | exact HI335.out)) hb); have n3_ := Aside0.mk (below_step (by repeat (first | (with_reducible first | exact HB.out | apply below_alloc | apply pw_below_drewN | apply below_drew1 | refine below_set ?_ (IsS87.ge HI335.out) | refine below_set ?_ GE328.out) | exact HB.out)) hb); clear BK328; clear HI335; clear HB; have HO375 := n0_; have BK328 := n1_; have HI335 := n2_; have HB := n3_; clear n0_ n1_ n2_ n3_; clear hb ho54) | ((with_reducible refine gate_dst (N := 98) rfl ?_); (try (refine gate_guard (by rfl) ?_; dsimp only)); refine Kd.R_lit (Kd.int .i64) _ 3 ?hg (N := 98) ?hd (xs := ([0, 1] : List Int)) (inner := [.int .i64 0, .int .i64 1]) (ok := fun _ => True) (okp := fun _ => True) ?hr ?hp (fun _ hk => hk) trivial (Below.refl _ _) (Nat.le_refl _) (by simp) ?_; (case hd => rfl); (case hg => rfl); (case hr => first | (go_simp; done) | (go_simp; rfl)); (case hp => exact (Reps.one (show Kd.M (Kd.int .i64) _ _ _ 0 [.int .i64 0] from rfl) (Reps.one (show Kd.M (Kd.int .i64) _ _ _ 1 [.int .i64 1] from rfl) (Reps.none _ _)))); intro v377 w55 ho56 hb hg_ hnew_; clear hg_ hnew_; (first | rw [← Ny376.out] at ho56 | (simp only [Int.reduceToNat] at ho56; rw [← Ny376.out] at ho56)); have n0_ := Aside0.mk (Kd.R_elder' (by (with_reducible repeat (first | apply Kd.R_alloc | apply Kd.R_drewN | apply Kd.R_drew)); exact HO375.out) (Kd.R_base ho56) hb); have n1_ := Aside0.mk (Kd.R_lower (Kd.R_new' ho56 (Kd.R_lt (by (with_reducible repeat (first | apply Kd.R_alloc | apply Kd.R_drewN | apply Kd.R_drew)); exact HO375.out))) (below_size (by repeat (first | (with_reducible first | exact HB.out | apply below_alloc | apply pw_below_drewN | apply below_drew1 | refine below_set ?_ (IsS87.ge HI335.out) | refine below_set ?_ GE328.out) | exact HB.out)))); have n2_ := Aside0.mk (blk_below (g := gb328) (o := .cells #[.int .i64 a0_0, .int .i64 a0_1, .slice A0_2 l0_2.length c0_2] 24 (0, 0)) (by (with_reducible repeat (first | refine blk_drewN ?_ _ | refine blk_drew ?_ | refine blk_alloc ?_ _)); exact BK328.out) hb); have n3_ := Aside0.mk (IsS87.below (by repeat (first | (with_reducible first | exact HI335.out | apply IsS87.alloc | apply IsS87.drewN | apply IsS87.drew | apply IsS87.set_0 | apply IsS87.set_1 | apply IsS87.set_3 | refine IsS87.far ?_ NB335_328.out _) | exact HI335.out)) hb); have n4_ := Aside0.mk (below_step (by repeat (first | (with_reducible first | exact HB.out | apply below_alloc | apply pw_below_drewN | apply below_drew1 | refine below_set ?_ (IsS87.ge HI335.out) | refine below_set ?_ GE328.out) | exact HB.out)) hb); clear HO375; clear BK328; clear HI335; clear HB; have HO375 := n0_; have HO378 := n1_; have BK328 := n2_; have HI335 := n3_; have HB := n4_; clear n0_ n1_ n2_ n3_ n4_; clear hb ho56; obtain ⟨Ao57, co57, eo57⟩ := Kd.R_slice HO375.out; subst eo57; obtain ⟨Ao58, co58, eo58⟩ := Kd.R_slice HO378.out; subst eo58) | ((with_reducible refine gate_callee (f := 19) rfl ?_); refine goesL_ (some 99) rfl rfl Try.func19 (by kernel_rfl) rfl #[.pointer (some ⟨g335, 0, none⟩), .slice Ao57 y373.length co57, .slice Ao58 y376.length co58] rfl (by (try simp only [List.map_toArray, List.map_cons, List.map_nil]); first | done | rfl | (simp only [List.length_drop, List.length_take]; rfl)) ?_; (with_reducible refine (word_Add.calls kj37 g335 t366 t367 t331 t368 t333 t334 _ _ y373 _ _ y376 t379 t382 t383 t384 t385 w _ ?side1 ?side2 ?side3 ?side4 ?side5 ?side6 ?side7 ?side8 A50.out).mono ?_); (case side1 => repeat (first | (with_reducible first | exact HI335.out | apply IsS87.alloc | apply IsS87.drewN | apply IsS87.drew | apply IsS87.set_0 | apply IsS87.set_1 | apply IsS87.set_3 | refine IsS87.far ?_ NB335_328.out _) | exact HI335.out)); (case side2 => repeat (first | (with_reducible first | exact HB.out | apply below_alloc | apply pw_below_drewN | apply below_drew1 | refine below_set ?_ (IsS87.ge HI335.out) | refine below_set ?_ GE328.out) | exact HB.out)); (case side3 => repeat (first | exact (Kd.R_reads' HO375.out).2.2 | (with_reducible refine Kd.C_alloc ?_ _) | (with_reducible refine Kd.C_drewN ?_ _) | (with_reducible refine Kd.C_drew ?_))); (case side4 => exact (Kd.R_reads' HO375.out).2.1); (case side5 => exact far_slice (IsS87.own_ne HI335.out HO375.out (by decide))); (case side6 => repeat (first | exact (Kd.R_reads' HO378.out).2.2 | (with_reducible refine Kd.C_alloc ?_ _) | (with_reducible refine Kd.C_drewN ?_ _) | (with_reducible refine Kd.C_drew ?_))); (case side7 => exact (Kd.R_reads' HO378.out).2.1); (case side8 => exact far_slice (IsS87.own_ne HI335.out HO378.out (by decide))); rintro e w59 ⟨v380, rfl, ho0, hi, hb, hk⟩; refine ⟨_, rfl, ?_⟩; have n0_ := Aside0.mk (KeepBut.blk hk (g' := gb328) (o := .cells #[.int .i64 a0_0, .int .i64 a0_1, .slice A0_2 l0_2.length c0_2] 24 (0, 0)) (by (with_reducible repeat (first | refine blk_drewN ?_ _ | refine blk_drew ?_ | refine blk_alloc ?_ _)); exact BK328.out) NB328_335.out (by simp)); have n1_ := Aside0.mk (Kd.R_mono (Kd.R_told (Kd.R_oldK (IsS87.apart (show IsS87 w _ g335 t366 t367 t331 t368 t333 t334 from by repeat (first | (with_reducible first | exact HI335.out | apply IsS87.alloc | apply IsS87.drewN | apply IsS87.drew | apply IsS87.set_0 | apply IsS87.set_1 | apply IsS87.set_3 | refine IsS87.far ?_ NB335_328.out _) | exact HI335.out)) (by (with_reducible repeat (first | apply Kd.R_alloc | apply Kd.R_drewN | apply Kd.R_drew)); exact HO375.out) (by decide)) hk) (Kd.R_base ho0)) (fun _ h_ => h_.1)); have n2_ := Aside0.mk (Kd.R_mono (Kd.R_told (Kd.R_oldK (IsS87.apart (show IsS87 w _ g335 t366 t367 t331 t368 t333 t334 from by repeat (first | (with_reducible first | exact HI335.out | apply IsS87.alloc | apply IsS87.drewN | apply IsS87.drew | apply IsS87.set_0 | apply IsS87.set_1 | apply IsS87.set_3 | refine IsS87.far ?_ NB335_328.out _) | exact HI335.out)) (by (with_reducible repeat (first | apply Kd.R_alloc | apply Kd.R_drewN | apply Kd.R_drew)); exact HO378.out) (by decide)) hk) (Kd.R_base ho0)) (fun _ h_ => h_.1)); have n3_ := Aside0.mk (Kd.R_lower (Kd.R_new' (Kd.R_new' ho0 (Kd.R_lt (by (with_reducible repeat (first | apply Kd.R_alloc | apply Kd.R_drewN | apply Kd.R_drew)); exact HO375.out))) (Kd.R_lt (by (with_reducible repeat (first | apply Kd.R_alloc | apply Kd.R_drewN | apply Kd.R_drew)); exact HO378.out))) (below_size (by repeat (first | (with_reducible first | exact HB.out | apply below_alloc | apply pw_below_drewN | apply below_drew1 | refine below_set ?_ (IsS87.ge HI335.out) | refine below_set ?_ GE328.out) | exact HB.out)))); have n4_ := Aside0.mk (hb); have n5_ := Aside0.mk (hi); clear BK328; clear HO375; clear HO378; clear HB; clear HI335; have BK328 := n0_; have HO375 := n1_; have HO378 := n2_; have HO381 := n3_; have HB := n4_; have HI335 := n5_; clear n0_ n1_ n2_ n3_ n4_ n5_; (try clear hb); (try clear hb2); (try clear hk); (try clear hi); (try clear ho0)) | ((with_reducible refine gate_dst (N := 106) rfl ?_); (try (refine gate_guard (by rfl) ?_; dsimp only)); refine Kd.R_lit (Kd.int .i64) _ 3 ?hg (N := 106) ?hd (xs := ([1, 1] : List Int)) (inner := [.int .i64 1, .int .i64 1]) (ok := fun _ => True) (okp := fun _ => True) ?hr ?hp (fun _ hk => hk) trivial (Below.refl _ _) (Nat.le_refl _) (by simp) ?_; (case hd => rfl); (case hg => rfl); (case hr => first | (go_simp; done) | (go_simp; rfl)); (case hp => exact (Reps.one (show Kd.M (Kd.int .i64) _ _ _ 1 [.int .i64 1] from rfl) (Reps.one (show Kd.M (Kd.int .i64) _ _ _ 1 [.int .i64 1] from rfl) (Reps.none _ _)))); intro v387 w60 ho61 hb hg_ hnew_; clear hg_ hnew_; (first | rw [← Ny386.out] at ho61 | (simp only [Int.reduceToNat] at ho61; rw [← Ny386.out] at ho61)); have n0_ := Aside0.mk (Kd.R_elder' (by (with_reducible repeat (first | apply Kd.R_alloc | apply Kd.R_drewN | apply Kd.R_drew)); exact HO375.out) (Kd.R_base ho61) hb); have n1_ := Aside0.mk (Kd.R_elder' (by (with_reducible repeat (first | apply Kd.R_alloc | apply Kd.R_drewN | apply Kd.R_drew)); exact HO378.out) (Kd.R_base ho61) hb); have n2_ := Aside0.mk (Kd.R_elder' (by (with_reducible repeat (first | apply Kd.R_alloc | apply Kd.R_drewN | apply Kd.R_drew)); exact HO381.out) (Kd.R_base ho61) hb); have n3_ := Aside0.mk (Kd.R_lower (Kd.R_new' (Kd.R_new' (Kd.R_new' ho61 (Kd.R_lt (by (with_reducible repeat (first | apply Kd.R_alloc | apply Kd.R_drewN | apply Kd.R_drew)); exact HO375.out))) (Kd.R_lt (by (with_reducible repeat (first | apply Kd.R_alloc | apply Kd.R_drewN | apply Kd.R_drew)); exact HO378.out))) (Kd.R_lt (by (with_reducible repeat (first | apply Kd.R_alloc | apply Kd.R_drewN | apply Kd.R_drew)); exact HO381.out))) (below_size (by repeat (first | (with_reducible first | exact HB.out | apply below_alloc | apply pw_below_drewN | apply below_drew1 | refine below_set ?_ (IsS87.ge HI335.out) | refine below_set ?_ GE328.out) | exact HB.out)))); have n4_ := Aside0.mk (blk_below (g := gb328) (o := .cells #[.int .i64 a0_0, .int .i64 a0_1, .slice A0_2 l0_2.length c0_2] 24 (0, 0)) (by (with_reducible repeat (first | refine blk_drewN ?_ _ | refine blk_drew ?_ | refine blk_alloc ?_ _)); exact BK328.out) hb); have n5_ := Aside0.mk (IsS87.below (by repeat (first | (with_reducible first | exact HI335.out | apply IsS87.alloc | apply IsS87.drewN | apply IsS87.drew | apply IsS87.set_0 | apply IsS87.set_1 | apply IsS87.set_3 | refine IsS87.far ?_ NB335_328.out _) | exact HI335.out)) hb); have n6_ := Aside0.mk (below_step (by repeat (first | (with_reducible first | exact HB.out | apply below_alloc | apply pw_below_drewN | apply below_drew1 | refine below_set ?_ (IsS87.ge HI335.out) | refine below_set ?_ GE328.out) | exact HB.out)) hb); clear HO375; clear HO378; clear HO381; clear BK328; clear HI335; clear HB; have HO375 := n0_; have HO378 := n1_; have HO381 := n2_; have HO388 := n3_; have BK328 := n4_; have HI335 := n5_; have HB := n6_; clear n0_ n1_ n2_ n3_ n4_ n5_ n6_; clear hb ho61; obtain ⟨Ao62, co62, eo62⟩ := Kd.R_slice HO381.out; subst eo62; obtain ⟨Ao63, co63, eo63⟩ := Kd.R_slice HO388.out; subst eo63) | (go_at_call 13; (with_reducible refine (codewrightref11_Same.calls kj37 _ _ t379 _ _ y386 t389 _ ?side1 ?side2 ?side3 ?side4 A52.out).mono ?_); (case side1 => repeat (first | exact (Kd.R_reads' HO381.out).2.2 | (with_reducible refine Kd.C_alloc ?_ _) | (with_reducible refine Kd.C_drewN ?_ _) | (with_reducible refine Kd.C_drew ?_))); (case side2 => exact (Kd.R_reads' HO381.out).2.1); (case side3 => repeat (first | exact (Kd.R_reads' HO388.out).2.2 | (with_reducible refine Kd.C_alloc ?_ _) | (with_reducible refine Kd.C_drewN ?_ _) | (with_reducible refine Kd.C_drew ?_))); (case side4 => exact (Kd.R_reads' HO388.out).2.1); rintro e w' ⟨rfl, ⟨nd, rfl⟩⟩))
             go_ret
             exact ⟨by first | rfl | (simp [errW_none, errW_some] <;> rfl) | (simp [*, errW_none, errW_some] <;> rfl), by repeat (first | (with_reducible first | exact HB.out | apply below_alloc | apply pw_below_drewN | apply below_drew1 | refine below_set ?_ (IsS87.ge HI335.out) | refine below_set ?_ GE328.out) | exact HB.out | exact below_tr HBW.out HB.out)⟩
            ·rw [if_neg c51] at H
             have c51b0 : (t382 == 0) = false := beq_eq_false_iff_ne.mpr c51
             have c51b1 : (t382 != 0) = true := bne_iff_ne.mpr c51
             obtain rfl := Option.some.inj H
             go_wp2_with (first | ((with_reducible refine gate_dst (N := 97) rfl ?_); (try (refine gate_guard (by rfl) ?_; dsimp only)); refine Kd.R_lit (Kd.int .i64) _ 3 ?hg (N := 97) ?hd (xs := ([1, 0] : List Int)) (inner := [.int .i64 1, .int .i64 0]) (ok := fun _ => True) (okp := fun _ => True) ?hr ?hp (fun _ hk => hk) trivial (Below.refl _ _) (Nat.le_refl _) (by simp) ?_; (case hd => rfl); (case hg => rfl); (case hr => first | (go_simp; done) | (go_simp; rfl)); (case hp => exact (Reps.one (show Kd.M (Kd.int .i64) _ _ _ 1 [.int .i64 1] from rfl) (Reps.one (show Kd.M (Kd.int .i64) _ _ _ 0 [.int .i64 0] from rfl) (Reps.none _ _)))); intro v374 w64 ho65 hb hg_ hnew_; clear hg_ hnew_; (first | rw [← Ny373.out] at ho65 | (simp only [Int.reduceToNat] at ho65; rw [← Ny373.out] at ho65)); have n0_ := Aside0.mk (Kd.R_lower ho65 (below_size (by repeat (first | (with_reducible first | exact HB.out | apply below_alloc | apply pw_below_drewN | apply below_drew1 | refine below_set ?_ (IsS87.ge HI335.out) | refine below_set ?_ GE328.out) | exact HB.out)))); have n1_ := Aside0.mk (blk_below (g := gb328) (o := .cells #[.int .i64 a0_0, .int .i64 a0_1, .slice A0_2 l0_2.length c0_2] 24 (0, 0)) (by (with_reducible repeat (first | refine blk_drewN ?_ _ | refine blk_drew ?_ | refine blk_alloc ?_ _)); exact BK328.out) hb); have n2_ := Aside0.mk (IsS87.below (by repeat (first | (with_reducible first | exact HI335.out | apply IsS87.alloc | apply IsS87.drewN | apply IsS87.drew | apply IsS87.set_0 | apply IsS87.set_1 | apply IsS87.set_3 | refine IsS87.far ?_ NB335_328.out _) | exact HI335.out)) hb); have n3_ := Aside0.mk (below_step (by repeat (first | (with_reducible first | exact HB.out | apply below_alloc | apply pw_below_drewN | apply below_drew1 | refine below_set ?_ (IsS87.ge HI335.out) | refine below_set ?_ GE328.out) | exact HB.out)) hb); clear BK328; clear HI335; clear HB; have HO375 := n0_; have BK328 := n1_; have HI335 := n2_; have HB := n3_; clear n0_ n1_ n2_ n3_; clear hb ho65) | ((with_reducible refine gate_dst (N := 98) rfl ?_); (try (refine gate_guard (by rfl) ?_; dsimp only)); refine Kd.R_lit (Kd.int .i64) _ 3 ?hg (N := 98) ?hd (xs := ([0, 1] : List Int)) (inner := [.int .i64 0, .int .i64 1]) (ok := fun _ => True) (okp := fun _ => True) ?hr ?hp (fun _ hk => hk) trivial (Below.refl _ _) (Nat.le_refl _) (by simp) ?_; (case hd => rfl); (case hg => rfl); (case hr => first | (go_simp; done) | (go_simp; rfl)); (case hp => exact (Reps.one (show Kd.M (Kd.int .i64) _ _ _ 0 [.int .i64 0] from rfl) (Reps.one (show Kd.M (Kd.int .i64) _ _ _ 1 [.int .i64 1] from rfl) (Reps.none _ _)))); intro v377 w66 ho67 hb hg_ hnew_; clear hg_ hnew_; (first | rw [← Ny376.out] at ho67 | (simp only [Int.reduceToNat] at ho67; rw [← Ny376.out] at ho67)); have n0_ := Aside0.mk (Kd.R_elder' (by (with_reducible repeat (first | apply Kd.R_alloc | apply Kd.R_drewN | apply Kd.R_drew)); exact HO375.out) (Kd.R_base ho67) hb); have n1_ := Aside0.mk (Kd.R_lower (Kd.R_new' ho67 (Kd.R_lt (by (with_reducible repeat (first | apply Kd.R_alloc | apply Kd.R_drewN | apply Kd.R_drew)); exact HO375.out))) (below_size (by repeat (first | (with_reducible first | exact HB.out | apply below_alloc | apply pw_below_drewN | apply below_drew1 | refine below_set ?_ (IsS87.ge HI335.out) | refine below_set ?_ GE328.out) | exact HB.out)))); have n2_ := Aside0.mk (blk_below (g := gb328) (o := .cells #[.int .i64 a0_0, .int .i64 a0_1, .slice A0_2 l0_2.length c0_2] 24 (0, 0)) (by (with_reducible repeat (first | refine blk_drewN ?_ _ | refine blk_drew ?_ | refine blk_alloc ?_ _)); exact BK328.out) hb); have n3_ := Aside0.mk (IsS87.below (by repeat (first | (with_reducible first | exact HI335.out | apply IsS87.alloc | apply IsS87.drewN | apply IsS87.drew | apply IsS87.set_0 | apply IsS87.set_1 | apply IsS87.set_3 | refine IsS87.far ?_ NB335_328.out _) | exact HI335.out)) hb); have n4_ := Aside0.mk (below_step (by repeat (first | (with_reducible first | exact HB.out | apply below_alloc | apply pw_below_drewN | apply below_drew1 | refine below_set ?_ (IsS87.ge HI335.out) | refine below_set ?_ GE328.out) | exact HB.out)) hb); clear HO375; clear BK328; clear HI335; clear HB; have HO375 := n0_; have HO378 := n1_; have BK328 := n2_; have HI335 := n3_; have HB := n4_; clear n0_ n1_ n2_ n3_ n4_; clear hb ho67; obtain ⟨Ao68, co68, eo68⟩ := Kd.R_slice HO375.out; subst eo68; obtain ⟨Ao69, co69, eo69⟩ := Kd.R_slice HO378.out; subst eo69) | ((with_reducible refine gate_callee (f := 19) rfl ?_); refine goesL_ (some 99) rfl rfl Try.func19 (by kernel_rfl) rfl #[.pointer (some ⟨g335, 0, none⟩), .slice Ao68 y373.length co68, .slice Ao69 y376.length co69] rfl (by (try simp only [List.map_toArray, List.map_cons, List.map_nil]); first | done | rfl | (simp only [List.length_drop, List.length_take]; rfl)) ?_; (with_reducible refine (word_Add.calls kj37 g335 t366 t367 t331 t368 t333 t334 _ _ y373 _ _ y376 t379 t382 t383 t384 t385 w _ ?side1 ?side2 ?side3 ?side4 ?side5 ?side6 ?side7 ?side8 A50.out).mono ?_); (case side1 => repeat (first | (with_reducible first | exact HI335.out | apply IsS87.alloc | apply IsS87.drewN | apply IsS87.drew | apply IsS87.set_0 | apply IsS87.set_1 | apply IsS87.set_3 | refine IsS87.far ?_ NB335_328.out _) | exact HI335.out)); (case side2 => repeat (first | (with_reducible first | exact HB.out | apply below_alloc | apply pw_below_drewN | apply below_drew1 | refine below_set ?_ (IsS87.ge HI335.out) | refine below_set ?_ GE328.out) | exact HB.out)); (case side3 => repeat (first | exact (Kd.R_reads' HO375.out).2.2 | (with_reducible refine Kd.C_alloc ?_ _) | (with_reducible refine Kd.C_drewN ?_ _) | (with_reducible refine Kd.C_drew ?_))); (case side4 => exact (Kd.R_reads' HO375.out).2.1); (case side5 => exact far_slice (IsS87.own_ne HI335.out HO375.out (by decide))); (case side6 => repeat (first | exact (Kd.R_reads' HO378.out).2.2 | (with_reducible refine Kd.C_alloc ?_ _) | (with_reducible refine Kd.C_drewN ?_ _) | (with_reducible refine Kd.C_drew ?_))); (case side7 => exact (Kd.R_reads' HO378.out).2.1); (case side8 => exact far_slice (IsS87.own_ne HI335.out HO378.out (by decide))); rintro e w70 ⟨v380, rfl, ho0, hi, hb, hk⟩; refine ⟨_, rfl, ?_⟩; have n0_ := Aside0.mk (KeepBut.blk hk (g' := gb328) (o := .cells #[.int .i64 a0_0, .int .i64 a0_1, .slice A0_2 l0_2.length c0_2] 24 (0, 0)) (by (with_reducible repeat (first | refine blk_drewN ?_ _ | refine blk_drew ?_ | refine blk_alloc ?_ _)); exact BK328.out) NB328_335.out (by simp)); have n1_ := Aside0.mk (Kd.R_mono (Kd.R_told (Kd.R_oldK (IsS87.apart (show IsS87 w _ g335 t366 t367 t331 t368 t333 t334 from by repeat (first | (with_reducible first | exact HI335.out | apply IsS87.alloc | apply IsS87.drewN | apply IsS87.drew | apply IsS87.set_0 | apply IsS87.set_1 | apply IsS87.set_3 | refine IsS87.far ?_ NB335_328.out _) | exact HI335.out)) (by (with_reducible repeat (first | apply Kd.R_alloc | apply Kd.R_drewN | apply Kd.R_drew)); exact HO375.out) (by decide)) hk) (Kd.R_base ho0)) (fun _ h_ => h_.1)); have n2_ := Aside0.mk (Kd.R_mono (Kd.R_told (Kd.R_oldK (IsS87.apart (show IsS87 w _ g335 t366 t367 t331 t368 t333 t334 from by repeat (first | (with_reducible first | exact HI335.out | apply IsS87.alloc | apply IsS87.drewN | apply IsS87.drew | apply IsS87.set_0 | apply IsS87.set_1 | apply IsS87.set_3 | refine IsS87.far ?_ NB335_328.out _) | exact HI335.out)) (by (with_reducible repeat (first | apply Kd.R_alloc | apply Kd.R_drewN | apply Kd.R_drew)); exact HO378.out) (by decide)) hk) (Kd.R_base ho0)) (fun _ h_ => h_.1)); have n3_ := Aside0.mk (Kd.R_lower (Kd.R_new' (Kd.R_new' ho0 (Kd.R_lt (by (with_reducible repeat (first | apply Kd.R_alloc | apply Kd.R_drewN | apply Kd.R_drew)); exact HO375.out))) (Kd.R_lt (by (with_reducible repeat (first | apply Kd.R_alloc | apply Kd.R_drewN | apply Kd.R_drew)); exact HO378.out))) (below_size (by repeat (first | (with_reducible first | exact HB.out | apply below_alloc | apply pw_below_drewN | apply below_drew1 | refine below_set ?_ (IsS87.ge HI335.out) | refine below_set ?_ GE328.out) | exact HB.out)))); have n4_ := Aside0.mk (hb); have n5_ := Aside0.mk (hi); clear BK328; clear HO375; clear HO378; clear HB; clear HI335; have BK328 := n0_; have HO375 := n1_; have HO378 := n2_; have HO381 := n3_; have HB := n4_; have HI335 := n5_; clear n0_ n1_ n2_ n3_ n4_ n5_; (try clear hb); (try clear hb2); (try clear hk); (try clear hi); (try clear ho0)))
             go_ret
             exact ⟨by first | rfl | (simp [errW_none, errW_some] <;> rfl) | (simp [*, errW_none, errW_some] <;> rfl), by repeat (first | (with_reducible first | exact HB.out | apply below_alloc | apply pw_below_drewN | apply below_drew1 | refine below_set ?_ (IsS87.ge HI335.out) | refine below_set ?_ GE328.out) | exact HB.out | exact below_tr HBW.out HB.out)⟩
        ·rw [if_neg c36] at H
         have c36b0 : (t348 == 0) = false := beq_eq_false_iff_ne.mpr c36
         have c36b1 : (t348 != 0) = true := bne_iff_ne.mpr c36
         obtain ⟨y390, hy390⟩ : ∃ y_ : List Int, y_ = (([1, 0] : List Int)) := ⟨_, rfl⟩
         replace H : ((word_Add.f kj25 t354 t355 t331 t356 t333 t334 y390 (([0, 1] : List Int))).bind fun bt396 => (if bt396.2.1 = 0 then ((codewrightref11_Same.f kj25 bt396.1 (([1, 1] : List Int))).bind fun t406 => (some t406)) else (some false))) = some r := by first | (rw [hy390]; with_reducible exact H) | (have H2_ := (Option.bind_some _ _).symm.trans H; rw [hy390]; with_reducible exact H2_) | (have H2_ := (Option.bind_some _ _).symm.trans H; with_reducible exact H2_) | with_reducible exact H | (rw [hy390]; exact H) | exact H
         have Ny390 := Aside0.mk hy390
         clear hy390
         obtain ⟨y393, hy393⟩ : ∃ y_ : List Int, y_ = (([0, 1] : List Int)) := ⟨_, rfl⟩
         replace H : ((word_Add.f kj25 t354 t355 t331 t356 t333 t334 y390 y393).bind fun bt396 => (if bt396.2.1 = 0 then ((codewrightref11_Same.f kj25 bt396.1 (([1, 1] : List Int))).bind fun t406 => (some t406)) else (some false))) = some r := by first | (rw [hy393]; with_reducible exact H) | (have H2_ := (Option.bind_some _ _).symm.trans H; rw [hy393]; with_reducible exact H2_) | (have H2_ := (Option.bind_some _ _).symm.trans H; with_reducible exact H2_) | with_reducible exact H | (rw [hy393]; exact H) | exact H
         have Ny393 := Aside0.mk hy393
         clear hy393
         replace H := Option.bind_eq_some_iff.mp H
         obtain ⟨⟨t396, t399, t400, t401, t402⟩, A710, H⟩ := H
         replace H : (if t399 = 0 then ((codewrightref11_Same.f kj25 t396 (([1, 1] : List Int))).bind fun t406 => (some t406)) else (some false)) = some r := H
         have A71 := Aside0.mk A710
         clear A710
         by_cases c72 : t399 = 0
         ·rw [if_pos c72] at H
          have c72b0 : (t399 == 0) = true := beq_iff_eq.mpr c72
          have c72b1 : (t399 != 0) = false := bne_eq_false_iff_eq.mpr c72
          clear c72
          obtain ⟨y403, hy403⟩ : ∃ y_ : List Int, y_ = (([1, 1] : List Int)) := ⟨_, rfl⟩
          replace H : ((codewrightref11_Same.f kj25 t396 y403).bind fun t406 => (some t406)) = some r := by first | (rw [hy403]; with_reducible exact H) | (have H2_ := (Option.bind_some _ _).symm.trans H; rw [hy403]; with_reducible exact H2_) | (have H2_ := (Option.bind_some _ _).symm.trans H; with_reducible exact H2_) | with_reducible exact H | (rw [hy403]; exact H) | exact H
          have Ny403 := Aside0.mk hy403
          clear hy403
          replace H := Option.bind_eq_some_iff.mp H
          obtain ⟨t406, A730, H⟩ := H
          replace H : (some t406) = some r := H
          have A73 := Aside0.mk A730
          clear A730
          obtain rfl := Option.some.inj H
          go_wp2_with (first | ((with_reducible refine gate_dst (N := 97) rfl ?_); (try (refine gate_guard (by rfl) ?_; dsimp only)); refine Kd.R_lit (Kd.int .i64) _ 3 ?hg (N := 97) ?hd (xs := ([1, 0] : List Int)) (inner := [.int .i64 1, .int .i64 0]) (ok := fun _ => True) (okp := fun _ => True) ?hr ?hp (fun _ hk => hk) trivial (Below.refl _ _) (Nat.le_refl _) (by simp) ?_; (case hd => rfl); (case hg => rfl); (case hr => first | (go_simp; done) | (go_simp; rfl)); (case hp => exact (Reps.one (show Kd.M (Kd.int .i64) _ _ _ 1 [.int .i64 1] from rfl) (Reps.one (show Kd.M (Kd.int .i64) _ _ _ 0 [.int .i64 0] from rfl) (Reps.none _ _)))); intro v391 w74 ho75 hb hg_ hnew_; clear hg_ hnew_; (first | rw [← Ny390.out] at ho75 | (simp only [Int.reduceToNat] at ho75; rw [← Ny390.out] at ho75)); have n0_ := Aside0.mk (Kd.R_elder' (by (with_reducible repeat (first | apply Kd.R_alloc | apply Kd.R_drewN | apply Kd.R_drew)); exact HO_10.out) (Kd.R_base ho75) hb); have n1_ := Aside0.mk (Kd.R_lower (Kd.R_new' ho75 (Kd.R_lt (by (with_reducible repeat (first | apply Kd.R_alloc | apply Kd.R_drewN | apply Kd.R_drew)); exact HO_10.out))) (below_size (by repeat (first | (with_reducible first | exact HB.out | apply below_alloc | apply pw_below_drewN | apply below_drew1 | refine below_set ?_ (IsS87.ge HI335.out) | refine below_set ?_ GE328.out) | exact HB.out)))); have n2_ := Aside0.mk (blk_below (g := gb328) (o := .cells #[.int .i64 a0_0, .int .i64 a0_1, .slice A0_2 l0_2.length c0_2] 24 (0, 0)) (by (with_reducible repeat (first | refine blk_drewN ?_ _ | refine blk_drew ?_ | refine blk_alloc ?_ _)); exact BK328.out) hb); have n3_ := Aside0.mk (IsS87.below (by repeat (first | (with_reducible first | exact HI335.out | apply IsS87.alloc | apply IsS87.drewN | apply IsS87.drew | apply IsS87.set_0 | apply IsS87.set_1 | apply IsS87.set_3 | refine IsS87.far ?_ NB335_328.out _) | exact HI335.out)) hb); have n4_ := Aside0.mk (below_step (by repeat (first | (with_reducible first | exact HB.out | apply below_alloc | apply pw_below_drewN | apply below_drew1 | refine below_set ?_ (IsS87.ge HI335.out) | refine below_set ?_ GE328.out) | exact HB.out)) hb); clear HO_10; clear BK328; clear HI335; clear HB; have HO_10 := n0_; have HO392 := n1_; have BK328 := n2_; have HI335 := n3_; have HB := n4_; clear n0_ n1_ n2_ n3_ n4_; clear hb ho75) | ((with_reducible refine gate_dst (N := 98) rfl ?_); (try (refine gate_guard (by rfl) ?_; dsimp only)); refine Kd.R_lit (Kd.int .i64) _ 3 ?hg (N := 98) ?hd (xs := ([0, 1] : List Int)) (inner := [.int .i64 0, .int .i64 1]) (ok := fun _ => True) (okp := fun _ => True) ?hr ?hp (fun _ hk => hk) trivial (Below.refl _ _) (Nat.le_refl _) (by simp) ?_; (case hd => rfl); (case hg => rfl); (case hr => first | (go_simp; done) | (go_simp; rfl)); (case hp => exact (Reps.one (show Kd.M (Kd.int .i64) _ _ _ 0 [.int .i64 0] from rfl) (Reps.one (show Kd.M (Kd.int .i64) _ _ _ 1 [.int .i64 1] from rfl) (Reps.none _ _)))); intro v394 w76 ho77 hb hg_ hnew_; clear hg_ hnew_; (first | rw [← Ny393.out] at ho77 | (simp only [Int.reduceToNat] at ho77; rw [← Ny393.out] at ho77)); have n0_ := Aside0.mk (Kd.R_elder' (by (with_reducible repeat (first | apply Kd.R_alloc | apply Kd.R_drewN | apply Kd.R_drew)); exact HO_10.out) (Kd.R_base ho77) hb); have n1_ := Aside0.mk (Kd.R_elder' (by (with_reducible repeat (first | apply Kd.R_alloc | apply Kd.R_drewN | apply Kd.R_drew)); exact HO392.out) (Kd.R_base ho77) hb); have n2_ := Aside0.mk (Kd.R_lower (Kd.R_new' (Kd.R_new' ho77 (Kd.R_lt (by (with_reducible repeat (first | apply Kd.R_alloc | apply Kd.R_drewN | apply Kd.R_drew)); exact HO_10.out))) (Kd.R_lt (by (with_reducible repeat (first | apply Kd.R_alloc | apply Kd.R_drewN | apply Kd.R_drew)); exact HO392.out))) (below_size (by repeat (first | (with_reducible first | exact HB.out | apply below_alloc | apply pw_below_drewN | apply below_drew1 | refine below_set ?_ (IsS87.ge HI335.out) | refine below_set ?_ GE328.out) | exact HB.out)))); have n3_ := Aside0.mk (blk_below (g := gb328) (o := .cells #[.int .i64 a0_0, .int .i64 a0_1, .slice A0_2 l0_2.length c0_2] 24 (0, 0)) (by (with_reducible repeat (first | refine blk_drewN ?_ _ | refine blk_drew ?_ | refine blk_alloc ?_ _)); exact BK328.out) hb); have n4_ := Aside0.mk (IsS87.below (by repeat (first | (with_reducible first | exact HI335.out | apply IsS87.alloc | apply IsS87.drewN | apply IsS87.drew | apply IsS87.set_0 | apply IsS87.set_1 | apply IsS87.set_3 | refine IsS87.far ?_ NB335_328.out _) | exact HI335.out)) hb); have n5_ := Aside0.mk (below_step (by repeat (first | (with_reducible first | exact HB.out | apply below_alloc | apply pw_below_drewN | apply below_drew1 | refine below_set ?_ (IsS87.ge HI335.out) | refine below_set ?_ GE328.out) | exact HB.out)) hb); clear HO_10; clear HO392; clear BK328; clear HI335; clear HB; have HO_10 := n0_; have HO392 := n1_; have HO395 := n2_; have BK328 := n3_; have HI335 := n4_; have HB := n5_; clear n0_ n1_ n2_ n3_ n4_ n5_; clear hb ho77; obtain ⟨Ao78, co78, eo78⟩ := Kd.R_slice HO392.out; subst eo78; obtain ⟨Ao79, co79, eo79⟩ := Kd.R_slice HO395.out; subst eo79) | ((with_reducible refine gate_callee (f := 19) rfl ?_); refine goesL_ (some 99) rfl rfl Try.func19 (by kernel_rfl) rfl #[.pointer (some ⟨g335, 0, none⟩), .slice Ao78 y390.length co78, .slice Ao79 y393.length co79] rfl (by (try simp only [List.map_toArray, List.map_cons, List.map_nil]); first | done | rfl | (simp only [List.length_drop, List.length_take]; rfl)) ?_; (with_reducible refine (word_Add.calls kj25 g335 t354 t355 t331 t356 t333 t334 _ _ y390 _ _ y393 t396 t399 t400 t401 t402 w _ ?side1 ?side2 ?side3 ?side4 ?side5 ?side6 ?side7 ?side8 A71.out).mono ?_); (case side1 => repeat (first | (with_reducible first | exact HI335.out | apply IsS87.alloc | apply IsS87.drewN | apply IsS87.drew | apply IsS87.set_0 | apply IsS87.set_1 | apply IsS87.set_3 | refine IsS87.far ?_ NB335_328.out _) | exact HI335.out)); (case side2 => repeat (first | (with_reducible first | exact HB.out | apply below_alloc | apply pw_below_drewN | apply below_drew1 | refine below_set ?_ (IsS87.ge HI335.out) | refine below_set ?_ GE328.out) | exact HB.out)); (case side3 => repeat (first | exact (Kd.R_reads' HO392.out).2.2 | (with_reducible refine Kd.C_alloc ?_ _) | (with_reducible refine Kd.C_drewN ?_ _) | (with_reducible refine Kd.C_drew ?_))); (case side4 => exact (Kd.R_reads' HO392.out).2.1); (case side5 => exact far_slice (IsS87.own_ne HI335.out HO392.out (by decide))); (case side6 => repeat (first | exact (Kd.R_reads' HO395.out).2.2 | (with_reducible refine Kd.C_alloc ?_ _) | (with_reducible refine Kd.C_drewN ?_ _) | (with_reducible refine Kd.C_drew ?_))); (case side7 => exact (Kd.R_reads' HO395.out).2.1); (case side8 => exact far_slice (IsS87.own_ne HI335.out HO395.out (by decide))); rintro e w80 ⟨v397, rfl, ho0, hi, hb, hk⟩; refine ⟨_, rfl, ?_⟩; have n0_ := Aside0.mk (Kd.R_mono (Kd.R_told (Kd.R_oldK (IsS87.apart (show IsS87 w _ g335 t354 t355 t331 t356 t333 t334 from by repeat (first | (with_reducible first | exact HI335.out | apply IsS87.alloc | apply IsS87.drewN | apply IsS87.drew | apply IsS87.set_0 | apply IsS87.set_1 | apply IsS87.set_3 | refine IsS87.far ?_ NB335_328.out _) | exact HI335.out)) (by (with_reducible repeat (first | apply Kd.R_alloc | apply Kd.R_drewN | apply Kd.R_drew)); exact HO_10.out) (by decide)) hk) (Kd.R_base ho0)) (fun _ h_ => h_.1)); have n1_ := Aside0.mk (KeepBut.blk hk (g' := gb328) (o := .cells #[.int .i64 a0_0, .int .i64 a0_1, .slice A0_2 l0_2.length c0_2] 24 (0, 0)) (by (with_reducible repeat (first | refine blk_drewN ?_ _ | refine blk_drew ?_ | refine blk_alloc ?_ _)); exact BK328.out) NB328_335.out (by simp)); have n2_ := Aside0.mk (Kd.R_mono (Kd.R_told (Kd.R_oldK (IsS87.apart (show IsS87 w _ g335 t354 t355 t331 t356 t333 t334 from by repeat (first | (with_reducible first | exact HI335.out | apply IsS87.alloc | apply IsS87.drewN | apply IsS87.drew | apply IsS87.set_0 | apply IsS87.set_1 | apply IsS87.set_3 | refine IsS87.far ?_ NB335_328.out _) | exact HI335.out)) (by (with_reducible repeat (first | apply Kd.R_alloc | apply Kd.R_drewN | apply Kd.R_drew)); exact HO392.out) (by decide)) hk) (Kd.R_base ho0)) (fun _ h_ => h_.1)); have n3_ := Aside0.mk (Kd.R_mono (Kd.R_told (Kd.R_oldK (IsS87.apart (show IsS87 w _ g335 t354 t355 t331 t356 t333 t334 from by repeat (first | (with_reducible first | exact HI335.out | apply IsS87.alloc | apply IsS87.drewN | apply IsS87.drew | apply IsS87.set_0 | apply IsS87.set_1 | apply IsS87.set_3 | refine IsS87.far ?_ NB335_328.out _) | exact HI335.out)) (by (with_reducible repeat (first | apply Kd.R_alloc | apply Kd.R_drewN | apply Kd.R_drew)); exact HO395.out) (by decide)) hk) (Kd.R_base ho0)) (fun _ h_ => h_.1)); have n4_ := Aside0.mk (Kd.R_lower (Kd.R_new' (Kd.R_new' (Kd.R_new' ho0 (Kd.R_lt (by (with_reducible repeat (first | apply Kd.R_alloc | apply Kd.R_drewN | apply Kd.R_drew)); exact HO_10.out))) (Kd.R_lt (by (with_reducible repeat (first | apply Kd.R_alloc | apply Kd.R_drewN | apply Kd.R_drew)); exact HO392.out))) (Kd.R_lt (by (with_reducible repeat (first | apply Kd.R_alloc | apply Kd.R_drewN | apply Kd.R_drew)); exact HO395.out))) (below_size (by repeat (first | (with_reducible first | exact HB.out | apply below_alloc | apply pw_below_drewN | apply below_drew1 | refine below_set ?_ (IsS87.ge HI335.out) | refine below_set ?_ GE328.out) | exact HB.out)))); have n5_ := Aside0.mk (hb); have n6_ := Aside0.mk (hi); clear HO_10; clear BK328; clear HO392; clear HO395; clear HB; clear HI335; have HO_10 := n0_; have BK328 := n1_; have HO392 := n2_; have HO395 := n3_; have HO398 := n4_; have HB := n5_; have HI335 := n6_; clear n0_ n1_ n2_ n3_ n4_ n5_ n6_; (try clear hb); (try clear hb2); (try clear hk); (try clear hi); (try clear ho0)) | ((with_reducible refine gate_dst (N := 106) rfl ?_); (try (refine gate_guard (by rfl) ?_; dsimp only)); refine Kd.R_lit (Kd.int .i64) _ 3 ?hg (N := 106) ?hd (xs := ([1, 1] : List Int)) (inner := [.int .i64 1, .int .i64 1]) (ok := fun _ => True) (okp := fun _ => True) ?hr ?hp (fun _ hk => hk) trivial (Below.refl _ _) (Nat.le_refl _) (by simp) ?_; (case hd => rfl); (case hg => rfl); (case hr => first | (go_simp; done) | (go_simp; rfl)); (case hp => exact (Reps.one (show Kd.M (Kd.int .i64) _ _ _ 1 [.int .i64 1] from rfl) (Reps.one (show Kd.M (Kd.int .i64) _ _ _ 1 [.int .i64 1] from rfl) (Reps.none _ _)))); intro v404 w81 ho82 hb hg_ hnew_; clear hg_ hnew_; (first | rw [← Ny403.out] at ho82 | (simp only [Int.reduceToNat] at ho82; rw [← Ny403.out] at ho82)); have n0_ := Aside0.mk (Kd.R_elder' (by (with_reducible repeat (first | apply Kd.R_alloc | apply Kd.R_drewN | apply Kd.R_drew)); exact HO_10.out) (Kd.R_base ho82) hb); have n1_ := Aside0.mk (Kd.R_elder' (by (with_reducible repeat (first | apply Kd.R_alloc | apply Kd.R_drewN | apply Kd.R_drew)); exact HO392.out) (Kd.R_base ho82) hb); have n2_ := Aside0.mk (Kd.R_elder' (by (with_reducible repeat (first | apply Kd.R_alloc | apply Kd.R_drewN | apply Kd.R_drew)); exact HO395.out) (Kd.R_base ho82) hb); have n3_ := Aside0.mk (Kd.R_elder' (by (with_reducible repeat (first | apply Kd.R_alloc | apply Kd.R_drewN | apply Kd.R_drew)); exact HO398.out) (Kd.R_base ho82) hb); have n4_ := Aside0.mk (Kd.R_lower (Kd.R_new' (Kd.R_new' (Kd.R_new' (Kd.R_new' ho82 (Kd.R_lt (by (with_reducible repeat (first | apply Kd.R_alloc | apply Kd.R_drewN | apply Kd.R_drew)); exact HO_10.out))) (Kd.R_lt (by (with_reducible repeat (first | apply Kd.R_alloc | apply Kd.R_drewN | apply Kd.R_drew)); exact HO392.out))) (Kd.R_lt (by (with_reducible repeat (first | apply Kd.R_alloc | apply Kd.R_drewN | apply Kd.R_drew)); exact HO395.out))) (Kd.R_lt (by (with_reducible repeat (first | apply Kd.R_alloc | apply Kd.R_drewN | apply Kd.R_drew)); exact HO398.out))) (below_size (by repeat (first | (with_reducible first | exact HB.out | apply below_alloc | apply pw_below_drewN | apply below_drew1 | refine below_set ?_ (IsS87.ge HI335.out) | refine below_set ?_ GE328.out) | exact HB.out)))); have n5_ := Aside0.mk (blk_below (g := gb328) (o := .cells #[.int .i64 a0_0, .int .i64 a0_1, .slice A0_2 l0_2.length c0_2] 24 (0, 0)) (by (with_reducible repeat (first | refine blk_drewN ?_ _ | refine blk_drew ?_ | refine blk_alloc ?_ _)); exact BK328.out) hb); have n6_ := Aside0.mk (IsS87.below (by repeat (first | (with_reducible first | exact HI335.out | apply IsS87.alloc | apply IsS87.drewN | apply IsS87.drew | apply IsS87.set_0 | apply IsS87.set_1 | apply IsS87.set_3 | refine IsS87.far ?_ NB335_328.out _) | exact HI335.out)) hb); have n7_ := Aside0.mk (below_step (by repeat (first | (with_reducible first | exact HB.out | apply below_alloc | apply pw_below_drewN | apply below_drew1 | refine below_set ?_ (IsS87.ge HI335.out) | refine below_set ?_ GE328.out) | exact HB.out)) hb); clear HO_10; clear HO392; clear HO395; clear HO398; clear BK328; clear HI335; clear HB; have HO_10 := n0_; have HO392 := n1_; have HO395 := n2_; have HO398 := n3_; have HO405 := n4_; have BK328 := n5_; have HI335 := n6_; have HB := n7_; clear n0_ n1_ n2_ n3_ n4_ n5_ n6_ n7_; clear hb ho82; obtain ⟨Ao83, co83, eo83⟩ := Kd.R_slice HO398.out; subst eo83; obtain ⟨Ao84, co84, eo84⟩ := Kd.R_slice HO405.out; subst eo84) | (go_at_call 13; (with_reducible refine (codewrightref11_Same.calls kj25 _ _ t396 _ _ y403 t406 _ ?side1 ?side2 ?side3 ?side4 A73.out).mono ?_); (case side1 => repeat (first | exact (Kd.R_reads' HO398.out).2.2 | (with_reducible refine Kd.C_alloc ?_ _) | (with_reducible refine Kd.C_drewN ?_ _) | (with_reducible refine Kd.C_drew ?_))); (case side2 => exact (Kd.R_reads' HO398.out).2.1); (case side3 => repeat (first | exact (Kd.R_reads' HO405.out).2.2 | (with_reducible refine Kd.C_alloc ?_ _) | (with_reducible refine Kd.C_drewN ?_ _) | (with_reducible refine Kd.C_drew ?_))); (case side4 => exact (Kd.R_reads' HO405.out).2.1); rintro e w' ⟨rfl, ⟨nd, rfl⟩⟩))
          go_ret
          exact ⟨by first | rfl | (simp [errW_none, errW_some] <;> rfl) | (simp [*, errW_none, errW_some] <;> rfl), by repeat (first | (with_reducible first | exact HB.out | apply below_alloc | apply pw_below_drewN | apply below_drew1 | refine below_set ?_ (IsS87.ge HI335.out) | refine below_set ?_ GE328.out) | exact HB.out | exact below_tr HBW.out HB.out)⟩
         ·rw [if_neg c72] at H
          have c72b0 : (t399 == 0) = false := beq_eq_false_iff_ne.mpr c72
          have c72b1 : (t399 != 0) = true := bne_iff_ne.mpr c72
          obtain rfl := Option.some.inj H
          go_wp2_with (first | ((with_reducible refine gate_dst (N := 97) rfl ?_); (try (refine gate_guard (by rfl) ?_; dsimp only)); refine Kd.R_lit (Kd.int .i64) _ 3 ?hg (N := 97) ?hd (xs := ([1, 0] : List Int)) (inner := [.int .i64 1, .int .i64 0]) (ok := fun _ => True) (okp := fun _ => True) ?hr ?hp (fun _ hk => hk) trivial (Below.refl _ _) (Nat.le_refl _) (by simp) ?_; (case hd => rfl); (case hg => rfl); (case hr => first | (go_simp; done) | (go_simp; rfl)); (case hp => exact (Reps.one (show Kd.M (Kd.int .i64) _ _ _ 1 [.int .i64 1] from rfl) (Reps.one (show Kd.M (Kd.int .i64) _ _ _ 0 [.int .i64 0] from rfl) (Reps.none _ _)))); intro v391 w85 ho86 hb hg_ hnew_; clear hg_ hnew_; (first | rw [← Ny390.out] at ho86 | (simp only [Int.reduceToNat] at ho86; rw [← Ny390.out] at ho86)); have n0_ := Aside0.mk (Kd.R_elder' (by (with_reducible repeat (first | apply Kd.R_alloc | apply Kd.R_drewN | apply Kd.R_drew)); exact HO_10.out) (Kd.R_base ho86) hb); have n1_ := Aside0.mk (Kd.R_lower (Kd.R_new' ho86 (Kd.R_lt (by (with_reducible repeat (first | apply Kd.R_alloc | apply Kd.R_drewN | apply Kd.R_drew)); exact HO_10.out))) (below_size (by repeat (first | (with_reducible first | exact HB.out | apply below_alloc | apply pw_below_drewN | apply below_drew1 | refine below_set ?_ (IsS87.ge HI335.out) | refine below_set ?_ GE328.out) | exact HB.out)))); have n2_ := Aside0.mk (blk_below (g := gb328) (o := .cells #[.int .i64 a0_0, .int .i64 a0_1, .slice A0_2 l0_2.length c0_2] 24 (0, 0)) (by (with_reducible repeat (first | refine blk_drewN ?_ _ | refine blk_drew ?_ | refine blk_alloc ?_ _)); exact BK328.out) hb); have n3_ := Aside0.mk (IsS87.below (by repeat (first | (with_reducible first | exact HI335.out | apply IsS87.alloc | apply IsS87.drewN | apply IsS87.drew | apply IsS87.set_0 | apply IsS87.set_1 | apply IsS87.set_3 | refine IsS87.far ?_ NB335_328.out _) | exact HI335.out)) hb); have n4_ := Aside0.mk (below_step (by repeat (first | (with_reducible first | exact HB.out | apply below_alloc | apply pw_below_drewN | apply below_drew1 | refine below_set ?_ (IsS87.ge HI335.out) | refine below_set ?_ GE328.out) | exact HB.out)) hb); clear HO_10; clear BK328; clear HI335; clear HB; have HO_10 := n0_; have HO392 := n1_; have BK328 := n2_; have HI335 := n3_; have HB := n4_; clear n0_ n1_ n2_ n3_ n4_; clear hb ho86) | ((with_reducible refine gate_dst (N := 98) rfl ?_); (try (refine gate_guard (by rfl) ?_; dsimp only)); refine Kd.R_lit (Kd.int .i64) _ 3 ?hg (N := 98) ?hd (xs := ([0, 1] : List Int)) (inner := [.int .i64 0, .int .i64 1]) (ok := fun _ => True) (okp := fun _ => True) ?hr ?hp (fun _ hk => hk) trivial (Below.refl _ _) (Nat.le_refl _) (by simp) ?_; (case hd => rfl); (case hg => rfl); (case hr => first | (go_simp; done) | (go_simp; rfl)); (case hp => exact (Reps.one (show Kd.M (Kd.int .i64) _ _ _ 0 [.int .i64 0] from rfl) (Reps.one (show Kd.M (Kd.int .i64) _ _ _ 1 [.int .i64 1] from rfl) (Reps.none _ _)))); intro v394 w87 ho88 hb hg_ hnew_; clear hg_ hnew_; (first | rw [← Ny393.out] at ho88 | (simp only [Int.reduceToNat] at ho88; rw [← Ny393.out] at ho88)); have n0_ := Aside0.mk (Kd.R_elder' (by (with_reducible repeat (first | apply Kd.R_alloc | apply Kd.R_drewN | apply Kd.R_drew)); exact HO_10.out) (Kd.R_base ho88) hb); have n1_ := Aside0.mk (Kd.R_elder' (by (with_reducible repeat (first | apply Kd.R_alloc | apply Kd.R_drewN | apply Kd.R_drew)); exact HO392.out) (Kd.R_base ho88) hb); have n2_ := Aside0.mk (Kd.R_lower (Kd.R_new' (Kd.R_new' ho88 (Kd.R_lt (by (with_reducible repeat (first | apply Kd.R_alloc | apply Kd.R_drewN | apply Kd.R_drew)); exact HO_10.out))) (Kd.R_lt (by (with_reducible repeat (first | apply Kd.R_alloc | apply Kd.R_drewN | apply Kd.R_drew)); exact HO392.out))) (below_size (by repeat (first | (with_reducible first | exact HB.out | apply below_alloc | apply pw_below_drewN | apply below_drew1 | refine below_set ?_ (IsS87.ge HI335.out) | refine below_set ?_ GE328.out) | exact HB.out)))); have n3_ := Aside0.mk (blk_below (g := gb328) (o := .cells #[.int .i64 a0_0, .int .i64 a0_1, .slice A0_2 l0_2.length c0_2] 24 (0, 0)) (by (with_reducible repeat (first | refine blk_drewN ?_ _ | refine blk_drew ?_ | refine blk_alloc ?_ _)); exact BK328.out) hb); have n4_ := Aside0.mk (IsS87.below (by repeat (first | (with_reducible first | exact HI335.out | apply IsS87.alloc | apply IsS87.drewN | apply IsS87.drew | apply IsS87.set_0 | apply IsS87.set_1 | apply IsS87.set_3 | refine IsS87.far ?_ NB335_328.out _) | exact HI335.out)) hb); have n5_ := Aside0.mk (below_step (by repeat (first | (with_reducible first | exact HB.out | apply below_alloc | apply pw_below_drewN | apply below_drew1 | refine below_set ?_ (IsS87.ge HI335.out) | refine below_set ?_ GE328.out) | exact HB.out)) hb); clear HO_10; clear HO392; clear BK328; clear HI335; clear HB; have HO_10 := n0_; have HO392 := n1_; have HO395 := n2_; have BK328 := n3_; have HI335 := n4_; have HB := n5_; clear n0_ n1_ n2_ n3_ n4_ n5_; clear hb ho88; obtain ⟨Ao89, co89, eo89⟩ := Kd.R_slice HO392.out; subst eo89; obtain ⟨Ao90, co90, eo90⟩ := Kd.R_slice HO395.out; subst eo90) | ((with_reducible refine gate_callee (f := 19) rfl ?_); refine goesL_ (some 99) rfl rfl Try.func19 (by kernel_rfl) rfl #[.pointer (some ⟨g335, 0, none⟩), .slice Ao89 y390.length co89, .slice Ao90 y393.length co90] rfl (by (try simp only [List.map_toArray, List.map_cons, List.map_nil]); first | done | rfl | (simp only [List.length_drop, List.length_take]; rfl)) ?_; (with_reducible refine (word_Add.calls kj25 g335 t354 t355 t331 t356 t333 t334 _ _ y390 _ _ y393 t396 t399 t400 t401 t402 w _ ?side1 ?side2 ?side3 ?side4 ?side5 ?side6 ?side7 ?side8 A71.out).mono ?_); (case side1 => repeat (first | (with_reducible first | exact HI335.out | apply IsS87.alloc | apply IsS87.drewN | apply IsS87.drew | apply IsS87.set_0 | apply IsS87.set_1 | apply IsS87.set_3 | refine IsS87.far ?_ NB335_328.out _) | exact HI335.out)); (case side2 => repeat (first | (with_reducible first | exact HB.out | apply below_alloc | apply pw_below_drewN | apply below_drew1 | refine below_set ?_ (IsS87.ge HI335.out) | refine below_set ?_ GE328.out) | exact HB.out)); (case side3 => repeat (first | exact (Kd.R_reads' HO392.out).2.2 | (with_reducible refine Kd.C_alloc ?_ _) | (with_reducible refine Kd.C_drewN ?_ _) | (with_reducible refine Kd.C_drew ?_))); (case side4 => exact (Kd.R_reads' HO392.out).2.1); (case side5 => exact far_slice (IsS87.own_ne HI335.out HO392.out (by decide))); (case side6 => repeat (first | exact (Kd.R_reads' HO395.out).2.2 | (with_reducible refine Kd.C_alloc ?_ _) | (with_reducible refine Kd.C_drewN ?_ _) | (with_reducible refine Kd.C_drew ?_))); (case side7 => exact (Kd.R_reads' HO395.out).2.1); (case side8 => exact far_slice (IsS87.own_ne HI335.out HO395.out (by decide))); rintro e w91 ⟨v397, rfl, ho0, hi, hb, hk⟩; refine ⟨_, rfl, ?_⟩; have n0_ := Aside0.mk (Kd.R_mono (Kd.R_told (Kd.R_oldK (IsS87.apart (show IsS87 w _ g335 t354 t355 t331 t356 t333 t334 from by repeat (first | (with_reducible first | exact HI335.out | apply IsS87.alloc | apply IsS87.drewN | apply IsS87.drew | apply IsS87.set_0 | apply IsS87.set_1 | apply IsS87.set_3 | refine IsS87.far ?_ NB335_328.out _) | exact HI335.out)) (by (with_reducible repeat (first | apply Kd.R_alloc | apply Kd.R_drewN | apply Kd.R_drew)); exact HO_10.out) (by decide)) hk) (Kd.R_base ho0)) (fun _ h_ => h_.1)); have n1_ := Aside0.mk (KeepBut.blk hk (g' := gb328) (o := .cells #[.int .i64 a0_0, .int .i64 a0_1, .slice A0_2 l0_2.length c0_2] 24 (0, 0)) (by (with_reducible repeat (first | refine blk_drewN ?_ _ | refine blk_drew ?_ | refine blk_alloc ?_ _)); exact BK328.out) NB328_335.out (by simp)); have n2_ := Aside0.mk (Kd.R_mono (Kd.R_told (Kd.R_oldK (IsS87.apart (show IsS87 w _ g335 t354 t355 t331 t356 t333 t334 from by repeat (first | (with_reducible first | exact HI335.out | apply IsS87.alloc | apply IsS87.drewN | apply IsS87.drew | apply IsS87.set_0 | apply IsS87.set_1 | apply IsS87.set_3 | refine IsS87.far ?_ NB335_328.out _) | exact HI335.out)) (by (with_reducible repeat (first | apply Kd.R_alloc | apply Kd.R_drewN | apply Kd.R_drew)); exact HO392.out) (by decide)) hk) (Kd.R_base ho0)) (fun _ h_ => h_.1)); have n3_ := Aside0.mk (Kd.R_mono (Kd.R_told (Kd.R_oldK (IsS87.apart (show IsS87 w _ g335 t354 t355 t331 t356 t333 t334 from by repeat (first | (with_reducible first | exact HI335.out | apply IsS87.alloc | apply IsS87.drewN | apply IsS87.drew | apply IsS87.set_0 | apply IsS87.set_1 | apply IsS87.set_3 | refine IsS87.far ?_ NB335_328.out _) | exact HI335.out)) (by (with_reducible repeat (first | apply Kd.R_alloc | apply Kd.R_drewN | apply Kd.R_drew)); exact HO395.out) (by decide)) hk) (Kd.R_base ho0)) (fun _ h_ => h_.1)); have n4_ := Aside0.mk (Kd.R_lower (Kd.R_new' (Kd.R_new' (Kd.R_new' ho0 (Kd.R_lt (by (with_reducible repeat (first | apply Kd.R_alloc | apply Kd.R_drewN | apply Kd.R_drew)); exact HO_10.out))) (Kd.R_lt (by (with_reducible repeat (first | apply Kd.R_alloc | apply Kd.R_drewN | apply Kd.R_drew)); exact HO392.out))) (Kd.R_lt (by (with_reducible repeat (first | apply Kd.R_alloc | apply Kd.R_drewN | apply Kd.R_drew)); exact HO395.out))) (below_size (by repeat (first | (with_reducible first | exact HB.out | apply below_alloc | apply pw_below_drewN | apply below_drew1 | refine below_set ?_ (IsS87.ge HI335.out) | refine below_set ?_ GE328.out) | exact HB.out)))); have n5_ := Aside0.mk (hb); have n6_ := Aside0.mk (hi); clear HO_10; clear BK328; clear HO392; clear HO395; clear HB; clear HI335; have HO_10 := n0_; have BK328 := n1_; have HO392 := n2_; have HO395 := n3_; have HO398 := n4_; have HB := n5_; have HI335 := n6_; clear n0_ n1_ n2_ n3_ n4_ n5_ n6_; (try clear hb); (try clear hb2); (try clear hk); (try clear hi); (try clear ho0)))
          go_ret
          exact ⟨by first | rfl | (simp [errW_none, errW_some] <;> rfl) | (simp [*, errW_none, errW_some] <;> rfl), by repeat (first | (with_reducible first | exact HB.out | apply below_alloc | apply pw_below_drewN | apply below_drew1 | refine below_set ?_ (IsS87.ge HI335.out) | refine below_set ?_ GE328.out) | exact HB.out | exact below_tr HBW.out HB.out)⟩

end Go.Proofs.Ythgaihhlbgccoaa.Q
