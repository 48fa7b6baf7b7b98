-- Joined by pack.py, a program of this work: NoWordTriangle PureWordTriangle
import Derived.Test.YthgaihhlbgccoaaZQx64
import Derived.Test.YthgaihhlbgccoaaZPw
import Derived.Test.YthgaihhlbgccoaaZOp
/- Where open says 'no field': cw_WordTriangle returns true. Printed by mkno.py. -/
namespace Go.Proofs.Ythgaihhlbgccoaa.Q
open Go.RowKit Go.Proofs.YthgaihhlbgccoaaW.PrintWords Go.Proofs.YthgaihhlbgccoaaW.PrintLast Go.Proofs.YthgaihhlbgccoaaW.PrintMore
set_option linter.unusedVariables false
set_option linter.unusedSimpArgs false
set_option maxHeartbeats 8000000 in
set_option maxRecDepth 100000 in
theorem cw_WordTriangle.calls_no (k : Nat) (a0_0 : Int) (a0_1 : Int) (A0_2 : Option Addr) (c0_2 : Nat) (l0_2 : List Int) (A0_3 : Option Addr) (c0_3 : Nat) (l0_3 : List Int) (A0_4 : Option Addr) (c0_4 : Nat) (l0_4 : List Int) (A0_5 : Option Addr) (c0_5 : Nat) (l0_5 : List Int) (sm sx sl : List Int) (c : Int) (w : World) (hr0_2 : Kd.C (Kd.int .i64) w A0_2 l0_2.length l0_2) (hc0_2 : l0_2.length ≤ c0_2) (hr0_3 : Kd.C (Kd.int .i64) w A0_3 l0_3.length l0_3) (hc0_3 : l0_3.length ≤ c0_3) (hr0_4 : Kd.C (Kd.int .i64) w A0_4 l0_4.length l0_4) (hc0_4 : l0_4.length ≤ c0_4) (hr0_5 : Kd.C (Kd.int .i64) w A0_5 l0_5.length l0_5) (hc0_5 : l0_5.length ≤ c0_5) (hN : field_New.f k a0_0 a0_1 l0_2 = some (sm, sx, sl, 1)) (hC : cr4_Check.f k a0_0 a0_1 l0_2 = some c) (hc : (c == 0) = false) :
  Calls Try.prog 8 #[.agg #[.int .i64 a0_0, .int .i64 a0_1, .slice A0_2 l0_2.length c0_2, .slice A0_3 l0_3.length c0_3, .slice A0_4 l0_4.length c0_4, .slice A0_5 l0_5.length c0_5]] w fun e w' => e = .returned (.bool true) ∧ Below w.heap.size w w' := by
 have hu24 := Try.underlying24
 have hu49 := Try.underlying49
 have HR0_2 := Aside0.mk hr0_2
 have HC0_2 := Aside0.mk hc0_2
 clear hr0_2 hc0_2
 have HB := Aside0.mk (Below.refl w.heap.size w)
 have AN := Aside0.mk hN
 have AC := Aside0.mk hC
 clear hN hC
 go_enter Try.func8, Try.ntmps8
 go_wp2_with (first | ((with_reducible refine gate_dst (N := 1) rfl ?_); (try (refine gate_guard (by rfl) ?_; dsimp only)); refine box_event ?hg (N := 1) ?hd (cs := #[.int .i64 a0_0, .int .i64 a0_1, .slice A0_2 l0_2.length c0_2, .slice A0_3 l0_3.length c0_3, .slice A0_4 l0_4.length c0_4, .slice A0_5 l0_5.length c0_5]) (t := 49) ?hr ?_; (case hd => rfl); (case hg => rfl); (case hr => first | (go_simp; done) | (go_simp; rfl)); intro gb hg w7 hbox hb; have n0_ := Aside0.mk (below_step HB.out hb); have BK := Aside0.mk hbox; clear HB; have HB := n0_; clear n0_; clear hb hbox hg; have hcz8_0 : w7.cell? ⟨gb, 0, none⟩ = some (.int .i64 a0_0) := (blk_cell BK.out 0).trans rfl; have hfz8_0 := blk_frozen BK.out 0; have hcz8_1 : w7.cell? ⟨gb, 1, none⟩ = some (.int .i64 a0_1) := (blk_cell BK.out 1).trans rfl; have hfz8_1 := blk_frozen BK.out 1; have hcz8_2 : w7.cell? ⟨gb, 2, none⟩ = some (.slice A0_2 l0_2.length c0_2) := (blk_cell BK.out 2).trans rfl; have hfz8_2 := blk_frozen BK.out 2; have hcz8_3 : w7.cell? ⟨gb, 3, none⟩ = some (.slice A0_3 l0_3.length c0_3) := (blk_cell BK.out 3).trans rfl; have hfz8_3 := blk_frozen BK.out 3; have hcz8_4 : w7.cell? ⟨gb, 4, none⟩ = some (.slice A0_4 l0_4.length c0_4) := (blk_cell BK.out 4).trans rfl; have hfz8_4 := blk_frozen BK.out 4; have hcz8_5 : w7.cell? ⟨gb, 5, none⟩ = some (.slice A0_5 l0_5.length c0_5) := (blk_cell BK.out 5).trans rfl; have hfz8_5 := blk_frozen BK.out 5) | ((with_reducible refine gate_callee (f := 12) rfl ?_); refine goesL_ (some 19) rfl rfl Try.func12 (by kernel_rfl) rfl #[.agg #[.int .i64 a0_0, .int .i64 a0_1, .slice A0_2 l0_2.length c0_2]] rfl (by (try simp only [List.map_toArray, List.map_cons, List.map_nil]); first | done | rfl | (simp only [List.length_drop, List.length_take]; rfl)) ?_; (refine (cw_open.calls_no k a0_0 a0_1 _ _ l0_2 _ _ _ c _ (Kd.C_below HR0_2.out HB.out) HC0_2.out AN.out AC.out hc).mono ?_); rintro e w9 ⟨rfl, hb⟩; refine ⟨_, rfl, ?_⟩; have n0_ := Aside0.mk (below_step HB.out hb); clear HB; have HB := n0_; clear n0_ hb))
 go_ret
 exact ⟨rfl, HB.out⟩
end Go.Proofs.Ythgaihhlbgccoaa.Q
/- WordTriangle: for every description of a field and all lists. -/
namespace Go.Proofs.Ythgaihhlbgccoaa.Pure
open Go.RowKit Go.Proofs.Ythgaihhlbgccoaa.Q Go.Proofs.YthgaihhlbgccoaaW.PrintWords Go.Proofs.YthgaihhlbgccoaaW.PrintLast Go.Proofs.Ythgaihhlbgccoaa.Fv Go.Proofs.Ythgaihhlbgccoaa.Fo Go.Proofs.Ythgaihhlbgccoaa.Fp Go.Proofs.Ythgaihhlbgccoaa.Fn Go.Proofs.Ythgaihhlbgccoaa.Op Go.Proofs.Ythgaihhlbgccoaa.Cl Go.Proofs.Ythgaihhlbgccoaa.Ad Go.Proofs.Ythgaihhlbgccoaa.Pw

theorem dist_ones {q : Nat} (hq : 1 < (q : Int)) : ((dist q [1, 0, 1] [0, 0, 1]).length : Int) = 1 := by
 have e : dist q [1, 0, 1] [0, 0, 1] = supp 3 (fun t => rd [1, 0, 0] (t : Int)) := by
  refine supp_congr 3 _ _ (fun i hi => ?_)
  have e1 : c q 1 = 1 := c_id (by omega) (by omega)
  have e2 : c q 0 = 0 := c_id (by omega) (by omega)
  obtain rfl | rfl | rfl : i = 0 ∨ i = 1 ∨ i = 2 := by omega
  ·show (if c q 1 = c q 0 then (0 : Int) else 1) = 0 ↔ (1 : Int) = 0
   rw [e1, e2]; decide
  ·show (if c q 0 = c q 0 then (0 : Int) else 1) = 0 ↔ (0 : Int) = 0
   rw [if_pos rfl]
  ·show (if c q 1 = c q 1 then (0 : Int) else 1) = 0 ↔ (0 : Int) = 0
   rw [if_pos rfl]
 rw [e]; decide
theorem dist_comm (q : Nat) (a b : List Int) (h : a.length = b.length) : dist q a b = dist q b a := by
 unfold dist
 rw [h]
 refine supp_congr _ _ _ (fun i _ => ?_)
 by_cases e : c q (rd a (i : Int)) = c q (rd b (i : Int))
 ·rw [if_pos e, if_pos e.symm]
 ·rw [if_neg e, if_neg (fun h => e h.symm)]
theorem supp_nil : ∀ (n : Nat) (f : Nat → Int), (supp n f).length = 0 ↔ ∀ i, i < n → f i = 0
 | 0, f => by simp [supp]
 | n + 1, f => by
  have ih := supp_nil n f
  by_cases e : f n = 0
  ·have e1 : supp (n + 1) f = supp n f := if_pos e
   rw [e1, ih]
   constructor
   ·intro h i hi
    by_cases e2 : i = n
    ·subst e2; exact e
    ·exact h i (by omega)
   ·intro h i hi; exact h i (by omega)
  ·have e1 : supp (n + 1) f = supp n f ++ [(n : Int)] := if_neg e
   rw [e1]
   constructor
   ·intro h; simp at h
   ·intro h; exact absurd (h n (by omega)) e
theorem dist_zero (q : Nat) (a b : List Int) (h : a.length = b.length) : (dist q a b).length = 0 ↔ cl q a = cl q b := by
 unfold dist
 rw [supp_nil]
 constructor
 ·intro hd
  show L a.length _ = L b.length _
  rw [← h]
  refine L_congr _ _ _ (fun i hi => ?_)
  have := hd i hi
  by_cases e : c q (rd a (i : Int)) = c q (rd b (i : Int))
  ·exact e
  ·rw [if_neg e] at this; exact absurd this (by decide)
 ·intro hd i hi
  have e : c q (rd a (i : Int)) = c q (rd b (i : Int)) := by
   rw [← rd_cl _ _ _ hi, ← rd_cl _ _ _ (by omega), hd]
  rw [if_pos e]
theorem supp_tri (f g h : Nat → Int) (H : ∀ i, f i = 0 → g i = 0 → h i = 0) : ∀ n : Nat, (supp n h).length ≤ (supp n f).length + (supp n g).length
 | 0 => by simp [supp]
 | n + 1 => by
  have ih := supp_tri f g h H n
  have s (f : Nat → Int) : (supp (n + 1) f).length = (supp n f).length + if f n = 0 then 0 else 1 := by
   by_cases e : f n = 0
   ·have e1 : supp (n + 1) f = supp n f := if_pos e
    rw [e1, if_pos e]; omega
   ·have e1 : supp (n + 1) f = supp n f ++ [(n : Int)] := if_neg e
    rw [e1, if_neg e, List.length_append]; rfl
  rw [s f, s g, s h]
  have := H n
  by_cases e1 : f n = 0
  ·by_cases e2 : g n = 0
   ·rw [if_pos (this e1 e2), if_pos e1, if_pos e2]; omega
   ·rw [if_neg e2]; split <;> omega
  ·rw [if_neg e1]; split <;> split <;> omega
theorem dist_tri (q : Nat) (a b d : List Int) (h1 : a.length = b.length) : (dist q a d).length ≤ (dist q a b).length + (dist q b d).length := by
 unfold dist
 rw [← h1]
 refine supp_tri _ _ _ (fun i h2 h3 => ?_) _
 by_cases e1 : c q (rd a (i : Int)) = c q (rd b (i : Int))
 ·by_cases e2 : c q (rd b (i : Int)) = c q (rd d (i : Int))
  ·show (if c q (rd a (i : Int)) = c q (rd d (i : Int)) then (0 : Int) else 1) = 0
   rw [if_pos (e1.trans e2)]
  ·have h3' : (if c q (rd b (i : Int)) = c q (rd d (i : Int)) then (0 : Int) else 1) = 0 := h3
   rw [if_neg e2] at h3'; exact absurd h3' (by decide)
 ·have h2' : (if c q (rd a (i : Int)) = c q (rd b (i : Int)) then (0 : Int) else 1) = 0 := h2
  rw [if_neg e1] at h2'; exact absurd h2' (by decide)
theorem WordTriangle_field {P : Int} {m q : Nat} {Mod : List Int} {g : Int} (hP : P ≤ 9223372036854775807) (hq : ord P m = (q : Int)) (hf : Fld P m q Mod g)
  (ho : Ev (fun k => cw_open.f k P m Mod) (P, (m : Int), Mod, (q : Int), ex P m q Mod g, lo P m q Mod g, false, true)) (A B C : List Int) (hA : A.length ≤ 17592186044416) : Ev (fun k => cw_WordTriangle.f k P m Mod A B C) true := by
 have s := hf.s
 have hd (a b : List Int) (ha : a.length ≤ 17592186044416) (h : a.length = b.length) : Ev (fun k => word_Distance.f k P m Mod q (ex P m q Mod g) (lo P m q Mod g) a b) (((dist q a b).length : Int), 0, P, (m : Int), (q : Int)) := by
  have h1 := distance_ev (m := (m : Int)) (M' := Mod) (E := ex P m q Mod g) (G := lo P m q Mod g) s a b ha
  rwa [if_pos h] at h1
 unfold cw_WordTriangle.f
 refine ho.bind ?_
 dsimp only
 refine Ev.congr (fun k => if_neg Bool.false_ne_true) ?_
 refine (hd [1, 0, 1] [0, 0, 1] (by decide) rfl).bind ?_
 dsimp only
 rw [dist_ones (one_pos s)]
 refine Ev.congr (fun k => if_pos rfl) ?_
 have out : Ev (fun k => cw_WordTriangle.j1 k true P m Mod A B C P m Mod q (ex P m q Mod g) (lo P m q Mod g)) true :=
  Ev.step (f := fun _ => some true) (fun k => by simp only [cw_WordTriangle.j1]; rw [if_pos trivial]) (Ev.now _)
 by_cases hab : A.length = B.length
 ·by_cases hbc : B.length = C.length
  ·refine Ev.step (f := fun k => cw_WordTriangle.j1 k false P m Mod A B C P m Mod q (ex P m q Mod g) (lo P m q Mod g)) (fun k => ?_) ?_
   ·simp only [cw_WordTriangle.j0]
    have e : ((B.length : Int) != (C.length : Int)) = false := by rw [bne_eq_false_iff_eq]; omega
    rw [if_neg (by simp), if_pos (by omega), e]
   refine Ev.step (f := fun k => (word_Distance.f k P m Mod q (ex P m q Mod g) (lo P m q Mod g) A B).bind fun bt647 => ((word_Distance.f k bt647.2.2.1 bt647.2.2.2.1 Mod bt647.2.2.2.2 (ex P m q Mod g) (lo P m q Mod g) B A).bind fun bt652 => ((word_Distance.f k bt652.2.2.1 bt652.2.2.2.1 Mod bt652.2.2.2.2 (ex P m q Mod g) (lo P m q Mod g) B C).bind fun bt657 => ((word_Distance.f k bt657.2.2.1 bt657.2.2.2.1 Mod bt657.2.2.2.2 (ex P m q Mod g) (lo P m q Mod g) A C).bind fun bt662 => (if bt647.2.1 = 0 then (if bt652.2.1 = 0 then (if bt657.2.1 = 0 then (cw_WordTriangle.j2 k bt647.1 bt652.1 bt657.1 bt662.1 (bt662.2.1 != 0) P m Mod A B C) else (cw_WordTriangle.j2 k bt647.1 bt652.1 bt657.1 bt662.1 true P m Mod A B C)) else (cw_WordTriangle.j2 k bt647.1 bt652.1 bt657.1 bt662.1 true P m Mod A B C)) else (cw_WordTriangle.j2 k bt647.1 bt652.1 bt657.1 bt662.1 true P m Mod A B C))))))
    (fun k => by simp only [cw_WordTriangle.j1]; rw [if_neg (by simp)]) ((hd A B hA hab).bind ?_)
   dsimp only
   refine (hd B A (by omega) hab.symm).bind ?_
   dsimp only
   refine (hd B C (by omega) hbc).bind ?_
   dsimp only
   refine (hd A C hA (by omega)).bind ?_
   dsimp only
   refine Ev.congr (fun k => if_pos rfl) (Ev.congr (fun k => if_pos rfl) (Ev.congr (fun k => if_pos rfl) ?_))
   refine Ev.step (f := fun k => (crB_Clean.f k P m Mod A).bind fun t667 => ((crB_Clean.f k P m Mod B).bind fun t670 => ((crB_Same.f k t667 t670).bind fun t673 => (if ((((dist q A B).length : Int) == 0) != t673) = true then (some false) else (some (decide (((dist q A C).length : Int) ≤ (wrap64 (((dist q A B).length : Int) + ((dist q B C).length : Int)))))))))) (fun k => ?_) ?_
   ·simp only [cw_WordTriangle.j2]
    rw [if_neg (by simp), if_pos (by rw [dist_comm q A B hab])]
   refine (rclean_ev hP hq A (by omega)).bind ((rclean_ev hP hq B (by omega)).bind ((same_ev _ _ (by rw [cl_length]; omega)).bind ?_))
   have e1 : (((dist q A B).length : Int) == 0) = decide (cl q A = cl q B) := by
    have h1 := dist_zero q A B hab
    by_cases h : cl q A = cl q B
    ·rw [decide_eq_true h, beq_iff_eq]; have := h1.2 h; omega
    ·rw [decide_eq_false h, beq_eq_false_iff_ne]; intro h2; exact h (h1.1 (by omega))
   rw [e1, bne_self_eq_false]
   have h2 := dist_tri q A B C hab
   have h3 := supp_length A.length (fun i => if c q (rd A (i : Int)) = c q (rd B (i : Int)) then 0 else 1)
   have h4 := supp_length B.length (fun i => if c q (rd B (i : Int)) = c q (rd C (i : Int)) then 0 else 1)
   have h3' : (dist q A B).length ≤ A.length := h3
   have h4' : (dist q B C).length ≤ B.length := h4
   rw [w64_id (by omega) (by omega), decide_eq_true (by omega)]
   exact Ev.congr (fun k => if_neg Bool.false_ne_true) (Ev.now _)
  ·refine Ev.step (fun k => ?_) out
   simp only [cw_WordTriangle.j0]
   have e : ((B.length : Int) != (C.length : Int)) = true := by rw [bne_iff_ne]; omega
   rw [if_neg (by simp), if_pos (by omega), e]
 ·refine Ev.step (fun k => ?_) out
  simp only [cw_WordTriangle.j0]
  rw [if_neg (by simp), if_neg (by omega)]
theorem WordTriangle (a0_0 a0_1 : Int) (A0_2 : Option Addr) (c0_2 : Nat) (l0_2 : List Int) (A0_3 : Option Addr) (c0_3 : Nat) (l0_3 : List Int) (A0_4 : Option Addr) (c0_4 : Nat) (l0_4 : List Int) (A0_5 : Option Addr) (c0_5 : Nat) (l0_5 : List Int) (w : World) (hP : a0_0 ≤ 9223372036854775807)
  (hr0_2 : Kd.C (Kd.int .i64) w A0_2 l0_2.length l0_2) (hc0_2 : l0_2.length ≤ c0_2) (hr0_3 : Kd.C (Kd.int .i64) w A0_3 l0_3.length l0_3) (hc0_3 : l0_3.length ≤ c0_3) (hr0_4 : Kd.C (Kd.int .i64) w A0_4 l0_4.length l0_4) (hc0_4 : l0_4.length ≤ c0_4) (hr0_5 : Kd.C (Kd.int .i64) w A0_5 l0_5.length l0_5) (hc0_5 : l0_5.length ≤ c0_5) (y3 : l0_3.length * 8 ≤ 140737488351232) (_y4 : l0_4.length * 8 ≤ 140737488351232) (_y5 : l0_5.length * 8 ≤ 140737488351232) :
  Calls Try.prog 8 #[.agg #[.int .i64 a0_0, .int .i64 a0_1, .slice A0_2 l0_2.length c0_2, .slice A0_3 l0_3.length c0_3, .slice A0_4 l0_4.length c0_4, .slice A0_5 l0_5.length c0_5]] w fun e w' => e = .returned (.bool true) ∧ Below w.heap.size w w' := by
 rcases open_or a0_0 a0_1 l0_2 hP with ⟨q, m, g, rfl, hq, hf, ho⟩ | ⟨⟨K1, h1⟩, ⟨K2, h2⟩⟩
 ·obtain ⟨k, h⟩ := (WordTriangle_field hP hq hf ho l0_3 l0_4 l0_5 (by omega)).rounds
  exact cw_WordTriangle.calls k a0_0 m A0_2 c0_2 l0_2 A0_3 c0_3 l0_3 A0_4 c0_4 l0_4 A0_5 c0_5 l0_5 true w hr0_2 hc0_2 hr0_3 hc0_3 hr0_4 hc0_4 hr0_5 hc0_5 h
 ·exact cw_WordTriangle.calls_no (max K1 K2) a0_0 a0_1 A0_2 c0_2 l0_2 A0_3 c0_3 l0_3 A0_4 c0_4 l0_4 A0_5 c0_5 l0_5 [] [] [] 1 w hr0_2 hc0_2 hr0_3 hc0_3 hr0_4 hc0_4 hr0_5 hc0_5 (h1 _ (by omega)) (h2 _ (by omega)) (by decide)
end Go.Proofs.Ythgaihhlbgccoaa.Pure
