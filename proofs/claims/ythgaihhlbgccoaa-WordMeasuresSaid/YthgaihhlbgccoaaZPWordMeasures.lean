-- Joined by pack.py, a program of this work: NoWordMeasures PureWordMeasures
import Derived.Test.YthgaihhlbgccoaaZQx66
import Derived.Test.YthgaihhlbgccoaaZPw
import Derived.Test.YthgaihhlbgccoaaZOp
/- Where open says 'no field': codewrightlaw11_WordMeasures returns true. Printed by mkno.py. -/
namespace Go.Proofs.Ythgaihhlbgccoaa.Q
open Go.RowKit Go.Proofs.YthgaihhlbgccoaaW.PrintWords Go.Proofs.YthgaihhlbgccoaaW.PrintLast Go.Proofs.YthgaihhlbgccoaaW.PrintMore
set_option linter.unusedVariables false
set_option linter.unusedSimpArgs false
set_option maxHeartbeats 8000000 in
set_option maxRecDepth 100000 in
theorem codewrightlaw11_WordMeasures.calls_no (k : Nat) (a0_0 : Int) (a0_1 : Int) (A0_2 : Option Addr) (c0_2 : Nat) (l0_2 : List Int) (A1 : Option Addr) (c1 : Nat) (l1 : List Int) (A2 : Option Addr) (c2 : Nat) (l2 : List Int) (sm sx sl : List Int) (c : Int) (w : World) (hr0_2 : Kd.C (Kd.int .i64) w A0_2 l0_2.length l0_2) (hc0_2 : l0_2.length ≤ c0_2) (hr1 : Kd.C (Kd.int .i64) w A1 l1.length l1) (hc1 : l1.length ≤ c1) (hr2 : Kd.C (Kd.int .i64) w A2 l2.length l2) (hc2 : l2.length ≤ c2) (hN : field_New.f k a0_0 a0_1 l0_2 = some (sm, sx, sl, 1)) (hC : codewrightref04_Check.f k a0_0 a0_1 l0_2 = some c) (hc : (c == 0) = false) :
  Calls Try.prog 9 #[.agg #[.int .i64 a0_0, .int .i64 a0_1, .slice A0_2 l0_2.length c0_2], .slice A1 l1.length c1, .slice A2 l2.length c2] w fun e w' => e = .returned (.bool true) ∧ Below w.heap.size w w' := by
 have hu24 := Try.underlying24
 have HR0_2 := Aside0.mk hr0_2
 have HC0_2 := Aside0.mk hc0_2
 clear hr0_2 hc0_2
 have HB := Aside0.mk (Below.refl w.heap.size w)
 have AN := Aside0.mk hN
 have AC := Aside0.mk hC
 clear hN hC
 go_enter Try.func9, Try.ntmps9
 go_wp2_with (first | ((with_reducible refine gate_dst (N := 3) rfl ?_); (try (refine gate_guard (by rfl) ?_; dsimp only)); refine box_event ?hg (N := 3) ?hd (cs := #[.int .i64 a0_0, .int .i64 a0_1, .slice A0_2 l0_2.length c0_2]) (t := 24) ?hr ?_; (case hd => rfl); (case hg => rfl); (case hr => first | (go_simp; done) | (go_simp; rfl)); intro gb hg w7 hbox hb; have n0_ := Aside0.mk (below_step HB.out hb); have BK := Aside0.mk hbox; clear HB; have HB := n0_; clear n0_; clear hb hbox hg; have hcz8_0 : w7.cell? ⟨gb, 0, none⟩ = some (.int .i64 a0_0) := (blk_cell BK.out 0).trans rfl; have hfz8_0 := blk_frozen BK.out 0; have hcz8_1 : w7.cell? ⟨gb, 1, none⟩ = some (.int .i64 a0_1) := (blk_cell BK.out 1).trans rfl; have hfz8_1 := blk_frozen BK.out 1; have hcz8_2 : w7.cell? ⟨gb, 2, none⟩ = some (.slice A0_2 l0_2.length c0_2) := (blk_cell BK.out 2).trans rfl; have hfz8_2 := blk_frozen BK.out 2) | ((with_reducible refine gate_callee (f := 12) rfl ?_); refine goesL_ (some 20) rfl rfl Try.func12 (by kernel_rfl) rfl #[.agg #[.int .i64 a0_0, .int .i64 a0_1, .slice A0_2 l0_2.length c0_2]] rfl (by (try simp only [List.map_toArray, List.map_cons, List.map_nil]); first | done | rfl | (simp only [List.length_drop, List.length_take]; rfl)) ?_; (refine (codewrightlaw11_open.calls_no k a0_0 a0_1 _ _ l0_2 _ _ _ c _ (Kd.C_below HR0_2.out HB.out) HC0_2.out AN.out AC.out hc).mono ?_); rintro e w9 ⟨rfl, hb⟩; refine ⟨_, rfl, ?_⟩; have n0_ := Aside0.mk (below_step HB.out hb); clear HB; have HB := n0_; clear n0_ hb))
 go_ret
 exact ⟨rfl, HB.out⟩
end Go.Proofs.Ythgaihhlbgccoaa.Q
/- WordMeasures: for every description of a field and all lists. -/
namespace Go.Proofs.Ythgaihhlbgccoaa.Pure
open Go.RowKit Go.Proofs.Ythgaihhlbgccoaa.Q Go.Proofs.YthgaihhlbgccoaaW.PrintWords Go.Proofs.YthgaihhlbgccoaaW.PrintLast Go.Proofs.Ythgaihhlbgccoaa.Fv Go.Proofs.Ythgaihhlbgccoaa.Fo Go.Proofs.Ythgaihhlbgccoaa.Fp Go.Proofs.Ythgaihhlbgccoaa.Fn Go.Proofs.Ythgaihhlbgccoaa.Op Go.Proofs.Ythgaihhlbgccoaa.Cl Go.Proofs.Ythgaihhlbgccoaa.Ad Go.Proofs.Ythgaihhlbgccoaa.Pw

theorem dist_one {q : Nat} (hq : 1 < (q : Int)) : ((dist q [1, 0, 1] [0, 0, 1]).length : Int) = 1 := by
 have e : dist q [1, 0, 1] [0, 0, 1] = supp 3 (fun t => rd [1, 0, 0] (t : Int)) := by
  refine supp_congr 3 _ _ (fun i hi => ?_)
  have e1 : c q 1 = 1 := c_id (by omega) (by omega)
  have e2 : c q 0 = 0 := c_id (by omega) (by omega)
  obtain rfl | rfl | rfl : i = 0 ∨ i = 1 ∨ i = 2 := by omega
  ·show (if c q 1 = c q 0 then (0 : Int) else 1) = 0 ↔ (1 : Int) = 0
   rw [e1, e2]; decide
  ·show (if c q 0 = c q 0 then (0 : Int) else 1) = 0 ↔ (0 : Int) = 0
   rw [if_pos rfl]
  ·show (if c q 1 = c q 1 then (0 : Int) else 1) = 0 ↔ (0 : Int) = 0
   rw [if_pos rfl]
 rw [e]; decide
theorem WordMeasures_field {P : Int} {m q : Nat} {Mod : List Int} {g : Int} (hP : P ≤ 9223372036854775807) (hq : ord P m = (q : Int)) (hf : Fld P m q Mod g)
  (ho : Ev (fun k => codewrightlaw11_open.f k P m Mod) (P, (m : Int), Mod, (q : Int), ex P m q Mod g, lo P m q Mod g, false, true)) (a b : List Int) (ha : a.length ≤ 17592186044416) : Ev (fun k => codewrightlaw11_WordMeasures.f k P m Mod a b) true := by
 have s := hf.s
 have last : ∀ d : Int × Int × Int × Int × Int, d = (((dist q [1, 0, 1] [0, 0, 1]).length : Int), 0, P, (m : Int), (q : Int)) → (if d.1 = 1 then some (d.2.1 == 0) else some false) = some true := by
  rintro _ rfl
  dsimp only
  rw [dist_one (one_pos s), if_pos rfl]; rfl
 have hd := distance_ev (m := (m : Int)) (M' := Mod) (E := ex P m q Mod g) (G := lo P m q Mod g) s [1, 0, 1] [0, 0, 1] (by decide)
 rw [if_pos (by rfl)] at hd
 unfold codewrightlaw11_WordMeasures.f
 refine ho.bind ?_
 dsimp only
 refine Ev.congr (fun k => if_neg Bool.false_ne_true) ?_
 refine (distance_ev s a b ha).bind ?_
 refine (rdistance_ev hP hq a b ha).bind ?_
 by_cases hab : a.length = b.length
 ·rw [if_pos hab, if_pos hab]
  dsimp only
  refine Ev.congr (fun k => if_pos rfl) ?_
  refine Ev.step (f := fun k => (word_Sub.f k P m Mod q (ex P m q Mod g) (lo P m q Mod g) a b).bind fun t => if t.2.1 = 0 then ((word_Weight.f k t.2.2.1 t.2.2.2.1 Mod t.2.2.2.2 (ex P m q Mod g) (lo P m q Mod g) t.1).bind fun u => if u.1 = ((dist q a b).length : Int) then ((word_Distance.f k u.2.1 u.2.2.1 Mod u.2.2.2 (ex P m q Mod g) (lo P m q Mod g) [1, 0, 1] [0, 0, 1]).bind fun d => if d.1 = 1 then some (d.2.1 == 0) else some false) else some false) else some false) (fun k => ?_) ((wSub_ev s a b (by omega)).bind ?_)
  ·simp only [codewrightlaw11_WordMeasures.j0]
   rw [if_neg (by simp)]
   rfl
  ·rw [if_pos hab]
   dsimp only
   refine Ev.congr (fun k => if_pos rfl) ?_
   refine (weight_ev _ (by rw [zp_length]; omega)).bind ?_
   dsimp only
   rw [supp_sub s]
   refine Ev.congr (fun k => if_pos rfl) ?_
   refine hd.bind (Ev.congr (fun k => last _ rfl) (Ev.now _))
 ·rw [if_neg hab, if_neg hab]
  dsimp only
  refine Ev.congr (fun k => if_pos rfl) ?_
  refine Ev.step (f := fun k => (word_Sub.f k P m Mod q (ex P m q Mod g) (lo P m q Mod g) a b).bind fun t => if t.2.1 = 4 then ((word_Distance.f k t.2.2.1 t.2.2.2.1 Mod t.2.2.2.2 (ex P m q Mod g) (lo P m q Mod g) [1, 0, 1] [0, 0, 1]).bind fun d => if d.1 = 1 then some (d.2.1 == 0) else some false) else some false) (fun k => ?_) ((wSub_ev s a b (by omega)).bind ?_)
  ·simp only [codewrightlaw11_WordMeasures.j0]
   rw [if_neg (by simp)]
   rfl
  ·rw [if_neg hab]
   dsimp only
   refine Ev.congr (fun k => if_pos rfl) ?_
   refine hd.bind (Ev.congr (fun k => last _ rfl) (Ev.now _))
theorem WordMeasures (a0_0 a0_1 : Int) (A0_2 : Option Addr) (c0_2 : Nat) (l0_2 : List Int) (A1 : Option Addr) (c1 : Nat) (l1 : List Int) (A2 : Option Addr) (c2 : Nat) (l2 : List Int) (w : World) (hP : a0_0 ≤ 9223372036854775807)
  (hr0_2 : Kd.C (Kd.int .i64) w A0_2 l0_2.length l0_2) (hc0_2 : l0_2.length ≤ c0_2) (hr1 : Kd.C (Kd.int .i64) w A1 l1.length l1) (hc1 : l1.length ≤ c1) (hr2 : Kd.C (Kd.int .i64) w A2 l2.length l2) (hc2 : l2.length ≤ c2) (y1 : l1.length * 8 ≤ 140737488351232) (_y2 : l2.length * 8 ≤ 140737488351232) :
  Calls Try.prog 9 #[.agg #[.int .i64 a0_0, .int .i64 a0_1, .slice A0_2 l0_2.length c0_2], .slice A1 l1.length c1, .slice A2 l2.length c2] w fun e w' => e = .returned (.bool true) ∧ Below w.heap.size w w' := by
 rcases open_or a0_0 a0_1 l0_2 hP with ⟨q, m, g, rfl, hq, hf, ho⟩ | ⟨⟨K1, h1⟩, ⟨K2, h2⟩⟩
 ·obtain ⟨k, h⟩ := (WordMeasures_field hP hq hf ho l1 l2 (by omega)).rounds
  exact codewrightlaw11_WordMeasures.calls k a0_0 m A0_2 c0_2 l0_2 A1 c1 l1 A2 c2 l2 true w hr0_2 hc0_2 hr1 hc1 hr2 hc2 h
 ·exact codewrightlaw11_WordMeasures.calls_no (max K1 K2) a0_0 a0_1 A0_2 c0_2 l0_2 A1 c1 l1 A2 c2 l2 [] [] [] 1 w hr0_2 hc0_2 hr1 hc1 hr2 hc2 (h1 _ (by omega)) (h2 _ (by omega)) (by decide)
end Go.Proofs.Ythgaihhlbgccoaa.Pure
