-- Joined by pack.py, a program of this work: NoWordAdds PureWordAdds
import Derived.Test.YthgaihhlbgccoaaZQx43
import Derived.Test.YthgaihhlbgccoaaZPw
import Derived.Test.YthgaihhlbgccoaaZOp
/- Where open says 'no field': codewrightlaw11_WordAdds returns true. Printed by mkno.py. -/
namespace Go.Proofs.Ythgaihhlbgccoaa.Q
open Go.RowKit Go.Proofs.YthgaihhlbgccoaaW.PrintWords Go.Proofs.YthgaihhlbgccoaaW.PrintLast Go.Proofs.YthgaihhlbgccoaaW.PrintMore
set_option linter.unusedVariables false
set_option linter.unusedSimpArgs false
set_option maxHeartbeats 8000000 in
set_option maxRecDepth 100000 in
theorem codewrightlaw11_WordAdds.calls_no (k : Nat) (a0_0 : Int) (a0_1 : Int) (A0_2 : Option Addr) (c0_2 : Nat) (l0_2 : List Int) (A1 : Option Addr) (c1 : Nat) (l1 : List Int) (A2 : Option Addr) (c2 : Nat) (l2 : List Int) (sm sx sl : List Int) (c : Int) (w : World) (hr0_2 : Kd.C (Kd.int .i64) w A0_2 l0_2.length l0_2) (hc0_2 : l0_2.length ≤ c0_2) (hr1 : Kd.C (Kd.int .i64) w A1 l1.length l1) (hc1 : l1.length ≤ c1) (hr2 : Kd.C (Kd.int .i64) w A2 l2.length l2) (hc2 : l2.length ≤ c2) (hN : field_New.f k a0_0 a0_1 l0_2 = some (sm, sx, sl, 1)) (hC : codewrightref04_Check.f k a0_0 a0_1 l0_2 = some c) (hc : (c == 0) = false) :
  Calls Try.prog 4 #[.agg #[.int .i64 a0_0, .int .i64 a0_1, .slice A0_2 l0_2.length c0_2], .slice A1 l1.length c1, .slice A2 l2.length c2] w fun e w' => e = .returned (.bool true) ∧ Below w.heap.size w w' := by
 have hu24 := Try.underlying24
 have HR0_2 := Aside0.mk hr0_2
 have HC0_2 := Aside0.mk hc0_2
 clear hr0_2 hc0_2
 have HB := Aside0.mk (Below.refl w.heap.size w)
 have AN := Aside0.mk hN
 have AC := Aside0.mk hC
 clear hN hC
 go_enter Try.func4, Try.ntmps4
 go_wp2_with (first | ((with_reducible refine gate_dst (N := 3) rfl ?_); (try (refine gate_guard (by rfl) ?_; dsimp only)); refine box_event ?hg (N := 3) ?hd (cs := #[.int .i64 a0_0, .int .i64 a0_1, .slice A0_2 l0_2.length c0_2]) (t := 24) ?hr ?_; (case hd => rfl); (case hg => rfl); (case hr => first | (go_simp; done) | (go_simp; rfl)); intro gb hg w7 hbox hb; have n0_ := Aside0.mk (below_step HB.out hb); have BK := Aside0.mk hbox; clear HB; have HB := n0_; clear n0_; clear hb hbox hg; have hcz8_0 : w7.cell? ⟨gb, 0, none⟩ = some (.int .i64 a0_0) := (blk_cell BK.out 0).trans rfl; have hfz8_0 := blk_frozen BK.out 0; have hcz8_1 : w7.cell? ⟨gb, 1, none⟩ = some (.int .i64 a0_1) := (blk_cell BK.out 1).trans rfl; have hfz8_1 := blk_frozen BK.out 1; have hcz8_2 : w7.cell? ⟨gb, 2, none⟩ = some (.slice A0_2 l0_2.length c0_2) := (blk_cell BK.out 2).trans rfl; have hfz8_2 := blk_frozen BK.out 2) | ((with_reducible refine gate_callee (f := 12) rfl ?_); refine goesL_ (some 24) rfl rfl Try.func12 (by kernel_rfl) rfl #[.agg #[.int .i64 a0_0, .int .i64 a0_1, .slice A0_2 l0_2.length c0_2]] rfl (by (try simp only [List.map_toArray, List.map_cons, List.map_nil]); first | done | rfl | (simp only [List.length_drop, List.length_take]; rfl)) ?_; (refine (codewrightlaw11_open.calls_no k a0_0 a0_1 _ _ l0_2 _ _ _ c _ (Kd.C_below HR0_2.out HB.out) HC0_2.out AN.out AC.out hc).mono ?_); rintro e w9 ⟨rfl, hb⟩; refine ⟨_, rfl, ?_⟩; have n0_ := Aside0.mk (below_step HB.out hb); clear HB; have HB := n0_; clear n0_ hb))
 go_ret
 exact ⟨rfl, HB.out⟩
end Go.Proofs.Ythgaihhlbgccoaa.Q
/- WordAdds: for every description of a field and all lists. -/
namespace Go.Proofs.Ythgaihhlbgccoaa.Pure
open Go.RowKit Go.Proofs.Ythgaihhlbgccoaa.Q Go.Proofs.YthgaihhlbgccoaaW.PrintWords Go.Proofs.YthgaihhlbgccoaaW.PrintLast Go.Proofs.Ythgaihhlbgccoaa.Dig Go.Proofs.Ythgaihhlbgccoaa.Fv Go.Proofs.Ythgaihhlbgccoaa.Fo Go.Proofs.Ythgaihhlbgccoaa.Fp Go.Proofs.Ythgaihhlbgccoaa.Fn Go.Proofs.Ythgaihhlbgccoaa.Op Go.Proofs.Ythgaihhlbgccoaa.Cl Go.Proofs.Ythgaihhlbgccoaa.Ad Go.Proofs.Ythgaihhlbgccoaa.Pw

theorem add_zero {P : Int} {M : Nat} (hP : 0 < P) {x : Int} (h0 : 0 ≤ x) (h1 : x < P ^ M) : add P M x 0 = x := by
 have hr := add_range (M := M) hP x 0
 refine dg_ext hP hr.1 hr.2 h0 h1 (fun j hj => ?_)
 have h2 := dg_range hP x j
 rw [dg_add hP _ _ hj, dg_zero, Int.add_zero, dg_small h2.1 h2.2]
theorem zero_add {P : Int} {M : Nat} (hP : 0 < P) {x : Int} (h0 : 0 ≤ x) (h1 : x < P ^ M) : add P M 0 x = x := by
 have hr := add_range (M := M) hP 0 x
 refine dg_ext hP hr.1 hr.2 h0 h1 (fun j hj => ?_)
 have h2 := dg_range hP x j
 rw [dg_add hP _ _ hj, dg_zero, Int.zero_add, dg_small h2.1 h2.2]
theorem back {P : Int} {m q : Nat} {Mod : List Int} (s : Sized P m q Mod) (a b : List Int) : zp (sub P m) q (zp (add P m) q a b) b = cl q a := by
 have hP := s.hP
 have hq := s.hq
 show L (zp (add P m) q a b).length _ = L a.length _
 rw [zp_length]
 refine L_congr _ _ _ (fun i hi => ?_)
 have e1 : rd (zp (add P m) q a b) (i : Int) = add P m (c q (rd a (i : Int))) (c q (rd b (i : Int))) := rd_L _ _ _ hi
 have hr := add_range (M := m) (show 0 < P by omega) (c q (rd a (i : Int))) (c q (rd b (i : Int)))
 have h1 := c_elt s (rd a (i : Int))
 rw [e1, c_id hr.1 (by omega), sub_add (by omega) _ h1.1 h1.2]
theorem one_one {P : Int} {m q : Nat} {Mod : List Int} (s : Sized P m q Mod) : zp (add P m) q [1, 0] [0, 1] = [1, 1] := by
 have hq := one_pos s
 have hP := s.hP
 have hq2 := s.hq
 have e1 : c q 1 = 1 := c_id (by omega) (by omega)
 have e2 : c q 0 = 0 := c_id (by omega) (by omega)
 show [add P m (c q 1) (c q 0), add P m (c q 0) (c q 1)] = [1, 1]
 rw [e1, e2, add_zero (by omega) (by omega) (by omega), zero_add (by omega) (by omega) (by omega)]
theorem WordAdds_field {P : Int} {m q : Nat} {Mod : List Int} {g : Int} (hP : P ≤ 9223372036854775807) (hq : ord P m = (q : Int)) (hf : Fld P m q Mod g)
  (ho : Ev (fun k => codewrightlaw11_open.f k P m Mod) (P, (m : Int), Mod, (q : Int), ex P m q Mod g, lo P m q Mod g, false, true)) (a b : List Int) (ha : a.length ≤ 17592186044416) : Ev (fun k => codewrightlaw11_WordAdds.f k P m Mod a b) true := by
 have s := hf.s
 have hlast : Ev (fun k => (word_Add.f k P m Mod q (ex P m q Mod g) (lo P m q Mod g) [1, 0] [0, 1]).bind fun bt379 => if bt379.2.1 = 0 then ((codewrightref11_Same.f k bt379.1 (([1, 1] : List Int))).bind fun t389 => (some t389)) else (some false)) true := by
  have h := wAdd_ev (m := (m : Int)) (M' := Mod) (E := ex P m q Mod g) (G := lo P m q Mod g) s [1, 0] [0, 1] (by decide)
  rw [if_pos (by rfl), one_one s] at h
  exact h.bind (Ev.congr (fun k => if_pos rfl) ((same_self [1, 1] (by decide)).bind (Ev.now _)))
 unfold codewrightlaw11_WordAdds.f
 refine ho.bind ?_
 dsimp only
 refine Ev.congr (fun k => if_neg Bool.false_ne_true) ?_
 refine (wAdd_ev s a b (by omega)).bind ?_
 refine (rAdd_ev s hq a b (by omega)).bind ?_
 have hsub := wSub_ev (m := (m : Int)) (M' := Mod) (E := ex P m q Mod g) (G := lo P m q Mod g) s a b (by omega)
 have hrsub := rSub_ev (M' := Mod) s hq a b (by omega)
 by_cases hab : a.length = b.length
 ·rw [if_pos hab] at hsub hrsub
  rw [if_pos hab, if_pos hab]
  dsimp only
  refine Ev.congr (fun k => if_pos rfl) ?_
  refine (same_self _ (by rw [zp_length]; omega)).bind ?_
  rw [Bool.not_true]
  refine Ev.step (f := fun k => (word_Sub.f k P m Mod q (ex P m q Mod g) (lo P m q Mod g) a b).bind fun bt350 => ((codewrightref11_Sub.f k P m Mod a b).bind fun bt357 => (if bt350.2.1 = bt357.2 then ((codewrightref11_Same.f k bt350.1 bt357.1).bind fun t361 => (codewrightlaw11_WordAdds.j1 k a b (zp (add P m) q a b) 0 (!t361) P m Mod bt350.2.2.1 bt350.2.2.2.1 Mod bt350.2.2.2.2 (ex P m q Mod g) (lo P m q Mod g))) else (codewrightlaw11_WordAdds.j1 k a b (zp (add P m) q a b) 0 true P m Mod bt350.2.2.1 bt350.2.2.2.1 Mod bt350.2.2.2.2 (ex P m q Mod g) (lo P m q Mod g)))))
   (fun k => by simp only [codewrightlaw11_WordAdds.j0]; rw [if_neg (by simp)]) (hsub.bind ?_)
  dsimp only
  refine hrsub.bind ?_
  refine Ev.congr (fun k => if_pos rfl) ?_
  refine (same_self _ (by rw [zp_length]; omega)).bind ?_
  rw [Bool.not_true]
  have h2 := wSub_ev (m := (m : Int)) (M' := Mod) (E := ex P m q Mod g) (G := lo P m q Mod g) s (zp (add P m) q a b) b (by rw [zp_length]; omega)
  rw [if_pos (by rw [zp_length]; exact hab), back s a b] at h2
  refine Ev.step (f := fun k => (word_Sub.f k P m Mod q (ex P m q Mod g) (lo P m q Mod g) (zp (add P m) q a b) b).bind fun bt362 => (if bt362.2.1 = 0 then ((codewrightref11_Clean.f k P m Mod a).bind fun t369 => ((codewrightref11_Same.f k bt362.1 t369).bind fun t372 => (codewrightlaw11_WordAdds.j2 k (!t372) bt362.2.2.1 bt362.2.2.2.1 Mod bt362.2.2.2.2 (ex P m q Mod g) (lo P m q Mod g)))) else (codewrightlaw11_WordAdds.j2 k true bt362.2.2.1 bt362.2.2.2.1 Mod bt362.2.2.2.2 (ex P m q Mod g) (lo P m q Mod g))))
   (fun k => by simp only [codewrightlaw11_WordAdds.j1]; rw [if_neg (by simp)]; rfl) (h2.bind ?_)
  dsimp only
  refine Ev.congr (fun k => if_pos rfl) ?_
  refine (rclean_ev hP hq a (by omega)).bind ?_
  refine (same_self _ (by rw [cl_length]; omega)).bind ?_
  rw [Bool.not_true]
  refine Ev.step (fun k => ?_) hlast
  simp only [codewrightlaw11_WordAdds.j2]
  rw [if_neg (by simp)]
 ·rw [if_neg hab] at hsub hrsub
  rw [if_neg hab, if_neg hab]
  dsimp only
  refine Ev.congr (fun k => if_pos rfl) ?_
  refine (same_self _ (by decide)).bind ?_
  rw [Bool.not_true]
  refine Ev.step (f := fun k => (word_Sub.f k P m Mod q (ex P m q Mod g) (lo P m q Mod g) a b).bind fun bt350 => ((codewrightref11_Sub.f k P m Mod a b).bind fun bt357 => (if bt350.2.1 = bt357.2 then ((codewrightref11_Same.f k bt350.1 bt357.1).bind fun t361 => (codewrightlaw11_WordAdds.j1 k a b [] 4 (!t361) P m Mod bt350.2.2.1 bt350.2.2.2.1 Mod bt350.2.2.2.2 (ex P m q Mod g) (lo P m q Mod g))) else (codewrightlaw11_WordAdds.j1 k a b [] 4 true P m Mod bt350.2.2.1 bt350.2.2.2.1 Mod bt350.2.2.2.2 (ex P m q Mod g) (lo P m q Mod g)))))
   (fun k => by simp only [codewrightlaw11_WordAdds.j0]; rw [if_neg (by simp)]) (hsub.bind ?_)
  dsimp only
  refine hrsub.bind ?_
  refine Ev.congr (fun k => if_pos rfl) ?_
  refine (same_self _ (by decide)).bind ?_
  rw [Bool.not_true]
  refine Ev.step (fun k => ?_) hlast
  simp only [codewrightlaw11_WordAdds.j1]
  rw [if_neg (by simp)]; rfl
theorem WordAdds (a0_0 a0_1 : Int) (A0_2 : Option Addr) (c0_2 : Nat) (l0_2 : List Int) (A1 : Option Addr) (c1 : Nat) (l1 : List Int) (A2 : Option Addr) (c2 : Nat) (l2 : List Int) (w : World) (hP : a0_0 ≤ 9223372036854775807)
  (hr0_2 : Kd.C (Kd.int .i64) w A0_2 l0_2.length l0_2) (hc0_2 : l0_2.length ≤ c0_2) (hr1 : Kd.C (Kd.int .i64) w A1 l1.length l1) (hc1 : l1.length ≤ c1) (hr2 : Kd.C (Kd.int .i64) w A2 l2.length l2) (hc2 : l2.length ≤ c2) (y1 : l1.length * 8 ≤ 140737488351232) (_y2 : l2.length * 8 ≤ 140737488351232) :
  Calls Try.prog 4 #[.agg #[.int .i64 a0_0, .int .i64 a0_1, .slice A0_2 l0_2.length c0_2], .slice A1 l1.length c1, .slice A2 l2.length c2] w fun e w' => e = .returned (.bool true) ∧ Below w.heap.size w w' := by
 rcases open_or a0_0 a0_1 l0_2 hP with ⟨q, m, g, rfl, hq, hf, ho⟩ | ⟨⟨K1, h1⟩, ⟨K2, h2⟩⟩
 ·obtain ⟨k, h⟩ := (WordAdds_field hP hq hf ho l1 l2 (by omega)).rounds
  exact codewrightlaw11_WordAdds.calls k a0_0 m A0_2 c0_2 l0_2 A1 c1 l1 A2 c2 l2 true w hr0_2 hc0_2 hr1 hc1 hr2 hc2 h
 ·exact codewrightlaw11_WordAdds.calls_no (max K1 K2) a0_0 a0_1 A0_2 c0_2 l0_2 A1 c1 l1 A2 c2 l2 [] [] [] 1 w hr0_2 hc0_2 hr1 hc1 hr2 hc2 (h1 _ (by omega)) (h2 _ (by omega)) (by decide)
end Go.Proofs.Ythgaihhlbgccoaa.Pure
