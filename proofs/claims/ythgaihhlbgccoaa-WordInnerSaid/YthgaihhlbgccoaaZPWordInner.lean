-- Joined by pack.py, a program of this work: NoWordInner PureWordInner
import Derived.Test.YthgaihhlbgccoaaZQx58
import Derived.Test.YthgaihhlbgccoaaZIn
import Derived.Test.YthgaihhlbgccoaaZOp
/- Where open says 'no field': cw_WordInner returns true. Printed by mkno.py. -/
namespace Go.Proofs.Ythgaihhlbgccoaa.Q
open Go.RowKit Go.Proofs.YthgaihhlbgccoaaW.PrintWords Go.Proofs.YthgaihhlbgccoaaW.PrintLast Go.Proofs.YthgaihhlbgccoaaW.PrintMore
set_option linter.unusedVariables false
set_option linter.unusedSimpArgs false
set_option maxHeartbeats 8000000 in
set_option maxRecDepth 100000 in
theorem cw_WordInner.calls_no (k : Nat) (a0_0 : Int) (a0_1 : Int) (A0_2 : Option Addr) (c0_2 : Nat) (l0_2 : List Int) (A0_3 : Option Addr) (c0_3 : Nat) (l0_3 : List Int) (A0_4 : Option Addr) (c0_4 : Nat) (l0_4 : List Int) (A0_5 : Option Addr) (c0_5 : Nat) (l0_5 : List Int) (sm sx sl : List Int) (c : Int) (w : World) (hr0_2 : Kd.C (Kd.int .i64) w A0_2 l0_2.length l0_2) (hc0_2 : l0_2.length ≤ c0_2) (hr0_3 : Kd.C (Kd.int .i64) w A0_3 l0_3.length l0_3) (hc0_3 : l0_3.length ≤ c0_3) (hr0_4 : Kd.C (Kd.int .i64) w A0_4 l0_4.length l0_4) (hc0_4 : l0_4.length ≤ c0_4) (hr0_5 : Kd.C (Kd.int .i64) w A0_5 l0_5.length l0_5) (hc0_5 : l0_5.length ≤ c0_5) (hN : field_New.f k a0_0 a0_1 l0_2 = some (sm, sx, sl, 1)) (hC : cr4_Check.f k a0_0 a0_1 l0_2 = some c) (hc : (c == 0) = false) :
  Calls Try.prog 6 #[.agg #[.int .i64 a0_0, .int .i64 a0_1, .slice A0_2 l0_2.length c0_2, .slice A0_3 l0_3.length c0_3, .slice A0_4 l0_4.length c0_4, .slice A0_5 l0_5.length c0_5]] w fun e w' => e = .returned (.bool true) ∧ Below w.heap.size w w' := by
 have hu24 := Try.underlying24
 have hu49 := Try.underlying49
 have HR0_2 := Aside0.mk hr0_2
 have HC0_2 := Aside0.mk hc0_2
 clear hr0_2 hc0_2
 have HB := Aside0.mk (Below.refl w.heap.size w)
 have AN := Aside0.mk hN
 have AC := Aside0.mk hC
 clear hN hC
 go_enter Try.func6, Try.ntmps6
 go_wp2_with (first | ((with_reducible refine gate_dst (N := 1) rfl ?_); (try (refine gate_guard (by rfl) ?_; dsimp only)); refine box_event ?hg (N := 1) ?hd (cs := #[.int .i64 a0_0, .int .i64 a0_1, .slice A0_2 l0_2.length c0_2, .slice A0_3 l0_3.length c0_3, .slice A0_4 l0_4.length c0_4, .slice A0_5 l0_5.length c0_5]) (t := 49) ?hr ?_; (case hd => rfl); (case hg => rfl); (case hr => first | (go_simp; done) | (go_simp; rfl)); intro gb hg w7 hbox hb; have n0_ := Aside0.mk (below_step HB.out hb); have BK := Aside0.mk hbox; clear HB; have HB := n0_; clear n0_; clear hb hbox hg; have hcz8_0 : w7.cell? ⟨gb, 0, none⟩ = some (.int .i64 a0_0) := (blk_cell BK.out 0).trans rfl; have hfz8_0 := blk_frozen BK.out 0; have hcz8_1 : w7.cell? ⟨gb, 1, none⟩ = some (.int .i64 a0_1) := (blk_cell BK.out 1).trans rfl; have hfz8_1 := blk_frozen BK.out 1; have hcz8_2 : w7.cell? ⟨gb, 2, none⟩ = some (.slice A0_2 l0_2.length c0_2) := (blk_cell BK.out 2).trans rfl; have hfz8_2 := blk_frozen BK.out 2; have hcz8_3 : w7.cell? ⟨gb, 3, none⟩ = some (.slice A0_3 l0_3.length c0_3) := (blk_cell BK.out 3).trans rfl; have hfz8_3 := blk_frozen BK.out 3; have hcz8_4 : w7.cell? ⟨gb, 4, none⟩ = some (.slice A0_4 l0_4.length c0_4) := (blk_cell BK.out 4).trans rfl; have hfz8_4 := blk_frozen BK.out 4; have hcz8_5 : w7.cell? ⟨gb, 5, none⟩ = some (.slice A0_5 l0_5.length c0_5) := (blk_cell BK.out 5).trans rfl; have hfz8_5 := blk_frozen BK.out 5) | ((with_reducible refine gate_callee (f := 12) rfl ?_); refine goesL_ (some 25) rfl rfl Try.func12 (by kernel_rfl) rfl #[.agg #[.int .i64 a0_0, .int .i64 a0_1, .slice A0_2 l0_2.length c0_2]] rfl (by (try simp only [List.map_toArray, List.map_cons, List.map_nil]); first | done | rfl | (simp only [List.length_drop, List.length_take]; rfl)) ?_; (refine (cw_open.calls_no k a0_0 a0_1 _ _ l0_2 _ _ _ c _ (Kd.C_below HR0_2.out HB.out) HC0_2.out AN.out AC.out hc).mono ?_); rintro e w9 ⟨rfl, hb⟩; refine ⟨_, rfl, ?_⟩; have n0_ := Aside0.mk (below_step HB.out hb); clear HB; have HB := n0_; clear n0_ hb))
 go_ret
 exact ⟨rfl, HB.out⟩
end Go.Proofs.Ythgaihhlbgccoaa.Q
/- WordInner: for every description of a field and all lists. -/
namespace Go.Proofs.Ythgaihhlbgccoaa.Pure
open Go.RowKit Go.Proofs.Ythgaihhlbgccoaa.Q Go.Proofs.YthgaihhlbgccoaaW.PrintWords Go.Proofs.YthgaihhlbgccoaaW.PrintLast Go.Proofs.Ythgaihhlbgccoaa.Fv Go.Proofs.Ythgaihhlbgccoaa.Fo Go.Proofs.Ythgaihhlbgccoaa.Fp Go.Proofs.Ythgaihhlbgccoaa.Fn Go.Proofs.Ythgaihhlbgccoaa.Op Go.Proofs.Ythgaihhlbgccoaa.Cl Go.Proofs.Ythgaihhlbgccoaa.Ad Go.Proofs.Ythgaihhlbgccoaa.Pw Go.Proofs.Ythgaihhlbgccoaa.In

theorem WordInner_field {P : Int} {m q : Nat} {Mod : List Int} {g : Int} (hq : ord P m = (q : Int)) (hf : Fld P m q Mod g)
  (ho : Ev (fun k => cw_open.f k P m Mod) (P, (m : Int), Mod, (q : Int), ex P m q Mod g, lo P m q Mod g, false, true)) (A B C : List Int) (hA : A.length ≤ 17592186044416) (hB : B.length ≤ 17592186044416) : Ev (fun k => cw_WordInner.f k P m Mod A B C) true := by
 have s := hf.s
 have hP := s.hP
 have hqq := s.hq
 have hi (a b : List Int) (ha : a.length ≤ 17592186044416) (h : a.length = b.length) : Ev (fun k => word_Inner.f k P m Mod q (ex P m q Mod g) (lo P m q Mod g) a b) (ip P m q Mod a b, 0, P, (m : Int), (q : Int)) := by
  have h1 := inner_ev (m := (m : Int)) (M' := Mod) hf a b (by omega)
  rw [if_pos h] at h1; exact h1
 have last : ∀ d : Int × Int × Int × Int × Int, d = (ip P m q Mod [1, 0, 1] [1, 1, 0], 0, P, (m : Int), (q : Int)) → (if d.1 = 1 then some (d.2.1 == 0) else some false) = some true := by
  rintro _ rfl
  dsimp only
  rw [ip_one s, if_pos rfl]; rfl
 have fin : Ev (fun k => (word_Inner.f k P m Mod q (ex P m q Mod g) (lo P m q Mod g) [1, 0, 1] [1, 1, 0]).bind fun d => if d.1 = 1 then some (d.2.1 == 0) else some false) true :=
  (hi [1, 0, 1] [1, 1, 0] (by decide) rfl).bind (Ev.congr (fun k => last _ rfl) (Ev.now _))
 have j2f : Ev (fun k => cw_WordInner.j2 k false P m Mod A B C P m Mod q (ex P m q Mod g) (lo P m q Mod g)) true := by
  refine Ev.step (fun k => ?_) fin
  simp only [cw_WordInner.j2]
  rw [if_neg (by simp)]
 have j2t : A.length = B.length → B.length = C.length → Ev (fun k => cw_WordInner.j2 k true P m Mod A B C P m Mod q (ex P m q Mod g) (lo P m q Mod g)) true := by
  intro h1 h2
  have ha := wAdd_ev (m := (m : Int)) (M' := Mod) (E := ex P m q Mod g) (G := lo P m q Mod g) s A B (by omega)
  rw [if_pos h1] at ha
  have r1 := ip_range s A C
  have r2 := ip_range s B C
  have hadd := radd_ev (M' := Mod) s hq (ip P m q Mod A C) (ip P m q Mod B C)
  rw [c_id r1.1 (by omega), c_id r2.1 (by omega), ← ip_add s A B C h1] at hadd
  refine Ev.step (f := fun k => (word_Add.f k P m Mod q (ex P m q Mod g) (lo P m q Mod g) A B).bind fun t => (word_Inner.f k t.2.2.1 t.2.2.2.1 Mod t.2.2.2.2 (ex P m q Mod g) (lo P m q Mod g) t.1 C).bind fun u => (word_Inner.f k u.2.2.1 u.2.2.2.1 Mod u.2.2.2.2 (ex P m q Mod g) (lo P m q Mod g) A C).bind fun v => (word_Inner.f k v.2.2.1 v.2.2.2.1 Mod v.2.2.2.2 (ex P m q Mod g) (lo P m q Mod g) B C).bind fun x => if t.2.1 = 0 then (if u.2.1 = 0 then (if v.2.1 = 0 then (if x.2.1 = 0 then ((cr4_Add.f k P m Mod v.1 x.1).bind fun y => if u.1 = y then ((word_Inner.f k x.2.2.1 x.2.2.2.1 Mod x.2.2.2.2 (ex P m q Mod g) (lo P m q Mod g) [1, 0, 1] [1, 1, 0]).bind fun d => if d.1 = 1 then some (d.2.1 == 0) else some false) else some false) else some false) else some false) else some false) else some false) (fun k => ?_) (ha.bind ?_)
  ·simp only [cw_WordInner.j2]
   rw [if_pos trivial]
  ·dsimp only
   refine (hi _ C (by rw [zp_length]; omega) (by rw [zp_length]; omega)).bind ?_
   dsimp only
   refine (hi A C (by omega) (by omega)).bind ?_
   dsimp only
   refine (hi B C (by omega) (by omega)).bind ?_
   dsimp only
   refine Ev.congr (fun k => (if_pos rfl).trans ((if_pos rfl).trans ((if_pos rfl).trans (if_pos rfl)))) ?_
   refine hadd.bind ?_
   exact Ev.congr (fun k => if_pos rfl) fin
 have j1 : Ev (fun k => cw_WordInner.j1 k false P m Mod A B C P m Mod q (ex P m q Mod g) (lo P m q Mod g)) true := by
  by_cases h1 : A.length = B.length
  ·by_cases h2 : B.length = C.length
   ·refine Ev.step (fun k => ?_) (j2t h1 h2)
    simp only [cw_WordInner.j1]
    rw [if_neg (by simp), if_pos (by omega), show ((B.length : Int) == (C.length : Int)) = true by rw [beq_iff_eq]; omega]
   ·refine Ev.step (fun k => ?_) j2f
    simp only [cw_WordInner.j1]
    rw [if_neg (by simp), if_pos (by omega), show ((B.length : Int) == (C.length : Int)) = false by rw [beq_eq_false_iff_ne]; omega]
  ·refine Ev.step (fun k => ?_) j2f
   simp only [cw_WordInner.j1]
   rw [if_neg (by simp), if_neg (by omega)]
 have j0 : ∀ (x e : Int), Ev (fun k => word_Inner.f k P m Mod q (ex P m q Mod g) (lo P m q Mod g) B A) (x, e, P, (m : Int), (q : Int)) → Ev (fun k => cw_WordInner.j0 k x e false P m Mod A B C P m Mod q (ex P m q Mod g) (lo P m q Mod g)) true := by
  intro x e h
  refine Ev.step (f := fun k => (word_Inner.f k P m Mod q (ex P m q Mod g) (lo P m q Mod g) B A).bind fun t => if t.1 = x then cw_WordInner.j1 k (t.2.1 != e) P m Mod A B C t.2.2.1 t.2.2.2.1 Mod t.2.2.2.2 (ex P m q Mod g) (lo P m q Mod g) else cw_WordInner.j1 k true P m Mod A B C t.2.2.1 t.2.2.2.1 Mod t.2.2.2.2 (ex P m q Mod g) (lo P m q Mod g)) (fun k => ?_) (h.bind ?_)
  ·simp only [cw_WordInner.j0]
   rw [if_neg (by simp)]
  ·dsimp only
   refine Ev.congr (fun k => if_pos rfl) ?_
   rw [show (e != e) = false by simp]
   exact j1
 unfold cw_WordInner.f
 refine ho.bind ?_
 dsimp only
 refine Ev.congr (fun k => if_neg Bool.false_ne_true) ?_
 refine (inner_ev hf A B (by omega)).bind ?_
 refine (rinner_ev s hq A B (by omega)).bind ?_
 by_cases hab : A.length = B.length
 ·rw [if_pos hab, if_pos hab]
  dsimp only
  refine Ev.congr (fun k => if_pos rfl) ?_
  exact j0 _ 0 (by rw [ip_comm A B hab]; exact hi B A hB hab.symm)
 ·rw [if_neg hab, if_neg hab]
  dsimp only
  refine Ev.congr (fun k => if_pos rfl) ?_
  refine j0 0 4 ?_
  have h1 := inner_ev (m := (m : Int)) (M' := Mod) hf B A (by omega)
  rw [if_neg (fun h => hab h.symm)] at h1; exact h1
theorem WordInner (a0_0 a0_1 : Int) (A0_2 : Option Addr) (c0_2 : Nat) (l0_2 : List Int) (A0_3 : Option Addr) (c0_3 : Nat) (l0_3 : List Int) (A0_4 : Option Addr) (c0_4 : Nat) (l0_4 : List Int) (A0_5 : Option Addr) (c0_5 : Nat) (l0_5 : List Int) (w : World) (hP : a0_0 ≤ 9223372036854775807)
  (hr0_2 : Kd.C (Kd.int .i64) w A0_2 l0_2.length l0_2) (hc0_2 : l0_2.length ≤ c0_2) (hr0_3 : Kd.C (Kd.int .i64) w A0_3 l0_3.length l0_3) (hc0_3 : l0_3.length ≤ c0_3) (hr0_4 : Kd.C (Kd.int .i64) w A0_4 l0_4.length l0_4) (hc0_4 : l0_4.length ≤ c0_4) (hr0_5 : Kd.C (Kd.int .i64) w A0_5 l0_5.length l0_5) (hc0_5 : l0_5.length ≤ c0_5) (y3 : l0_3.length * 8 ≤ 140737488351232) (y4 : l0_4.length * 8 ≤ 140737488351232) (_y5 : l0_5.length * 8 ≤ 140737488351232) :
  Calls Try.prog 6 #[.agg #[.int .i64 a0_0, .int .i64 a0_1, .slice A0_2 l0_2.length c0_2, .slice A0_3 l0_3.length c0_3, .slice A0_4 l0_4.length c0_4, .slice A0_5 l0_5.length c0_5]] w fun e w' => e = .returned (.bool true) ∧ Below w.heap.size w w' := by
 rcases open_or a0_0 a0_1 l0_2 hP with ⟨q, m, g, rfl, hq, hf, ho⟩ | ⟨⟨K1, h1⟩, ⟨K2, h2⟩⟩
 ·obtain ⟨k, h⟩ := (WordInner_field hq hf ho l0_3 l0_4 l0_5 (by omega) (by omega)).rounds
  exact cw_WordInner.calls k a0_0 m A0_2 c0_2 l0_2 A0_3 c0_3 l0_3 A0_4 c0_4 l0_4 A0_5 c0_5 l0_5 true w hr0_2 hc0_2 hr0_3 hc0_3 hr0_4 hc0_4 hr0_5 hc0_5 h
 ·exact cw_WordInner.calls_no (max K1 K2) a0_0 a0_1 A0_2 c0_2 l0_2 A0_3 c0_3 l0_3 A0_4 c0_4 l0_4 A0_5 c0_5 l0_5 [] [] [] 1 w hr0_2 hc0_2 hr0_3 hc0_3 hr0_4 hc0_4 hr0_5 hc0_5 (h1 _ (by omega)) (h2 _ (by omega)) (by decide)
end Go.Proofs.Ythgaihhlbgccoaa.Pure
