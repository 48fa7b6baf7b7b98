-- Joined by pack.py, a program of this work: NoWordIndexes PureWordIndexes
import Derived.Test.YthgaihhlbgccoaaZQx74
import Derived.Test.YthgaihhlbgccoaaZNm
import Derived.Test.YthgaihhlbgccoaaZCmP
import Derived.Test.YthgaihhlbgccoaaZOp
/- Where open says 'no field': codewrightlaw11_WordIndexes returns true. Printed by mkno.py. -/
namespace Go.Proofs.Ythgaihhlbgccoaa.Q
open Go.RowKit Go.Proofs.YthgaihhlbgccoaaW.PrintWords Go.Proofs.YthgaihhlbgccoaaW.PrintLast Go.Proofs.YthgaihhlbgccoaaW.PrintMore
set_option linter.unusedVariables false
set_option linter.unusedSimpArgs false
set_option maxHeartbeats 8000000 in
set_option maxRecDepth 100000 in
theorem codewrightlaw11_WordIndexes.calls_no (k : Nat) (a0_0 : Int) (a0_1 : Int) (A0_2 : Option Addr) (c0_2 : Nat) (l0_2 : List Int) (A1 : Option Addr) (c1 : Nat) (l1 : List Int) (A2 : Option Addr) (c2 : Nat) (l2 : List Int) (sm sx sl : List Int) (c : Int) (w : World) (hr0_2 : Kd.C (Kd.int .i64) w A0_2 l0_2.length l0_2) (hc0_2 : l0_2.length ≤ c0_2) (hr1 : Kd.C (Kd.int .i64) w A1 l1.length l1) (hc1 : l1.length ≤ c1) (hr2 : Kd.C (Kd.int .i64) w A2 l2.length l2) (hc2 : l2.length ≤ c2) (hN : field_New.f k a0_0 a0_1 l0_2 = some (sm, sx, sl, 1)) (hC : codewrightref04_Check.f k a0_0 a0_1 l0_2 = some c) (hc : (c == 0) = false) :
    Calls Try.prog 11 #[.agg #[.int .i64 a0_0, .int .i64 a0_1, .slice A0_2 l0_2.length c0_2], .slice A1 l1.length c1, .slice A2 l2.length c2] w fun e w' => e = .returned (.bool true) ∧ Below w.heap.size w w' := by
  have hu24 := Try.underlying24
  have HR0_2 := Aside0.mk hr0_2
  have HC0_2 := Aside0.mk hc0_2
  clear hr0_2 hc0_2
  have HB := Aside0.mk (Below.refl w.heap.size w)
  have AN := Aside0.mk hN
  have AC := Aside0.mk hC
  clear hN hC
  go_enter Try.func11, Try.ntmps11
  go_wp2_with (first | ((with_reducible refine gate_dst (N := 3) rfl ?_); (try (refine gate_guard (by rfl) ?_; dsimp only)); refine box_event ?hg (N := 3) ?hd (cs := #[.int .i64 a0_0, .int .i64 a0_1, .slice A0_2 l0_2.length c0_2]) (t := 24) ?hr ?_; (case hd => rfl); (case hg => rfl); (case hr => first | (go_simp; done) | (go_simp; rfl)); intro gb hg w7 hbox hb; have n0_ := Aside0.mk (below_step HB.out hb); have BK := Aside0.mk hbox; clear HB; have HB := n0_; clear n0_; clear hb hbox hg; have hcz8_0 : w7.cell? ⟨gb, 0, none⟩ = some (.int .i64 a0_0) := (blk_cell BK.out 0).trans rfl; have hfz8_0 := blk_frozen BK.out 0; have hcz8_1 : w7.cell? ⟨gb, 1, none⟩ = some (.int .i64 a0_1) := (blk_cell BK.out 1).trans rfl; have hfz8_1 := blk_frozen BK.out 1; have hcz8_2 : w7.cell? ⟨gb, 2, none⟩ = some (.slice A0_2 l0_2.length c0_2) := (blk_cell BK.out 2).trans rfl; have hfz8_2 := blk_frozen BK.out 2) | ((with_reducible refine gate_callee (f := 12) rfl ?_); refine goesL_ (some 23) rfl rfl Try.func12 (by kernel_rfl) rfl #[.agg #[.int .i64 a0_0, .int .i64 a0_1, .slice A0_2 l0_2.length c0_2]] rfl (by (try simp only [List.map_toArray, List.map_cons, List.map_nil]); first | done | rfl | (simp only [List.length_drop, List.length_take]; rfl)) ?_; (refine (codewrightlaw11_open.calls_no k a0_0 a0_1 _ _ l0_2 _ _ _ c _ (Kd.C_below HR0_2.out HB.out) HC0_2.out AN.out AC.out hc).mono ?_); rintro e w9 ⟨rfl, hb⟩; refine ⟨_, rfl, ?_⟩; have n0_ := Aside0.mk (below_step HB.out hb); clear HB; have HB := n0_; clear n0_ hb))
  go_ret
  exact ⟨rfl, HB.out⟩
end Go.Proofs.Ythgaihhlbgccoaa.Q
/- WordIndexes: for every description of a field and all lists. -/
namespace Go.Proofs.Ythgaihhlbgccoaa.Pure
open Go.RowKit Go.Proofs.Ythgaihhlbgccoaa.Q Go.Proofs.YthgaihhlbgccoaaW.PrintWords Go.Proofs.YthgaihhlbgccoaaW.PrintLast Go.Proofs.Ythgaihhlbgccoaa.Dig Go.Proofs.Ythgaihhlbgccoaa.Fv Go.Proofs.Ythgaihhlbgccoaa.Fo Go.Proofs.Ythgaihhlbgccoaa.Fp Go.Proofs.Ythgaihhlbgccoaa.Fn Go.Proofs.Ythgaihhlbgccoaa.Op Go.Proofs.Ythgaihhlbgccoaa.Cl Go.Proofs.Ythgaihhlbgccoaa.Nm Go.Proofs.Ythgaihhlbgccoaa.Lex Go.Proofs.Ythgaihhlbgccoaa.CmP

theorem idx_one {q : Int} (hq : 2 ≤ q) (hq1 : q ≤ 256) : idx q [0, 1] = (1, 0) := by
  have hq2 : q * q ≤ 256 * 256 := by
    have h1 : q * q ≤ 256 * q := Int.mul_le_mul_of_nonneg_right (by omega) (by omega)
    omega
  have hc : (cnt q 2).2 = 0 := by
    unfold cnt
    rw [if_neg (by omega)]
    show (if 65536 < q ^ 2 then ((0, 8) : Int × Int) else (q ^ 2, 0)).2 = 0
    rw [Int.pow_succ, Int.pow_succ, Int.pow_zero, Int.one_mul, if_neg (by omega)]
  unfold idx
  show (if (cnt q 2).2 = 0 then (ixl q 0 (cl q [0, 1]), 0) else (0, (cnt q 2).2)) = (1, 0)
  rw [if_pos hc]
  show (ixl q 0 [c q 0, c q 1], (0 : Int)) = (1, 0)
  have e1 : c q 0 = 0 := c_id (by omega) (by omega)
  have e2 : c q 1 = 1 := c_id (by omega) (by omega)
  rw [e1, e2]
  show ((0 * q + 0) * q + 1, (0 : Int)) = (1, 0)
  simp
theorem WordIndexes_field {P : Int} {m q : Nat} {Mod : List Int} {g : Int} (hP : P ≤ 9223372036854775807) (hq : ord P m = (q : Int)) (hf : Fld P m q Mod g)
    (ho : Ev (fun k => codewrightlaw11_open.f k P m Mod) (P, (m : Int), Mod, (q : Int), ex P m q Mod g, lo P m q Mod g, false, true)) (a b : List Int) (ha : a.length ≤ 17592186044416) : Ev (fun k => codewrightlaw11_WordIndexes.f k P m Mod a b) true := by
  have s := hf.s
  have hq2 := Pig.one_lt (show 1 < P by have := s.hP; omega) s.hM
  have hq3 := s.hq
  have hq4 := s.hq1
  have hix (l : List Int) := index_ev (P := P) (m := (m : Int)) (q := (q : Int)) (Mod := Mod) (E := ex P m q Mod g) (G := lo P m q Mod g) (by omega) (by omega) l
  have hrix (l : List Int) := rindex_ev (P := P) (m := (m : Int)) (q := (q : Int)) (Mod := Mod) hP hq (by omega) (by omega) l
  have hlast : Ev (fun k => (word_Index.f k P m Mod q (ex P m q Mod g) (lo P m q Mod g) [0, 1]).bind fun bt621 => (if bt621.1 = 1 then (some (bt621.2.1 == 0)) else (some false))) true := by
    have h := hix [0, 1]
    rw [idx_one (by omega) (by omega)] at h
    exact h.bind (Ev.congr (fun k => if_pos rfl) (Ev.now _))
  unfold codewrightlaw11_WordIndexes.f
  refine ho.bind ?_
  dsimp only
  refine Ev.congr (fun k => if_neg Bool.false_ne_true) ?_
  refine (hix a).bind ?_
  dsimp only
  refine (hrix a).bind ?_
  refine Ev.congr (fun k => if_pos rfl) ?_
  rw [bne_self_eq_false]
  refine Ev.step (f := fun k => (word_Index.f k P m Mod q (ex P m q Mod g) (lo P m q Mod g) b).bind fun bt765 => ((codewrightref11_Index.f k P m Mod b).bind fun bt770 => (if bt765.1 = bt770.1 then (codewrightlaw11_WordIndexes.j1 k a b (idx q a).1 (idx q a).2 bt765.1 (bt765.2.1 != bt770.2) bt765.2.2.1 bt765.2.2.2.1 Mod bt765.2.2.2.2 (ex P m q Mod g) (lo P m q Mod g)) else (codewrightlaw11_WordIndexes.j1 k a b (idx q a).1 (idx q a).2 bt765.1 true bt765.2.2.1 bt765.2.2.2.1 Mod bt765.2.2.2.2 (ex P m q Mod g) (lo P m q Mod g)))))
    (fun k => by simp only [codewrightlaw11_WordIndexes.j0]; rw [if_neg (by simp)]) ((hix b).bind ?_)
  dsimp only
  refine (hrix b).bind ?_
  refine Ev.congr (fun k => if_pos rfl) ?_
  rw [bne_self_eq_false]
  have no : ∀ i j, Ev (fun k => codewrightlaw11_WordIndexes.j2 k a b i j false P m Mod q (ex P m q Mod g) (lo P m q Mod g)) true := fun i j =>
    Ev.step (fun k => by simp only [codewrightlaw11_WordIndexes.j2]; rw [if_neg (by simp)]) hlast
  by_cases hab : a.length = b.length
  · refine Ev.step (f := fun k => codewrightlaw11_WordIndexes.j2 k a b (idx q a).1 (idx q b).1 ((idx q a).2 == 0) P m Mod q (ex P m q Mod g) (lo P m q Mod g)) (fun k => ?_) ?_
    · simp only [codewrightlaw11_WordIndexes.j1]
      rw [if_neg (by simp), if_pos (by omega)]
    by_cases h0 : (idx q a).2 = 0
    · have hc : (cnt q (a.length : Int)).2 = 0 := by
        unfold idx at h0
        by_cases h : (cnt q (a.length : Int)).2 = 0
        · exact h
        · rw [if_neg h] at h0; exact h0
      have e1 : idx q a = (ixl q 0 (cl q a), 0) := if_pos hc
      have e2 : idx q b = (ixl q 0 (cl q b), 0) := by
        unfold idx; rw [← hab]; exact if_pos hc
      rw [h0, e1, e2]
      obtain ⟨x1, x2⟩ := ixl_lex (q := (q : Int)) (by omega) (cl q a) (cl q b) (by rw [cl_length, cl_length]; exact hab) (el_cl (by omega) a) (el_cl (by omega) b) 0
      refine Ev.step (f := fun k => (word_Clean.f k P m Mod q (ex P m q Mod g) (lo P m q Mod g) a).bind fun bt772 => ((word_Clean.f k bt772.2.1 bt772.2.2.1 Mod bt772.2.2.2 (ex P m q Mod g) (lo P m q Mod g) b).bind fun bt778 => ((word_Compare.f k bt772.1 bt778.1).bind fun t784 => (if ((decide (t784 < 0)) != (decide (ixl q 0 (cl q a) < ixl q 0 (cl q b)))) = true then (some false) else (if ((t784 == 0) != (ixl q 0 (cl q a) == ixl q 0 (cl q b))) = true then (some false) else ((word_Index.f k bt778.2.1 bt778.2.2.1 Mod bt778.2.2.2 (ex P m q Mod g) (lo P m q Mod g) (([0, 1] : List Int))).bind fun bt788 => (if bt788.1 = 1 then (some (bt788.2.1 == 0)) else (some false))))))))
        (fun k => by simp only [codewrightlaw11_WordIndexes.j2]; rw [if_pos (by rfl)]) ((clean_ev a (by omega)).bind ?_)
      dsimp only
      refine (clean_ev b (by omega)).bind ?_
      dsimp only
      refine (compare_ev (cl q a) (cl q b) (by rw [cl_length]; omega)).bind ?_
      have b1 : (decide (lex (cl q a) (cl q b) < 0) != decide (ixl q 0 (cl q a) < ixl q 0 (cl q b))) = false := by
        rw [decide_eq_decide.2 x1, bne_self_eq_false]
      have b2 : ((lex (cl q a) (cl q b) == 0) != (ixl q 0 (cl q a) == ixl q 0 (cl q b))) = false := by
        have : (lex (cl q a) (cl q b) == 0) = (ixl q 0 (cl q a) == ixl q 0 (cl q b)) := by
          rw [Bool.eq_iff_iff, beq_iff_eq, beq_iff_eq]; exact x2
        rw [this, bne_self_eq_false]
      refine Ev.congr (fun k => ?_) hlast
      rw [b1, if_neg Bool.false_ne_true, b2, if_neg Bool.false_ne_true]
    · have e : ((idx q a).2 == 0) = false := by rw [beq_eq_false_iff_ne]; exact h0
      rw [e]
      exact no _ _
  · refine Ev.step (fun k => ?_) (no (idx q a).1 (idx q b).1)
    simp only [codewrightlaw11_WordIndexes.j1]
    rw [if_neg (by simp), if_neg (by omega)]
theorem WordIndexes (a0_0 a0_1 : Int) (A0_2 : Option Addr) (c0_2 : Nat) (l0_2 : List Int) (A1 : Option Addr) (c1 : Nat) (l1 : List Int) (A2 : Option Addr) (c2 : Nat) (l2 : List Int) (w : World) (hP : a0_0 ≤ 9223372036854775807)
    (hr0_2 : Kd.C (Kd.int .i64) w A0_2 l0_2.length l0_2) (hc0_2 : l0_2.length ≤ c0_2) (hr1 : Kd.C (Kd.int .i64) w A1 l1.length l1) (hc1 : l1.length ≤ c1) (hr2 : Kd.C (Kd.int .i64) w A2 l2.length l2) (hc2 : l2.length ≤ c2) (y1 : l1.length * 8 ≤ 140737488351232) (_y2 : l2.length * 8 ≤ 140737488351232) :
    Calls Try.prog 11 #[.agg #[.int .i64 a0_0, .int .i64 a0_1, .slice A0_2 l0_2.length c0_2], .slice A1 l1.length c1, .slice A2 l2.length c2] w fun e w' => e = .returned (.bool true) ∧ Below w.heap.size w w' := by
  rcases open_or a0_0 a0_1 l0_2 hP with ⟨q, m, g, rfl, hq, hf, ho⟩ | ⟨⟨K1, h1⟩, ⟨K2, h2⟩⟩
  · obtain ⟨k, h⟩ := (WordIndexes_field hP hq hf ho l1 l2 (by omega)).rounds
    exact codewrightlaw11_WordIndexes.calls k a0_0 m A0_2 c0_2 l0_2 A1 c1 l1 A2 c2 l2 true w hr0_2 hc0_2 hr1 hc1 hr2 hc2 h
  · exact codewrightlaw11_WordIndexes.calls_no (max K1 K2) a0_0 a0_1 A0_2 c0_2 l0_2 A1 c1 l1 A2 c2 l2 [] [] [] 1 w hr0_2 hc0_2 hr1 hc1 hr2 hc2 (h1 _ (by omega)) (h2 _ (by omega)) (by decide)
end Go.Proofs.Ythgaihhlbgccoaa.Pure
