-- Joined by pack.py, a program of this work: NoWordSteps PureWordSteps
import Derived.Test.YthgaihhlbgccoaaZNl
import Derived.Test.YthgaihhlbgccoaaZRf
import Derived.Test.YthgaihhlbgccoaaZOp
/- Where open says 'no field': cw_WordSteps returns true. Printed by mkno.py. -/
namespace Go.Proofs.Ythgaihhlbgccoaa.Q
open Go.RowKit Go.Proofs.YthgaihhlbgccoaaW.PrintWords Go.Proofs.YthgaihhlbgccoaaW.PrintLast Go.Proofs.YthgaihhlbgccoaaW.PrintMore
set_option linter.unusedVariables false
set_option linter.unusedSimpArgs false
set_option maxHeartbeats 8000000 in
set_option maxRecDepth 100000 in
theorem cw_WordSteps.calls_no (k : Nat) (a0_0 : Int) (a0_1 : Int) (A0_2 : Option Addr) (c0_2 : Nat) (l0_2 : List Int) (a1 : Int) (sm sx sl : List Int) (c : Int) (w : World) (hr0_2 : Kd.C (Kd.int .i64) w A0_2 l0_2.length l0_2) (hc0_2 : l0_2.length ≤ c0_2) (hN : field_New.f k a0_0 a0_1 l0_2 = some (sm, sx, sl, 1)) (hC : cr4_Check.f k a0_0 a0_1 l0_2 = some c) (hc : (c == 0) = false) :
  Calls Try.prog 5 #[.agg #[.int .i64 a0_0, .int .i64 a0_1, .slice A0_2 l0_2.length c0_2], .int .i64 a1] w fun e w' => e = .returned (.bool true) ∧ Below w.heap.size w w' := by
 have hu24 := Try.underlying24
 have HR0_2 := Aside0.mk hr0_2
 have HC0_2 := Aside0.mk hc0_2
 clear hr0_2 hc0_2
 have HB := Aside0.mk (Below.refl w.heap.size w)
 have AN := Aside0.mk hN
 have AC := Aside0.mk hC
 clear hN hC
 go_enter Try.func5, Try.ntmps5
 go_wp2_with (first | ((with_reducible refine gate_dst (N := 2) rfl ?_); (try (refine gate_guard (by rfl) ?_; dsimp only)); refine box_event ?hg (N := 2) ?hd (cs := #[.int .i64 a0_0, .int .i64 a0_1, .slice A0_2 l0_2.length c0_2]) (t := 24) ?hr ?_; (case hd => rfl); (case hg => rfl); (case hr => first | (go_simp; done) | (go_simp; rfl)); intro gb hg w7 hbox hb; have n0_ := Aside0.mk (below_step HB.out hb); have BK := Aside0.mk hbox; clear HB; have HB := n0_; clear n0_; clear hb hbox hg; have hcz8_0 : w7.cell? ⟨gb, 0, none⟩ = some (.int .i64 a0_0) := (blk_cell BK.out 0).trans rfl; have hfz8_0 := blk_frozen BK.out 0; have hcz8_1 : w7.cell? ⟨gb, 1, none⟩ = some (.int .i64 a0_1) := (blk_cell BK.out 1).trans rfl; have hfz8_1 := blk_frozen BK.out 1; have hcz8_2 : w7.cell? ⟨gb, 2, none⟩ = some (.slice A0_2 l0_2.length c0_2) := (blk_cell BK.out 2).trans rfl; have hfz8_2 := blk_frozen BK.out 2) | ((with_reducible refine gate_callee (f := 12) rfl ?_); refine goesL_ (some 20) rfl rfl Try.func12 (by kernel_rfl) rfl #[.agg #[.int .i64 a0_0, .int .i64 a0_1, .slice A0_2 l0_2.length c0_2]] rfl (by (try simp only [List.map_toArray, List.map_cons, List.map_nil]); first | done | rfl | (simp only [List.length_drop, List.length_take]; rfl)) ?_; (refine (cw_open.calls_no k a0_0 a0_1 _ _ l0_2 _ _ _ c _ (Kd.C_below HR0_2.out HB.out) HC0_2.out AN.out AC.out hc).mono ?_); rintro e w9 ⟨rfl, hb⟩; refine ⟨_, rfl, ?_⟩; have n0_ := Aside0.mk (below_step HB.out hb); clear HB; have HB := n0_; clear n0_ hb))
 go_ret
 exact ⟨rfl, HB.out⟩
end Go.Proofs.Ythgaihhlbgccoaa.Q
/- WordSteps: for every description of a field and all lengths. -/
namespace Go.Proofs.Ythgaihhlbgccoaa.Pure
open Go.RowKit Go.Proofs.Ythgaihhlbgccoaa.Q Go.Proofs.YthgaihhlbgccoaaW.PrintWords Go.Proofs.YthgaihhlbgccoaaW.PrintLast Go.Proofs.Ythgaihhlbgccoaa.Fv Go.Proofs.Ythgaihhlbgccoaa.Fo Go.Proofs.Ythgaihhlbgccoaa.Fp Go.Proofs.Ythgaihhlbgccoaa.Fn Go.Proofs.Ythgaihhlbgccoaa.Op Go.Proofs.Ythgaihhlbgccoaa.Cl Go.Proofs.Ythgaihhlbgccoaa.Rf

theorem cnt_ok {q : Nat} {n : Int} (h : (Nm.cnt q n).2 = 0) : ∃ t : Nat, n = (t : Int) ∧ t ≤ 64 ∧ q ^ t ≤ 65536 ∧ (Nm.cnt q n).1 = ((q ^ t : Nat) : Int) := by
 unfold Nm.cnt at h ⊢
 by_cases e1 : n < 0 ∨ 64 < n
 ·rw [if_pos e1] at h; exact absurd h (by decide)
 ·rw [if_neg e1] at h ⊢
  obtain ⟨t, rfl⟩ := Int.eq_ofNat_of_zero_le (show 0 ≤ n by omega)
  have hc : ((q ^ t : Nat) : Int) = (q : Int) ^ t := Int.natCast_pow q t
  rw [Int.toNat_natCast] at h ⊢
  by_cases e2 : 65536 < (q : Int) ^ t
  ·rw [if_pos e2] at h; exact absurd h (by decide)
  ·rw [if_neg e2]
   exact ⟨t, rfl, by omega, by omega, hc.symm⟩
theorem WordSteps_loop {P m : Int} {q n : Nat} {Mod E G : List Int} (hq : 2 ≤ q) (hq1 : q ≤ 65536) (hn : n ≤ 64) (hc : q ^ n ≤ 65536)
  (hend : Ev (fun k => (word_Steps.f k P m Mod (q : Int) E G 1).bind fun bt246 => (if bt246.2.1 = 0 then (some ((bt246.1.length : Int) == (wrap64 ((q : Int) - 1)))) else (some false))) true) : ∀ d t : Nat, t + 1 + d = q ^ n →
  Ev (fun k => cw_WordSteps.l0 k (n : Int) (LS q n (q ^ n - 1)) ((q ^ n : Nat) : Int) (q : Int) (W q n t) ((t + 1 : Nat) : Int) P m Mod (q : Int) E G) true
 | 0, t, h => by
  refine Ev.step (fun k => ?_) hend
  simp only [cw_WordSteps.l0]
  rw [if_neg (by omega)]
 | d + 1, t, h => by
  obtain ⟨p, hp, e0, e1, e2, hd, hw⟩ := St_ok (q := q) (n := n) (t := t) hq (by omega)
  have hl1 := rv_lt (q := q) (n := n) (t := t) hq p
  have hl2 := rv_lt (q := q) (n := n) (t := t + 1) hq p
  have hlw : (W q n t).length = n := L_length _ _
  have hlw2 : (W q n (t + 1)).length = n := L_length _ _
  have ei : wrap64 (((t + 1 : Nat) : Int) - 1) = (t : Int) := by rw [w64_id (by omega) (by omega)]; omega
  have hg : rd_T45 (LS q n (q ^ n - 1)) (t : Int) = St q n t := LS_get q n _ t (by omega)
  have hrd : rd (W q n t) (p : Int) = (rv q n t p : Int) := rd_L _ _ _ hp
  have hj : Ev (fun k => cw_WordSteps.j1 k (n : Int) (LS q n (q ^ n - 1)) ((q ^ n : Nat) : Int) (q : Int) (W q n t) ((t + 1 : Nat) : Int) false P m Mod (q : Int) E G (p : Int) (rv q n t p : Int) (rv q n (t + 1) p : Int)) true := by
   refine Ev.step (f := fun k => (crB_Reflected.f k (q : Int) (n : Int) ((t + 1 : Nat) : Int)).bind fun t257 => (crB_Same.f k (W q n (t + 1)) t257).bind fun t260 => if t260 = true then cw_WordSteps.l0 k (n : Int) (LS q n (q ^ n - 1)) ((q ^ n : Nat) : Int) (q : Int) (W q n (t + 1)) ((t + 1 + 1 : Nat) : Int) P m Mod (q : Int) E G else some false) (fun k => ?_) ((ref_ev hq hq1 hn (by omega)).bind ((same_self _ (by omega)).bind (Ev.congr (fun k => if_pos rfl) (WordSteps_loop hq hq1 hn hc hend d (t + 1) (by omega)))))
   simp only [cw_WordSteps.j1]
   rw [if_neg (by simp), if_pos (by omega), hlw, if_pos (by omega), Option.bind_some, Int.toNat_natCast, hw, w64_id (by omega) (by omega)]
   rfl
  refine Ev.step (fun k => ?_) hj
  simp only [cw_WordSteps.l0]
  rw [if_pos (by omega), ei, if_pos (by omega), LS_length, if_pos (by omega), hg, e0, e1, e2, if_neg (by omega), if_neg (by omega), if_pos (by omega), hlw, if_pos (by omega), hrd, if_pos rfl]
  rcases hd with hd | hd
  ·rw [if_pos (by rw [w64_id (by omega) (by omega)]; omega)]
  ·rw [if_neg (by rw [w64_id (by omega) (by omega)]; omega), show ((rv q n (t + 1) p : Int) != wrap64 ((rv q n t p : Int) - 1)) = false by rw [bne_eq_false_iff_eq, w64_id (by omega) (by omega)]; omega]
theorem WordSteps_field {P : Int} {m q : Nat} {Mod : List Int} {g : Int} (hP : P ≤ 9223372036854775807) (hq : ord P m = (q : Int)) (hf : Fld P m q Mod g)
  (ho : Ev (fun k => cw_open.f k P m Mod) (P, (m : Int), Mod, (q : Int), ex P m q Mod g, lo P m q Mod g, false, true)) (n : Int) : Ev (fun k => cw_WordSteps.f k P m Mod n) true := by
 have s := hf.s
 have hq2 := Pig.one_lt (show 1 < P by have := s.hP; omega) s.hM
 have hq3 := s.hq
 have hq4 := s.hq1
 have hst := fun n => steps_ev (P := P) (m := (m : Int)) (q := q) (Mod := Mod) (E := ex P m q Mod g) (G := lo P m q Mod g) (by omega) (by omega) n
 have hend : Ev (fun k => (word_Steps.f k P m Mod (q : Int) (ex P m q Mod g) (lo P m q Mod g) 1).bind fun bt246 => (if bt246.2.1 = 0 then (some ((bt246.1.length : Int) == (wrap64 ((q : Int) - 1)))) else (some false))) true := by
  have h := hst 1
  have e1 : (Nm.cnt (q : Int) 1).2 = 0 := by
   unfold Nm.cnt
   rw [if_neg (by omega)]
   show (if 65536 < (q : Int) ^ 1 then ((0, 8) : Int × Int) else ((q : Int) ^ 1, 0)).2 = 0
   rw [Int.pow_succ, Int.pow_zero, Int.one_mul, if_neg (by omega)]
  rw [if_pos e1] at h
  refine h.bind (Ev.congr (fun k => if_pos rfl) ?_)
  dsimp only
  rw [LS_length, show q ^ (1 : Int).toNat = q by show q ^ 1 = q; rw [Nat.pow_one], w64_id (by omega) (by omega), show (((q - 1 : Nat) : Int) == (q : Int) - 1) = true by rw [beq_iff_eq]; omega]
  exact Ev.now _
 unfold cw_WordSteps.f
 refine ho.bind ?_
 dsimp only
 refine Ev.congr (fun k => if_neg Bool.false_ne_true) ?_
 refine (hst n).bind ?_
 refine (Nm.rcount_ev hP hq (by omega) (by omega) n).bind ?_
 by_cases h : (Nm.cnt (q : Int) n).2 = 0
 ·obtain ⟨t, rfl, h1, h2, h3⟩ := cnt_ok h
  have hp : 0 < q ^ t := Nat.pow_pos (by omega)
  rw [if_pos h, Int.toNat_natCast]
  dsimp only
  have hor := rorder_ev P m Mod hP
  rw [hq] at hor
  refine Ev.congr (f := fun k => (cr4_Order.f k P m Mod).bind fun u => cw_WordSteps.l0 k (t : Int) (LS q t (q ^ t - 1)) ((q ^ t : Nat) : Int) u (W q t 0) ((0 + 1 : Nat) : Int) P m Mod (q : Int) (ex P m q Mod g) (lo P m q Mod g)) (fun k => ?_) (hor.bind (WordSteps_loop (by omega) (by omega) h1 h2 hend (q ^ t - 1) 0 (by omega)))
  rw [if_pos h.symm, if_pos h, h3, LS_length, if_pos (by rw [w64_id (by omega) (by omega)]; omega)]
  congr 1
  funext u
  rw [if_pos (by omega), if_pos (by omega), W_zero]
  rfl
 ·rw [if_neg h]
  dsimp only
  refine Ev.congr (fun k => (if_pos rfl).trans (if_neg h)) ?_
  exact Ev.now _
theorem WordSteps (a0_0 a0_1 : Int) (A0_2 : Option Addr) (c0_2 : Nat) (l0_2 : List Int) (a1 : Int) (w : World) (hP : a0_0 ≤ 9223372036854775807)
  (hr0_2 : Kd.C (Kd.int .i64) w A0_2 l0_2.length l0_2) (hc0_2 : l0_2.length ≤ c0_2) (_w1 : (Lit.int .i64 a1).wf = true) :
  Calls Try.prog 5 #[.agg #[.int .i64 a0_0, .int .i64 a0_1, .slice A0_2 l0_2.length c0_2], .int .i64 a1] w fun e w' => e = .returned (.bool true) ∧ Below w.heap.size w w' := by
 rcases open_or a0_0 a0_1 l0_2 hP with ⟨q, m, g, rfl, hq, hf, ho⟩ | ⟨⟨K1, h1⟩, ⟨K2, h2⟩⟩
 ·obtain ⟨k, h⟩ := (WordSteps_field hP hq hf ho a1).rounds
  exact cw_WordSteps.calls k a0_0 m A0_2 c0_2 l0_2 a1 true w hr0_2 hc0_2 h
 ·exact cw_WordSteps.calls_no (max K1 K2) a0_0 a0_1 A0_2 c0_2 l0_2 a1 [] [] [] 1 w hr0_2 hc0_2 (h1 _ (by omega)) (h2 _ (by omega)) (by decide)
end Go.Proofs.Ythgaihhlbgccoaa.Pure
