-- Joined by pack.py, a program of this work: NoWordWalks PureWordWalks
import Derived.Test.YthgaihhlbgccoaaZWc
import Derived.Test.YthgaihhlbgccoaaZRf
import Derived.Test.YthgaihhlbgccoaaZOp
/- Where open says 'no field': cw_WordWalks returns true. -/
namespace Go.Proofs.Ythgaihhlbgccoaa.Q
open Go.RowKit Go.Shelf Go.Proofs.YthgaihhlbgccoaaW.PrintWords Go.Proofs.YthgaihhlbgccoaaW.PrintLast Go.Proofs.YthgaihhlbgccoaaW.PrintMore
attribute [local go_sem] Oper.semAt_some
set_option linter.unusedVariables false
set_option linter.unusedSimpArgs false
set_option maxHeartbeats 4000000 in
set_option maxRecDepth 100000 in
theorem cw_WordWalks.calls_no (k : Nat) (a0_0 : Int) (a0_1 : Int) (A0_2 : Option Addr) (c0_2 : Nat) (l0_2 : List Int) (a1 : Int) (sm sx sl : List Int) (c : Int) (w : World) (hr0_2 : Kd.C (Kd.int .i64) w A0_2 l0_2.length l0_2) (hc0_2 : l0_2.length ≤ c0_2) (hN : field_New.f k a0_0 a0_1 l0_2 = some (sm, sx, sl, 1)) (hC : cr4_Check.f k a0_0 a0_1 l0_2 = some c) (hc : (c == 0) = false) :
  Calls Try.prog 10 #[.agg #[.int .i64 a0_0, .int .i64 a0_1, .slice A0_2 l0_2.length c0_2], .int .i64 a1] w fun e w' => e = .returned (.bool true) ∧ Below w.heap.size w w' := by
 have hu24 := Try.underlying24
 refine (callsIn_wide (n := 5)).1 ?_
 refine callsIn_of_wp_marks Try.func10 rfl trivial ?_ rfl
 simp only [Try.ntmps10, List.size_toArray, List.length_cons, List.length_nil, Nat.reduceAdd, Nat.reduceSub, Array.replicate_succ, Array.replicate_zero, List.push_toArray, List.append_toArray, List.nil_append, List.cons_append]
 obtain ⟨W1, hW1⟩ : ∃ W1, (((w.alloc (.cells #[.int .i64 a0_0, .int .i64 a0_1, .slice A0_2 l0_2.length c0_2] 24)).alloc (.cells #[.int .i64 a1] 3)).alloc (.cells #[.bool false] 4)) = W1 := ⟨_, rfl⟩
 have hs1 : W1.heap.size = w.heap.size + 3 := by rw [← hW1]; simp
 have b1 : Below w.heap.size w W1 := by rw [← hW1]; exact below_alloc (below_alloc (below_alloc (Below.refl _ _) _) _) _
 have x1 : W1.heap[w.heap.size]? = some (.cells #[.int .i64 a0_0, .int .i64 a0_1, .slice A0_2 l0_2.length c0_2] 24 (0, 0)) := by rw [← hW1]; exact blk_alloc (blk_alloc (blk_new w _) _) _
 have y1 : W1.heap[w.heap.size + 1]? = some (.cells #[.int .i64 a1] 3 (0, 0)) := by
  have h := blk_new (w.alloc (.cells #[.int .i64 a0_0, .int .i64 a0_1, .slice A0_2 l0_2.length c0_2] 24)) (.cells #[.int .i64 a1] 3)
  rw [World.size_alloc] at h
  rw [← hW1]; exact blk_alloc h _
 have z1 : W1.heap[w.heap.size + 2]? = some (.cells #[.bool false] 4 (0, 0)) := by
  have h := blk_new ((w.alloc (.cells #[.int .i64 a0_0, .int .i64 a0_1, .slice A0_2 l0_2.length c0_2] 24)).alloc (.cells #[.int .i64 a1] 3)) (.cells #[.bool false] 4)
  rw [World.size_alloc, World.size_alloc] at h
  rw [← hW1]; exact h
 have cw0 : W1.cell? ⟨w.heap.size, 0, none⟩ = some (.int .i64 a0_0) := (blk_cell x1 0).trans rfl
 have cw1 : W1.cell? ⟨w.heap.size, 1, none⟩ = some (.int .i64 a0_1) := (blk_cell x1 1).trans rfl
 have cw2 : W1.cell? ⟨w.heap.size, 2, none⟩ = some (.slice A0_2 l0_2.length c0_2) := (blk_cell x1 2).trans rfl
 gi_wp2
 clear hW1 cw0 cw1 cw2
 refine ⟨trivial, (callsIn_wide.2 (cw_open.calls_no k a0_0 a0_1 A0_2 c0_2 l0_2 sm sx sl c W1 (Kd.C_below hr0_2 b1) hc0_2 hN hC hc)).mono ?_⟩
 rintro e W2 ⟨rfl, hB2⟩
 have z2 := blk_below z1 hB2
 have b2 : Below w.heap.size w W2 := below_step b1 hB2
 have kz : W2.cell? ⟨w.heap.size + 1 + 1, 0, none⟩ = some (.bool false) := (blk_cell z2 0).trans rfl
 have kf := blk_frozen z2 0
 gi_wp2
 have hzd : (W2.setCell ⟨w.heap.size + 1 + 1, 0, none⟩ (.bool true)).cell? ⟨w.heap.size + 1 + 1, 0, none⟩ = some (.bool true) := (blk_cell (blk_put z2 0 _ rfl) 0).trans rfl
 have hr : Try.f10.results = #[.cell 4 4] := rfl
 have hu4 := Try.underlying4
 refine ⟨.bool true, ?_, rfl, below_set b2 (by omega)⟩
 simp only [results, hr]
 go_simp
end Go.Proofs.Ythgaihhlbgccoaa.Q
/- WordWalks: for every description of a field and all lengths. -/
namespace Go.Proofs.Ythgaihhlbgccoaa.Pure
open Go.RowKit Go.Proofs.Ythgaihhlbgccoaa.Q Go.Proofs.YthgaihhlbgccoaaW.PrintWords Go.Proofs.YthgaihhlbgccoaaW.PrintLast Go.Proofs.Ythgaihhlbgccoaa.Fv Go.Proofs.Ythgaihhlbgccoaa.Fo Go.Proofs.Ythgaihhlbgccoaa.Fp Go.Proofs.Ythgaihhlbgccoaa.Fn Go.Proofs.Ythgaihhlbgccoaa.Op Go.Proofs.Ythgaihhlbgccoaa.Cl Go.Proofs.Ythgaihhlbgccoaa.Rf

/-- Rounds enough for all of finitely many. -/
theorem ev_all {α : Type} (f : Nat → Nat → Option α) (r : Nat → α) : ∀ c : Nat, (∀ i, i < c → Ev (f i) (r i)) → ∃ K, ∀ k, K ≤ k → ∀ i, i < c → f i k = some (r i)
 | 0, _ => ⟨0, fun _ _ i hi => absurd hi (Nat.not_lt_zero i)⟩
 | c + 1, h => by
  obtain ⟨K, hK⟩ := ev_all f r c (fun i hi => h i (by omega))
  obtain ⟨K2, hK2⟩ := h c (by omega)
  refine ⟨max K K2, fun k hk i hi => ?_⟩
  by_cases e : i = c
  ·subst e; exact hK2 k (by omega)
  ·exact hK k (by omega) i (by omega)
/-- The walk's words and directions, and what lies there behind the last. -/
def Wt (q n : Nat) (i : Nat) : List Int := W q n (min i (q ^ n - 1))
def Dt (q n : Nat) (i : Nat) : List Bool := if i < q ^ n then D q n i else LB n (fun j => !dn q n (q ^ n - 1) j)
theorem nres_all {q n i : Nat} (hq : 2 ≤ q) (hi : i < q ^ n) : nres q n i n = ((nres q n i n).1, (nres q n i n).2.1, (nres q n i n).2.2.1, decide (i + 1 < q ^ n), Wt q n (i + 1), Dt q n (i + 1)) := by
 by_cases h : i + 1 < q ^ n
 ·have e1 : Wt q n (i + 1) = W q n (i + 1) := by unfold Wt; rw [Nat.min_eq_left (by omega)]
  have e2 : Dt q n (i + 1) = D q n (i + 1) := if_pos h
  rw [e1, e2, decide_eq_true h, nres_lt hq h]
 ·have e0 : i + 1 = q ^ n := by omega
  have e1 : Wt q n (i + 1) = W q n i := by unfold Wt; rw [Nat.min_eq_right (by omega)]; congr 1; omega
  have e2 : Dt q n (i + 1) = LB n (fun j => !dn q n i j) := by unfold Dt; rw [if_neg h, show q ^ n - 1 = i by omega]
  rw [e1, e2, decide_eq_false h, nres_end hq e0]
theorem cntz (q : Int) : Nm.cnt q 0 = (1, 0) := by
 unfold Nm.cnt
 rw [if_neg (by omega)]
 show (if 65536 < q ^ 0 then ((0, 8) : Int × Int) else (q ^ 0, 0)) = (1, 0)
 rw [Int.pow_zero, if_neg (by omega)]
theorem cnt_ok {q : Nat} {n : Int} (h : (Nm.cnt q n).2 = 0) : ∃ t : Nat, n = (t : Int) ∧ t ≤ 64 ∧ q ^ t ≤ 65536 ∧ (Nm.cnt q n).1 = ((q ^ t : Nat) : Int) := by
 unfold Nm.cnt at h ⊢
 by_cases e1 : n < 0 ∨ 64 < n
 ·rw [if_pos e1] at h; exact absurd h (by decide)
 ·rw [if_neg e1] at h ⊢
  obtain ⟨t, rfl⟩ := Int.eq_ofNat_of_zero_le (show 0 ≤ n by omega)
  have hc : ((q ^ t : Nat) : Int) = (q : Int) ^ t := Int.natCast_pow q t
  rw [Int.toNat_natCast] at h ⊢
  by_cases e2 : 65536 < (q : Int) ^ t
  ·rw [if_pos e2] at h; exact absurd h (by decide)
  ·rw [if_neg e2]
   exact ⟨t, rfl, by omega, by omega, hc.symm⟩
theorem WordWalks_field {P : Int} {m q : Nat} {Mod : List Int} {g : Int} (hP : P ≤ 9223372036854775807) (hq : ord P m = (q : Int)) (hf : Fld P m q Mod g)
  (ho : Ev (fun k => cw_open.f k P m Mod) (P, (m : Int), Mod, (q : Int), ex P m q Mod g, lo P m q Mod g, false, true)) (n : Int) (A0_2 : Option Addr) (c0_2 : Nat) (w : World)
  (hr0_2 : Kd.C (Kd.int .i64) w A0_2 Mod.length Mod) (hc0_2 : Mod.length ≤ c0_2) :
  Calls Try.prog 10 #[.agg #[.int .i64 P, .int .i64 m, .slice A0_2 Mod.length c0_2], .int .i64 n] w fun e w' => e = .returned (.bool true) ∧ Below w.heap.size w w' := by
 have s := hf.s
 have hq2 := Pig.one_lt (show 1 < P by have := s.hP; omega) s.hM
 have hq3 := s.hq
 have hq4 := s.hq1
 have hcn := fun n => Nm.count_ev (P := P) (m := (m : Int)) (q := (q : Int)) (Mod := Mod) (E := ex P m q Mod g) (G := lo P m q Mod g) (by omega) (by omega) n
 obtain ⟨K1, h1⟩ := ho
 obtain ⟨K2, h2⟩ := hcn 0
 rw [cntz] at h2
 obtain ⟨K3, h3⟩ := hcn n
 obtain ⟨K4, h4⟩ := Nm.rcount_ev (Mod := Mod) hP hq (show (2 : Int) ≤ q by omega) (by omega) n
 have hor := rorder_ev P m Mod hP
 rw [hq] at hor
 obtain ⟨K5, h5⟩ := hor
 by_cases h : (Nm.cnt (q : Int) n).2 = 0
 ·obtain ⟨t, rfl, ht1, ht2, ht3⟩ := cnt_ok h
  have hp : 0 < q ^ t := Nat.pow_pos (by omega)
  obtain ⟨K6, h6⟩ := ev_all (fun i k => word_walker_next.f k (q : Int) (W q t i) (D q t i)) (fun i => nres q t i t) (q ^ t) (fun i _ => next_ev (by omega) (by omega) ht1)
  obtain ⟨K7, h7⟩ := ev_all (fun i k => crB_Reflected.f k (q : Int) (t : Int) (i : Int)) (fun i => W q t i) (q ^ t) (fun i hi => ref_ev (by omega) (by omega) ht1 (by omega))
  have hwl : ∀ i, (W q t i).length = t := fun i => L_length _ _
  obtain ⟨K8, h8⟩ := ev_all (fun i k => crB_Same.f k (W q t i) (W q t i)) (fun _ => true) (q ^ t) (fun i _ => same_self _ (by rw [hwl]; omega))
  obtain ⟨k, hk⟩ : ∃ k, k = K1 + K2 + K3 + K4 + K5 + K6 + K7 + K8 := ⟨_, rfl⟩
  have e3 := h3 k (by omega)
  rw [h] at e3
  have e4 := h4 k (by omega)
  rw [show Nm.cnt (q : Int) (t : Int) = (((q ^ t : Nat) : Int), 0) by rw [← ht3, ← h]] at e4
  have hst : word_start.f P m Mod (q : Int) (ex P m q Mod g) (lo P m q Mod g) (t : Int) = some ((q : Int), P, (m : Int), (q : Int)) := by
   unfold word_start.f field_GF_Order.f
   rw [Option.bind_some, if_pos (by omega), if_pos (by omega), if_pos (by omega)]
  have hWi : ∀ i, i < q ^ t → Wt q t i = W q t i := fun i hi => by unfold Wt; rw [Nat.min_eq_left (by omega)]
  refine cw_WordWalks.calls k (q ^ t) P m A0_2 c0_2 Mod (t : Int) w hr0_2 hc0_2 P m Mod q (ex P m q Mod g) (lo P m q Mod g) P m q ((q ^ t : Nat) : Int) 0 q (Wt q t) (W q t) (h1 k (by omega)) (h2 k (by omega)) e4 (if_pos rfl) (h5 k (by omega)) (fun g' => ?_) (by omega) (fun i hi => h7 k (by omega) i hi) (fun i hi => by rw [hWi i hi]; exact h8 k (by omega) i hi)
  intro n l B bg bn J w0 W0 hn hJ hY h0 hBW hI hB0 hbg hbn hng hnn
  exact word_Walk1_in n l B (q ^ t) k g' bg bn J (Wt q t) (Dt q t) (fun i => (nres q t i t).1) (fun i => (nres q t i t).2.1) (fun i => (nres q t i t).2.2.1) P m Mod q (ex P m q Mod g) (lo P m q Mod g) (t : Int) _ P m q q P m q w0 W0 hn (by omega) hJ hY h0 hBW hI hB0 hbg hbn hng hnn e3 hst
   (by rw [hWi 0 hp, W_zero, Int.toNat_natCast]) (by rw [show Dt q t 0 = D q t 0 from if_pos hp, D_zero, Int.toNat_natCast]) (fun i => by unfold Wt; rw [hwl]; omega)
   (fun i hi => by rw [hWi i hi, show Dt q t i = D q t i from if_pos hi, ← nres_all (by omega) hi]; exact h6 k (by omega) i hi)
 ·obtain ⟨k, hk⟩ : ∃ k, k = K1 + K2 + K3 + K4 + K5 := ⟨_, rfl⟩
  refine cw_WordWalks.calls k 0 P m A0_2 c0_2 Mod n w hr0_2 hc0_2 P m Mod q (ex P m q Mod g) (lo P m q Mod g) P m q (Nm.cnt (q : Int) n).1 (Nm.cnt (q : Int) n).2 q (fun _ => []) (fun _ => []) (h1 k (by omega)) (h2 k (by omega)) (h4 k (by omega)) (if_neg h) (h5 k (by omega)) (fun g' => ?_) (by omega) (fun i hi => absurd hi (Nat.not_lt_zero i)) (fun i hi => absurd hi (Nat.not_lt_zero i))
  intro n' l B bg bn J w0 W0 hn hJ hY h0 hBW hI hB0 hbg hbn hng hnn
  exact word_Walk1_err n' l B k g' bg bn hn J P m Mod q (ex P m q Mod g) (lo P m q Mod g) n _ _ P m q w0 W0 hJ h0 hBW hI hB0 hbg hbn (h3 k (by omega)) h
theorem WordWalks (a0_0 a0_1 : Int) (A0_2 : Option Addr) (c0_2 : Nat) (l0_2 : List Int) (a1 : Int) (w : World) (hP : a0_0 ≤ 9223372036854775807)
  (hr0_2 : Kd.C (Kd.int .i64) w A0_2 l0_2.length l0_2) (hc0_2 : l0_2.length ≤ c0_2) (_w1 : (Lit.int .i64 a1).wf = true) :
  Calls Try.prog 10 #[.agg #[.int .i64 a0_0, .int .i64 a0_1, .slice A0_2 l0_2.length c0_2], .int .i64 a1] w fun e w' => e = .returned (.bool true) ∧ Below w.heap.size w w' := by
 rcases open_or a0_0 a0_1 l0_2 hP with ⟨q, m, g, rfl, hq, hf, ho⟩ | ⟨⟨K1, h1⟩, ⟨K2, h2⟩⟩
 ·exact WordWalks_field hP hq hf ho a1 A0_2 c0_2 w hr0_2 hc0_2
 ·exact cw_WordWalks.calls_no (max K1 K2) a0_0 a0_1 A0_2 c0_2 l0_2 a1 [] [] [] 1 w hr0_2 hc0_2 (h1 _ (by omega)) (h2 _ (by omega)) (by decide)
end Go.Proofs.Ythgaihhlbgccoaa.Pure
