-- Joined by pack.py, a program of this work: Qx27 Qx23 Un Fl Qx19 Ms Rv Mm Tr Qx17 Qx18 Qx20 Qx21 Qx22
import Derived.Test.YtmclalniilkjiaaZExact0
import Derived.Test.YtmclalniilkjiaaZExact2
namespace Go.Proofs.Ytmclalniilkjiaa.Q
open Go.RowKit Go.Proofs.YtmclalniilkjiaaW.PrintWords Go.Proofs.YtmclalniilkjiaaW.PrintLast Go.Proofs.YtmclalniilkjiaaW.PrintMore
open List renaming setIfInBounds_toArray → l01_, set_cons_zero → l02_, set_cons_succ → l03_
attribute [local go_sem] max2_int min2_int max_two min_two max_three min_three max_four min_four
set_option linter.unusedVariables false
set_option linter.unusedSimpArgs false
def crM_Two.f  : Option (Int × Int × List Int) := some (2, 1, ([] : List Int))
set_option maxHeartbeats 8000000 in
set_option maxRecDepth 100000 in
theorem crM_Two.calls  (r1 : Int) (r2 : Int) (r3 : List Int) (w : World) (h : crM_Two.f  = some (r1, r2, r3)) :
  Calls Try.prog 26 #[] w fun e w' => ∃ v2_ : Value, e = .returned (.agg #[.int .i64 r1, .int .i64 r2, v2_]) ∧ Kd.R (Kd.int .i64) 3 w' w.heap.size (fun _ => True) v2_ r3 ∧ Below w.heap.size w w' := by
 have hu44 := Try.underlying44;have HB := Ai0.mk (Below.refl w.heap.size w);have H : (some (2, 1, ([] : List Int))) = some (r1, r2, r3) := h;clear h;simp only [Option.some.injEq, Prod.mk.injEq] at H;obtain ⟨rfl, rfl, rfl⟩ := H;go_enter Try.func26, Try.ntmps26
 go_wp2_with (first | ((with_reducible refine gate_dst (N := 0) rfl ?_); refine box_event ?hg (N := 0) ?hd (cs := #[.int .i64 0, .int .i64 0, .slice none 0 0]) (t := 44) ?hr ?_; (case hd => rfl); (case hg => rfl); (case hr => first | (go_simp; done) | (go_simp; rfl)); intro gb156 hg w1 hbox hb; have n0_ := Ai0.mk (bt1 bl_ hb); have n1_ := Ai0.mk (hbox); have n2_ := Ai0.mk ((by rw [hg]; exact (bz1 bl_) : w.heap.size ≤ gb156)); have n3_ := Ai0.mk ((by rw [hg]; exact (bz1 bl_) : w.heap.size ≤ gb156)); clear HB; have HB := n0_; have BK156 := n1_; have GW156 := n2_; have GE156 := n3_; clear n0_ n1_ n2_ n3_; clear hb hbox hg; have hcz2_0 : w1.cell? ⟨gb156, 0, none⟩ = some (.int .i64 0) := (kc1 BK156.out 0).trans rfl; have hcz2_1 : w1.cell? ⟨gb156, 1, none⟩ = some (.int .i64 0) := (kc1 BK156.out 1).trans rfl; have hcz2_2 : w1.cell? ⟨gb156, 2, none⟩ = some (.slice none 0 0) := (kc1 BK156.out 2).trans rfl; have hfz2_0 := kf1 BK156.out 0; have hfz2_1 := kf1 BK156.out 1; have hfz2_2 := kf1 BK156.out 2))
 refine bodyPost_ret (results_cell_row rfl _ _ gb156 44 #[.int .i64 2, .int .i64 1, .slice none 0 0] (0, 0) _ rfl (by (with_reducible repeat (first | refine kn1 ?_ _ | refine kd1 ?_ | refine ka1 ?_ _)); refine blk_put (cs := #[.int .i64 2, .int .i64 1, .slice none 0 0]) ?_ 2 _ rfl; (with_reducible repeat (first | refine kn1 ?_ _ | refine kd1 ?_ | refine ka1 ?_ _)); refine blk_put (cs := #[.int .i64 2, .int .i64 0, .slice none 0 0]) ?_ 1 _ rfl; (with_reducible repeat (first | refine kn1 ?_ _ | refine kd1 ?_ | refine ka1 ?_ _)); refine blk_put (cs := #[.int .i64 0, .int .i64 0, .slice none 0 0]) ?_ 0 _ rfl; (with_reducible repeat (first | refine kn1 ?_ _ | refine kd1 ?_ | refine ka1 ?_ _)); exact BK156.out) Try.underlying44 rfl (by kernel_rfl)) rfl ?_;exact ⟨_, by first | rfl | (simp [eW0, eW1] <;> rfl) | (simp [*, eW0, eW1] <;> rfl), by first | exact Kd.R_nil _ _ _ _ _ | exact Kd.N_nil _ _ _ _ _ | exact Kd.V_nil _ _ _ _ _ | exact Kd.Q_nil _ _ _ _ _ | exact Kd.S_nil _ _ _ _ _, bl_⟩
def cr9_SameInts.l0 : Nat → List Int → List Int → Int → Option (Bool)
 | 0, _, _, _ => none
 | k + 1, x0, x1, x5 => if x5 < (x0.length : Int) then (if 0 ≤ x5 then (if x5 < (x1.length : Int) then (if (rd x0 x5) = (rd x1 x5) then (cr9_SameInts.l0 k x0 x1 (wrap64 (x5 + 1))) else (some false)) else (none)) else (none)) else (some true)
def cr9_SameInts.f (k : Nat) (l0 : List Int) (l1 : List Int) : Option (Bool) := if (l0.length : Int) = (l1.length : Int) then (cr9_SameInts.l0 k l0 l1 0) else (some false)
theorem cr9_SameInts.mono_l : ∀ k, (∀ y0 y1 y2, LeO (cr9_SameInts.l0 k y0 y1 y2) (cr9_SameInts.l0 (k + 1) y0 y1 y2))
 | 0 => fun _ _ _ r h => by simp [cr9_SameInts.l0] at h
 | k + 1 => by
  have ih0 := cr9_SameInts.mono_l k
  ·intro y0 y1 y2;unfold cr9_SameInts.l0
   repeat' first
   | (with_reducible exact ih0 _ _ _)
   | (with_reducible exact LeO.refl _)
   | (with_reducible exact LeO.none _)
   | (with_reducible refine LeO.ite ?_ ?_)
   | (with_reducible refine LeO.bind ?_ (fun _ => ?_))
   | exact ih0 _ _ _
   | exact LeO.none _
   | refine LeO.ite ?_ ?_
   | refine LeO.bind ?_ (fun _ => ?_)
theorem cr9_SameInts.mono : ∀ a0 a1 k, LeO (cr9_SameInts.f k a0 a1) (cr9_SameInts.f (k + 1) a0 a1) := by
 intro a0 a1 k;have ih0 := cr9_SameInts.mono_l k;unfold cr9_SameInts.f
 repeat' first
   | (with_reducible exact ih0 _ _ _)
   | (with_reducible exact LeO.refl _)
   | (with_reducible exact LeO.none _)
   | (with_reducible refine LeO.ite ?_ ?_)
   | (with_reducible refine LeO.bind ?_ (fun _ => ?_))
   | exact ih0 _ _ _
   | exact LeO.none _
   | refine LeO.ite ?_ ?_
   | refine LeO.bind ?_ (fun _ => ?_)
set_option maxHeartbeats 8000000 in
set_option maxRecDepth 100000 in
theorem cr9_SameInts.calls (k : Nat) (A0 : Option Addr) (c0 : Nat) (l0 : List Int) (A1 : Option Addr) (c1 : Nat) (l1 : List Int) (r : Bool) (w : World) (hr0 : Kd.C (Kd.int .i64) w A0 l0.length l0) (hc0 : l0.length ≤ c0) (hr1 : Kd.C (Kd.int .i64) w A1 l1.length l1) (hc1 : l1.length ≤ c1) (h : cr9_SameInts.f k l0 l1 = some r) :
  Calls Try.prog 27 #[.slice A0 l0.length c0, .slice A1 l1.length c1] w fun e w' => e = .returned (.bool r) ∧ Drawn0 w w' := by
 have HR0 := Ai0.mk hr0;have HC0 := Ai0.mk hc0;clear hr0 hc0;have HR1 := Ai0.mk hr1;have HC1 := Ai0.mk hc1;clear hr1 hc1;have H : (if (l0.length : Int) = (l1.length : Int) then (cr9_SameInts.l0 k l0 l1 0) else (some false)) = some r := h;clear h;by_cases c3 : (l0.length : Int) = (l1.length : Int)
 ·rw [if_pos c3] at H;have c3b0 : ((l0.length : Int) == (l1.length : Int)) = true := beq_iff_eq.mpr c3;have c3b1 : ((l0.length : Int) != (l1.length : Int)) = false := bne_eq_false_iff_eq.mpr c3;have c3b2 : (l0.length == l1.length) = true := by first | simpa using c3 | (simp at c3 ⊢; omega)
  clear c3;have H' := Ai0.mk H;clear H;go_enter Try.func27, Try.ntmps27
  go_wp2
  repeat (go_quiet (fail); try go_wp2)
  go_loopg [5] k (fun kq v5 w' => ∃ (x5_1 : Int), v5 = .int .i64 x5_1 ∧ Ai0 (cr9_SameInts.l0 kq l0 l1 x5_1 = some r) ∧ Ai0 (kq ≤ k) ∧ Drawn0 w w')
  case atStart => exact ⟨(0), rf_, H', ⟨Nat.le_refl _⟩, by repeat (first | exact Drawn0.refl _ | apply Drawn0.step)⟩
  case round =>
   clear H'
   try clear c1
   try clear c2
   try clear p2
   try clear c3
   try clear c3b0
   try clear c3b1
   try clear c3b2
   obtain ⟨x5_1, rfl, HA, HK1, ⟨m1, rfl⟩⟩ := hrel
   cases gk with
   | zero => exact absurd HA.out (by simp [cr9_SameInts.l0])
   | succ k1 =>
    have H := HA.out;clear HA;simp only [cr9_SameInts.l0] at H;by_cases c4 : x5_1 < (l0.length : Int)
    ·rw [if_pos c4] at H;have c4b0 : decide (x5_1 < (l0.length : Int)) = true := decide_eq_true c4;clear c4;by_cases c5 : 0 ≤ x5_1
     ·rw [if_pos c5] at H;have c5b0 : decide (0 ≤ x5_1) = true := decide_eq_true c5;clear c5;by_cases c6 : x5_1 < (l1.length : Int)
      ·rw [if_pos c6] at H;have c6b0 : decide (x5_1 < (l1.length : Int)) = true := decide_eq_true c6;clear c6;by_cases c7 : (rd l0 x5_1) = (rd l1 x5_1)
       ·rw [if_pos c7] at H;have c7b0 : ((rd l0 x5_1) == (rd l1 x5_1)) = true := beq_iff_eq.mpr c7;have c7b1 : ((rd l0 x5_1) != (rd l1 x5_1)) = false := bne_eq_false_iff_eq.mpr c7;clear c7;have H' := Ai0.mk H;clear H;have p127 : 0 ≤ (x5_1 : Int) := od_;have q127 : x5_1 < (l0.length : Int) := od_;obtain ⟨ad127, e127, hx127_0⟩ := Kd.at_int HR0.out x5_1 p127 q127;cases e127;replace p127 := eq_true p127;replace q127 := eq_true q127;have p128 : 0 ≤ (x5_1 : Int) := od_;have q128 : x5_1 < (l1.length : Int) := od_;obtain ⟨ad128, e128, hx128_0⟩ := Kd.at_int HR1.out x5_1 p128 q128;cases e128;replace p128 := eq_true p128;replace q128 := eq_true q128
        go_wp2
        repeat (go_quiet (fail); try go_wp2)
        go_roundg k1
        case measure => have := HK1.out; omega
        case rel => exact ⟨(wrap64 (x5_1 + 1)), rf_, H', ⟨by have := HK1.out; omega⟩, by repeat (first | exact Drawn0.refl _ | apply Drawn0.step)⟩
       ·rw [if_neg c7] at H;have c7b0 : ((rd l0 x5_1) == (rd l1 x5_1)) = false := beq_eq_false_iff_ne.mpr c7;have c7b1 : ((rd l0 x5_1) != (rd l1 x5_1)) = true := bne_iff_ne.mpr c7;obtain rfl := Option.some.inj H;have p127 : 0 ≤ (x5_1 : Int) := od_;have q127 : x5_1 < (l0.length : Int) := od_;obtain ⟨ad127, e127, hx127_0⟩ := Kd.at_int HR0.out x5_1 p127 q127;cases e127;replace p127 := eq_true p127;replace q127 := eq_true q127;have p128 : 0 ≤ (x5_1 : Int) := od_;have q128 : x5_1 < (l1.length : Int) := od_;obtain ⟨ad128, e128, hx128_0⟩ := Kd.at_int HR1.out x5_1 p128 q128;cases e128;replace p128 := eq_true p128;replace q128 := eq_true q128
        go_wp2
        repeat (go_quiet (fail); try go_wp2)
        go_ret
        exact ⟨by first | rfl | (simp; done) | (simp [*]; done), by repeat (first | exact Drawn0.refl _ | apply Drawn0.step)⟩
      ·rw [if_neg c6] at H;exact absurd H (by simp)
     ·rw [if_neg c5] at H;exact absurd H (by simp)
    ·rw [if_neg c4] at H;have c4b0 : decide (x5_1 < (l0.length : Int)) = false := decide_eq_false c4;clear c4;obtain rfl := Option.some.inj H
     go_wp2
     repeat (go_quiet (fail); try go_wp2)
     go_ret
     exact ⟨by first | rfl | (simp; done) | (simp [*]; done), by repeat (first | exact Drawn0.refl _ | apply Drawn0.step)⟩
 ·rw [if_neg c3] at H;have c3b0 : ((l0.length : Int) == (l1.length : Int)) = false := beq_eq_false_iff_ne.mpr c3;have c3b1 : ((l0.length : Int) != (l1.length : Int)) = true := bne_iff_ne.mpr c3;have c3b2 : (l0.length == l1.length) = false := by first | simpa using c3 | (simp at c3 ⊢; omega)
  obtain rfl := Option.some.inj H;go_enter Try.func27, Try.ntmps27
  go_wp2
  repeat (go_quiet (fail); try go_wp2)
  go_ret
  exact ⟨by first | rfl | (simp; done) | (simp [*]; done), by repeat (first | exact Drawn0.refl _ | apply Drawn0.step)⟩
end Go.Proofs.Ytmclalniilkjiaa.Q
/- What the printed odd, Unsatisfied and the document's Odd, Unsatisfied, Word compute. Condition: Check finds no fault, the word has one bit for each column. -/
namespace Go.Proofs.Ytmclalniilkjiaa.Un
open Go.RowKit Go.Proofs.Ytmclalniilkjiaa.Q Go.Proofs.YtmclalniilkjiaaW.PrintWords Go.Proofs.YtmclalniilkjiaaW.PrintLast Go.Proofs.Ytmclalniilkjiaa.Ba Go.Proofs.Ytmclalniilkjiaa.Ck Go.Proofs.Ytmclalniilkjiaa.Gr

theorem same_self (a : List Int) (ha : a.length ≤ 4611686018427387904) : Ev (fun k => cr9_SameInts.f k a a) true := by
 have loop : ∀ d i : Nat, i + d = a.length → Ev (fun k => cr9_SameInts.l0 k a a (i : Int)) true := by
  intro d
  induction d with
  | zero => exact fun i h => Ev.step (f := fun _ => some true) (fun k => by simp only [cr9_SameInts.l0]; rw [if_neg (by omega)]) (Ev.now _)
  | succ d ih =>
   intro i h
   refine Ev.step (fun k => ?_) (ih (i + 1) (by omega))
   simp only [cr9_SameInts.l0]
   rw [if_pos (by omega), if_pos (by omega), if_pos (by omega), if_pos True.intro, w64_id (by omega) (by omega)]
   rfl
 exact Ev.congr (fun k => by unfold cr9_SameInts.f; rw [if_pos rfl]; rfl) (loop a.length 0 (by omega))

/-- The number of positions of check j at which the word has 1. -/
def par (rows : List (List Int)) (w : List Int) (C j : Nat) : Int := sumTo (fun i => if bit rows j i = true then rd w (i : Int) else 0) C
def od (rows : List (List Int)) (w : List Int) (C j : Nat) : Bool := Int.tmod (par rows w C j) 2 == 1
def uns (rows : List (List Int)) (w : List Int) (C n : Nat) : List Int := PG (fun j => (j : Int)) (od rows w C) n
theorem par_bound (rows : List (List Int)) {w : List Int} (hw : okb w = true) (C j : Nat) : 0 ≤ par rows w C j ∧ par rows w C j ≤ (C : Int) :=
 sumTo_01 _ _ (fun i _ => by rcases okb_at hw i with h | h <;> split <;> omega)
theorem rodd_l0 {w row : List Int} (hw : okb w = true) (hrow : okb row = true) (hn : row.length ≤ 256) (hlen : w.length = row.length) : ∀ d i : Nat, i + d = row.length →
  Ev (fun k => crM_Odd.l0 k row w (sumTo (fun t => rd row (t : Int) * rd w (t : Int)) i) (i : Int)) (Int.tmod (sumTo (fun t => rd row (t : Int) * rd w (t : Int)) row.length) 2 == 1)
 | 0, i, h => by
  obtain rfl : i = row.length := by omega
  refine Ev.step (f := fun _ => some _) (fun k => ?_) (Ev.now _)
  simp only [crM_Odd.l0]
  rw [if_neg (by omega)]
 | d + 1, i, h => by
  have ih := rodd_l0 hw hrow hn hlen d (i + 1) (by omega)
  have hb : ∀ t : Nat, 0 ≤ rd row (t : Int) * rd w (t : Int) ∧ rd row (t : Int) * rd w (t : Int) ≤ 1 := by
   intro t
   rcases okb_at hrow t with h | h <;> rcases okb_at hw t with h' | h' <;> rw [h, h'] <;> omega
  have h2 := sumTo_01 (fun t => rd row (t : Int) * rd w (t : Int)) i (fun t _ => hb t)
  have h3 := hb i
  refine Ev.step (fun k => ?_) ih
  simp only [crM_Odd.l0]
  rw [if_pos (by omega), if_pos (by omega), if_pos (by omega), w64_id (n := (i : Int) + 1) (by omega) (by omega), w64_id (n := rd row (i : Int) * rd w (i : Int)) (by omega) (by omega), w64_id (by omega) (by omega)]
  rfl
theorem rodd_ev (rows : List (List Int)) {w : List Int} (hw : okb w = true) (C j : Nat) (hC : C ≤ 256) (hlen : w.length = C) (hrow : okb (rows.getD j []) = true) (hrl : (rows.getD j []).length = C) :
  Ev (fun k => crM_Odd.f k (rows.getD j []) w) (od rows w C j) := by
 have h := rodd_l0 hw hrow (by omega) (by omega) (rows.getD j []).length 0 (by omega)
 have e : sumTo (fun t => rd (rows.getD j []) (t : Int) * rd w (t : Int)) (rows.getD j []).length = par rows w C j := by
  rw [hrl]
  refine sumTo_congr _ _ _ (fun t _ => ?_)
  rcases okb_at hrow t with h | h
  ·rw [h, if_neg (by unfold bit; rw [h]; decide)]; omega
  ·rw [h, if_pos (by unfold bit; rw [h]; rfl)]; omega
 rw [e] at h
 exact h
theorem uns_le (rows : List (List Int)) (w : List Int) (C n : Nat) : (uns rows w C n).length ≤ n := PG_le _ _ n
theorem checks_at (rows : List (List Int)) (C n j : Nat) (h : j < n) : rd_L1 (checks rows C n) (j : Int) = one rows j C := by rw [rd_L1_nat]; exact LL_at _ _ _ _ h
section
variable (rows : List (List Int)) {w : List Int} (hw : okb w = true) (C : Nat) (hC : C ≤ 256) (hlen : w.length = C) (hr : rows.length ≤ 256)
include hw hC hlen hr
theorem runsat_l0 (c : Int) (hrow : ∀ j, j < rows.length → okb (rows.getD j []) = true) (hrl : ∀ j, j < rows.length → (rows.getD j []).length = C) : ∀ d j : Nat, j + d = rows.length →
  Ev (fun k => crM_Unsatisfied.l0 k w (uns rows w C j) (j : Int) c rows) (uns rows w C rows.length)
 | 0, j, h => by
  obtain rfl : j = rows.length := by omega
  refine Ev.step (f := fun _ => some _) (fun k => ?_) (Ev.now _)
  simp only [crM_Unsatisfied.l0]
  rw [if_neg (by omega)]
 | d + 1, j, h => by
  have ih := runsat_l0 c hrow hrl d (j + 1) (by omega)
  have hu := uns_le rows w C j
  refine Ev.step (f := fun k => (crM_Odd.f k (rows.getD j []) w).bind fun t => if t = true then (if (uns rows w C j).length < 17592186044416 then crM_Unsatisfied.l0 k w (uns rows w C j ++ [(j : Int)]) (wrap64 ((j : Int) + 1)) c rows else none) else crM_Unsatisfied.l0 k w (uns rows w C j) (wrap64 ((j : Int) + 1)) c rows) (fun k => ?_) ?_
  ·simp only [crM_Unsatisfied.l0, rd_L1_nat]
   rw [if_pos (by omega), if_pos (by omega)]
  refine (rodd_ev rows hw C j hC hlen (hrow j (by omega)) (hrl j (by omega))).bind ?_
  rw [w64_id (by omega) (by omega)]
  by_cases ho : od rows w C j = true
  ·refine Ev.congr (fun k => if_pos ho) (Ev.congr (fun k => if_pos (by omega)) ?_)
   have e : uns rows w C (j + 1) = uns rows w C j ++ [(j : Int)] := by show (if od rows w C j = true then _ else _) = _; rw [if_pos ho]; rfl
   rw [← e]; exact ih
  ·refine Ev.congr (fun k => if_neg ho) ?_
   have e : uns rows w C (j + 1) = uns rows w C j := by show (if od rows w C j = true then _ else _) = _; rw [if_neg ho]; rfl
   rw [← e]; exact ih
theorem runsat_ev (c : Int) (hrow : ∀ j, j < rows.length → okb (rows.getD j []) = true) (hrl : ∀ j, j < rows.length → (rows.getD j []).length = C) : Ev (fun k => crM_Unsatisfied.f k c rows w) (uns rows w C rows.length) :=
 runsat_l0 rows hw C hC hlen hr c hrow hrl rows.length 0 (by omega)
end
/-- What a matrix and a word without fault look like. -/
structure Ok (c : Int) (rows : List (List Int)) (w : List Int) (C : Nat) : Prop where
 k : chk c rows = 0
 c : c = (C : Int)
 hC : C ≤ 256
 hr : rows.length ≤ 256
 hrl : ∀ j, j < rows.length → (rows.getD j []).length = C
 hrow : ∀ j, j < rows.length → okb (rows.getD j []) = true
 hlen : w.length = C
 hw : okb w = true
theorem rUnsat_ok {c : Int} {rows : List (List Int)} {w : List Int} {C : Nat} (h : Ok c rows w C) : Ev (fun k => crM_Unsatisfied.f k c rows w) (uns rows w C rows.length) :=
 runsat_ev rows h.hw C h.hC h.hlen h.hr c h.hrow h.hrl
end Go.Proofs.Ytmclalniilkjiaa.Un
/- What the printed Flip and the document's Next, Flip compute: the same changes. Condition: the matrix and the word have no fault. -/
namespace Go.Proofs.Ytmclalniilkjiaa.Fl
open Go.RowKit Go.Proofs.Ytmclalniilkjiaa.Q Go.Proofs.YtmclalniilkjiaaW.PrintWords Go.Proofs.YtmclalniilkjiaaW.PrintLast Go.Proofs.Ytmclalniilkjiaa.Ba Go.Proofs.Ytmclalniilkjiaa.Ck Go.Proofs.Ytmclalniilkjiaa.Gr Go.Proofs.Ytmclalniilkjiaa.Un

theorem PG_succ {α : Type} {e : Nat → α} {p : Nat → Bool} {m : Nat} (h : p m = true) : PG e p (m + 1) = PG e p m ++ [e m] := if_pos h
theorem PG_skip {α : Type} {e : Nat → α} {p : Nat → Bool} {m : Nat} (h : ¬ p m = true) : PG e p (m + 1) = PG e p m := if_neg h
theorem PG_lt {α : Type} (e : Nat → α) (p : Nat → Bool) (m : Nat) (h : p m = true) : ∀ n, m < n → (PG e p m).length < (PG e p n).length
 | 0, hn => by omega
 | n + 1, hn => by
  by_cases e1 : m = n
  ·subst e1; rw [PG_succ h, List.length_append, List.length_singleton]; omega
  ·have := PG_lt e p m h n (by omega)
   by_cases h2 : p n = true
   ·rw [PG_succ h2, List.length_append, List.length_singleton]; omega
   ·rw [PG_skip h2]; exact this
theorem PG_at {α : Type} (d : α) (e : Nat → α) (p : Nat → Bool) (m : Nat) (h : p m = true) : ∀ n, m < n → (PG e p n).getD (PG e p m).length d = e m
 | 0, hn => by omega
 | n + 1, hn => by
  by_cases e1 : m = n
  ·subst e1
   rw [PG_succ h, List.getD_eq_getElem?_getD, List.getElem?_append_right (Nat.le_refl _)]; simp
  ·have ih := PG_at d e p m h n (by omega)
   have hl := PG_lt e p m h n (by omega)
   by_cases h2 : p n = true
   ·rw [PG_succ h2, List.getD_eq_getElem?_getD, List.getElem?_append_left hl, ← List.getD_eq_getElem?_getD]; exact ih
   ·rw [PG_skip h2]; exact ih
section
variable (rows : List (List Int)) (w : List Int) (C : Nat) (hC : C ≤ 256) (hr : rows.length ≤ 256)
include hC hr
end
section
variable {c : Int} {rows : List (List Int)} {C : Nat}
end
end Go.Proofs.Ytmclalniilkjiaa.Fl
namespace Go.Proofs.Ytmclalniilkjiaa.Q
open Go.RowKit Go.Proofs.YtmclalniilkjiaaW.PrintWords Go.Proofs.YtmclalniilkjiaaW.PrintLast Go.Proofs.YtmclalniilkjiaaW.PrintMore
open List renaming setIfInBounds_toArray → l01_, set_cons_zero → l02_, set_cons_succ → l03_
attribute [local go_sem] max2_int min2_int max_two min_two max_three min_three max_four min_four
set_option linter.unusedVariables false
set_option linter.unusedSimpArgs false
def mg_sum.l0 : Nat → List (List Int) → Int → Int → List (S77) → Int → Int → Option (Int)
 | 0, _, _, _, _, _, _ => none
 | k + 1, x2, x4, x11, x25, x26, x27 => if x27 < x26 then (if 0 ≤ x27 then (if x27 < (x25.length : Int) then (if ((rd_T77 x25 x27).f0) = x4 then (mg_sum.l0 k x2 x4 x11 x25 x26 (wrap64 (x27 + 1))) else (if 0 ≤ ((rd_T77 x25 x27).f0) then (if ((rd_T77 x25 x27).f0) < (x2.length : Int) then (if 0 ≤ ((rd_T77 x25 x27).f1) then (if ((rd_T77 x25 x27).f1) < ((rd_L1 x2 ((rd_T77 x25 x27).f0)).length : Int) then (if (rd (rd_L1 x2 ((rd_T77 x25 x27).f0)) ((rd_T77 x25 x27).f1)) = 1099511627776 then (some 1099511627776) else (mg_sum.l0 k x2 x4 (wrap64 (x11 + (rd (rd_L1 x2 ((rd_T77 x25 x27).f0)) ((rd_T77 x25 x27).f1)))) x25 x26 (wrap64 (x27 + 1)))) else (none)) else (none)) else (none)) else (none))) else (none)) else (none)) else (some (mx (mn x11 1099511627775) (-1099511627775)))
def mg_sum.f (k : Nat) (l0_0 : List (List Int)) (l0_1 : List (List (S77))) (l1 : List Int) (l2 : List (List Int)) (a3 : Int) (a4 : Int) : Option (Int) := if 0 ≤ a3 then (if a3 < (l1.length : Int) then (if a3 < (l0_1.length : Int) then (mg_sum.l0 k l2 a4 (rd l1 a3) (rd_L9 l0_1 a3) ((rd_L9 l0_1 a3).length : Int) 0) else (none)) else (none)) else (none)
theorem mg_sum.mono_l : ∀ k, (∀ y0 y1 y2 y3 y4 y5, LeO (mg_sum.l0 k y0 y1 y2 y3 y4 y5) (mg_sum.l0 (k + 1) y0 y1 y2 y3 y4 y5))
 | 0 => fun _ _ _ _ _ _ r h => by simp [mg_sum.l0] at h
 | k + 1 => by
  have ih0 := mg_sum.mono_l k
  ·intro y0 y1 y2 y3 y4 y5;unfold mg_sum.l0
   repeat' first
   | (with_reducible exact ih0 _ _ _ _ _ _)
   | (with_reducible exact LeO.refl _)
   | (with_reducible exact LeO.none _)
   | (with_reducible refine LeO.ite ?_ ?_)
   | (with_reducible refine LeO.bind ?_ (fun _ => ?_))
   | exact ih0 _ _ _ _ _ _
   | exact LeO.none _
   | refine LeO.ite ?_ ?_
   | refine LeO.bind ?_ (fun _ => ?_)
theorem mg_sum.mono : ∀ a0 a1 a2 a3 a4 a5 k, LeO (mg_sum.f k a0 a1 a2 a3 a4 a5) (mg_sum.f (k + 1) a0 a1 a2 a3 a4 a5) := by
 intro a0 a1 a2 a3 a4 a5 k;have ih0 := mg_sum.mono_l k;unfold mg_sum.f
 repeat' first
   | (with_reducible exact ih0 _ _ _ _ _ _)
   | (with_reducible exact LeO.refl _)
   | (with_reducible exact LeO.none _)
   | (with_reducible refine LeO.ite ?_ ?_)
   | (with_reducible refine LeO.bind ?_ (fun _ => ?_))
   | exact ih0 _ _ _ _ _ _
   | exact LeO.none _
   | refine LeO.ite ?_ ?_
   | refine LeO.bind ?_ (fun _ => ?_)
set_option maxHeartbeats 8000000 in
set_option maxRecDepth 100000 in
theorem mg_sum.calls (k : Nat) (A0_0 : Option Addr) (c0_0 : Nat) (l0_0 : List (List Int)) (A0_1 : Option Addr) (c0_1 : Nat) (l0_1 : List (List (S77))) (A1 : Option Addr) (c1 : Nat) (l1 : List Int) (A2 : Option Addr) (c2 : Nat) (l2 : List (List Int)) (a3 : Int) (a4 : Int) (r : Int) (gG : Nat) (w : World) (hr0_0 : Kd.C (Kd.slice 3 (Kd.int .i64)) w A0_0 l0_0.length l0_0) (hc0_0 : l0_0.length ≤ c0_0) (hr0_1 : Kd.C (Kd.slice 77 k77) w A0_1 l0_1.length l0_1) (hc0_1 : l0_1.length ≤ c0_1) (hr1 : Kd.C (Kd.int .i64) w A1 l1.length l1) (hc1 : l1.length ≤ c1) (hr2 : Kd.C (Kd.slice 3 (Kd.int .i64)) w A2 l2.length l2) (hc2 : l2.length ≤ c2) (hG : w.heap[gG]? = some (.cells #[.slice A0_0 l0_0.length c0_0, .slice A0_1 l0_1.length c0_1] 73 (0, 0))) (h : mg_sum.f k l0_0 l0_1 l1 l2 a3 a4 = some r) :
  Calls Try.prog 69 #[.pointer (some ⟨gG, 0, none⟩), .slice A1 l1.length c1, .slice A2 l2.length c2, .int .i64 a3, .int .i64 a4] w fun e w' => e = .returned (.int .i64 r) ∧ Below w.heap.size w w' := by
 have hu73 := Try.underlying73;have hu77 := Try.underlying77;have HR0_0 := Ai0.mk hr0_0;have HC0_0 := Ai0.mk hc0_0;clear hr0_0 hc0_0;have HR0_1 := Ai0.mk hr0_1;have HC0_1 := Ai0.mk hc0_1;clear hr0_1 hc0_1;have HR1 := Ai0.mk hr1;have HC1 := Ai0.mk hc1;clear hr1 hc1;have HR2 := Ai0.mk hr2;have HC2 := Ai0.mk hc2;clear hr2 hc2;have HB := Ai0.mk (Below.refl w.heap.size w);have H : (if 0 ≤ a3 then (if a3 < (l1.length : Int) then (if a3 < (l0_1.length : Int) then (mg_sum.l0 k l2 a4 (rd l1 a3) (rd_L9 l0_1 a3) ((rd_L9 l0_1 a3).length : Int) 0) else (none)) else (none)) else (none)) = some r := h;clear h;by_cases c6 : 0 ≤ a3
 ·rw [if_pos c6] at H;have c6b0 : decide (0 ≤ a3) = true := decide_eq_true c6;clear c6;by_cases c7 : a3 < (l1.length : Int)
  ·rw [if_pos c7] at H;have c7b0 : decide (a3 < (l1.length : Int)) = true := decide_eq_true c7;clear c7;by_cases c8 : a3 < (l0_1.length : Int)
   ·rw [if_pos c8] at H;have c8b0 : decide (a3 < (l0_1.length : Int)) = true := decide_eq_true c8;clear c8;have H' := Ai0.mk H;clear H;have BK395 := Ai0.mk hG;have p396 : 0 ≤ (a3 : Int) := od_;have q396 : a3 < (l1.length : Int) := od_;obtain ⟨ad396, e396, hx396_0⟩ := Kd.at_int HR1.out a3 p396 q396;cases e396;replace hx396_0 := (HB.out.cell (World.block_lt_of_cell? w _ hx396_0)).trans hx396_0;replace p396 := eq_true p396;replace q396 := eq_true q396;have hcz10_0 : w.cell? ⟨gG, 0, none⟩ = some (.slice A0_0 l0_0.length c0_0) := (kc1 BK395.out 0).trans rfl;have hcz10_1 : w.cell? ⟨gG, 1, none⟩ = some (.slice A0_1 l0_1.length c0_1) := (kc1 BK395.out 1).trans rfl;have hfz10_0 := kf1 BK395.out 0;have hfz10_1 := kf1 BK395.out 1;have p397 : 0 ≤ (a3 : Int) := od_;have q397 : a3 < (l0_1.length : Int) := od_;obtain ⟨ad397, A397_0, c397_0, e397, hx397_0, hl397_0, hi397_0⟩ := at_L9 HR0_1.out a3 p397 q397;cases e397;replace hx397_0 := (HB.out.cell (World.block_lt_of_cell? w _ hx397_0)).trans hx397_0;have HR397_0 := Ai0.mk hi397_0;have HC397_0 := Ai0.mk hl397_0;clear hi397_0 hl397_0;replace p397 := eq_true p397;replace q397 := eq_true q397;go_enter Try.func69, Try.ntmps69
    go_wp2
    go_loopg [11, 27] k (fun kq v11 v27 w' => ∃ (x11_1 : Int) (x27_1 : Int), v11 = .int .i64 x11_1 ∧ v27 = .int .i64 x27_1 ∧ Ai0 (mg_sum.l0 kq l2 a4 x11_1 (rd_L9 l0_1 a3) ((rd_L9 l0_1 a3).length : Int) x27_1 = some r) ∧ Ai0 (kq ≤ k) ∧ Ai0 (w'.heap[gG]? = some (.cells #[(.slice A0_0 l0_0.length c0_0), (.slice (some ad397) l0_1.length c0_1)] 73 (0, 0))) ∧ Ai0 (Below w.heap.size w w'))
    case atStart => exact ⟨(rd l1 a3), (0), rf_, rf_, H', ⟨Nat.le_refl _⟩, ⟨kk_ BK395.out⟩, ⟨bl_⟩⟩
    case round =>
     clear H'
     try clear c1
     try clear c2
     try clear p2
     try clear c3
     try clear p3
     try clear q3
     try clear hx3
     try clear c6
     try clear c6b0
     try clear c7
     try clear c7b0
     try clear c8
     try clear c8b0
     try clear hcz10_0
     try clear hcz10_1
     try clear hfz10_0
     try clear hfz10_1
     try clear hx396_0
     try clear hx397_0
     try clear p396
     try clear p397
     try clear q396
     try clear q397
     obtain ⟨x11_1, x27_1, rfl, rfl, HA, HK1, BK395, HB⟩ := hrel
     cases gk with
     | zero => exact absurd HA.out (by simp [mg_sum.l0])
     | succ k1 =>
      have H := HA.out;clear HA;simp only [mg_sum.l0] at H;by_cases c11 : x27_1 < ((rd_L9 l0_1 a3).length : Int)
      ·rw [if_pos c11] at H;have c11b0 : decide (x27_1 < ((rd_L9 l0_1 a3).length : Int)) = true := decide_eq_true c11;clear c11;by_cases c12 : 0 ≤ x27_1
       ·rw [if_pos c12] at H;have c12b0 : decide (0 ≤ x27_1) = true := decide_eq_true c12;clear c12;by_cases c13 : x27_1 < ((rd_L9 l0_1 a3).length : Int)
        ·rw [if_pos c13] at H;have c13b0 : decide (x27_1 < ((rd_L9 l0_1 a3).length : Int)) = true := decide_eq_true c13;clear c13;by_cases c14 : ((rd_T77 (rd_L9 l0_1 a3) x27_1).f0) = a4
         ·rw [if_pos c14] at H;have c14b0 : (((rd_T77 (rd_L9 l0_1 a3) x27_1).f0) == a4) = true := beq_iff_eq.mpr c14;have c14b1 : (((rd_T77 (rd_L9 l0_1 a3) x27_1).f0) != a4) = false := bne_eq_false_iff_eq.mpr c14;clear c14;have H' := Ai0.mk H;clear H;have p398 : 0 ≤ (x27_1 : Int) := od_;have q398 : x27_1 < ((rd_L9 l0_1 a3).length : Int) := od_;obtain ⟨ad398, e398, hx398_0, hx398_1⟩ := at_T77 HR397_0.out x27_1 p398 q398;cases e398;replace hx398_0 := (HB.out.cell (World.block_lt_of_cell? w _ hx398_0)).trans hx398_0;replace hx398_1 := (HB.out.cell (World.block_lt_of_cell? w _ hx398_1)).trans hx398_1;replace p398 := eq_true p398;replace q398 := eq_true q398
          go_wp2_with (first | ((with_reducible refine gate_dst (N := 13) rfl ?_); refine box_event ?hg (N := 13) ?hd (cs := #[.int .i64 0, .int .i64 0]) (t := 77) ?hr ?_; (case hd => rfl); (case hg => rfl); (case hr => first | (go_simp; done) | (go_simp; rfl)); intro gb399 hg w15 hbox hb; have n0_ := Ai0.mk (kb1 (g := gG) (o := .cells #[.slice A0_0 l0_0.length c0_0, .slice (some ad397) l0_1.length c0_1] 73 (0, 0)) (kk_ BK395.out) hb); have n1_ := Ai0.mk (bt1 bl_ hb); have n2_ := Ai0.mk (hbox); have n3_ := Ai0.mk ((by rw [hg]; exact (bz1 bl_) : w.heap.size ≤ gb399)); have n4_ := Ai0.mk ((by rw [hg]; exact (bz1 bl_) : w.heap.size ≤ gb399)); have n5_ := Ai0.mk ((by rw [hg]; exact Nat.ne_of_lt (blk_lt (g := gG) (o := .cells #[.slice A0_0 l0_0.length c0_0, .slice (some ad397) l0_1.length c0_1] 73 (0, 0)) (kk_ BK395.out)) : gG ≠ gb399)); have n6_ := Ai0.mk ((by rw [hg]; exact Nat.ne_of_gt (blk_lt (g := gG) (o := .cells #[.slice A0_0 l0_0.length c0_0, .slice (some ad397) l0_1.length c0_1] 73 (0, 0)) (kk_ BK395.out)) : gb399 ≠ gG)); clear BK395; clear HB; have BK395 := n0_; have HB := n1_; have BK399 := n2_; have GW399 := n3_; have GE399 := n4_; have NB395_399 := n5_; have NB399_395 := n6_; clear n0_ n1_ n2_ n3_ n4_ n5_ n6_; clear hb hbox hg; have hnb16 := NB399_395.out; have hnc16 := NB395_399.out; have hcz17_0 : w15.cell? ⟨gb399, 0, none⟩ = some (.int .i64 0) := (kc1 BK399.out 0).trans rfl; have hcz17_1 : w15.cell? ⟨gb399, 1, none⟩ = some (.int .i64 0) := (kc1 BK399.out 1).trans rfl; have hfz17_0 := kf1 BK399.out 0; have hfz17_1 := kf1 BK399.out 1))
          repeat (go_quiet (first | ((with_reducible refine gate_dst (N := 13) rfl ?_); refine box_event ?hg (N := 13) ?hd (cs := #[.int .i64 0, .int .i64 0]) (t := 77) ?hr ?_; (case hd => rfl); (case hg => rfl); (case hr => first | (go_simp; done) | (go_simp; rfl)); intro gb399 hg w15 hbox hb; have n0_ := Ai0.mk (kb1 (g := gG) (o := .cells #[.slice A0_0 l0_0.length c0_0, .slice (some ad397) l0_1.length c0_1] 73 (0, 0)) (kk_ BK395.out) hb); have n1_ := Ai0.mk (bt1 bl_ hb); have n2_ := Ai0.mk (hbox); have n3_ := Ai0.mk ((by rw [hg]; exact (bz1 bl_) : w.heap.size ≤ gb399)); have n4_ := Ai0.mk ((by rw [hg]; exact (bz1 bl_) : w.heap.size ≤ gb399)); have n5_ := Ai0.mk ((by rw [hg]; exact Nat.ne_of_lt (blk_lt (g := gG) (o := .cells #[.slice A0_0 l0_0.length c0_0, .slice (some ad397) l0_1.length c0_1] 73 (0, 0)) (kk_ BK395.out)) : gG ≠ gb399)); have n6_ := Ai0.mk ((by rw [hg]; exact Nat.ne_of_gt (blk_lt (g := gG) (o := .cells #[.slice A0_0 l0_0.length c0_0, .slice (some ad397) l0_1.length c0_1] 73 (0, 0)) (kk_ BK395.out)) : gb399 ≠ gG)); clear BK395; clear HB; have BK395 := n0_; have HB := n1_; have BK399 := n2_; have GW399 := n3_; have GE399 := n4_; have NB395_399 := n5_; have NB399_395 := n6_; clear n0_ n1_ n2_ n3_ n4_ n5_ n6_; clear hb hbox hg; have hnb16 := NB399_395.out; have hnc16 := NB395_399.out; have hcz17_0 : w15.cell? ⟨gb399, 0, none⟩ = some (.int .i64 0) := (kc1 BK399.out 0).trans rfl; have hcz17_1 : w15.cell? ⟨gb399, 1, none⟩ = some (.int .i64 0) := (kc1 BK399.out 1).trans rfl; have hfz17_0 := kf1 BK399.out 0; have hfz17_1 := kf1 BK399.out 1)); try go_wp2_with (first | ((with_reducible refine gate_dst (N := 13) rfl ?_); refine box_event ?hg (N := 13) ?hd (cs := #[.int .i64 0, .int .i64 0]) (t := 77) ?hr ?_; (case hd => rfl); (case hg => rfl); (case hr => first | (go_simp; done) | (go_simp; rfl)); intro gb399 hg w15 hbox hb; have n0_ := Ai0.mk (kb1 (g := gG) (o := .cells #[.slice A0_0 l0_0.length c0_0, .slice (some ad397) l0_1.length c0_1] 73 (0, 0)) (kk_ BK395.out) hb); have n1_ := Ai0.mk (bt1 bl_ hb); have n2_ := Ai0.mk (hbox); have n3_ := Ai0.mk ((by rw [hg]; exact (bz1 bl_) : w.heap.size ≤ gb399)); have n4_ := Ai0.mk ((by rw [hg]; exact (bz1 bl_) : w.heap.size ≤ gb399)); have n5_ := Ai0.mk ((by rw [hg]; exact Nat.ne_of_lt (blk_lt (g := gG) (o := .cells #[.slice A0_0 l0_0.length c0_0, .slice (some ad397) l0_1.length c0_1] 73 (0, 0)) (kk_ BK395.out)) : gG ≠ gb399)); have n6_ := Ai0.mk ((by rw [hg]; exact Nat.ne_of_gt (blk_lt (g := gG) (o := .cells #[.slice A0_0 l0_0.length c0_0, .slice (some ad397) l0_1.length c0_1] 73 (0, 0)) (kk_ BK395.out)) : gb399 ≠ gG)); clear BK395; clear HB; have BK395 := n0_; have HB := n1_; have BK399 := n2_; have GW399 := n3_; have GE399 := n4_; have NB395_399 := n5_; have NB399_395 := n6_; clear n0_ n1_ n2_ n3_ n4_ n5_ n6_; clear hb hbox hg; have hnb16 := NB399_395.out; have hnc16 := NB395_399.out; have hcz17_0 : w15.cell? ⟨gb399, 0, none⟩ = some (.int .i64 0) := (kc1 BK399.out 0).trans rfl; have hcz17_1 : w15.cell? ⟨gb399, 1, none⟩ = some (.int .i64 0) := (kc1 BK399.out 1).trans rfl; have hfz17_0 := kf1 BK399.out 0; have hfz17_1 := kf1 BK399.out 1)))
          go_roundg k1
          case measure => have := HK1.out; omega
          case rel => exact ⟨(x11_1), (wrap64 (x27_1 + 1)), rf_, rf_, H', ⟨by have := HK1.out; omega⟩, ⟨by (with_reducible repeat (first | refine kn1 ?_ _ | refine kd1 ?_ | refine ka1 ?_ _)); refine blk_far ?_ NB395_399.out _; (with_reducible repeat (first | refine kn1 ?_ _ | refine kd1 ?_ | refine ka1 ?_ _)); refine blk_far ?_ NB395_399.out _; (with_reducible repeat (first | refine kn1 ?_ _ | refine kd1 ?_ | refine ka1 ?_ _)); exact BK395.out⟩, ⟨bl_⟩⟩
         ·rw [if_neg c14] at H;have c14b0 : (((rd_T77 (rd_L9 l0_1 a3) x27_1).f0) == a4) = false := beq_eq_false_iff_ne.mpr c14;have c14b1 : (((rd_T77 (rd_L9 l0_1 a3) x27_1).f0) != a4) = true := bne_iff_ne.mpr c14;by_cases c18 : 0 ≤ ((rd_T77 (rd_L9 l0_1 a3) x27_1).f0)
          ·rw [if_pos c18] at H;have c18b0 : decide (0 ≤ ((rd_T77 (rd_L9 l0_1 a3) x27_1).f0)) = true := decide_eq_true c18;clear c18;by_cases c19 : ((rd_T77 (rd_L9 l0_1 a3) x27_1).f0) < (l2.length : Int)
           ·rw [if_pos c19] at H;have c19b0 : decide (((rd_T77 (rd_L9 l0_1 a3) x27_1).f0) < (l2.length : Int)) = true := decide_eq_true c19;clear c19;by_cases c20 : 0 ≤ ((rd_T77 (rd_L9 l0_1 a3) x27_1).f1)
            ·rw [if_pos c20] at H;have c20b0 : decide (0 ≤ ((rd_T77 (rd_L9 l0_1 a3) x27_1).f1)) = true := decide_eq_true c20;clear c20;by_cases c21 : ((rd_T77 (rd_L9 l0_1 a3) x27_1).f1) < ((rd_L1 l2 ((rd_T77 (rd_L9 l0_1 a3) x27_1).f0)).length : Int)
             ·rw [if_pos c21] at H;have c21b0 : decide (((rd_T77 (rd_L9 l0_1 a3) x27_1).f1) < ((rd_L1 l2 ((rd_T77 (rd_L9 l0_1 a3) x27_1).f0)).length : Int)) = true := decide_eq_true c21;clear c21;by_cases c22 : (rd (rd_L1 l2 ((rd_T77 (rd_L9 l0_1 a3) x27_1).f0)) ((rd_T77 (rd_L9 l0_1 a3) x27_1).f1)) = 1099511627776
              case' pos =>
               rw [if_pos c22] at H;have c22b0 : ((rd (rd_L1 l2 ((rd_T77 (rd_L9 l0_1 a3) x27_1).f0)) ((rd_T77 (rd_L9 l0_1 a3) x27_1).f1)) == 1099511627776) = true := beq_iff_eq.mpr c22;have c22b1 : ((rd (rd_L1 l2 ((rd_T77 (rd_L9 l0_1 a3) x27_1).f0)) ((rd_T77 (rd_L9 l0_1 a3) x27_1).f1)) != 1099511627776) = false := bne_eq_false_iff_eq.mpr c22;clear c22;obtain rfl := Option.some.inj H
              case' neg =>
               rw [if_neg c22] at H;have c22b0 : ((rd (rd_L1 l2 ((rd_T77 (rd_L9 l0_1 a3) x27_1).f0)) ((rd_T77 (rd_L9 l0_1 a3) x27_1).f1)) == 1099511627776) = false := beq_eq_false_iff_ne.mpr c22;have c22b1 : ((rd (rd_L1 l2 ((rd_T77 (rd_L9 l0_1 a3) x27_1).f0)) ((rd_T77 (rd_L9 l0_1 a3) x27_1).f1)) != 1099511627776) = true := bne_iff_ne.mpr c22;have H' := Ai0.mk H;clear H
              all_goals
               have p398 : 0 ≤ (x27_1 : Int) := od_;have q398 : x27_1 < ((rd_L9 l0_1 a3).length : Int) := od_;obtain ⟨ad398, e398, hx398_0, hx398_1⟩ := at_T77 HR397_0.out x27_1 p398 q398;cases e398;replace hx398_0 := (HB.out.cell (World.block_lt_of_cell? w _ hx398_0)).trans hx398_0;replace hx398_1 := (HB.out.cell (World.block_lt_of_cell? w _ hx398_1)).trans hx398_1;replace p398 := eq_true p398;replace q398 := eq_true q398
               go_wp2_with (first | ((with_reducible refine gate_dst (N := 13) rfl ?_); refine box_event ?hg (N := 13) ?hd (cs := #[.int .i64 0, .int .i64 0]) (t := 77) ?hr ?_; (case hd => rfl); (case hg => rfl); (case hr => first | (go_simp; done) | (go_simp; rfl)); intro gb399 hg w23 hbox hb; have n0_ := Ai0.mk (kb1 (g := gG) (o := .cells #[.slice A0_0 l0_0.length c0_0, .slice (some ad397) l0_1.length c0_1] 73 (0, 0)) (kk_ BK395.out) hb); have n1_ := Ai0.mk (bt1 bl_ hb); have n2_ := Ai0.mk (hbox); have n3_ := Ai0.mk ((by rw [hg]; exact (bz1 bl_) : w.heap.size ≤ gb399)); have n4_ := Ai0.mk ((by rw [hg]; exact (bz1 bl_) : w.heap.size ≤ gb399)); have n5_ := Ai0.mk ((by rw [hg]; exact Nat.ne_of_lt (blk_lt (g := gG) (o := .cells #[.slice A0_0 l0_0.length c0_0, .slice (some ad397) l0_1.length c0_1] 73 (0, 0)) (kk_ BK395.out)) : gG ≠ gb399)); have n6_ := Ai0.mk ((by rw [hg]; exact Nat.ne_of_gt (blk_lt (g := gG) (o := .cells #[.slice A0_0 l0_0.length c0_0, .slice (some ad397) l0_1.length c0_1] 73 (0, 0)) (kk_ BK395.out)) : gb399 ≠ gG)); clear BK395; clear HB; have BK395 := n0_; have HB := n1_; have BK399 := n2_; have GW399 := n3_; have GE399 := n4_; have NB395_399 := n5_; have NB399_395 := n6_; clear n0_ n1_ n2_ n3_ n4_ n5_ n6_; clear hb hbox hg; have hnb24 := NB399_395.out; have hnc24 := NB395_399.out; have hcz25_0 : w23.cell? ⟨gb399, 0, none⟩ = some (.int .i64 0) := (kc1 BK399.out 0).trans rfl; have hcz25_1 : w23.cell? ⟨gb399, 1, none⟩ = some (.int .i64 0) := (kc1 BK399.out 1).trans rfl; have hfz25_0 := kf1 BK399.out 0; have hfz25_1 := kf1 BK399.out 1; have p400 : 0 ≤ (((rd_T77 (rd_L9 l0_1 a3) x27_1).f0) : Int) := od_; have q400 : ((rd_T77 (rd_L9 l0_1 a3) x27_1).f0) < (l2.length : Int) := od_; obtain ⟨ad400, A400_0, c400_0, e400, hx400_0, hl400_0, hi400_0⟩ := at_L1 HR2.out ((rd_T77 (rd_L9 l0_1 a3) x27_1).f0) p400 q400; cases e400; have hn400_0 : ad400.block ≠ gb399 := Nat.ne_of_lt (Nat.lt_of_lt_of_le (by have := World.block_lt_of_cell? _ _ hx400_0; first | rwa [add_block] at this | exact this) GW399.out); have hn400_1 : ad400.block ≠ gb399 := Nat.ne_of_lt (Nat.lt_of_lt_of_le (by have := World.block_lt_of_cell? _ _ hx400_0; first | rwa [add_block] at this | exact this) GW399.out); replace hx400_0 := (HB.out.cell (World.block_lt_of_cell? w _ hx400_0)).trans hx400_0; have HR400_0 := Ai0.mk hi400_0; have HC400_0 := Ai0.mk hl400_0; clear hi400_0 hl400_0; replace hx400_0 := (cell_far (p := ⟨gb399, 0, none⟩) (by first | (rw [add_block]; exact hn400_0) | (show (Addr.add _ _).block ≠ _; rw [add_block]; exact hn400_0) | exact hn400_0) (.int .i64 ((rd_T77 (rd_L9 l0_1 a3) x27_1).f0))).trans hx400_0; replace hx400_0 := (cell_far (p := ⟨gb399, 1, none⟩) (by first | (rw [add_block]; exact hn400_1) | (show (Addr.add _ _).block ≠ _; rw [add_block]; exact hn400_1) | exact hn400_1) (.int .i64 ((rd_T77 (rd_L9 l0_1 a3) x27_1).f1))).trans hx400_0; (try have hy400_0 := fun (n_ : Nat) => (show ((((w23.drewN n_).setCell ⟨gb399, 0, none⟩ (.int .i64 ((rd_T77 (rd_L9 l0_1 a3) x27_1).f0))).setCell ⟨gb399, 1, none⟩ (.int .i64 ((rd_T77 (rd_L9 l0_1 a3) x27_1).f1)))).cell? _ = some _ from hx400_0)); clear hn400_0; clear hn400_1; replace p400 := eq_true p400; replace q400 := eq_true q400; have p401 : 0 ≤ (((rd_T77 (rd_L9 l0_1 a3) x27_1).f1) : Int) := od_; have q401 : ((rd_T77 (rd_L9 l0_1 a3) x27_1).f1) < ((rd_L1 l2 ((rd_T77 (rd_L9 l0_1 a3) x27_1).f0)).length : Int) := od_; obtain ⟨ad401, e401, hx401_0⟩ := Kd.at_int HR400_0.out ((rd_T77 (rd_L9 l0_1 a3) x27_1).f1) p401 q401; cases e401; have hn401_0 : ad401.block ≠ gb399 := Nat.ne_of_lt (Nat.lt_of_lt_of_le (by have := World.block_lt_of_cell? _ _ hx401_0; first | rwa [add_block] at this | exact this) GW399.out); have hn401_1 : ad401.block ≠ gb399 := Nat.ne_of_lt (Nat.lt_of_lt_of_le (by have := World.block_lt_of_cell? _ _ hx401_0; first | rwa [add_block] at this | exact this) GW399.out); replace hx401_0 := (HB.out.cell (World.block_lt_of_cell? w _ hx401_0)).trans hx401_0; replace hx401_0 := (cell_far (p := ⟨gb399, 0, none⟩) (by first | (rw [add_block]; exact hn401_0) | (show (Addr.add _ _).block ≠ _; rw [add_block]; exact hn401_0) | exact hn401_0) (.int .i64 ((rd_T77 (rd_L9 l0_1 a3) x27_1).f0))).trans hx401_0; replace hx401_0 := (cell_far (p := ⟨gb399, 1, none⟩) (by first | (rw [add_block]; exact hn401_1) | (show (Addr.add _ _).block ≠ _; rw [add_block]; exact hn401_1) | exact hn401_1) (.int .i64 ((rd_T77 (rd_L9 l0_1 a3) x27_1).f1))).trans hx401_0; (try have hy401_0 := fun (n_ : Nat) => (show ((((w23.drewN n_).setCell ⟨gb399, 0, none⟩ (.int .i64 ((rd_T77 (rd_L9 l0_1 a3) x27_1).f0))).setCell ⟨gb399, 1, none⟩ (.int .i64 ((rd_T77 (rd_L9 l0_1 a3) x27_1).f1)))).cell? _ = some _ from hx401_0)); clear hn401_0; clear hn401_1; replace p401 := eq_true p401; replace q401 := eq_true q401))
               repeat (go_quiet (first | ((with_reducible refine gate_dst (N := 13) rfl ?_); refine box_event ?hg (N := 13) ?hd (cs := #[.int .i64 0, .int .i64 0]) (t := 77) ?hr ?_; (case hd => rfl); (case hg => rfl); (case hr => first | (go_simp; done) | (go_simp; rfl)); intro gb399 hg w23 hbox hb; have n0_ := Ai0.mk (kb1 (g := gG) (o := .cells #[.slice A0_0 l0_0.length c0_0, .slice (some ad397) l0_1.length c0_1] 73 (0, 0)) (kk_ BK395.out) hb); have n1_ := Ai0.mk (bt1 bl_ hb); have n2_ := Ai0.mk (hbox); have n3_ := Ai0.mk ((by rw [hg]; exact (bz1 bl_) : w.heap.size ≤ gb399)); have n4_ := Ai0.mk ((by rw [hg]; exact (bz1 bl_) : w.heap.size ≤ gb399)); have n5_ := Ai0.mk ((by rw [hg]; exact Nat.ne_of_lt (blk_lt (g := gG) (o := .cells #[.slice A0_0 l0_0.length c0_0, .slice (some ad397) l0_1.length c0_1] 73 (0, 0)) (kk_ BK395.out)) : gG ≠ gb399)); have n6_ := Ai0.mk ((by rw [hg]; exact Nat.ne_of_gt (blk_lt (g := gG) (o := .cells #[.slice A0_0 l0_0.length c0_0, .slice (some ad397) l0_1.length c0_1] 73 (0, 0)) (kk_ BK395.out)) : gb399 ≠ gG)); clear BK395; clear HB; have BK395 := n0_; have HB := n1_; have BK399 := n2_; have GW399 := n3_; have GE399 := n4_; have NB395_399 := n5_; have NB399_395 := n6_; clear n0_ n1_ n2_ n3_ n4_ n5_ n6_; clear hb hbox hg; have hnb24 := NB399_395.out; have hnc24 := NB395_399.out; have hcz25_0 : w23.cell? ⟨gb399, 0, none⟩ = some (.int .i64 0) := (kc1 BK399.out 0).trans rfl; have hcz25_1 : w23.cell? ⟨gb399, 1, none⟩ = some (.int .i64 0) := (kc1 BK399.out 1).trans rfl; have hfz25_0 := kf1 BK399.out 0; have hfz25_1 := kf1 BK399.out 1; have p400 : 0 ≤ (((rd_T77 (rd_L9 l0_1 a3) x27_1).f0) : Int) := od_; have q400 : ((rd_T77 (rd_L9 l0_1 a3) x27_1).f0) < (l2.length : Int) := od_; obtain ⟨ad400, A400_0, c400_0, e400, hx400_0, hl400_0, hi400_0⟩ := at_L1 HR2.out ((rd_T77 (rd_L9 l0_1 a3) x27_1).f0) p400 q400; cases e400; have hn400_0 : ad400.block ≠ gb399 := Nat.ne_of_lt (Nat.lt_of_lt_of_le (by have := World.block_lt_of_cell? _ _ hx400_0; first | rwa [add_block] at this | exact this) GW399.out); have hn400_1 : ad400.block ≠ gb399 := Nat.ne_of_lt (Nat.lt_of_lt_of_le (by have := World.block_lt_of_cell? _ _ hx400_0; first | rwa [add_block] at this | exact this) GW399.out); replace hx400_0 := (HB.out.cell (World.block_lt_of_cell? w _ hx400_0)).trans hx400_0; have HR400_0 := Ai0.mk hi400_0; have HC400_0 := Ai0.mk hl400_0; clear hi400_0 hl400_0; replace hx400_0 := (cell_far (p := ⟨gb399, 0, none⟩) (by first | (rw [add_block]; exact hn400_0) | (show (Addr.add _ _).block ≠ _; rw [add_block]; exact hn400_0) | exact hn400_0) (.int .i64 ((rd_T77 (rd_L9 l0_1 a3) x27_1).f0))).trans hx400_0; replace hx400_0 := (cell_far (p := ⟨gb399, 1, none⟩) (by first | (rw [add_block]; exact hn400_1) | (show (Addr.add _ _).block ≠ _; rw [add_block]; exact hn400_1) | exact hn400_1) (.int .i64 ((rd_T77 (rd_L9 l0_1 a3) x27_1).f1))).trans hx400_0; (try have hy400_0 := fun (n_ : Nat) => (show ((((w23.drewN n_).setCell ⟨gb399, 0, none⟩ (.int .i64 ((rd_T77 (rd_L9 l0_1 a3) x27_1).f0))).setCell ⟨gb399, 1, none⟩ (.int .i64 ((rd_T77 (rd_L9 l0_1 a3) x27_1).f1)))).cell? _ = some _ from hx400_0)); clear hn400_0; clear hn400_1; replace p400 := eq_true p400; replace q400 := eq_true q400; have p401 : 0 ≤ (((rd_T77 (rd_L9 l0_1 a3) x27_1).f1) : Int) := od_; have q401 : ((rd_T77 (rd_L9 l0_1 a3) x27_1).f1) < ((rd_L1 l2 ((rd_T77 (rd_L9 l0_1 a3) x27_1).f0)).length : Int) := od_; obtain ⟨ad401, e401, hx401_0⟩ := Kd.at_int HR400_0.out ((rd_T77 (rd_L9 l0_1 a3) x27_1).f1) p401 q401; cases e401; have hn401_0 : ad401.block ≠ gb399 := Nat.ne_of_lt (Nat.lt_of_lt_of_le (by have := World.block_lt_of_cell? _ _ hx401_0; first | rwa [add_block] at this | exact this) GW399.out); have hn401_1 : ad401.block ≠ gb399 := Nat.ne_of_lt (Nat.lt_of_lt_of_le (by have := World.block_lt_of_cell? _ _ hx401_0; first | rwa [add_block] at this | exact this) GW399.out); replace hx401_0 := (HB.out.cell (World.block_lt_of_cell? w _ hx401_0)).trans hx401_0; replace hx401_0 := (cell_far (p := ⟨gb399, 0, none⟩) (by first | (rw [add_block]; exact hn401_0) | (show (Addr.add _ _).block ≠ _; rw [add_block]; exact hn401_0) | exact hn401_0) (.int .i64 ((rd_T77 (rd_L9 l0_1 a3) x27_1).f0))).trans hx401_0; replace hx401_0 := (cell_far (p := ⟨gb399, 1, none⟩) (by first | (rw [add_block]; exact hn401_1) | (show (Addr.add _ _).block ≠ _; rw [add_block]; exact hn401_1) | exact hn401_1) (.int .i64 ((rd_T77 (rd_L9 l0_1 a3) x27_1).f1))).trans hx401_0; (try have hy401_0 := fun (n_ : Nat) => (show ((((w23.drewN n_).setCell ⟨gb399, 0, none⟩ (.int .i64 ((rd_T77 (rd_L9 l0_1 a3) x27_1).f0))).setCell ⟨gb399, 1, none⟩ (.int .i64 ((rd_T77 (rd_L9 l0_1 a3) x27_1).f1)))).cell? _ = some _ from hx401_0)); clear hn401_0; clear hn401_1; replace p401 := eq_true p401; replace q401 := eq_true q401)); try go_wp2_with (first | ((with_reducible refine gate_dst (N := 13) rfl ?_); refine box_event ?hg (N := 13) ?hd (cs := #[.int .i64 0, .int .i64 0]) (t := 77) ?hr ?_; (case hd => rfl); (case hg => rfl); (case hr => first | (go_simp; done) | (go_simp; rfl)); intro gb399 hg w23 hbox hb; have n0_ := Ai0.mk (kb1 (g := gG) (o := .cells #[.slice A0_0 l0_0.length c0_0, .slice (some ad397) l0_1.length c0_1] 73 (0, 0)) (kk_ BK395.out) hb); have n1_ := Ai0.mk (bt1 bl_ hb); have n2_ := Ai0.mk (hbox); have n3_ := Ai0.mk ((by rw [hg]; exact (bz1 bl_) : w.heap.size ≤ gb399)); have n4_ := Ai0.mk ((by rw [hg]; exact (bz1 bl_) : w.heap.size ≤ gb399)); have n5_ := Ai0.mk ((by rw [hg]; exact Nat.ne_of_lt (blk_lt (g := gG) (o := .cells #[.slice A0_0 l0_0.length c0_0, .slice (some ad397) l0_1.length c0_1] 73 (0, 0)) (kk_ BK395.out)) : gG ≠ gb399)); have n6_ := Ai0.mk ((by rw [hg]; exact Nat.ne_of_gt (blk_lt (g := gG) (o := .cells #[.slice A0_0 l0_0.length c0_0, .slice (some ad397) l0_1.length c0_1] 73 (0, 0)) (kk_ BK395.out)) : gb399 ≠ gG)); clear BK395; clear HB; have BK395 := n0_; have HB := n1_; have BK399 := n2_; have GW399 := n3_; have GE399 := n4_; have NB395_399 := n5_; have NB399_395 := n6_; clear n0_ n1_ n2_ n3_ n4_ n5_ n6_; clear hb hbox hg; have hnb24 := NB399_395.out; have hnc24 := NB395_399.out; have hcz25_0 : w23.cell? ⟨gb399, 0, none⟩ = some (.int .i64 0) := (kc1 BK399.out 0).trans rfl; have hcz25_1 : w23.cell? ⟨gb399, 1, none⟩ = some (.int .i64 0) := (kc1 BK399.out 1).trans rfl; have hfz25_0 := kf1 BK399.out 0; have hfz25_1 := kf1 BK399.out 1; have p400 : 0 ≤ (((rd_T77 (rd_L9 l0_1 a3) x27_1).f0) : Int) := od_; have q400 : ((rd_T77 (rd_L9 l0_1 a3) x27_1).f0) < (l2.length : Int) := od_; obtain ⟨ad400, A400_0, c400_0, e400, hx400_0, hl400_0, hi400_0⟩ := at_L1 HR2.out ((rd_T77 (rd_L9 l0_1 a3) x27_1).f0) p400 q400; cases e400; have hn400_0 : ad400.block ≠ gb399 := Nat.ne_of_lt (Nat.lt_of_lt_of_le (by have := World.block_lt_of_cell? _ _ hx400_0; first | rwa [add_block] at this | exact this) GW399.out); have hn400_1 : ad400.block ≠ gb399 := Nat.ne_of_lt (Nat.lt_of_lt_of_le (by have := World.block_lt_of_cell? _ _ hx400_0; first | rwa [add_block] at this | exact this) GW399.out); replace hx400_0 := (HB.out.cell (World.block_lt_of_cell? w _ hx400_0)).trans hx400_0; have HR400_0 := Ai0.mk hi400_0; have HC400_0 := Ai0.mk hl400_0; clear hi400_0 hl400_0; replace hx400_0 := (cell_far (p := ⟨gb399, 0, none⟩) (by first | (rw [add_block]; exact hn400_0) | (show (Addr.add _ _).block ≠ _; rw [add_block]; exact hn400_0) | exact hn400_0) (.int .i64 ((rd_T77 (rd_L9 l0_1 a3) x27_1).f0))).trans hx400_0; replace hx400_0 := (cell_far (p := ⟨gb399, 1, none⟩) (by first | (rw [add_block]; exact hn400_1) | (show (Addr.add _ _).block ≠ _; rw [add_block]; exact hn400_1) | exact hn400_1) (.int .i64 ((rd_T77 (rd_L9 l0_1 a3) x27_1).f1))).trans hx400_0; (try have hy400_0 := fun (n_ : Nat) => (show ((((w23.drewN n_).setCell ⟨gb399, 0, none⟩ (.int .i64 ((rd_T77 (rd_L9 l0_1 a3) x27_1).f0))).setCell ⟨gb399, 1, none⟩ (.int .i64 ((rd_T77 (rd_L9 l0_1 a3) x27_1).f1)))).cell? _ = some _ from hx400_0)); clear hn400_0; clear hn400_1; replace p400 := eq_true p400; replace q400 := eq_true q400; have p401 : 0 ≤ (((rd_T77 (rd_L9 l0_1 a3) x27_1).f1) : Int) := od_; have q401 : ((rd_T77 (rd_L9 l0_1 a3) x27_1).f1) < ((rd_L1 l2 ((rd_T77 (rd_L9 l0_1 a3) x27_1).f0)).length : Int) := od_; obtain ⟨ad401, e401, hx401_0⟩ := Kd.at_int HR400_0.out ((rd_T77 (rd_L9 l0_1 a3) x27_1).f1) p401 q401; cases e401; have hn401_0 : ad401.block ≠ gb399 := Nat.ne_of_lt (Nat.lt_of_lt_of_le (by have := World.block_lt_of_cell? _ _ hx401_0; first | rwa [add_block] at this | exact this) GW399.out); have hn401_1 : ad401.block ≠ gb399 := Nat.ne_of_lt (Nat.lt_of_lt_of_le (by have := World.block_lt_of_cell? _ _ hx401_0; first | rwa [add_block] at this | exact this) GW399.out); replace hx401_0 := (HB.out.cell (World.block_lt_of_cell? w _ hx401_0)).trans hx401_0; replace hx401_0 := (cell_far (p := ⟨gb399, 0, none⟩) (by first | (rw [add_block]; exact hn401_0) | (show (Addr.add _ _).block ≠ _; rw [add_block]; exact hn401_0) | exact hn401_0) (.int .i64 ((rd_T77 (rd_L9 l0_1 a3) x27_1).f0))).trans hx401_0; replace hx401_0 := (cell_far (p := ⟨gb399, 1, none⟩) (by first | (rw [add_block]; exact hn401_1) | (show (Addr.add _ _).block ≠ _; rw [add_block]; exact hn401_1) | exact hn401_1) (.int .i64 ((rd_T77 (rd_L9 l0_1 a3) x27_1).f1))).trans hx401_0; (try have hy401_0 := fun (n_ : Nat) => (show ((((w23.drewN n_).setCell ⟨gb399, 0, none⟩ (.int .i64 ((rd_T77 (rd_L9 l0_1 a3) x27_1).f0))).setCell ⟨gb399, 1, none⟩ (.int .i64 ((rd_T77 (rd_L9 l0_1 a3) x27_1).f1)))).cell? _ = some _ from hx401_0)); clear hn401_0; clear hn401_1; replace p401 := eq_true p401; replace q401 := eq_true q401)))
              ·go_roundg k1
               case measure => have := HK1.out; omega
               case rel => exact ⟨(wrap64 (x11_1 + (rd (rd_L1 l2 ((rd_T77 (rd_L9 l0_1 a3) x27_1).f0)) ((rd_T77 (rd_L9 l0_1 a3) x27_1).f1)))), (wrap64 (x27_1 + 1)), rf_, rf_, H', ⟨by have := HK1.out; omega⟩, ⟨by (with_reducible repeat (first | refine kn1 ?_ _ | refine kd1 ?_ | refine ka1 ?_ _)); refine blk_far ?_ NB395_399.out _; (with_reducible repeat (first | refine kn1 ?_ _ | refine kd1 ?_ | refine ka1 ?_ _)); refine blk_far ?_ NB395_399.out _; (with_reducible repeat (first | refine kn1 ?_ _ | refine kd1 ?_ | refine ka1 ?_ _)); exact BK395.out⟩, ⟨bl_⟩⟩
              ·go_ret
               exact ⟨by first | rfl | (simp [eW0, eW1] <;> rfl) | (simp [*, eW0, eW1] <;> rfl), bl_⟩
             ·rw [if_neg c21] at H;exact absurd H (by simp)
            ·rw [if_neg c20] at H;exact absurd H (by simp)
           ·rw [if_neg c19] at H;exact absurd H (by simp)
          ·rw [if_neg c18] at H;exact absurd H (by simp)
        ·rw [if_neg c13] at H;exact absurd H (by simp)
       ·rw [if_neg c12] at H;exact absurd H (by simp)
      ·rw [if_neg c11] at H;have c11b0 : decide (x27_1 < ((rd_L9 l0_1 a3).length : Int)) = false := decide_eq_false c11;clear c11;(obtain ⟨ji29, hji29⟩ : ∃ j_ : Int, (mn x11_1 1099511627775) = j_ := ⟨_, rfl⟩);(replace H : (some (mx (ji29) (-1099511627775))) = some r := by first | (rw [hji29] at H; exact H) | (simp only [hji29] at H ⊢; exact H));have hji29_ : (if 1099511627775 < x11_1 then 1099511627775 else x11_1) = ji29 := hji29;(obtain ⟨ji30, hji30⟩ : ∃ j_ : Int, (mx (ji29) (-1099511627775)) = j_ := ⟨_, rfl⟩);(replace H : (some ji30) = some r := by first | (rw [hji30] at H; exact H) | (simp only [hji30] at H ⊢; exact H));have hji30_ : (if (ji29) < (-1099511627775) then (-1099511627775) else (ji29)) = ji30 := hji30;obtain rfl := Option.some.inj H
       go_wp2
       repeat (go_quiet (fail); try go_wp2)
       go_ret
       exact ⟨by first | rfl | (simp [eW0, eW1] <;> rfl) | (simp only [← hji29, ← hji30]; first | rfl | (simp [eW0, eW1] <;> rfl)) | (simp [*, eW0, eW1] <;> rfl), bl_⟩
   ·rw [if_neg c8] at H;exact absurd H (by simp)
  ·rw [if_neg c7] at H;exact absurd H (by simp)
 ·rw [if_neg c6] at H;exact absurd H (by simp)
end Go.Proofs.Ytmclalniilkjiaa.Q
/- What the printed sum of the graph and the document's into and sum compute: the same sums of messages. Condition: inputs and messages are bounded. -/
namespace Go.Proofs.Ytmclalniilkjiaa.Ms
open Go.RowKit Go.Proofs.Ytmclalniilkjiaa.Q Go.Proofs.YtmclalniilkjiaaW.PrintWords Go.Proofs.YtmclalniilkjiaaW.PrintLast Go.Proofs.YtmclalniilkjiaaW.PrintMore Go.Proofs.Ytmclalniilkjiaa.Ba Go.Proofs.Ytmclalniilkjiaa.Ck Go.Proofs.Ytmclalniilkjiaa.Gr Go.Proofs.Ytmclalniilkjiaa.Un Go.Proofs.Ytmclalniilkjiaa.Fl

theorem PG_lenp {α β : Type} (e : Nat → α) (f : Nat → β) (p : Nat → Bool) : ∀ n, (PG e p n).length = (PG f p n).length
 | 0 => rfl
 | n + 1 => by
  have := PG_lenp e f p n
  simp only [PG]
  split
  ·rw [List.length_append, List.length_append, this]; rfl
  ·exact this
theorem PG_ext {α : Type} (e f : Nat → α) (p : Nat → Bool) : ∀ n, (∀ i, i < n → p i = true → e i = f i) → PG e p n = PG f p n
 | 0, _ => rfl
 | n + 1, h => by
  have ih := PG_ext e f p n (fun i hi => h i (by omega))
  simp only [PG]
  split
  ·next hp => rw [ih, h n (by omega) hp]
  ·exact ih
theorem PG_set {α : Type} (e : Nat → α) (p : Nat → Bool) (m : Nat) (v : α) (hm : p m = true) : ∀ n, m < n → (PG e p n).set (PG e p m).length v = PG (fun i => if i = m then v else e i) p n
 | 0, h => by omega
 | n + 1, h => by
  by_cases e1 : m = n
  ·subst e1
   rw [PG_succ hm, PG_succ hm, List.set_append_right _ _ (Nat.le_refl _), Nat.sub_self, if_pos rfl]
   rw [PG_ext (fun i => if i = m then v else e i) e p m (fun i hi _ => if_neg (by omega))]
   rfl
  ·have ih := PG_set e p m v hm n (by omega)
   have hl := PG_lt e p m hm n (by omega)
   by_cases h2 : p n = true
   ·rw [PG_succ h2, PG_succ h2, List.set_append_left _ _ hl, ih, if_neg (Ne.symm e1)]
   ·rw [PG_skip h2, PG_skip h2, ih]
theorem PG_rep {α : Type} (v : α) (p : Nat → Bool) : ∀ n, List.replicate (PG (fun _ => v) p n).length v = PG (fun _ => v) p n
 | 0 => rfl
 | n + 1 => by
  have ih := PG_rep v p n
  by_cases h2 : p n = true
  ·rw [PG_succ h2, List.length_append, List.length_singleton, List.replicate_succ', ih]
  ·rw [PG_skip h2, ih]

/-- The messages in the program's form: for each row, one for each 1 of it. -/
def dn (rows : List (List Int)) (C : Nat) (F : Nat → Nat → Int) : List (List Int) := LL rows.length (fun j => PG (F j) (bit rows j) C)
/-- The messages in the document's form: a number for each entry. -/
def fr (rows : List (List Int)) (C : Nat) (F : Nat → Nat → Int) : List (List Int) := LL rows.length (fun j => LL C (fun i => if bit rows j i = true then F j i else 0))
/-- Row j sends to position p, and is not left out. -/
def use (rows : List (List Int)) (b : Int) (p j : Nat) : Bool := bit rows j p && !decide ((j : Int) = b)
def hasT (rows : List (List Int)) (F : Nat → Nat → Int) (b : Int) (p : Nat) : Nat → Bool
 | 0 => false
 | n + 1 => hasT rows F b p n || (use rows b p n && decide (F n p = 1099511627776))
def tot (rows : List (List Int)) (inp : List Int) (F : Nat → Nat → Int) (b : Int) (p n : Nat) : Int := rd inp (p : Int) + sumTo (fun j => if use rows b p j = true then F j p else 0) n
def cl (x : Int) : Int := mx (mn x 1099511627775) (-1099511627775)
/-- The sum of an input and of the messages to a position but that of row b. -/
def smv (rows : List (List Int)) (inp : List Int) (F : Nat → Nat → Int) (b : Int) (p : Nat) : Int := if hasT rows F b p rows.length = true then 1099511627776 else cl (tot rows inp F b p rows.length)
def Bd (F : Nat → Nat → Int) : Prop := ∀ j i, -1099511627776 ≤ F j i ∧ F j i ≤ 1099511627776
def Bi (inp : List Int) : Prop := ∀ i, -1048576 ≤ rd inp i ∧ rd inp i ≤ 1048576
theorem cl_bound (x : Int) : -1099511627775 ≤ cl x ∧ cl x ≤ 1099511627775 := by
 unfold cl mx mn
 split <;> split <;> omega
theorem smv_bound (rows : List (List Int)) (inp : List Int) (F : Nat → Nat → Int) (b : Int) (p : Nat) : -1099511627776 ≤ smv rows inp F b p ∧ smv rows inp F b p ≤ 1099511627776 := by
 unfold smv
 split
 ·omega
 ·have := cl_bound (tot rows inp F b p rows.length); omega
theorem hasT_mono (rows : List (List Int)) (F : Nat → Nat → Int) (b : Int) (p m : Nat) (h : hasT rows F b p m = true) : ∀ n, m ≤ n → hasT rows F b p n = true
 | 0, hn => by
  obtain rfl : m = 0 := by omega
  exact h
 | n + 1, hn => by
  by_cases e : m = n + 1
  ·subst e; exact h
  ·show (hasT rows F b p n || _) = true
   rw [hasT_mono rows F b p m h n (by omega)]; rfl
section
variable (rows : List (List Int)) (inp : List Int) (F : Nat → Nat → Int) (b : Int) (p C : Nat) (hr : rows.length ≤ 256) (hB : Bd F) (hI : Bi inp)
include hB hI
theorem tot_bound (n : Nat) (hn : n ≤ 256) : -1000000000000000 ≤ tot rows inp F b p n ∧ tot rows inp F b p n ≤ 1000000000000000 := by
 have h1 := sumTo_bound (fun j => if use rows b p j = true then F j p else 0) (-1099511627776) 1099511627776 n (fun i _ => by
  have := hB i p
  show _ ≤ (if use rows b p i = true then F i p else 0) ∧ (if use rows b p i = true then F i p else 0) ≤ _
  split <;> omega)
 have h2 := hI (p : Int)
 unfold tot
 omega
include hr
/-- The sum of the graph. -/
theorem sum_l0 (hp : p < C) (hC : C ≤ 256) : ∀ d j : Nat, j + d = rows.length → hasT rows F b p j = false →
  Ev (fun k => mg_sum.l0 k (dn rows C F) b (tot rows inp F b p j) (edg rows p rows.length) ((edg rows p rows.length).length : Int) ((edg rows p j).length : Int)) (smv rows inp F b p)
 | 0, j, h, h0 => by
  obtain rfl : j = rows.length := by omega
  refine Ev.step (f := fun _ => some _) (fun k => ?_) (Ev.now _)
  simp only [mg_sum.l0]
  rw [if_neg (by omega)]
  unfold smv
  rw [h0, if_neg Bool.false_ne_true]
  rfl
 | d + 1, j, h, h0 => by
  by_cases hb : bit rows j p = true
  ·have hlt := PG_lt (fun j => (⟨(j : Int), ((one rows j p).length : Int)⟩ : S77)) (fun j => bit rows j p) j hb rows.length (by omega)
   have hat := PG_at z77 (fun j => (⟨(j : Int), ((one rows j p).length : Int)⟩ : S77)) (fun j => bit rows j p) j hb rows.length (by omega)
   have hlt' : (edg rows p j).length < (edg rows p rows.length).length := hlt
   have hat' : rd_T77 (edg rows p rows.length) ((edg rows p j).length : Int) = ⟨(j : Int), ((one rows j p).length : Int)⟩ := by
    unfold rd_T77; rw [Int.toNat_natCast]; exact hat
   have hf0 : (rd_T77 (edg rows p rows.length) ((edg rows p j).length : Int)).f0 = (j : Int) := by rw [hat']
   have hf1 : (rd_T77 (edg rows p rows.length) ((edg rows p j).length : Int)).f1 = ((one rows j p).length : Int) := by rw [hat']
   have hle := edg_le rows p j
   have he1 : (edg rows p (j + 1)).length = (edg rows p j).length + 1 := by
    show (PG _ _ (j + 1)).length = _
    rw [PG_succ (p := fun j => bit rows j p) hb, List.length_append, List.length_singleton]; rfl
   have hdl : (dn rows C F).length = rows.length := LL_length _ _
   have hrow : rd_L1 (dn rows C F) (j : Int) = PG (F j) (bit rows j) C := by rw [rd_L1_nat]; exact LL_at _ _ _ _ (by omega)
   have hol : (one rows j p).length = (PG (F j) (bit rows j) p).length := PG_lenp _ _ _ _
   have hvl : (one rows j p).length < (PG (F j) (bit rows j) C).length := by rw [hol]; exact PG_lt _ _ p hb C hp
   have hv : rd (PG (F j) (bit rows j) C) ((one rows j p).length : Int) = F j p := by rw [rd_nat, hol]; exact PG_at 0 _ _ p hb C hp
   have ht0 := tot_bound rows inp F b p hB hI j (by omega)
   have hFb := hB j p
   by_cases hjb : (j : Int) = b
   ·have hu : use rows b p j = false := by unfold use; rw [decide_eq_true hjb]; simp
    have e1 : tot rows inp F b p (j + 1) = tot rows inp F b p j := by unfold tot; simp only [sumTo]; rw [hu]; simp
    have e2 : hasT rows F b p (j + 1) = false := by show (_ || _) = _; rw [h0, hu]; rfl
    have ih := sum_l0 hp hC d (j + 1) (by omega) e2
    rw [e1, he1] at ih
    refine Ev.step (fun k => ?_) ih
    simp only [mg_sum.l0]
    rw [hf0, if_pos (by omega), if_pos (by omega), if_pos (by omega), if_pos hjb, w64_id (by omega) (by omega)]
    rfl
   ·have hu : use rows b p j = true := by unfold use; rw [decide_eq_false hjb, hb]; rfl
    by_cases hT : F j p = 1099511627776
    ·have e2 : hasT rows F b p (j + 1) = true := by show (_ || _) = _; rw [h0, hu, decide_eq_true hT]; rfl
     have e3 : smv rows inp F b p = 1099511627776 := if_pos (hasT_mono rows F b p (j + 1) e2 rows.length (by omega))
     rw [e3]
     refine Ev.step (f := fun _ => some _) (fun k => ?_) (Ev.now _)
     simp only [mg_sum.l0]
     rw [hf0, if_pos (by omega), if_pos (by omega), if_pos (by omega), if_neg hjb, if_pos (by omega), if_pos (by omega), hf1, if_pos (by omega)]
     rw [hrow, if_pos (by omega), hv, if_pos hT]
    ·have e1 : tot rows inp F b p (j + 1) = tot rows inp F b p j + F j p := by unfold tot; simp only [sumTo]; rw [hu]; simp; omega
     have e2 : hasT rows F b p (j + 1) = false := by show (_ || _) = _; rw [h0, hu, decide_eq_false hT]; rfl
     have ih := sum_l0 hp hC d (j + 1) (by omega) e2
     rw [e1, he1] at ih
     refine Ev.step (fun k => ?_) ih
     simp only [mg_sum.l0]
     rw [hf0, if_pos (by omega), if_pos (by omega), if_pos (by omega), if_neg hjb, if_pos (by omega), if_pos (by omega), hf1, if_pos (by omega)]
     rw [hrow, if_pos (by omega), hv, if_neg hT, w64_id (n := tot rows inp F b p j + F j p) (by omega) (by omega), w64_id (by omega) (by omega)]
     rfl
  ·have hb2 : bit rows j p = false := by cases h2 : bit rows j p <;> simp_all
   have hu : use rows b p j = false := by unfold use; rw [hb2]; rfl
   have e1 : tot rows inp F b p (j + 1) = tot rows inp F b p j := by unfold tot; simp only [sumTo]; rw [hu]; simp
   have e2 : hasT rows F b p (j + 1) = false := by show (_ || _) = _; rw [h0, hu]; rfl
   have ih := sum_l0 hp hC d (j + 1) (by omega) e2
   have e3 : edg rows p (j + 1) = edg rows p j := PG_skip (p := fun j => bit rows j p) hb
   rw [e1, e3] at ih
   exact ih
theorem sum_ev (hp : p < C) (hC : C ≤ 256) (hlen : inp.length = C) : Ev (fun k => mg_sum.f k (checks rows C rows.length) (at_ rows C rows.length) inp (dn rows C F) (p : Int) b) (smv rows inp F b p) := by
 have h := sum_l0 rows inp F b p C hr hB hI hp hC rows.length 0 (by omega) rfl
 have hal : (at_ rows C rows.length).length = C := LL_length _ _
 have h9 : rd_L9 (at_ rows C rows.length) (p : Int) = edg rows p rows.length := by unfold rd_L9; rw [Int.toNat_natCast]; exact LL_at _ _ _ _ hp
 have e0 : tot rows inp F b p 0 = rd inp (p : Int) := by unfold tot; simp [sumTo]
 rw [e0] at h
 refine Ev.congr (fun k => ?_) h
 unfold mg_sum.f
 rw [if_pos (by omega), if_pos (by omega), if_pos (by omega), h9]
 rfl
end
end Go.Proofs.Ytmclalniilkjiaa.Ms
/- The message of a check: the fold over the other positions is the least absolute value with the sign of the number of negative ones; two least values suffice. Plain laws. No condition. -/
namespace Go.Proofs.Ytmclalniilkjiaa.Rv
open Go.RowKit Go.Proofs.Ytmclalniilkjiaa.Q Go.Proofs.YtmclalniilkjiaaW.PrintWords Go.Proofs.YtmclalniilkjiaaW.PrintLast Go.Proofs.YtmclalniilkjiaaW.PrintMore Go.Proofs.Ytmclalniilkjiaa.Ba Go.Proofs.Ytmclalniilkjiaa.Ck Go.Proofs.Ytmclalniilkjiaa.Gr Go.Proofs.Ytmclalniilkjiaa.Un Go.Proofs.Ytmclalniilkjiaa.Fl Go.Proofs.Ytmclalniilkjiaa.Ms

def comb (x r : Int) : Int := if ((decide (x < 0)) != (decide (r < 0))) = true then -(mn (mx x (-x)) (mx r (-r))) else mn (mx x (-x)) (mx r (-r))
def rv (u : Nat → Int) (q : Nat → Bool) (i : Nat) : Nat → Int
 | 0 => 1099511627776
 | n + 1 => if n = i then rv u q i n else if q n = true then comb (u n) (rv u q i n) else rv u q i n
def mg (u : Nat → Int) (q : Nat → Bool) (i : Nat) : Nat → Int
 | 0 => 1099511627776
 | n + 1 => if n = i then mg u q i n else if q n = true then mn (mx (u n) (-(u n))) (mg u q i n) else mg u q i n
def ng (u : Nat → Int) (q : Nat → Bool) (i : Nat) : Nat → Int
 | 0 => 0
 | n + 1 => if n = i then ng u q i n else if q n = true then ng u q i n + (if u n < 0 then 1 else 0) else ng u q i n
def nga (u : Nat → Int) (q : Nat → Bool) : Nat → Int
 | 0 => 0
 | n + 1 => if q n = true then nga u q n + (if u n < 0 then 1 else 0) else nga u q n
theorem mx_abs (x : Int) : mx x (-x) = if x < 0 then -x else x := by unfold mx; split <;> split <;> omega
theorem mg_bound (u : Nat → Int) (q : Nat → Bool) (i : Nat) : ∀ n, 0 ≤ mg u q i n ∧ mg u q i n ≤ 1099511627776
 | 0 => by simp only [mg]; omega
 | n + 1 => by
  have ih := mg_bound u q i n
  simp only [mg]
  split
  ·exact ih
  ·split
   ·rw [mx_abs]; unfold mn; split <;> split <;> omega
   ·exact ih
theorem ng_bound (u : Nat → Int) (q : Nat → Bool) (i : Nat) : ∀ n : Nat, 0 ≤ ng u q i n ∧ ng u q i n ≤ (n : Int)
 | 0 => by simp only [ng]; omega
 | n + 1 => by
  have ih := ng_bound u q i n
  simp only [ng]
  split
  ·omega
  ·split
   ·split <;> omega
   ·omega
theorem nga_bound (u : Nat → Int) (q : Nat → Bool) : ∀ n : Nat, 0 ≤ nga u q n ∧ nga u q n ≤ (n : Int)
 | 0 => by simp only [nga]; omega
 | n + 1 => by
  have ih := nga_bound u q n
  simp only [nga]
  split
  ·split <;> omega
  ·omega
theorem rv_eq (u : Nat → Int) (q : Nat → Bool) (i : Nat) : ∀ n, rv u q i n = if ng u q i n % 2 = 1 then -(mg u q i n) else mg u q i n
 | 0 => by simp [rv, ng, mg]
 | n + 1 => by
  have ih := rv_eq u q i n
  have hb := mg_bound u q i n
  by_cases h1 : n = i
  ·have e1 : rv u q i (n + 1) = rv u q i n := by simp only [rv]; rw [if_pos h1]
   have e2 : ng u q i (n + 1) = ng u q i n := by simp only [ng]; rw [if_pos h1]
   have e3 : mg u q i (n + 1) = mg u q i n := by simp only [mg]; rw [if_pos h1]
   rw [e1, e2, e3]; exact ih
  ·by_cases h2 : q n = true
   ·have e1 : rv u q i (n + 1) = comb (u n) (rv u q i n) := by simp only [rv]; rw [if_neg h1, if_pos h2]
    have e2 : ng u q i (n + 1) = ng u q i n + (if u n < 0 then 1 else 0) := by simp only [ng]; rw [if_neg h1, if_pos h2]
    have e3 : mg u q i (n + 1) = mn (mx (u n) (-(u n))) (mg u q i n) := by simp only [mg]; rw [if_neg h1, if_pos h2]
    rw [e1, e2, e3]
    generalize mg u q i n = M at ih hb ⊢
    generalize ng u q i n = N at ih ⊢
    generalize rv u q i n = r at ih ⊢
    have hr : mx r (-r) = M := by rw [mx_abs, ih]; split <;> split <;> omega
    unfold comb
    rw [hr, mx_abs]
    by_cases hx : u n < 0
    ·rw [if_pos hx, if_pos hx, decide_eq_true hx]
     by_cases hN : N % 2 = 1
     ·rw [if_pos hN] at ih
      rw [if_neg (by omega : ¬ (N + 1) % 2 = 1)]
      by_cases hM : r < 0
      ·rw [decide_eq_true hM, if_neg (by decide)]
      ·rw [decide_eq_false hM, if_pos (by decide)]
       have : M = 0 := by omega
       subst this
       unfold mn; split <;> omega
     ·rw [if_neg hN] at ih
      rw [if_pos (by omega : (N + 1) % 2 = 1), decide_eq_false (by omega : ¬ r < 0), if_pos (by decide)]
    ·rw [if_neg hx, if_neg hx, decide_eq_false hx, Int.add_zero]
     by_cases hN : N % 2 = 1
     ·rw [if_pos hN] at ih ⊢
      by_cases hM : r < 0
      ·rw [decide_eq_true hM, if_pos (by decide)]
      ·rw [decide_eq_false hM, if_neg (by decide)]
       have : M = 0 := by omega
       subst this
       unfold mn; split <;> omega
     ·rw [if_neg hN] at ih ⊢
      rw [decide_eq_false (by omega : ¬ r < 0), if_neg (by decide)]
   ·have e1 : rv u q i (n + 1) = rv u q i n := by simp only [rv]; rw [if_neg h1, if_neg h2]
    have e2 : ng u q i (n + 1) = ng u q i n := by simp only [ng]; rw [if_neg h1, if_neg h2]
    have e3 : mg u q i (n + 1) = mg u q i n := by simp only [mg]; rw [if_neg h1, if_neg h2]
    rw [e1, e2, e3]; exact ih
theorem rv_bound (u : Nat → Int) (q : Nat → Bool) (i n : Nat) : -1099511627776 ≤ rv u q i n ∧ rv u q i n ≤ 1099511627776 := by
 have hb := mg_bound u q i n
 rw [rv_eq]
 split <;> omega
theorem nga_eq (u : Nat → Int) (q : Nat → Bool) (i : Nat) (hi : q i = true) : ∀ n, nga u q n = ng u q i n + (if i < n then (if u i < 0 then 1 else 0) else 0)
 | 0 => by simp [nga, ng]
 | n + 1 => by
  have ih := nga_eq u q i hi n
  by_cases h1 : n = i
  ·subst h1
   have e1 : nga u q (n + 1) = nga u q n + (if u n < 0 then 1 else 0) := by simp only [nga]; rw [if_pos hi]
   have e2 : ng u q n (n + 1) = ng u q n n := by simp [ng]
   rw [if_neg (by omega)] at ih
   rw [e1, e2, if_pos (by omega : n < n + 1), ih]; omega
  ·have e : (if i < n + 1 then (if u i < 0 then (1 : Int) else 0) else 0) = (if i < n then (if u i < 0 then 1 else 0) else 0) := by
    by_cases h2 : i < n
    ·rw [if_pos h2, if_pos (by omega)]
    ·rw [if_neg h2, if_neg (by omega)]
   rw [e]
   by_cases h2 : q n = true
   ·have e1 : nga u q (n + 1) = nga u q n + (if u n < 0 then 1 else 0) := by simp only [nga]; rw [if_pos h2]
    have e2 : ng u q i (n + 1) = ng u q i n + (if u n < 0 then 1 else 0) := by simp only [ng]; rw [if_neg h1, if_pos h2]
    rw [e1, e2, ih]; omega
   ·have e1 : nga u q (n + 1) = nga u q n := by simp only [nga]; rw [if_neg h2]
    have e2 : ng u q i (n + 1) = ng u q i n := by simp only [ng]; rw [if_neg h1, if_neg h2]
    rw [e1, e2, ih]
/-- What the two least values, their place and the number of negative messages tell of the positions below n. -/
def Stt (rows : List (List Int)) (u : Nat → Int) (j n : Nat) (f s a m : Int) : Prop :=
 m = nga u (bit rows j) n ∧ ((a = -1 ∧ f = 1099511627776 ∧ s = 1099511627776 ∧ ∀ i, mg u (bit rows j) i n = 1099511627776) ∨
  (∃ q : Nat, q < n ∧ bit rows j q = true ∧ a = ((one rows j q).length : Int) ∧ f = mx (u q) (-(u q)) ∧ s = mg u (bit rows j) q n ∧ f ≤ s ∧ ∀ i, i ≠ q → mg u (bit rows j) i n = f))
theorem Stt_0 (rows : List (List Int)) (u : Nat → Int) (j : Nat) : Stt rows u j 0 1099511627776 1099511627776 (-1) 0 :=
 ⟨rfl, Or.inl ⟨rfl, rfl, rfl, fun _ => rfl⟩⟩
theorem Stt_skip {rows : List (List Int)} {u : Nat → Int} {j n : Nat} {f s a m : Int} (h : Stt rows u j n f s a m) (hb : ¬ bit rows j n = true) : Stt rows u j (n + 1) f s a m := by
 have e : ∀ i, mg u (bit rows j) i (n + 1) = mg u (bit rows j) i n := fun i => by simp only [mg]; rw [if_neg hb]; split <;> rfl
 have e2 : nga u (bit rows j) (n + 1) = nga u (bit rows j) n := by simp only [nga]; rw [if_neg hb]
 obtain ⟨h1, h2⟩ := h
 refine ⟨by rw [e2]; exact h1, ?_⟩
 rcases h2 with ⟨a1, a2, a3, a4⟩ | ⟨q, b1, b2, b3, b4, b5, b6, b7⟩
 ·exact Or.inl ⟨a1, a2, a3, fun i => by rw [e]; exact a4 i⟩
 ·exact Or.inr ⟨q, by omega, b2, b3, b4, by rw [e]; exact b5, b6, fun i hi => by rw [e]; exact b7 i hi⟩
section
variable {rows : List (List Int)} {u : Nat → Int} {j n : Nat} {f s a m : Int} (h : Stt rows u j n f s a m) (hb : bit rows j n = true) (hu : mx (u n) (-(u n)) ≤ 1099511627776)
include h hb
theorem Stt_minus : (if u n < 0 then m + 1 else m) = nga u (bit rows j) (n + 1) := by
 simp only [nga]
 rw [if_pos hb, ← h.1]
 split <;> omega
omit hb in
theorem Stt_range : (a = -1 ∨ 0 ≤ a) ∧ 0 ≤ f ∧ f ≤ s ∧ s ≤ 1099511627776 := by
 obtain ⟨h1, h2⟩ := h
 rcases h2 with ⟨a1, a2, a3, a4⟩ | ⟨q, b1, b2, b3, b4, b5, b6, b7⟩
 ·omega
 ·have := mg_bound u (bit rows j) q n
  have h3 := mx_abs (u q)
  rw [← b4] at h3
  refine ⟨Or.inr (by omega), ?_, b6, by omega⟩
  rw [h3]; split <;> omega
include hu
theorem Stt_new (hlt : a < 0 ∨ mx (u n) (-(u n)) < f) : Stt rows u j (n + 1) (mx (u n) (-(u n))) f ((one rows j n).length : Int) (if u n < 0 then m + 1 else m) := by
 refine ⟨Stt_minus h hb, Or.inr ⟨n, by omega, hb, rfl, rfl, ?_, ?_, ?_⟩⟩
 ·rw [show mg u (bit rows j) n (n + 1) = mg u (bit rows j) n n by simp [mg]]
  rcases h.2 with ⟨a1, a2, a3, a4⟩ | ⟨q, b1, b2, b3, b4, b5, b6, b7⟩
  ·rw [a2, a4]
  ·rw [b7 n (by omega)]
 ·rcases h.2 with ⟨a1, a2, a3, a4⟩ | ⟨q, b1, b2, b3, b4, b5, b6, b7⟩
  ·omega
  ·omega
 ·intro i hi
  simp only [mg]
  rw [if_neg (Ne.symm hi), if_pos hb]
  rcases h.2 with ⟨a1, a2, a3, a4⟩ | ⟨q, b1, b2, b3, b4, b5, b6, b7⟩
  ·rw [a4]; unfold mn; split <;> omega
  ·have : f ≤ mg u (bit rows j) i n := by
    by_cases e : i = q
    ·subst e; omega
    ·rw [b7 i e]; omega
   unfold mn; split <;> omega
omit hu
theorem Stt_old (hge : ¬ a < 0) (hge2 : ¬ mx (u n) (-(u n)) < f) : Stt rows u j (n + 1) f (if mx (u n) (-(u n)) < s then mx (u n) (-(u n)) else s) a (if u n < 0 then m + 1 else m) := by
 rcases h.2 with ⟨a1, a2, a3, a4⟩ | ⟨q, b1, b2, b3, b4, b5, b6, b7⟩
 ·omega
 ·refine ⟨Stt_minus h hb, Or.inr ⟨q, by omega, b2, b3, b4, ?_, by split <;> omega, ?_⟩⟩
  ·have e : mg u (bit rows j) q (n + 1) = mn (mx (u n) (-(u n))) (mg u (bit rows j) q n) := by simp only [mg]; rw [if_neg (by omega), if_pos hb]
   rw [e, ← b5]
   unfold mn
   by_cases h3 : mx (u n) (-(u n)) < s
   ·rw [if_pos h3]; split <;> omega
   ·rw [if_neg h3]; split <;> omega
  ·intro i hi
   simp only [mg]
   by_cases e : n = i
   ·rw [if_pos e]; exact b7 i hi
   ·rw [if_neg e, if_pos hb, b7 i hi]
    unfold mn; split <;> omega
end
/-- The message to position i. -/
theorem Stt_out {rows : List (List Int)} {u : Nat → Int} {j C : Nat} {f s a m : Int} (h : Stt rows u j C f s a m) (i : Nat) (hi : i < C) (hb : bit rows j i = true) :
  (if ((one rows j i).length : Int) = a then s else f) = mg u (bit rows j) i C ∧ m - (if u i < 0 then 1 else 0) = ng u (bit rows j) i C := by
 have h2 := nga_eq u (bit rows j) i hb C
 rw [if_pos hi, ← h.1] at h2
 refine ⟨?_, by omega⟩
 rcases h.2 with ⟨a1, a2, a3, a4⟩ | ⟨q, b1, b2, b3, b4, b5, b6, b7⟩
 ·rw [if_neg (by omega), a4, a2]
 ·by_cases e : i = q
  ·subst e; rw [if_pos b3.symm, b5]
  ·rw [b7 i e]
   refine if_neg (fun e2 => ?_)
   rw [b3] at e2
   have e3 : (one rows j i).length = (one rows j q).length := by omega
   rcases Nat.lt_or_gt_of_ne e with h3 | h3
   ·have := PG_lt (fun i => (i : Int)) (bit rows j) i hb q h3
    have e4 : (PG (fun i => (i : Int)) (bit rows j) i).length = (PG (fun i => (i : Int)) (bit rows j) q).length := e3
    omega
   ·have := PG_lt (fun i => (i : Int)) (bit rows j) q b2 i h3
    have e4 : (PG (fun i => (i : Int)) (bit rows j) i).length = (PG (fun i => (i : Int)) (bit rows j) q).length := e3
    omega
/-- The messages behind one more round. -/
def nxF (rows : List (List Int)) (C : Nat) (inp : List Int) (F : Nat → Nat → Int) (j i : Nat) : Int := rv (fun k => smv rows inp F (j : Int) k) (bit rows j) i C
def msF (rows : List (List Int)) (C : Nat) (inp : List Int) : Nat → Nat → Nat → Int
 | 0 => fun _ _ => 0
 | r + 1 => nxF rows C inp (msF rows C inp r)
theorem nxF_bd (rows : List (List Int)) (C : Nat) (inp : List Int) (F : Nat → Nat → Int) : Bd (nxF rows C inp F) := fun _ _ => rv_bound _ _ _ _
theorem msF_bd (rows : List (List Int)) (C : Nat) (inp : List Int) : ∀ r, Bd (msF rows C inp r)
 | 0 => fun _ _ => by simp only [msF]; omega
 | _ + 1 => nxF_bd _ _ _ _
/-- The beliefs behind r rounds. -/
def bel (rows : List (List Int)) (C : Nat) (inp : List Int) (r : Nat) : List Int := LL C (fun p => smv rows inp (msF rows C inp r) (-1) p)
end Go.Proofs.Ytmclalniilkjiaa.Rv
/- Words, least costs, and the difference of two least costs: two independent parts join as the messages do. Plain laws, no program in sight. No condition. -/
namespace Go.Proofs.Ytmclalniilkjiaa.Mm
open Go.RowKit Go.Proofs.YtmclalniilkjiaaW.PrintWords Go.Proofs.YtmclalniilkjiaaW.PrintLast Go.Proofs.YtmclalniilkjiaaW.PrintMore Go.Proofs.Ytmclalniilkjiaa.Ba Go.Proofs.Ytmclalniilkjiaa.Rv

/-- The parity of f 0, .., f (n - 1). -/
def xr (f : Nat → Bool) : Nat → Bool
 | 0 => false
 | n + 1 => (xr f n) != (f n)
theorem xr_congr (f g : Nat → Bool) : ∀ n, (∀ i, i < n → f i = g i) → xr f n = xr g n
 | 0, _ => rfl
 | n + 1, h => by simp only [xr]; rw [xr_congr f g n (fun i hi => h i (by omega)), h n (by omega)]
theorem xr_false (f : Nat → Bool) (n : Nat) (h : ∀ i, i < n → f i = false) : xr f n = false := by
 induction n with
 | zero => rfl
 | succ n ih => simp only [xr]; rw [ih (fun i hi => h i (by omega)), h n (by omega)]; rfl
/-- The parity of all but index i, and that of i. -/
theorem xr_out (f : Nat → Bool) (i : Nat) : ∀ n, i < n → xr f n = (xr (fun k => f k && decide (k ≠ i)) n != f i)
 | 0, h => by omega
 | n + 1, h => by
  simp only [xr]
  by_cases e : n = i
  ·subst e
   rw [xr_congr f (fun k => f k && decide (k ≠ n)) n (fun k hk => by rw [decide_eq_true (by omega : k ≠ n), Bool.and_true])]
   have : decide (n ≠ n) = false := decide_eq_false (by simp)
   rw [this, Bool.and_false, Bool.bne_false]
  ·rw [xr_out f i n (by omega), decide_eq_true e, Bool.and_true]
   generalize xr (fun k => f k && decide (k ≠ i)) n = A
   generalize f i = B
   generalize f n = D
   cases A <;> cases B <;> cases D <;> rfl
abbrev W := Nat → Bool
/-- The least value of f at the words that P holds of. -/
def Mn (f : W → Int) (P : W → Prop) (v : Int) : Prop := (∃ x, P x ∧ f x = v) ∧ ∀ x, P x → v ≤ f x
theorem Mn_ex (f : W → Int) (P : W → Prop) (lo : Int) (hlo : ∀ x, P x → lo ≤ f x) (h : ∃ x, P x) : ∃ v, Mn f P v := by
 have key : ∀ (n : Nat) (x : W), P x → f x ≤ lo + n → ∃ v, Mn f P v := by
  intro n
  induction n with
  | zero =>
   intro x hx hf
   exact ⟨f x, ⟨x, hx, rfl⟩, fun y hy => by have := hlo y hy; omega⟩
  | succ n ih =>
   intro x hx hf
   by_cases h2 : ∃ y, P y ∧ f y ≤ lo + n
   ·obtain ⟨y, hy, h3⟩ := h2
    exact ih y hy h3
   ·refine ⟨f x, ⟨x, hx, rfl⟩, fun y hy => ?_⟩
    have : ¬ f y ≤ lo + n := fun h4 => h2 ⟨y, hy, h4⟩
    omega
 obtain ⟨x, hx⟩ := h
 have h1 := hlo x hx
 exact key (f x - lo).toNat x hx (by omega)
theorem Mn_uniq {f : W → Int} {P : W → Prop} {v w : Int} (h1 : Mn f P v) (h2 : Mn f P w) : v = w := by
 obtain ⟨⟨x, hx, ex⟩, hv⟩ := h1
 obtain ⟨⟨y, hy, ey⟩, hw⟩ := h2
 have := hv y hy
 have := hw x hx
 omega
theorem Mn_congr {f : W → Int} {P Q : W → Prop} {v : Int} (h : ∀ x, P x ↔ Q x) (hm : Mn f P v) : Mn f Q v := by
 obtain ⟨⟨x, hx, ex⟩, hv⟩ := hm
 exact ⟨⟨x, (h x).1 hx, ex⟩, fun y hy => hv y ((h y).2 hy)⟩
/-- d is the least value where P holds less that where Q holds; Certain if P never holds. -/
def Df (f : W → Int) (P Q : W → Prop) (d : Int) : Prop := ((¬ ∃ x, P x) ∧ d = 1099511627776) ∨ ∃ v w, Mn f P v ∧ Mn f Q w ∧ d = v - w
theorem Df_uniq {f : W → Int} {P Q : W → Prop} {d e : Int} (h1 : Df f P Q d) (h2 : Df f P Q e) : d = e := by
 rcases h1 with ⟨a, rfl⟩ | ⟨v, w, hv, hw, rfl⟩
 ·rcases h2 with ⟨_, rfl⟩ | ⟨v', w', hv', _, _⟩
  ·rfl
  ·obtain ⟨⟨x, hx, _⟩, _⟩ := hv'
   exact absurd ⟨x, hx⟩ a
 ·rcases h2 with ⟨a, rfl⟩ | ⟨v', w', hv', hw', rfl⟩
  ·obtain ⟨⟨x, hx, _⟩, _⟩ := hv
   exact absurd ⟨x, hx⟩ a
  ·rw [Mn_uniq hv hv', Mn_uniq hw hw']
theorem Df_congr {f : W → Int} {P Q P' Q' : W → Prop} {d : Int} (hp : ∀ x, P x ↔ P' x) (hq : ∀ x, Q x ↔ Q' x) (h : Df f P Q d) : Df f P' Q' d := by
 rcases h with ⟨a, rfl⟩ | ⟨v, w, hv, hw, rfl⟩
 ·exact Or.inl ⟨fun ⟨x, hx⟩ => a ⟨x, (hp x).2 hx⟩, rfl⟩
 ·exact Or.inr ⟨v, w, Mn_congr hp hv, Mn_congr hq hw, rfl⟩
/-- The sum of the inputs at the ones. -/
def co (a : Nat → Int) (C : Nat) (x : W) : Int := sumTo (fun p => if x p = true then a p else 0) C
theorem co_bound (a : Nat → Int) (ha : ∀ i, -1048576 ≤ a i ∧ a i ≤ 1048576) (C : Nat) (hC : C ≤ 256) (x : W) : -268435456 ≤ co a C x ∧ co a C x ≤ 268435456 := by
 have := sumTo_bound (fun p => if x p = true then a p else 0) (-1048576) 1048576 C (fun i _ => by
  have := ha i
  show _ ≤ (if x i = true then a i else 0) ∧ (if x i = true then a i else 0) ≤ _
  split <;> omega)
 unfold co
 omega
open Classical in
/-- x within S, y outside. -/
noncomputable def mix (S : Nat → Prop) (x y : W) : W := fun p => if S p then x p else y p
theorem mix_in {S : Nat → Prop} {x y : W} {p : Nat} (h : S p) : mix S x y p = x p := if_pos h
theorem mix_out {S : Nat → Prop} {x y : W} {p : Nat} (h : ¬ S p) : mix S x y p = y p := if_neg h
open Classical in
/-- The part of the cost within S. -/
noncomputable def coS (a : Nat → Int) (C : Nat) (S : Nat → Prop) (x : W) : Int := sumTo (fun p => if S p then (if x p = true then a p else 0) else 0) C
open Classical in
theorem co_split (a : Nat → Int) (C : Nat) (S : Nat → Prop) (x : W) : co a C x = coS a C S x + coS a C (fun p => ¬ S p) x := by
 unfold co coS
 rw [← sumTo_add]
 refine sumTo_congr _ _ _ (fun p _ => ?_)
 by_cases h : S p <;> simp [h]
open Classical in
theorem coS_congr (a : Nat → Int) (C : Nat) (S : Nat → Prop) (x y : W) (h : ∀ p, S p → x p = y p) : coS a C S x = coS a C S y := by
 unfold coS
 refine sumTo_congr _ _ _ (fun p _ => ?_)
 by_cases hs : S p
 ·rw [if_pos hs, if_pos hs, h p hs]
 ·rw [if_neg hs, if_neg hs]
open Classical in
theorem coS_bound (a : Nat → Int) (ha : ∀ i, -1048576 ≤ a i ∧ a i ≤ 1048576) (C : Nat) (hC : C ≤ 256) (S : Nat → Prop) (x : W) : -268435456 ≤ coS a C S x ∧ coS a C S x ≤ 268435456 := by
 have := sumTo_bound (fun p => if S p then (if x p = true then a p else 0) else 0) (-1048576) 1048576 C (fun i _ => by
  have := ha i
  show _ ≤ (if S i then (if x i = true then a i else 0) else 0) ∧ (if S i then (if x i = true then a i else 0) else 0) ≤ _
  split
  ·split <;> omega
  ·omega)
 unfold coS
 omega
theorem Df_bound {a : Nat → Int} (ha : ∀ i, -1048576 ≤ a i ∧ a i ≤ 1048576) {C : Nat} (hC : C ≤ 256) {P Q : W → Prop} {d : Int} (h : Df (co a C) P Q d) : d = 1099511627776 ∧ (¬ ∃ x, P x) ∨ (-536870912 ≤ d ∧ d ≤ 536870912) ∧ ∃ x, P x := by
 rcases h with ⟨h1, h2⟩ | ⟨v, w, ⟨⟨x, hx, ex⟩, _⟩, ⟨⟨y, _, ey⟩, _⟩, rfl⟩
 ·exact Or.inl ⟨h2, h1⟩
 ·have h1 := co_bound a ha C hC x
  have h2 := co_bound a ha C hC y
  exact Or.inr ⟨by omega, x, hx⟩
section
variable {a : Nat → Int} {C : Nat} {K : W → Prop} {S : Nat → Prop} (hmix : ∀ x y, K x → K y → K (mix S x y))
  {A B : W → Bool} (hA : ∀ x y, A (mix S x y) = A y) (hB : ∀ x y, B (mix S x y) = B x)
include hmix hA hB
/-- The least costs of the two parts join. -/
theorem join {s t : Bool} {m n : Int} (hm : Mn (coS a C S) (fun x => K x ∧ B x = s) m) (hn : Mn (coS a C (fun p => ¬ S p)) (fun x => K x ∧ A x = t) n) : Mn (co a C) (fun x => (K x ∧ B x = s) ∧ A x = t) (m + n) := by
 obtain ⟨⟨x, ⟨hx, hxb⟩, ex⟩, hm2⟩ := hm
 obtain ⟨⟨y, ⟨hy, hyb⟩, ey⟩, hn2⟩ := hn
 refine ⟨⟨mix S x y, ⟨⟨hmix x y hx hy, by rw [hB]; exact hxb⟩, by rw [hA]; exact hyb⟩, ?_⟩, fun u ⟨⟨hu, hub⟩, hua⟩ => ?_⟩
 ·rw [co_split a C S, coS_congr a C S (mix S x y) x (fun p hp => mix_in hp), coS_congr a C (fun p => ¬ S p) (mix S x y) y (fun p hp => mix_out hp), ex, ey]
 ·rw [co_split a C S]
  have h1 := hm2 u ⟨hu, hub⟩
  have h2 := hn2 u ⟨hu, hua⟩
  omega
omit hmix hA hB in
theorem mins (f : W → Int) (hf : ∀ x, -268435456 ≤ f x) (P : W → Prop) : (∃ v, Mn f P v) ∨ ¬ ∃ x, P x := by
 by_cases h : ∃ x, P x
 ·exact Or.inl (Mn_ex f P (-268435456) (fun x _ => hf x) h)
 ·exact Or.inr h
omit hmix hA hB in
theorem Mn_min {P Q U : W → Prop} {v w : Int} (h1 : Mn (co a C) P v) (h2 : Mn (co a C) Q w) (h : ∀ x, U x ↔ P x ∨ Q x) : Mn (co a C) U (mn v w) := by
 obtain ⟨⟨x, hx, ex⟩, hv⟩ := h1
 obtain ⟨⟨y, hy, ey⟩, hw⟩ := h2
 refine ⟨?_, fun u hu => ?_⟩
 ·unfold mn
  split
  ·exact ⟨y, (h y).2 (Or.inr hy), ey⟩
  ·exact ⟨x, (h x).2 (Or.inl hx), ex⟩
 ·rcases (h u).1 hu with h3 | h3
  ·have := hv u h3; unfold mn; split <;> omega
  ·have := hw u h3; unfold mn; split <;> omega
/-- The rest of the cost is one number, whatever B is to be. -/
theorem margB {n0 : Int} (hn0 : Mn (coS a C (fun p => ¬ S p)) (fun x => K x ∧ A x = false) n0) (h1 : (∃ v, Mn (coS a C (fun p => ¬ S p)) (fun x => K x ∧ A x = true) v) ∨ ¬ ∃ x, K x ∧ A x = true) :
  ∃ N, ∀ s m, Mn (coS a C S) (fun x => K x ∧ B x = s) m → Mn (co a C) (fun x => K x ∧ B x = s) (m + N) := by
 rcases h1 with ⟨n1, hn1⟩ | hno
 ·refine ⟨mn n0 n1, fun s m hm => ?_⟩
  have h2 := Mn_min (U := fun x => K x ∧ B x = s) (join hmix hA hB hm hn0) (join hmix hA hB hm hn1) (fun x => by
   constructor
   ·intro h; cases hx : A x
    ·exact Or.inl ⟨h, rfl⟩
    ·exact Or.inr ⟨h, rfl⟩
   ·rintro (h | h) <;> exact h.1)
  have e : mn (m + n0) (m + n1) = m + mn n0 n1 := by unfold mn; split <;> split <;> omega
  rw [← e]; exact h2
 ·refine ⟨n0, fun s m hm => Mn_congr (fun x => ?_) (join hmix hA hB hm hn0)⟩
  constructor
  ·exact fun h => h.1
  ·intro h
   refine ⟨h, ?_⟩
   cases hx : A x
   ·rfl
   ·exact absurd ⟨x, h.1, hx⟩ hno
theorem margA {m0 : Int} (hm0 : Mn (coS a C S) (fun x => K x ∧ B x = false) m0) (h1 : (∃ v, Mn (coS a C S) (fun x => K x ∧ B x = true) v) ∨ ¬ ∃ x, K x ∧ B x = true) :
  ∃ M, ∀ t n, Mn (coS a C (fun p => ¬ S p)) (fun x => K x ∧ A x = t) n → Mn (co a C) (fun x => K x ∧ A x = t) (M + n) := by
 rcases h1 with ⟨m1, hm1⟩ | hno
 ·refine ⟨mn m0 m1, fun t n hn => ?_⟩
  have h2 := Mn_min (U := fun x => K x ∧ A x = t) (join hmix hA hB hm0 hn) (join hmix hA hB hm1 hn) (fun x => by
   constructor
   ·intro h; cases hx : B x
    ·exact Or.inl ⟨⟨h.1, rfl⟩, h.2⟩
    ·exact Or.inr ⟨⟨h.1, rfl⟩, h.2⟩
   ·rintro (h | h) <;> exact ⟨h.1.1, h.2⟩)
  have e : mn (m0 + n) (m1 + n) = mn m0 m1 + n := by unfold mn; split <;> split <;> omega
  rw [← e]; exact h2
 ·refine ⟨m0, fun t n hn => Mn_congr (fun x => ?_) (join hmix hA hB hm0 hn)⟩
  constructor
  ·exact fun h => ⟨h.1.1, h.2⟩
  ·intro h
   refine ⟨⟨h.1, ?_⟩, h.2⟩
   cases hx : B x
   ·rfl
   ·exact absurd ⟨x, h.1, hx⟩ hno
section
variable (ha : ∀ i, -1048576 ≤ a i ∧ a i ≤ 1048576) (hC : C ≤ 256) {z : W} (hz : K z) (hzA : A z = false) (hzB : B z = false) {D E : Int}
  (hD : Df (co a C) (fun x => K x ∧ B x = true) (fun x => K x ∧ B x = false) D) (hE : Df (co a C) (fun x => K x ∧ A x = true) (fun x => K x ∧ A x = false) E)
include ha hC hz hzA hzB hD hE
/-- What the two differences are. -/
theorem parts : ∃ m0 n0, Mn (coS a C S) (fun x => K x ∧ B x = false) m0 ∧ Mn (coS a C (fun p => ¬ S p)) (fun x => K x ∧ A x = false) n0 ∧
  ((∃ m1, Mn (coS a C S) (fun x => K x ∧ B x = true) m1 ∧ D = m1 - m0) ∨ ((¬ ∃ x, K x ∧ B x = true) ∧ D = 1099511627776)) ∧
  ((∃ n1, Mn (coS a C (fun p => ¬ S p)) (fun x => K x ∧ A x = true) n1 ∧ E = n1 - n0) ∨ ((¬ ∃ x, K x ∧ A x = true) ∧ E = 1099511627776)) := by
 obtain ⟨m0, hm0⟩ := Mn_ex (coS a C S) (fun x => K x ∧ B x = false) (-268435456) (fun x _ => (coS_bound a ha C hC S x).1) ⟨z, hz, hzB⟩
 obtain ⟨n0, hn0⟩ := Mn_ex (coS a C (fun p => ¬ S p)) (fun x => K x ∧ A x = false) (-268435456) (fun x _ => (coS_bound a ha C hC _ x).1) ⟨z, hz, hzA⟩
 have hm1 := mins (coS a C S) (fun x => (coS_bound a ha C hC S x).1) (fun x => K x ∧ B x = true)
 have hn1 := mins (coS a C (fun p => ¬ S p)) (fun x => (coS_bound a ha C hC _ x).1) (fun x => K x ∧ A x = true)
 obtain ⟨N, hN⟩ := margB hmix hA hB hn0 hn1
 obtain ⟨M, hM⟩ := margA hmix hA hB hm0 hm1
 refine ⟨m0, n0, hm0, hn0, ?_, ?_⟩
 ·rcases hm1 with ⟨m1, hm1⟩ | hno
  ·refine Or.inl ⟨m1, hm1, ?_⟩
   have := Df_uniq hD (Or.inr ⟨m1 + N, m0 + N, hN _ _ hm1, hN _ _ hm0, rfl⟩)
   omega
  ·exact Or.inr ⟨hno, Df_uniq hD (Or.inl ⟨hno, rfl⟩)⟩
 ·rcases hn1 with ⟨n1, hn1⟩ | hno
  ·refine Or.inl ⟨n1, hn1, ?_⟩
   have := Df_uniq hE (Or.inr ⟨M + n1, M + n0, hM _ _ hn1, hM _ _ hn0, rfl⟩)
   omega
  ·exact Or.inr ⟨hno, Df_uniq hE (Or.inl ⟨hno, rfl⟩)⟩
/-- The parity of two independent parts. -/
theorem df_xor : Df (co a C) (fun x => K x ∧ (A x != B x) = true) (fun x => K x ∧ (A x != B x) = false) (comb D E) := by
 obtain ⟨m0, n0, hm0, hn0, h1, h2⟩ := parts hmix hA hB ha hC hz hzA hzB hD hE
 have hbD := Df_bound ha hC hD
 have hbE := Df_bound ha hC hE
 have j00 := join hmix hA hB hm0 hn0
 have cases1 : ∀ x, (K x ∧ (A x != B x) = true) ↔ ((K x ∧ B x = false) ∧ A x = true) ∨ ((K x ∧ B x = true) ∧ A x = false) := fun x => by
  cases A x <;> cases B x <;> simp
 have cases0 : ∀ x, (K x ∧ (A x != B x) = false) ↔ ((K x ∧ B x = false) ∧ A x = false) ∨ ((K x ∧ B x = true) ∧ A x = true) := fun x => by
  cases A x <;> cases B x <;> simp
 rcases h1 with ⟨m1, hm1, eD⟩ | ⟨noB, eD⟩
 ·have j10 := join hmix hA hB hm1 hn0
  rcases h2 with ⟨n1, hn1, eE⟩ | ⟨noA, eE⟩
  ·have j01 := join hmix hA hB hm0 hn1
   have j11 := join hmix hA hB hm1 hn1
   refine Or.inr ⟨_, _, Mn_min j01 j10 cases1, Mn_min j00 j11 cases0, ?_⟩
   have bD : -536870912 ≤ D ∧ D ≤ 536870912 := by rcases hbD with h | h <;> first | exact h.1 | (obtain ⟨⟨x, hx, _⟩, _⟩ := hm1; exact absurd ⟨x, hx⟩ h.2)
   unfold comb
   rw [mx_abs, mx_abs]
   by_cases c1 : D < 0
   ·by_cases c2 : E < 0
    ·rw [decide_eq_true c1, decide_eq_true c2, if_neg (by decide), if_pos c1, if_pos c2]; unfold mn; split <;> split <;> split <;> omega
    ·rw [decide_eq_true c1, decide_eq_false c2, if_pos (by decide), if_pos c1, if_neg c2]; unfold mn; split <;> split <;> split <;> omega
   ·by_cases c2 : E < 0
    ·rw [decide_eq_false c1, decide_eq_true c2, if_pos (by decide), if_neg c1, if_pos c2]; unfold mn; split <;> split <;> split <;> omega
    ·rw [decide_eq_false c1, decide_eq_false c2, if_neg (by decide), if_neg c1, if_neg c2]; unfold mn; split <;> split <;> split <;> omega
  ·refine Or.inr ⟨_, _, Mn_congr (fun x => ?_) j10, Mn_congr (fun x => ?_) j00, ?_⟩
   ·rw [cases1]
    exact ⟨fun h => Or.inr h, fun h => h.elim (fun h => absurd ⟨x, h.1.1, h.2⟩ noA) id⟩
   ·rw [cases0]
    exact ⟨fun h => Or.inl h, fun h => h.elim id (fun h => absurd ⟨x, h.1.1, h.2⟩ noA)⟩
   ·have bD : -536870912 ≤ D ∧ D ≤ 536870912 := by rcases hbD with h | h <;> first | exact h.1 | (obtain ⟨⟨x, hx, _⟩, _⟩ := hm1; exact absurd ⟨x, hx⟩ h.2)
    unfold comb
    rw [mx_abs, mx_abs, eE]
    by_cases c1 : D < 0
    ·rw [decide_eq_true c1, if_pos (by decide), if_pos c1, if_neg (by omega)]; unfold mn; split <;> omega
    ·rw [decide_eq_false c1, if_neg (by decide), if_neg c1, if_neg (by omega)]; unfold mn; split <;> omega
 ·rcases h2 with ⟨n1, hn1, eE⟩ | ⟨noA, eE⟩
  ·have j01 := join hmix hA hB hm0 hn1
   refine Or.inr ⟨_, _, Mn_congr (fun x => ?_) j01, Mn_congr (fun x => ?_) j00, ?_⟩
   ·rw [cases1]
    exact ⟨fun h => Or.inl h, fun h => h.elim id (fun h => absurd ⟨x, h.1.1, h.1.2⟩ noB)⟩
   ·rw [cases0]
    exact ⟨fun h => Or.inl h, fun h => h.elim id (fun h => absurd ⟨x, h.1.1, h.1.2⟩ noB)⟩
   ·have bE : -536870912 ≤ E ∧ E ≤ 536870912 := by rcases hbE with h | h <;> first | exact h.1 | (obtain ⟨⟨x, hx, _⟩, _⟩ := hn1; exact absurd ⟨x, hx⟩ h.2)
    unfold comb
    rw [mx_abs, mx_abs, eD]
    by_cases c1 : E < 0
    ·rw [decide_eq_true c1, if_pos (by decide), if_neg (by omega), if_pos c1]; unfold mn; split <;> omega
    ·rw [decide_eq_false c1, if_neg (by decide), if_neg (by omega), if_neg c1]; unfold mn; split <;> omega
  ·refine Or.inl ⟨fun ⟨x, hx⟩ => ?_, ?_⟩
   ·rcases (cases1 x).1 hx with h | h
    ·exact noA ⟨x, h.1.1, h.2⟩
    ·exact noB ⟨x, h.1.1, h.1.2⟩
   ·rw [eD, eE]; decide
/-- Both at once. -/
theorem df_sum : Df (co a C) (fun x => (K x ∧ B x = true) ∧ A x = true) (fun x => (K x ∧ B x = false) ∧ A x = false) (if D = 1099511627776 ∨ E = 1099511627776 then 1099511627776 else D + E) := by
 obtain ⟨m0, n0, hm0, hn0, h1, h2⟩ := parts hmix hA hB ha hC hz hzA hzB hD hE
 have hbD := Df_bound ha hC hD
 have hbE := Df_bound ha hC hE
 have j00 := join hmix hA hB hm0 hn0
 rcases h1 with ⟨m1, hm1, eD⟩ | ⟨noB, eD⟩
 ·rcases h2 with ⟨n1, hn1, eE⟩ | ⟨noA, eE⟩
  ·refine Or.inr ⟨_, _, join hmix hA hB hm1 hn1, j00, ?_⟩
   have bD : -536870912 ≤ D ∧ D ≤ 536870912 := by rcases hbD with h | h <;> first | exact h.1 | (obtain ⟨⟨x, hx, _⟩, _⟩ := hm1; exact absurd ⟨x, hx⟩ h.2)
   have bE : -536870912 ≤ E ∧ E ≤ 536870912 := by rcases hbE with h | h <;> first | exact h.1 | (obtain ⟨⟨x, hx, _⟩, _⟩ := hn1; exact absurd ⟨x, hx⟩ h.2)
   rw [if_neg (by omega)]; omega
  ·refine Or.inl ⟨fun ⟨x, hx⟩ => noA ⟨x, hx.1.1, hx.2⟩, ?_⟩
   rw [if_pos (Or.inr eE)]
 ·refine Or.inl ⟨fun ⟨x, hx⟩ => noB ⟨x, hx.1.1, hx.1.2⟩, ?_⟩
  rw [if_pos (Or.inl eD)]
end
end
end Go.Proofs.Ytmclalniilkjiaa.Mm
/- On a forest the sums of messages are the differences of the least costs. Plain laws, no program in sight. No condition. -/
namespace Go.Proofs.Ytmclalniilkjiaa.Tr
open Go.RowKit Go.Proofs.YtmclalniilkjiaaW.PrintWords Go.Proofs.YtmclalniilkjiaaW.PrintLast Go.Proofs.YtmclalniilkjiaaW.PrintMore Go.Proofs.Ytmclalniilkjiaa.Ba Go.Proofs.Ytmclalniilkjiaa.Ck Go.Proofs.Ytmclalniilkjiaa.Gr Go.Proofs.Ytmclalniilkjiaa.Ms Go.Proofs.Ytmclalniilkjiaa.Rv Go.Proofs.Ytmclalniilkjiaa.Mm

/-- Positions that are linked by checks. -/
inductive Cn (b : Nat → Nat → Bool) (p : Nat) : Nat → Prop
 | refl : Cn b p p
 | step {q s j : Nat} (h : Cn b p q) (h1 : b j q = true) (h2 : b j s = true) : Cn b p s
theorem Cn.trans {b : Nat → Nat → Bool} {p q s : Nat} (h1 : Cn b p q) (h2 : Cn b q s) : Cn b p s := by
 induction h2 with
 | refl => exact h1
 | step _ a1 a2 ih => exact Cn.step ih a1 a2
theorem Cn.symm {b : Nat → Nat → Bool} {p q : Nat} (h : Cn b p q) : Cn b q p := by
 induction h with
 | refl => exact Cn.refl
 | step _ a1 a2 ih => exact Cn.trans (Cn.step Cn.refl a2 a1) ih
theorem Cn.mono {b b' : Nat → Nat → Bool} (hb : ∀ j p, b j p = true → b' j p = true) {p q : Nat} (h : Cn b p q) : Cn b' p q := by
 induction h with
 | refl => exact Cn.refl
 | step _ a1 a2 ih => exact Cn.step ih (hb _ _ a1) (hb _ _ a2)
/-- Without check j. -/
def del (b : Nat → Nat → Bool) (j : Nat) : Nat → Nat → Bool := fun j' i => b j' i && !decide (j' = j)
theorem del_of {b : Nat → Nat → Bool} {j j' i : Nat} (h : del b j j' i = true) : b j' i = true ∧ j' ≠ j := by
 unfold del at h
 cases hb : b j' i with
 | false => rw [hb] at h; cases h
 | true =>
  rw [hb] at h
  refine ⟨rfl, fun e => ?_⟩
  rw [decide_eq_true e] at h; cases h
theorem del_mk {b : Nat → Nat → Bool} {j j' i : Nat} (h : b j' i = true) (hn : j' ≠ j) : del b j j' i = true := by
 unfold del; rw [h, decide_eq_false hn]; rfl
theorem del_ne {b : Nat → Nat → Bool} {j j' i : Nat} (hn : j' ≠ j) : del b j j' i = b j' i := by
 unfold del; rw [decide_eq_false hn]; simp
theorem del_self {b : Nat → Nat → Bool} {j i : Nat} : del b j j i = false := by
 unfold del; rw [decide_eq_true rfl]; simp
/-- No circle: two positions of a check are not linked otherwise. -/
def Fo (b : Nat → Nat → Bool) : Prop := ∀ j p q, p ≠ q → b j p = true → b j q = true → ¬ Cn (del b j) p q
theorem Fo_del {b : Nat → Nat → Bool} (h : Fo b) (j : Nat) : Fo (del b j) := fun j' p q hpq h1 h2 hc =>
 h j' p q hpq (del_of h1).1 (del_of h2).1 (Cn.mono (fun _ _ hs => del_mk (del_of (del_of hs).1).1 (del_of hs).2) hc)
/-- x satisfies all checks. -/
def code (b : Nat → Nat → Bool) (R C : Nat) (x : W) : Prop := ∀ j, j < R → xr (fun p => b j p && x p) C = false
theorem code_0 (b : Nat → Nat → Bool) (R C : Nat) : code b R C (fun _ => false) := fun j _ => xr_false _ _ (fun i _ => by simp)
theorem code_mix {b : Nat → Nat → Bool} {R C n : Nat} {x y : W} (hx : code b R C x) (hy : code b R C y) : code b R C (mix (Cn b n) x y) := by
 intro j hj
 by_cases h : ∃ p, b j p = true ∧ Cn b n p
 ·obtain ⟨p, h1, h2⟩ := h
  rw [← hx j hj]
  refine xr_congr _ _ _ (fun q _ => ?_)
  cases hq : b j q with
  | false => rfl
  | true => rw [mix_in (Cn.step h2 h1 hq)]
 ·rw [← hy j hj]
  refine xr_congr _ _ _ (fun q _ => ?_)
  cases hq : b j q with
  | false => rfl
  | true => rw [mix_out (fun hs => h ⟨q, hq, hs⟩)]
section
variable {a : Nat → Int} (ha : ∀ i, -1048576 ≤ a i ∧ a i ≤ 1048576) {C : Nat} (hC : C ≤ 256) {R : Nat} {b : Nat → Nat → Bool} (hF : Fo b) {j : Nat} {i : Nat} (hji : b j i = true) {u : Nat → Int}
  (hu : ∀ k, k < C → b j k = true → Df (co a C) (fun x => code (del b j) R C x ∧ x k = true) (fun x => code (del b j) R C x ∧ x k = false) (u k))
/-- The parity of the other positions of check j, those below n. -/
def rest (b : Nat → Nat → Bool) (j i n : Nat) (x : W) : Bool := xr (fun k => (b j k && x k) && decide (k ≠ i)) n
include hF in
theorem rest_mix {m n : Nat} (hm : b j m = true) (x y : W) (hn : ∀ k, k < n → k ≠ i → k ≠ m) : rest b j i n (mix (Cn (del b j) m) x y) = rest b j i n y := by
 refine xr_congr _ _ _ (fun k hk => ?_)
 cases hb : b j k with
 | false => rfl
 | true =>
  by_cases e : k = i
  ·rw [decide_eq_false (by simp [e])]; simp
  ·rw [mix_out (hF j m k (Ne.symm (hn k hk e)) hm hb)]
include ha hC hF hu in
theorem fold_df : ∀ n, n ≤ C → Df (co a C) (fun x => code (del b j) R C x ∧ rest b j i n x = true) (fun x => code (del b j) R C x ∧ rest b j i n x = false) (rv u (b j) i n)
 | 0, _ => Or.inl ⟨fun ⟨_, _, h⟩ => (by cases h), rfl⟩
 | n + 1, hn => by
  have ih := fold_df n (by omega)
  have skip : (∀ x, rest b j i (n + 1) x = rest b j i n x) → rv u (b j) i (n + 1) = rv u (b j) i n → Df (co a C) (fun x => code (del b j) R C x ∧ rest b j i (n + 1) x = true) (fun x => code (del b j) R C x ∧ rest b j i (n + 1) x = false) (rv u (b j) i (n + 1)) := by
   intro h1 h2
   rw [h2]
   exact Df_congr (fun x => by rw [h1]) (fun x => by rw [h1]) ih
  by_cases e : n = i
  ·refine skip (fun x => ?_) (by simp only [rv]; rw [if_pos e])
   unfold rest
   simp only [xr]
   rw [decide_eq_false (by simp [e])]; simp
  ·by_cases hb : b j n = true
   ·have h1 := df_xor (S := Cn (del b j) n) (A := rest b j i n) (B := fun x => x n) (fun x y hx hy => code_mix hx hy) (fun x y => rest_mix hF hb x y (fun k hk _ => by omega)) (fun x y => mix_in Cn.refl) ha hC (code_0 _ _ _) (xr_false _ _ (fun k _ => by simp)) rfl (hu n (by omega) hb) ih
    have e2 : rv u (b j) i (n + 1) = comb (u n) (rv u (b j) i n) := by simp only [rv]; rw [if_neg e, if_pos hb]
    rw [e2]
    have e3 : ∀ x, rest b j i (n + 1) x = (rest b j i n x != x n) := fun x => by
     unfold rest
     simp only [xr]
     rw [decide_eq_true e, hb]; simp
    exact Df_congr (fun x => by rw [e3]) (fun x => by rw [e3]) h1
   ·have hb2 : b j n = false := by cases h2 : b j n <;> simp_all
    refine skip (fun x => ?_) (by simp only [rv]; rw [if_neg e, if_neg hb])
    unfold rest
    simp only [xr]
    rw [hb2]; simp
include ha hC hF hji hu in
/-- One more check. -/
theorem add_df (hj : j < R) (hi : i < C) : Df (co a C) (fun x => code b R C x ∧ x i = true) (fun x => code b R C x ∧ x i = false) (if u i = 1099511627776 ∨ rv u (b j) i C = 1099511627776 then 1099511627776 else u i + rv u (b j) i C) := by
 have h0 := fold_df ha hC hF (R := R) (i := i) hu C (Nat.le_refl _)
 have h1 := df_sum (S := Cn (del b j) i) (A := rest b j i C) (B := fun x => x i) (fun x y hx hy => code_mix hx hy) (fun x y => rest_mix hF hji x y (fun k _ hk => hk)) (fun x y => mix_in Cn.refl) ha hC (code_0 _ _ _) (xr_false _ _ (fun k _ => by simp)) rfl (hu i hi hji) h0
 have key : ∀ (x : W) (s : Bool), ((code (del b j) R C x ∧ x i = s) ∧ rest b j i C x = s) ↔ (code b R C x ∧ x i = s) := by
  intro x s
  have e1 := xr_out (fun k => b j k && x k) i C hi
  have e2 : xr (fun k => (b j k && x k) && decide (k ≠ i)) C = rest b j i C x := rfl
  rw [e2] at e1
  have e3 : (b j i && x i) = x i := by rw [hji]; rfl
  rw [e3] at e1
  constructor
  ·rintro ⟨⟨h2, h3⟩, h4⟩
   refine ⟨fun j' hj' => ?_, h3⟩
   by_cases e : j' = j
   ·subst e; rw [e1, h3, h4]; simp
   ·rw [← h2 j' hj']
    exact xr_congr _ _ _ (fun p _ => by rw [del_ne e])
  ·rintro ⟨h2, h3⟩
   have h4 := h2 j hj
   rw [e1, h3] at h4
   refine ⟨⟨fun j' hj' => ?_, h3⟩, ?_⟩
   ·by_cases e : j' = j
    ·subst e; exact xr_false _ _ (fun p _ => by rw [del_self]; rfl)
    ·rw [← h2 j' hj']
     exact xr_congr _ _ _ (fun p _ => by rw [del_ne e])
   ·generalize rest b j i C x = A at h4 ⊢
    cases A <;> cases s <;> simp_all
 exact Df_congr (fun x => key x true) (fun x => key x false) h1
end
/-! the messages, for any checks -/
def sb (b : Nat → Nat → Bool) (w : Int) (p j : Nat) : Bool := b j p && !decide ((j : Int) = w)
def hs (b : Nat → Nat → Bool) (F : Nat → Nat → Int) (w : Int) (p : Nat) : Nat → Bool
 | 0 => false
 | n + 1 => hs b F w p n || (sb b w p n && decide (F n p = 1099511627776))
def tt (b : Nat → Nat → Bool) (a : Nat → Int) (F : Nat → Nat → Int) (w : Int) (p n : Nat) : Int := a p + sumTo (fun j => if sb b w p j = true then F j p else 0) n
def sm (b : Nat → Nat → Bool) (R : Nat) (a : Nat → Int) (F : Nat → Nat → Int) (w : Int) (p : Nat) : Int := if hs b F w p R = true then 1099511627776 else cl (tt b a F w p R)
def Mb (b : Nat → Nat → Bool) (R C : Nat) (a : Nat → Int) : Nat → Nat → Nat → Int
 | 0 => fun _ _ => 0
 | r + 1 => fun j i => rv (fun k => sm b R a (Mb b R C a r) (j : Int) k) (b j) i C
theorem hs_congr {b b' : Nat → Nat → Bool} {F F' : Nat → Nat → Int} {w w' : Int} {p : Nat} : ∀ n, (∀ j, j < n → sb b w p j = sb b' w' p j ∧ (sb b w p j = true → F j p = F' j p)) → hs b F w p n = hs b' F' w' p n
 | 0, _ => rfl
 | n + 1, h => by
  have ih := hs_congr (b := b) (b' := b') (F := F) (F' := F') (w := w) (w' := w') (p := p) n (fun j hj => h j (by omega))
  obtain ⟨h1, h2⟩ := h n (by omega)
  simp only [hs]
  rw [ih, ← h1]
  cases hs1 : sb b w p n with
  | false => rfl
  | true => rw [h2 hs1]
theorem sm_congr {b b' : Nat → Nat → Bool} {R : Nat} {a : Nat → Int} {F F' : Nat → Nat → Int} {w w' : Int} {p : Nat} (h : ∀ j, j < R → sb b w p j = sb b' w' p j ∧ (sb b w p j = true → F j p = F' j p)) : sm b R a F w p = sm b' R a F' w' p := by
 unfold sm tt
 rw [hs_congr R h, sumTo_congr (fun j => if sb b w p j = true then F j p else 0) (fun j => if sb b' w' p j = true then F' j p else 0) R (fun j hj => ?_)]
 obtain ⟨h1, h2⟩ := h j hj
 show (if sb b w p j = true then F j p else 0) = (if sb b' w' p j = true then F' j p else 0)
 rw [← h1]
 by_cases hs1 : sb b w p j = true
 ·rw [if_pos hs1, if_pos hs1, h2 hs1]
 ·rw [if_neg hs1, if_neg hs1]
theorem rv_congr {u u' : Nat → Int} {q q' : Nat → Bool} {i : Nat} : ∀ n, (∀ k, k < n → k ≠ i → q k = q' k ∧ (q k = true → u k = u' k)) → rv u q i n = rv u' q' i n
 | 0, _ => rfl
 | n + 1, h => by
  have ih := rv_congr (u := u) (u' := u') (q := q) (q' := q') (i := i) n (fun k hk => h k (by omega))
  simp only [rv]
  by_cases e : n = i
  ·rw [if_pos e, if_pos e, ih]
  ·rw [if_neg e, if_neg e, ih]
   obtain ⟨h1, h2⟩ := h n (by omega) e
   rw [← h1]
   by_cases hq : q n = true
   ·rw [if_pos hq, if_pos hq, h2 hq]
   ·rw [if_neg hq, if_neg hq]
theorem sb_of {b : Nat → Nat → Bool} {w : Int} {p j : Nat} (h : sb b w p j = true) : b j p = true ∧ (j : Int) ≠ w := by
 unfold sb at h
 cases hb : b j p with
 | false => rw [hb] at h; cases h
 | true =>
  rw [hb] at h
  refine ⟨rfl, fun e => ?_⟩
  rw [decide_eq_true e] at h; cases h
/-- A link without check j'' either avoids check j' or comes from a position of j'. -/
theorem Cn_cut {b : Nat → Nat → Bool} {q s : Nat} (j' : Nat) (h : Cn b q s) : Cn (del b j') q s ∨ ∃ t, b j' t = true ∧ Cn (del b j') q t := by
 induction h with
 | refl => exact Or.inl Cn.refl
 | @step q2 s2 j a1 h1 h2 ih =>
  rcases ih with ih | ih
  ·by_cases e : j = j'
   ·subst e; exact Or.inr ⟨q2, h1, ih⟩
   ·exact Or.inl (Cn.step ih (del_mk h1 e) (del_mk h2 e))
  ·exact Or.inr ih
/-- A message does not depend on a check that is not linked with the other positions of its check. -/
theorem far {b : Nat → Nat → Bool} (hF : Fo b) {R C : Nat} {a : Nat → Int} (j : Nat) : ∀ (r j' p : Nat), b j' p = true → j' ≠ j → (∀ q, q ≠ p → b j' q = true → ∀ s, b j s = true → ¬ Cn (del b j') q s) → Mb b R C a r j' p = Mb (del b j) R C a r j' p
 | 0, _, _, _, _, _ => rfl
 | r + 1, j', p, hp, hne, hno => by
  simp only [Mb]
  refine rv_congr C (fun k _ hkp => ⟨(del_ne hne).symm, fun hk => sm_congr (fun j'' _ => ?_)⟩)
  have hjk : b j k = true → False := fun h => hno k hkp hk k h Cn.refl
  have e1 : sb b (j' : Int) k j'' = sb (del b j) (j' : Int) k j'' := by
   unfold sb
   by_cases e : j'' = j
   ·subst e
    rw [del_self]
    cases h : b j'' k with
    | false => rfl
    | true => exact absurd h (fun h => hjk h)
   ·rw [del_ne e]
  refine ⟨e1, fun hs1 => ?_⟩
  obtain ⟨h1, h2⟩ := sb_of hs1
  have hj2 : j'' ≠ j' := fun e => h2 (by rw [e])
  have hj3 : j'' ≠ j := fun e => hjk (e ▸ h1)
  refine far hF j r j'' k h1 hj3 (fun q' hq' hbq' s hs hc => ?_)
  have lift : ∀ {x y}, Cn (del (del b j'') j') x y → Cn (del b j') x y := fun h => Cn.mono (fun _ _ h4 => del_mk (del_of (del_of h4).1).1 (del_of h4).2) h
  have lift2 : ∀ {x y}, Cn (del (del b j'') j') x y → Cn (del b j'') x y := fun h => Cn.mono (fun _ _ h4 => (del_of h4).1) h
  have hkq : Cn (del b j') k q' := Cn.step Cn.refl (del_mk h1 hj2) (del_mk hbq' hj2)
  rcases Cn_cut j' hc with h4 | ⟨t, ht, h4⟩
  ·exact hno k hkp hk s hs (hkq.trans (lift h4))
  ·have ht1 := (del_of ht).1
   by_cases e : t = k
   ·subst e
    exact hF j'' q' t hq' hbq' h1 (lift2 h4)
   ·exact hF j' k t (Ne.symm e) hk ht1 (hkq.trans (lift h4))
theorem far_of {b : Nat → Nat → Bool} (hF : Fo b) {R C : Nat} {a : Nat → Int} {j j' p : Nat} (r : Nat) (h1 : b j p = true) (h2 : b j' p = true) (hne : j' ≠ j) : Mb b R C a r j' p = Mb (del b j) R C a r j' p :=
 far hF j r j' p h2 hne (fun q hq hbq _ hs hc => hF j' q p hq hbq h2 (Cn.step hc (del_mk hs (Ne.symm hne)) (del_mk h1 (Ne.symm hne))))
theorem cl_id {x : Int} (h : -1099511627775 ≤ x ∧ x ≤ 1099511627775) : cl x = x := by unfold cl mx mn; split <;> split <;> omega
theorem cl_id2 {x : Int} (h : -1099511627775 < cl x ∧ cl x < 1099511627775) : cl x = x := by
 have : ∀ y, cl x = y → y = -1099511627775 ∨ y = 1099511627775 ∨ y = x := by
  intro y hy
  unfold cl mx mn at hy
  split at hy <;> split at hy <;> omega
 rcases this _ rfl with h1 | h1 | h1 <;> omega
/-- What a sum of messages is with one check more. -/
theorem hs_add {b : Nat → Nat → Bool} {F F' : Nat → Nat → Int} {p j : Nat} (hp : b j p = true) (hF : ∀ j', j' ≠ j → b j' p = true → F j' p = F' j' p) : ∀ n, hs b F (-1) p n = (hs (del b j) F' (-1) p n || (decide (j < n) && decide (F j p = 1099511627776)))
 | 0 => by simp [hs]
 | n + 1 => by
  have ih := hs_add hp hF n
  simp only [hs]
  rw [ih]
  by_cases e : n = j
  ·subst e
   have e1 : sb b (-1) p n = true := by unfold sb; rw [hp, decide_eq_false (by omega)]; rfl
   have e2 : sb (del b n) (-1) p n = false := by unfold sb; rw [del_self]; rfl
   rw [e1, e2, decide_eq_false (by omega : ¬ n < n), decide_eq_true (by omega : n < n + 1)]
   simp
  ·have e1 : sb b (-1) p n = sb (del b j) (-1) p n := by unfold sb; rw [del_ne e]
   have e3 : decide (j < n + 1) = decide (j < n) := by
    by_cases h : j < n
    ·rw [decide_eq_true h, decide_eq_true (by omega : j < n + 1)]
    ·rw [decide_eq_false h, decide_eq_false (by omega : ¬ j < n + 1)]
   rw [← e1, e3]
   cases hs1 : sb b (-1) p n with
   | false => simp
   | true =>
    rw [hF n e (sb_of hs1).1]
    generalize hs (del b j) F' (-1) p n = x
    generalize decide (j < n) = y
    generalize decide (F j p = 1099511627776) = z
    generalize decide (F' n p = 1099511627776) = v
    cases x <;> cases y <;> cases z <;> cases v <;> rfl
theorem tt_add {b : Nat → Nat → Bool} {a : Nat → Int} {F F' : Nat → Nat → Int} {p j : Nat} (hp : b j p = true) (hF : ∀ j', j' ≠ j → b j' p = true → F j' p = F' j' p) (R : Nat) (hj : j < R) : tt b a F (-1) p R = tt (del b j) a F' (-1) p R + F j p := by
 have h1 := sumTo_one (fun t => (if sb b (-1) p t = true then F t p else 0) - (if sb (del b j) (-1) p t = true then F' t p else 0)) j (F j p) R hj (fun t ht => by
  have e1 : sb b (-1) p t = sb (del b j) (-1) p t := by unfold sb; rw [del_ne ht]
  show (if sb b (-1) p t = true then F t p else 0) - (if sb (del b j) (-1) p t = true then F' t p else 0) = 0
  rw [← e1]
  by_cases hs1 : sb b (-1) p t = true
  ·rw [if_pos hs1, if_pos hs1, hF t ht (sb_of hs1).1]; omega
  ·rw [if_neg hs1, if_neg hs1]; rfl) (by
  have e1 : sb b (-1) p j = true := by unfold sb; rw [hp, decide_eq_false (by omega)]; rfl
  have e2 : sb (del b j) (-1) p j = false := by unfold sb; rw [del_self]; rfl
  show (if sb b (-1) p j = true then F j p else 0) - (if sb (del b j) (-1) p j = true then F' j p else 0) = F j p
  rw [e1, e2]; simp)
 rw [sumTo_sub] at h1
 unfold tt
 omega
section
variable {a : Nat → Int} (ha : ∀ i, -1048576 ≤ a i ∧ a i ≤ 1048576) {C : Nat} (hC : C ≤ 256) {R : Nat}
include ha hC
/-- A position in no check. -/
theorem free_df {b : Nat → Nat → Bool} {i : Nat} (hi : i < C) (hno : ∀ j, j < R → b j i = false) : Df (co a C) (fun x => code b R C x ∧ x i = true) (fun x => code b R C x ∧ x i = false) (a i) := by
 obtain ⟨w, hw⟩ := Mn_ex (co a C) (fun x => code b R C x ∧ x i = false) (-268435456) (fun x _ => (co_bound a ha C hC x).1) ⟨fun _ => false, code_0 _ _ _, rfl⟩
 have flip : ∀ (x : W) (s : Bool), code b R C x → code b R C (fun p => if p = i then s else x p) := by
  intro x s hx j hj
  rw [← hx j hj]
  refine xr_congr _ _ _ (fun p _ => ?_)
  show (b j p && (if p = i then s else x p)) = (b j p && x p)
  by_cases e : p = i
  ·subst e; rw [hno j hj]; rfl
  ·rw [if_neg e]
 have cost : ∀ x : W, x i = false → co a C (fun p => if p = i then true else x p) = co a C x + a i := by
  intro x hx
  have h1 := sumTo_one (fun p => (if (if p = i then true else x p) = true then a p else 0) - (if x p = true then a p else 0)) i (a i) C hi (fun p hp => by
   show (if (if p = i then true else x p) = true then a p else 0) - (if x p = true then a p else 0) = 0
   rw [if_neg hp]; omega) (by
   show (if (if i = i then true else x i) = true then a i else 0) - (if x i = true then a i else 0) = a i
   rw [hx]; simp)
  rw [sumTo_sub] at h1
  have h2 : co a C (fun p => if p = i then true else x p) = sumTo (fun p => if (if p = i then true else x p) = true then a p else 0) C := rfl
  have h3 : co a C x = sumTo (fun p => if x p = true then a p else 0) C := rfl
  rw [h2, h3]
  omega
 refine Or.inr ⟨w + a i, w, ?_, hw, by omega⟩
 obtain ⟨⟨x, ⟨hx, hxi⟩, ex⟩, h2⟩ := hw
 refine ⟨⟨fun p => if p = i then true else x p, ⟨flip x true hx, if_pos rfl⟩, by rw [cost x hxi, ex]⟩, fun y ⟨hy, hyi⟩ => ?_⟩
 have h3 := h2 (fun p => if p = i then false else y p) ⟨flip y false hy, if_pos rfl⟩
 have h4 := cost (fun p => if p = i then false else y p) (if_pos rfl)
 have e : (fun p => if p = i then true else (if p = i then false else y p)) = y := by
  funext p
  by_cases e : p = i
  ·subst e; rw [if_pos rfl, hyi]
  ·rw [if_neg e, if_neg e]
 rw [e] at h4
 omega
/-- THE LAW: on a forest, behind as many rounds as there are checks, the sums are the differences of the least costs. -/
theorem belief_df : ∀ (n : Nat) (b : Nat → Nat → Bool) (act : Nat → Bool), Fo b → (∀ j p, b j p = true → j < R ∧ p < C ∧ act j = true) → sumTo (fun j => if act j = true then 1 else 0) R ≤ (n : Int) → ∀ r, n ≤ r → ∀ i, i < C →
  Df (co a C) (fun x => code b R C x ∧ x i = true) (fun x => code b R C x ∧ x i = false) (sm b R a (Mb b R C a r) (-1) i)
 | n, b, act, hF, hb, hn, r, hr, i, hi => by
  by_cases h : ∃ j, b j i = true
  ·obtain ⟨j, hji⟩ := h
   obtain ⟨hj, _, haj⟩ := hb j i hji
   have hcnt : sumTo (fun t => if (act t && !decide (t = j)) = true then (1 : Int) else 0) R = sumTo (fun t => if act t = true then 1 else 0) R - 1 := by
    have h1 := sumTo_one (fun t => (if act t = true then (1 : Int) else 0) - (if (act t && !decide (t = j)) = true then 1 else 0)) j 1 R hj (fun t ht => by
     show (if act t = true then (1 : Int) else 0) - (if (act t && !decide (t = j)) = true then 1 else 0) = 0
     rw [decide_eq_false ht]; simp) (by
     show (if act j = true then (1 : Int) else 0) - (if (act j && !decide (j = j)) = true then 1 else 0) = 1
     rw [haj]; simp)
    rw [sumTo_sub] at h1
    omega
   have hpos : 0 ≤ sumTo (fun t => if (act t && !decide (t = j)) = true then (1 : Int) else 0) R := (sumTo_01 _ _ (fun t _ => by show 0 ≤ (if _ then (1 : Int) else 0) ∧ (if _ then (1 : Int) else 0) ≤ 1; split <;> omega)).1
   cases n with
   | zero => omega
   | succ n =>
    have ih := belief_df n (del b j) (fun t => act t && !decide (t = j)) (Fo_del hF j) (fun j' p h => by
     obtain ⟨h1, h2⟩ := del_of h
     obtain ⟨h3, h4, h5⟩ := hb j' p h1
     refine ⟨h3, h4, ?_⟩
     show (act j' && !decide (j' = j)) = true
     rw [h5, decide_eq_false h2]; rfl) (by rw [hcnt]; omega)
    cases r with
    | zero => omega
    | succ r' =>
     have hA := ih (r' + 1) (by omega) i hi
     have hfold := fold_df ha hC hF (R := R) (i := i) (u := fun k => sm (del b j) R a (Mb (del b j) R C a r') (-1) k) (fun k hk hbk => ih r' (by omega) k hk) C (Nat.le_refl _)
     have hm : Mb b R C a (r' + 1) j i = rv (fun k => sm (del b j) R a (Mb (del b j) R C a r') (-1) k) (b j) i C := by
      simp only [Mb]
      refine rv_congr C (fun k _ hki => ⟨rfl, fun hk => sm_congr (fun j'' _ => ?_)⟩)
      have e1 : sb b (j : Int) k j'' = sb (del b j) (-1) k j'' := by
       unfold sb
       by_cases e : j'' = j
       ·subst e; rw [del_self, decide_eq_true rfl]; simp
       ·rw [del_ne e, decide_eq_false (by omega), decide_eq_false (by omega)]
      refine ⟨e1, fun hs1 => ?_⟩
      obtain ⟨h1, h2⟩ := sb_of hs1
      exact far_of hF r' hk h1 (fun e => h2 (by rw [e]))
     have hE : Df (co a C) (fun x => code (del b j) R C x ∧ rest b j i C x = true) (fun x => code (del b j) R C x ∧ rest b j i C x = false) (Mb b R C a (r' + 1) j i) := by rw [hm]; exact hfold
     have hFF : ∀ j', j' ≠ j → b j' i = true → Mb b R C a (r' + 1) j' i = Mb (del b j) R C a (r' + 1) j' i := fun j' hne hj' => far_of hF (r' + 1) hji hj' hne
     have h1 := hs_add hji hFF R
     have h2 := tt_add (a := a) hji hFF R hj
     rw [decide_eq_true hj, Bool.true_and] at h1
     -- the law for one more check, with the sums of round r' + 1 for i and of round r' for the others
     have hadd := add_df ha hC hF hji (R := R) (u := fun k => if k = i then sm (del b j) R a (Mb (del b j) R C a (r' + 1)) (-1) i else sm (del b j) R a (Mb (del b j) R C a r') (-1) k) (fun k hk hbk => by
      by_cases e : k = i
      ·subst e; rw [if_pos rfl]; exact hA
      ·rw [if_neg e]; exact ih r' (by omega) k hk) hj hi
     have erv : rv (fun k => if k = i then sm (del b j) R a (Mb (del b j) R C a (r' + 1)) (-1) i else sm (del b j) R a (Mb (del b j) R C a r') (-1) k) (b j) i C = Mb b R C a (r' + 1) j i := by
      rw [hm]
      exact rv_congr C (fun k _ hki => ⟨rfl, fun _ => if_neg hki⟩)
     rw [erv, if_pos rfl] at hadd
     have bA := Df_bound ha hC hA
     have bE := Df_bound ha hC hE
     have efin : (if sm (del b j) R a (Mb (del b j) R C a (r' + 1)) (-1) i = 1099511627776 ∨ Mb b R C a (r' + 1) j i = 1099511627776 then 1099511627776 else sm (del b j) R a (Mb (del b j) R C a (r' + 1)) (-1) i + Mb b R C a (r' + 1) j i) = sm b R a (Mb b R C a (r' + 1)) (-1) i := by
      by_cases hE2 : Mb b R C a (r' + 1) j i = 1099511627776
      ·rw [if_pos (Or.inr hE2)]
       unfold sm
       rw [h1, decide_eq_true hE2, Bool.or_true, if_pos rfl]
      ·rw [decide_eq_false hE2, Bool.or_false] at h1
       by_cases hA2 : hs (del b j) (Mb (del b j) R C a (r' + 1)) (-1) i R = true
       ·have e1 : sm (del b j) R a (Mb (del b j) R C a (r' + 1)) (-1) i = 1099511627776 := if_pos hA2
        rw [if_pos (Or.inl e1)]
        unfold sm
        rw [h1, if_pos hA2]
       ·have e1 : sm (del b j) R a (Mb (del b j) R C a (r' + 1)) (-1) i = cl (tt (del b j) a (Mb (del b j) R C a (r' + 1)) (-1) i R) := if_neg hA2
        have e2 : sm b R a (Mb b R C a (r' + 1)) (-1) i = cl (tt b a (Mb b R C a (r' + 1)) (-1) i R) := by unfold sm; rw [h1, if_neg hA2]
        have hcb := cl_bound (tt (del b j) a (Mb (del b j) R C a (r' + 1)) (-1) i R)
        rw [if_neg (by rw [e1]; omega), e2, h2]
        have bA2 : -536870912 ≤ sm (del b j) R a (Mb (del b j) R C a (r' + 1)) (-1) i ∧ sm (del b j) R a (Mb (del b j) R C a (r' + 1)) (-1) i ≤ 536870912 := by
         rcases bA with h | h
         ·rw [e1] at h; omega
         ·exact h.1
        have bE2 : -536870912 ≤ Mb b R C a (r' + 1) j i ∧ Mb b R C a (r' + 1) j i ≤ 536870912 := by
         rcases bE with h | h
         ·exact absurd h.1 hE2
         ·exact h.1
        rw [e1] at bA2 ⊢
        have e3 := cl_id2 (x := tt (del b j) a (Mb (del b j) R C a (r' + 1)) (-1) i R) (by omega)
        rw [cl_id (x := tt (del b j) a (Mb (del b j) R C a (r' + 1)) (-1) i R + Mb b R C a (r' + 1) j i) (by omega)]
        omega
     rw [efin] at hadd
     exact hadd
  ·have hno : ∀ j, b j i = false := fun j => by
    cases h2 : b j i with
    | false => rfl
    | true => exact absurd ⟨j, h2⟩ h
   have e : sm b R a (Mb b R C a r) (-1) i = a i := by
    have e1 : ∀ m, hs b (Mb b R C a r) (-1) i m = false := fun m => by
     induction m with
     | zero => rfl
     | succ m ihm => simp only [hs]; rw [ihm]; unfold sb; rw [hno m]; rfl
    unfold sm tt
    rw [e1, if_neg Bool.false_ne_true, sumTo_congr _ (fun _ => 0) R (fun t _ => by show (if sb b (-1) i t = true then _ else (0 : Int)) = 0; unfold sb; rw [hno t]; rfl)]
    have : ∀ m, sumTo (fun _ => 0) m = 0 := fun m => by induction m with | zero => rfl | succ m ihm => simp only [sumTo]; omega
    rw [this]
    have := ha i
    rw [Int.add_zero]
    exact cl_id (by omega)
   rw [e]
   exact free_df ha hC hi (fun j _ => hno j)
end
end Go.Proofs.Ytmclalniilkjiaa.Tr
namespace Go.Proofs.Ytmclalniilkjiaa.Q
open Go.RowKit Go.Proofs.YtmclalniilkjiaaW.PrintWords Go.Proofs.YtmclalniilkjiaaW.PrintLast Go.Proofs.YtmclalniilkjiaaW.PrintMore
open List renaming setIfInBounds_toArray → l01_, set_cons_zero → l02_, set_cons_succ → l03_
attribute [local go_sem] max2_int min2_int max_two min_two max_three min_three max_four min_four
set_option linter.unusedVariables false
set_option linter.unusedSimpArgs false
def message_inputs.l0 : Nat → Int → List Int → Int → Int → Option (Int)
 | 0, _, _, _, _ => none
 | k + 1, x2, x14, x15, x16 => if x16 < x15 then (if 0 ≤ x16 then (if x16 < (x14.length : Int) then (if (rd x14 x16) < (-1048576) then (some 6) else (if (rd x14 x16) > 1048576 then (some 6) else (message_inputs.l0 k x2 x14 x15 (wrap64 (x16 + 1))))) else (none)) else (none)) else (if x2 < 0 then (some 6) else (if x2 > 256 then (some 6) else (some 0)))
def message_inputs.f (k : Nat) (a0_0 : Int) (l0_1 : List (List Int)) (l1 : List Int) (a2 : Int) : Option (Int) := if (l1.length : Int) = a0_0 then (message_inputs.l0 k a2 l1 (l1.length : Int) 0) else (some 4)
theorem message_inputs.mono_l : ∀ k, (∀ y0 y1 y2 y3, LeO (message_inputs.l0 k y0 y1 y2 y3) (message_inputs.l0 (k + 1) y0 y1 y2 y3))
 | 0 => fun _ _ _ _ r h => by simp [message_inputs.l0] at h
 | k + 1 => by
  have ih0 := message_inputs.mono_l k
  ·intro y0 y1 y2 y3;unfold message_inputs.l0
   repeat' first
   | (with_reducible exact ih0 _ _ _ _)
   | (with_reducible exact LeO.refl _)
   | (with_reducible exact LeO.none _)
   | (with_reducible refine LeO.ite ?_ ?_)
   | (with_reducible refine LeO.bind ?_ (fun _ => ?_))
   | exact ih0 _ _ _ _
   | exact LeO.none _
   | refine LeO.ite ?_ ?_
   | refine LeO.bind ?_ (fun _ => ?_)
theorem message_inputs.mono : ∀ a0 a1 a2 a3 k, LeO (message_inputs.f k a0 a1 a2 a3) (message_inputs.f (k + 1) a0 a1 a2 a3) := by
 intro a0 a1 a2 a3 k;have ih0 := message_inputs.mono_l k;unfold message_inputs.f
 repeat' first
   | (with_reducible exact ih0 _ _ _ _)
   | (with_reducible exact LeO.refl _)
   | (with_reducible exact LeO.none _)
   | (with_reducible refine LeO.ite ?_ ?_)
   | (with_reducible refine LeO.bind ?_ (fun _ => ?_))
   | exact ih0 _ _ _ _
   | exact LeO.none _
   | refine LeO.ite ?_ ?_
   | refine LeO.bind ?_ (fun _ => ?_)
set_option maxHeartbeats 8000000 in
set_option maxRecDepth 100000 in
theorem message_inputs.calls (k : Nat) (a0_0 : Int) (A0_1 : Option Addr) (c0_1 : Nat) (l0_1 : List (List Int)) (A1 : Option Addr) (c1 : Nat) (l1 : List Int) (a2 : Int) (r : Int) (w : World) (hr0_1 : Kd.C (Kd.slice 3 (Kd.int .i64)) w A0_1 l0_1.length l0_1) (hc0_1 : l0_1.length ≤ c0_1) (hr1 : Kd.C (Kd.int .i64) w A1 l1.length l1) (hc1 : l1.length ≤ c1) (h : message_inputs.f k a0_0 l0_1 l1 a2 = some r) :
  Calls Try.prog 45 #[.agg #[.int .i64 a0_0, .slice A0_1 l0_1.length c0_1], .slice A1 l1.length c1, .int .i64 a2] w fun e w' => e = .returned (.int .i64 r) ∧ Below w.heap.size w w' := by
 have hu24 := Try.underlying24;have HR0_1 := Ai0.mk hr0_1;have HC0_1 := Ai0.mk hc0_1;clear hr0_1 hc0_1;have HR1 := Ai0.mk hr1;have HC1 := Ai0.mk hc1;clear hr1 hc1;have HB := Ai0.mk (Below.refl w.heap.size w);have H : (if (l1.length : Int) = a0_0 then (message_inputs.l0 k a2 l1 (l1.length : Int) 0) else (some 4)) = some r := h;clear h;by_cases c4 : (l1.length : Int) = a0_0
 ·rw [if_pos c4] at H;have c4b0 : ((l1.length : Int) == a0_0) = true := beq_iff_eq.mpr c4;have c4b1 : ((l1.length : Int) != a0_0) = false := bne_eq_false_iff_eq.mpr c4;clear c4;have H' := Ai0.mk H;clear H;go_enter Try.func45, Try.ntmps45
  go_wp2_with (first | ((with_reducible refine gate_dst (N := 3) rfl ?_); refine box_event ?hg (N := 3) ?hd (cs := #[.int .i64 a0_0, .slice A0_1 l0_1.length c0_1]) (t := 24) ?hr ?_; (case hd => rfl); (case hg => rfl); (case hr => first | (go_simp; done) | (go_simp; rfl)); intro gb125 hg w5 hbox hb; have n0_ := Ai0.mk (bt1 bl_ hb); have n1_ := Ai0.mk (hbox); have n2_ := Ai0.mk ((by rw [hg]; exact (bz1 bl_) : w.heap.size ≤ gb125)); have n3_ := Ai0.mk ((by rw [hg]; exact (bz1 bl_) : w.heap.size ≤ gb125)); clear HB; have HB := n0_; have BK125 := n1_; have GW125 := n2_; have GE125 := n3_; clear n0_ n1_ n2_ n3_; clear hb hbox hg; have hcz6_0 : w5.cell? ⟨gb125, 0, none⟩ = some (.int .i64 a0_0) := (kc1 BK125.out 0).trans rfl; have hcz6_1 : w5.cell? ⟨gb125, 1, none⟩ = some (.slice A0_1 l0_1.length c0_1) := (kc1 BK125.out 1).trans rfl; have hfz6_0 := kf1 BK125.out 0; have hfz6_1 := kf1 BK125.out 1))
  go_loopg [16] k (fun kq v16 w' => ∃ (x16_1 : Int), v16 = .int .i64 x16_1 ∧ Ai0 (message_inputs.l0 kq a2 l1 (l1.length : Int) x16_1 = some r) ∧ Ai0 (kq ≤ k) ∧ Ai0 (w'.heap[gb125]? = some (.cells #[.int .i64 a0_0, (.slice A0_1 l0_1.length c0_1)] 24 (0, 0))) ∧ Ai0 (Below w.heap.size w w'))
  case atStart => exact ⟨(0), rf_, H', ⟨Nat.le_refl _⟩, ⟨kk_ BK125.out⟩, ⟨bl_⟩⟩
  case round =>
   clear H'
   try clear c1
   try clear p2
   try clear c4
   try clear c4b0
   try clear c4b1
   try clear hcz6_0
   try clear hcz6_1
   try clear hfz6_0
   try clear hfz6_1
   obtain ⟨x16_1, rfl, HA, HK1, BK125, HB⟩ := hrel
   cases gk with
   | zero => exact absurd HA.out (by simp [message_inputs.l0])
   | succ k1 =>
    have H := HA.out;clear HA;simp only [message_inputs.l0] at H;by_cases c7 : x16_1 < (l1.length : Int)
    ·rw [if_pos c7] at H;have c7b0 : decide (x16_1 < (l1.length : Int)) = true := decide_eq_true c7;clear c7;by_cases c8 : 0 ≤ x16_1
     ·rw [if_pos c8] at H;have c8b0 : decide (0 ≤ x16_1) = true := decide_eq_true c8;clear c8;by_cases c9 : x16_1 < (l1.length : Int)
      ·rw [if_pos c9] at H;have c9b0 : decide (x16_1 < (l1.length : Int)) = true := decide_eq_true c9;clear c9;by_cases c10 : (rd l1 x16_1) < (-1048576)
       ·rw [if_pos c10] at H;have c10b0 : decide ((rd l1 x16_1) < (-1048576)) = true := decide_eq_true c10;clear c10;obtain rfl := Option.some.inj H;have p126 : 0 ≤ (x16_1 : Int) := od_;have q126 : x16_1 < (l1.length : Int) := od_;obtain ⟨ad126, e126, hx126_0⟩ := Kd.at_int HR1.out x16_1 p126 q126;cases e126;replace hx126_0 := (HB.out.cell (World.block_lt_of_cell? w _ hx126_0)).trans hx126_0;replace p126 := eq_true p126;replace q126 := eq_true q126
        go_wp2
        go_ret
        exact ⟨by first | rfl | (simp [eW0, eW1] <;> rfl) | (simp [*, eW0, eW1] <;> rfl), bl_⟩
       ·rw [if_neg c10] at H;have c10b0 : decide ((rd l1 x16_1) < (-1048576)) = false := decide_eq_false c10;clear c10;by_cases c11 : (rd l1 x16_1) > 1048576
        ·rw [if_pos c11] at H;have c11b0 : decide (1048576 < (rd l1 x16_1)) = true := decide_eq_true c11;clear c11;obtain rfl := Option.some.inj H;have p126 : 0 ≤ (x16_1 : Int) := od_;have q126 : x16_1 < (l1.length : Int) := od_;obtain ⟨ad126, e126, hx126_0⟩ := Kd.at_int HR1.out x16_1 p126 q126;cases e126;replace hx126_0 := (HB.out.cell (World.block_lt_of_cell? w _ hx126_0)).trans hx126_0;replace p126 := eq_true p126;replace q126 := eq_true q126
         go_wp2
         go_ret
         exact ⟨by first | rfl | (simp [eW0, eW1] <;> rfl) | (simp [*, eW0, eW1] <;> rfl), bl_⟩
        ·rw [if_neg c11] at H;have c11b0 : decide (1048576 < (rd l1 x16_1)) = false := decide_eq_false c11;clear c11;have H' := Ai0.mk H;clear H;have p126 : 0 ≤ (x16_1 : Int) := od_;have q126 : x16_1 < (l1.length : Int) := od_;obtain ⟨ad126, e126, hx126_0⟩ := Kd.at_int HR1.out x16_1 p126 q126;cases e126;replace hx126_0 := (HB.out.cell (World.block_lt_of_cell? w _ hx126_0)).trans hx126_0;replace p126 := eq_true p126;replace q126 := eq_true q126
         go_wp2
         go_roundg k1
         case measure => have := HK1.out; omega
         case rel => exact ⟨(wrap64 (x16_1 + 1)), rf_, H', ⟨by have := HK1.out; omega⟩, ⟨kk_ BK125.out⟩, ⟨bl_⟩⟩
      ·rw [if_neg c9] at H;exact absurd H (by simp)
     ·rw [if_neg c8] at H;exact absurd H (by simp)
    ·rw [if_neg c7] at H;have c7b0 : decide (x16_1 < (l1.length : Int)) = false := decide_eq_false c7;clear c7;by_cases c12 : a2 < 0
     ·rw [if_pos c12] at H;have c12b0 : decide (a2 < 0) = true := decide_eq_true c12;clear c12;obtain rfl := Option.some.inj H
      go_wp2
      go_ret
      exact ⟨by first | rfl | (simp [eW0, eW1] <;> rfl) | (simp [*, eW0, eW1] <;> rfl), bl_⟩
     ·rw [if_neg c12] at H;have c12b0 : decide (a2 < 0) = false := decide_eq_false c12;clear c12;by_cases c13 : a2 > 256
      ·rw [if_pos c13] at H;have c13b0 : decide (256 < a2) = true := decide_eq_true c13;clear c13;obtain rfl := Option.some.inj H
       go_wp2
       go_ret
       exact ⟨by first | rfl | (simp [eW0, eW1] <;> rfl) | (simp [*, eW0, eW1] <;> rfl), bl_⟩
      ·rw [if_neg c13] at H;have c13b0 : decide (256 < a2) = false := decide_eq_false c13;clear c13;obtain rfl := Option.some.inj H
       go_wp2
       go_ret
       exact ⟨by first | rfl | (simp [eW0, eW1] <;> rfl) | (simp [*, eW0, eW1] <;> rfl), bl_⟩
 ·rw [if_neg c4] at H;have c4b0 : ((l1.length : Int) == a0_0) = false := beq_eq_false_iff_ne.mpr c4;have c4b1 : ((l1.length : Int) != a0_0) = true := bne_iff_ne.mpr c4;obtain rfl := Option.some.inj H;go_enter Try.func45, Try.ntmps45
  go_wp2_with (first | ((with_reducible refine gate_dst (N := 3) rfl ?_); refine box_event ?hg (N := 3) ?hd (cs := #[.int .i64 a0_0, .slice A0_1 l0_1.length c0_1]) (t := 24) ?hr ?_; (case hd => rfl); (case hg => rfl); (case hr => first | (go_simp; done) | (go_simp; rfl)); intro gb125 hg w14 hbox hb; have n0_ := Ai0.mk (bt1 bl_ hb); have n1_ := Ai0.mk (hbox); have n2_ := Ai0.mk ((by rw [hg]; exact (bz1 bl_) : w.heap.size ≤ gb125)); have n3_ := Ai0.mk ((by rw [hg]; exact (bz1 bl_) : w.heap.size ≤ gb125)); clear HB; have HB := n0_; have BK125 := n1_; have GW125 := n2_; have GE125 := n3_; clear n0_ n1_ n2_ n3_; clear hb hbox hg; have hcz15_0 : w14.cell? ⟨gb125, 0, none⟩ = some (.int .i64 a0_0) := (kc1 BK125.out 0).trans rfl; have hcz15_1 : w14.cell? ⟨gb125, 1, none⟩ = some (.slice A0_1 l0_1.length c0_1) := (kc1 BK125.out 1).trans rfl; have hfz15_0 := kf1 BK125.out 0; have hfz15_1 := kf1 BK125.out 1))
  go_ret
  exact ⟨by first | rfl | (simp [eW0, eW1] <;> rfl) | (simp [*, eW0, eW1] <;> rfl), bl_⟩
def mg_messages.l0 : Nat → List (List Int) → List (List Int) → Int → Int → Option ((List (List Int)))
 | 0, _, _, _, _ => none
 | k + 1, x3, x9, x10, x11 => if x11 < x10 then (if 0 ≤ x11 then (if x11 < (x9.length : Int) then (if 0 ≤ ((rd_L1 x9 x11).length : Int) then (if (((rd_L1 x9 x11).length : Int) : Int).toNat ≤ 35184372088832 then (if x3.length < 5864062014805 then (mg_messages.l0 k (x3 ++ [(List.replicate (((rd_L1 x9 x11).length : Int) : Int).toNat 0)]) x9 x10 (wrap64 (x11 + 1))) else (none)) else (none)) else (none)) else (none)) else (none)) else (some x3)
def mg_messages.f (k : Nat) (l0_0 : List (List Int)) (l0_1 : List (List (S77))) : Option ((List (List Int))) := mg_messages.l0 k ([] : List (List Int)) l0_0 (l0_0.length : Int) 0
theorem mg_messages.mono_l : ∀ k, (∀ y0 y1 y2 y3, LeO (mg_messages.l0 k y0 y1 y2 y3) (mg_messages.l0 (k + 1) y0 y1 y2 y3))
 | 0 => fun _ _ _ _ r h => by simp [mg_messages.l0] at h
 | k + 1 => by
  have ih0 := mg_messages.mono_l k
  ·intro y0 y1 y2 y3;unfold mg_messages.l0
   repeat' first
   | (with_reducible exact ih0 _ _ _ _)
   | (with_reducible exact LeO.refl _)
   | (with_reducible exact LeO.none _)
   | (with_reducible refine LeO.ite ?_ ?_)
   | (with_reducible refine LeO.bind ?_ (fun _ => ?_))
   | exact ih0 _ _ _ _
   | exact LeO.none _
   | refine LeO.ite ?_ ?_
   | refine LeO.bind ?_ (fun _ => ?_)
theorem mg_messages.mono : ∀ a0 a1 k, LeO (mg_messages.f k a0 a1) (mg_messages.f (k + 1) a0 a1) := by
 intro a0 a1 k;have ih0 := mg_messages.mono_l k;unfold mg_messages.f
 repeat' first
   | (with_reducible exact ih0 _ _ _ _)
   | (with_reducible exact LeO.refl _)
   | (with_reducible exact LeO.none _)
   | (with_reducible refine LeO.ite ?_ ?_)
   | (with_reducible refine LeO.bind ?_ (fun _ => ?_))
   | exact ih0 _ _ _ _
   | exact LeO.none _
   | refine LeO.ite ?_ ?_
   | refine LeO.bind ?_ (fun _ => ?_)
set_option maxHeartbeats 8000000 in
set_option maxRecDepth 100000 in
theorem mg_messages.calls (k : Nat) (A0_0 : Option Addr) (c0_0 : Nat) (l0_0 : List (List Int)) (A0_1 : Option Addr) (c0_1 : Nat) (l0_1 : List (List (S77))) (r : List (List Int)) (gG : Nat) (w : World) (hr0_0 : Kd.C (Kd.slice 3 (Kd.int .i64)) w A0_0 l0_0.length l0_0) (hc0_0 : l0_0.length ≤ c0_0) (hr0_1 : Kd.C (Kd.slice 77 k77) w A0_1 l0_1.length l0_1) (hc0_1 : l0_1.length ≤ c0_1) (hG : w.heap[gG]? = some (.cells #[.slice A0_0 l0_0.length c0_0, .slice A0_1 l0_1.length c0_1] 73 (0, 0))) (h : mg_messages.f k l0_0 l0_1 = some r) :
  Calls Try.prog 46 #[.pointer (some ⟨gG, 0, none⟩)] w fun e w' => ∃ v0_ : Value, e = .returned (v0_) ∧ Kd.S (Kd.slice 3 (Kd.int .i64)) 25 w' w.heap.size (fun _ => True) v0_ r ∧ Below w.heap.size w w' := by
 have hu73 := Try.underlying73;have HR0_0 := Ai0.mk hr0_0;have HC0_0 := Ai0.mk hc0_0;clear hr0_0 hc0_0;have HR0_1 := Ai0.mk hr0_1;have HC0_1 := Ai0.mk hc0_1;clear hr0_1 hc0_1;have HB := Ai0.mk (Below.refl w.heap.size w);have H : (mg_messages.l0 k ([] : List (List Int)) l0_0 (l0_0.length : Int) 0) = some r := h;clear h;have H' := Ai0.mk H;clear H;have BK387 := Ai0.mk hG;have hcz3_0 : w.cell? ⟨gG, 0, none⟩ = some (.slice A0_0 l0_0.length c0_0) := (kc1 BK387.out 0).trans rfl;have hcz3_1 : w.cell? ⟨gG, 1, none⟩ = some (.slice A0_1 l0_1.length c0_1) := (kc1 BK387.out 1).trans rfl;have hfz3_0 := kf1 BK387.out 0;have hfz3_1 := kf1 BK387.out 1;go_enter Try.func46, Try.ntmps46
 go_wp2
 go_loopg [3, 11] k (fun kq v3 v11 w' => ∃ (x3_1 : List (List Int)) (x11_1 : Int), v11 = .int .i64 x11_1 ∧ Ai0 (mg_messages.l0 kq x3_1 l0_0 (l0_0.length : Int) x11_1 = some r) ∧ Ai0 (kq ≤ k) ∧ Ai0 (Kd.S (Kd.slice 3 (Kd.int .i64)) 25 w' w.heap.size (fun _ => True) v3 x3_1) ∧ Ai0 (w'.heap[gG]? = some (.cells #[(.slice A0_0 l0_0.length c0_0), (.slice A0_1 l0_1.length c0_1)] 73 (0, 0))) ∧ Ai0 (Below w.heap.size w w'))
 case atStart => exact ⟨(([] : List (List Int))), (0), rf_, H', ⟨Nat.le_refl _⟩, ⟨by first | exact Kd.S_nil _ _ _ _ _ | exact Kd.N_nil _ _ _ _ _ | exact Kd.V_nil _ _ _ _ _ | exact Kd.Q_nil _ _ _ _ _ | exact Kd.R_nil _ _ _ _ _⟩, ⟨kk_ BK387.out⟩, ⟨bl_⟩⟩
 case round =>
  clear H'
  try clear p2
  try clear hcz3_0
  try clear hcz3_1
  try clear hfz3_0
  try clear hfz3_1
  obtain ⟨x3_1, x11_1, rfl, HA, HK1, HO_3, BK387, HB⟩ := hrel
  cases gk with
  | zero => exact absurd HA.out (by simp [mg_messages.l0])
  | succ k1 =>
   have H := HA.out;clear HA;simp only [mg_messages.l0] at H;by_cases c4 : x11_1 < (l0_0.length : Int)
   ·rw [if_pos c4] at H;have c4b0 : decide (x11_1 < (l0_0.length : Int)) = true := decide_eq_true c4;clear c4;by_cases c5 : 0 ≤ x11_1
    ·rw [if_pos c5] at H;have c5b0 : decide (0 ≤ x11_1) = true := decide_eq_true c5;clear c5;by_cases c6 : x11_1 < (l0_0.length : Int)
     ·rw [if_pos c6] at H;have c6b0 : decide (x11_1 < (l0_0.length : Int)) = true := decide_eq_true c6;clear c6;by_cases c7 : 0 ≤ ((rd_L1 l0_0 x11_1).length : Int)
      ·rw [if_pos c7] at H;have c7b0 := eq_true c7;have c7b1 : decide (0 ≤ ((rd_L1 l0_0 x11_1).length : Int)) = true := decide_eq_true c7;clear c7;by_cases c8 : (((rd_L1 l0_0 x11_1).length : Int) : Int).toNat ≤ 35184372088832
       ·rw [if_pos c8] at H;have c8b0 := eq_true c8;have c8b1 : decide ((((rd_L1 l0_0 x11_1).length : Int) : Int).toNat ≤ 35184372088832) = true := decide_eq_true c8;clear c8;(obtain ⟨y389, hy389⟩ : ∃ y_ : List Int, y_ = (List.replicate (((rd_L1 l0_0 x11_1).length : Int) : Int).toNat 0) := ⟨_, rfl⟩);(replace H : (if x3_1.length < 5864062014805 then (mg_messages.l0 k1 (x3_1 ++ [y389]) l0_0 (l0_0.length : Int) (wrap64 (x11_1 + 1))) else (none)) = some r := by first | (rw [hy389]; with_reducible exact H) | (have H2_ := (Option.bind_some _ _).symm.trans H; rw [hy389]; with_reducible exact H2_) | (have H2_ := (Option.bind_some _ _).symm.trans H; with_reducible exact H2_) | with_reducible exact H | (rw [hy389]; exact H) | exact H);have Ny389 := Ai0.mk hy389;clear hy389;by_cases c9 : x3_1.length < 5864062014805
        ·rw [if_pos c9] at H;have LMc9 := Ai0.mk c9;clear c9;(obtain ⟨y392, hy392⟩ : ∃ y_ : List (List Int), y_ = (x3_1 ++ [y389]) := ⟨_, rfl⟩);(replace H : (mg_messages.l0 k1 y392 l0_0 (l0_0.length : Int) (wrap64 (x11_1 + 1))) = some r := by first | (rw [hy392]; with_reducible exact H) | (have H2_ := (Option.bind_some _ _).symm.trans H; rw [hy392]; with_reducible exact H2_) | (have H2_ := (Option.bind_some _ _).symm.trans H; with_reducible exact H2_) | with_reducible exact H | (rw [hy392]; exact H) | exact H);have Ny392 := Ai0.mk hy392;clear hy392;have H' := Ai0.mk H;clear H;have p388 : 0 ≤ (x11_1 : Int) := od_;have q388 : x11_1 < (l0_0.length : Int) := od_;obtain ⟨ad388, A388_0, c388_0, e388, hx388_0, hl388_0, hi388_0⟩ := at_L1 HR0_0.out x11_1 p388 q388;cases e388;replace hx388_0 := (HB.out.cell (World.block_lt_of_cell? w _ hx388_0)).trans hx388_0;have HR388_0 := Ai0.mk hi388_0;have HC388_0 := Ai0.mk hl388_0;clear hi388_0 hl388_0;replace p388 := eq_true p388;replace q388 := eq_true q388
         go_wp2_with (first | ((with_reducible refine gate_dst (N := 18) rfl ?_); refine Kd.R_make (Kd.int .i64) _ 3 rfl (N := 18) rfl 25 _ _ rfl ((rd_L1 l0_0 x11_1).length : Int) rfl rfl Try.underlying25 (.int .i64 0) 8 info3 rfl (by decide) (by omega) 0 (ok := fun _ => True) (okp := fun _ => True) rfl (fun _ hk => hk) trivial od_ (Nat.le_trans (Nat.mul_le_mul_right _ (od_ : ((rd_L1 l0_0 x11_1).length : Int).toNat ≤ 35184372088832)) (by omega)) (Below.refl _ _) (Nat.le_refl _) ?_; intro v390 w10 ho11 hb hg_ hnew_; clear hg_ hnew_; (first | rw [← Ny389.out] at ho11 | (simp only [Int.reduceToNat] at ho11; rw [← Ny389.out] at ho11)); have n0_ := Ai0.mk (Kd.S_elder' (ks_ HO_3.out) (Kd.R_base ho11) hb); have n1_ := Ai0.mk (Kd.R_lower ho11 (bz1 bl_)); have n2_ := Ai0.mk (kb1 (g := gG) (o := .cells #[.slice (some ad388) l0_0.length c0_0, .slice A0_1 l0_1.length c0_1] 73 (0, 0)) (kk_ BK387.out) hb); have n3_ := Ai0.mk (bt1 bl_ hb); clear HO_3; clear BK387; clear HB; have HO_3 := n0_; have HO391 := n1_; have BK387 := n2_; have HB := n3_; clear n0_ n1_ n2_ n3_; clear hb ho11; obtain ⟨Ao13, co13, eo13⟩ := Kd.R_slice HO391.out; subst eo13) | ((with_reducible refine gate_builtin (b := .append) (xs := #[.tmp 15, .tmp 19]) rfl ?_); at_builtin; refine Kd.S_append (Kd.slice 3 (Kd.int .i64)) (w0 := w) w.heap.size rfl (.tmp 15) (.tmp 19) 22 25 (.slice none 0 0) 24 rfl Try.underlying22 info25 rfl (by decide) (by omega) u3 x3_1 y389 [.slice Ao13 y389.length co13] (fun _ => True) (fun k_ => some k_ = (.slice Ao13 y389.length co13 : Value).ownBlock) rfl rfl ?aP (fun k_ hk_ => ((Kd.R_mono (ok' := fun k_ => ((fun _ => True)) k_ ∧ some k_ ≠ (u3 : Value).ownBlock) (Kd.R_apart' (HO391.out) (Kd.S_typed HO_3.out) (by decide)) (fun k_ hk => ⟨trivial, hk.2⟩))).1 k_ hk_.symm) ?aF ?aO ?aB ?aS ?aL ?_; (case aP => exact Kd.M_row (Kd.R_mono (Kd.R_tight rfl (Kd.R_mono (ok' := fun k_ => ((fun _ => True)) k_ ∧ some k_ ≠ (u3 : Value).ownBlock) (Kd.R_apart' (HO391.out) (Kd.S_typed HO_3.out) (by decide)) (fun k_ hk => ⟨trivial, hk.2⟩))) (fun _ h_ => h_))); (case aB => exact bl_); (case aF => exact (fun _ _ => trivial)); (case aO => exact (by (with_reducible repeat (first | apply Kd.S_alloc | apply Kd.S_drewN | apply Kd.S_drew)); exact Kd.S_mono HO_3.out (fun k_ hk => ⟨trivial, fun e_ => hk.2 e_⟩))); (case aS => exact (bz1 bl_)); (case aL => have := LMc9.out; omega); intro v393 w12 ho hb hg hat; rw [← Ny392.out] at ho; have n0_ := Ai0.mk (blk_grown (g := gG) (o := .cells #[.slice (some ad388) l0_0.length c0_0, .slice A0_1 l0_1.length c0_1] 73 (0, 0)) (kk_ BK387.out) hg (Kd.S_ne HO_3.out BK387.out (by decide))); have n1_ := Ai0.mk (hb); have n2_ := Ai0.mk (ho); clear BK387; clear HB; clear HO_3; clear HO391; have BK387 := n0_; have HB := n1_; have HO394 := n2_; clear n0_ n1_ n2_; clear ho hb hg hat))
         go_roundg k1
         case measure => have := HK1.out; omega
         case rel => exact ⟨(y392), (wrap64 (x11_1 + 1)), rf_, H', ⟨by have := HK1.out; omega⟩, ⟨ks_ HO394.out⟩, ⟨kk_ BK387.out⟩, ⟨bl_⟩⟩
        ·rw [if_neg c9] at H;exact absurd H (by simp)
       ·rw [if_neg c8] at H;exact absurd H (by simp)
      ·rw [if_neg c7] at H;exact absurd H (by simp)
     ·rw [if_neg c6] at H;exact absurd H (by simp)
    ·rw [if_neg c5] at H;exact absurd H (by simp)
   ·rw [if_neg c4] at H;have c4b0 : decide (x11_1 < (l0_0.length : Int)) = false := decide_eq_false c4;clear c4;obtain rfl := Option.some.inj H
    go_wp2
    go_ret
    exact ⟨_, by first | rfl | (simp [eW0, eW1] <;> rfl) | (simp [*, eW0, eW1] <;> rfl), by (with_reducible repeat (first | apply Kd.S_alloc | apply Kd.S_drewN | apply Kd.S_drew)); exact HO_3.out, bl_⟩
mutual
def mg_round.l0 : Nat → List Int → List (List Int) → List (List Int) → List (List Int) → Int → Int → List (List Int) → List (List (S77)) → Option ((List (List Int)))
 | 0, _, _, _, _, _, _, _, _ => none
 | k + 1, x1, x2, x7, x26, x27, x28, x403000, x403001 => if x28 < x27 then (if 0 ≤ x28 then (if x28 < (x26.length : Int) then (if 0 ≤ ((rd_L1 x26 x28).length : Int) then (if (((rd_L1 x26 x28).length : Int) : Int).toNat ≤ 35184372088832 then (mg_round.l1 k x1 x2 x7 x28 (rd_L1 x26 x28) 1099511627776 1099511627776 (-1) 0 (List.replicate (((rd_L1 x26 x28).length : Int) : Int).toNat 0) x26 x27 x28 (rd_L1 x26 x28) ((rd_L1 x26 x28).length : Int) 0 x403000 x403001) else (none)) else (none)) else (none)) else (none)) else (some x7)
def mg_round.l1 : Nat → List Int → List (List Int) → List (List Int) → Int → List Int → Int → Int → Int → Int → List Int → List (List Int) → Int → Int → List Int → Int → Int → List (List Int) → List (List (S77)) → Option ((List (List Int)))
 | 0, _, _, _, _, _, _, _, _, _, _, _, _, _, _, _, _, _, _ => none
 | k + 1, x1, x2, x7, x8, x9, x10, x11, x12, x13, x14, x26, x27, x28, x36, x37, x38, x403000, x403001 => if x38 < x37 then (if 0 ≤ x38 then (if x38 < (x36.length : Int) then ((mg_sum.f k x403000 x403001 x1 x2 (rd x36 x38) x8).bind fun t411 => (if x38 < (x14.length : Int) then ((some (x14.set (x38 : Int).toNat t411 : List Int)).bind fun y412 => (if (rd y412 x38) < 0 then (mg_round.j2 k x1 x2 x7 x8 x9 x10 x11 x12 (wrap64 (x13 + 1)) y412 x38 (wrap64 (-(rd y412 x38))) x26 x27 x28 x36 x37 x38 x403000 x403001) else (mg_round.j2 k x1 x2 x7 x8 x9 x10 x11 x12 x13 y412 x38 (rd y412 x38) x26 x27 x28 x36 x37 x38 x403000 x403001))) else (none))) else (none)) else (none)) else (mg_round.l2 k x1 x2 x7 x8 x10 x11 x12 x13 x14 x26 x27 x28 (x9.length : Int) 0 x403000 x403001)
def mg_round.j2 : Nat → List Int → List (List Int) → List (List Int) → Int → List Int → Int → Int → Int → Int → List Int → Int → Int → List (List Int) → Int → Int → List Int → Int → Int → List (List Int) → List (List (S77)) → Option ((List (List Int)))
 | 0, _, _, _, _, _, _, _, _, _, _, _, _, _, _, _, _, _, _, _, _ => none
 | k + 1, x1, x2, x7, x8, x9, x10, x11, x12, x13, x14, x15, x17, x26, x27, x28, x36, x37, x38, x403000, x403001 => if x12 < 0 then (mg_round.j3 k x1 x2 x7 x8 x9 x10 x11 x12 x13 x14 x15 x17 x26 x27 x28 x36 x37 x38 true x403000 x403001) else (mg_round.j3 k x1 x2 x7 x8 x9 x10 x11 x12 x13 x14 x15 x17 x26 x27 x28 x36 x37 x38 (decide (x17 < x10)) x403000 x403001)
def mg_round.j3 : Nat → List Int → List (List Int) → List (List Int) → Int → List Int → Int → Int → Int → Int → List Int → Int → Int → List (List Int) → Int → Int → List Int → Int → Int → Bool → List (List Int) → List (List (S77)) → Option ((List (List Int)))
 | 0, _, _, _, _, _, _, _, _, _, _, _, _, _, _, _, _, _, _, _, _, _ => none
 | k + 1, x1, x2, x7, x8, x9, x10, x11, x12, x13, x14, x15, x17, x26, x27, x28, x36, x37, x38, x62, x403000, x403001 => if x62 = true then (mg_round.l1 k x1 x2 x7 x8 x9 x17 x10 x15 x13 x14 x26 x27 x28 x36 x37 (wrap64 (x38 + 1)) x403000 x403001) else (if x17 < x11 then (mg_round.l1 k x1 x2 x7 x8 x9 x10 x17 x12 x13 x14 x26 x27 x28 x36 x37 (wrap64 (x38 + 1)) x403000 x403001) else (mg_round.l1 k x1 x2 x7 x8 x9 x10 x11 x12 x13 x14 x26 x27 x28 x36 x37 (wrap64 (x38 + 1)) x403000 x403001))
def mg_round.l2 : Nat → List Int → List (List Int) → List (List Int) → Int → Int → Int → Int → Int → List Int → List (List Int) → Int → Int → Int → Int → List (List Int) → List (List (S77)) → Option ((List (List Int)))
 | 0, _, _, _, _, _, _, _, _, _, _, _, _, _, _, _, _ => none
 | k + 1, x1, x2, x7, x8, x10, x11, x12, x13, x14, x26, x27, x28, x80, x81, x403000, x403001 => if x81 < x80 then (if x81 = x12 then (mg_round.j5 k x1 x2 x7 x8 x10 x11 x12 x13 x14 x81 x11 x13 x26 x27 x28 x80 x81 x403000 x403001) else (mg_round.j5 k x1 x2 x7 x8 x10 x11 x12 x13 x14 x81 x10 x13 x26 x27 x28 x80 x81 x403000 x403001)) else (mg_round.l0 k x1 x2 x7 x26 x27 (wrap64 (x28 + 1)) x403000 x403001)
def mg_round.j5 : Nat → List Int → List (List Int) → List (List Int) → Int → Int → Int → Int → Int → List Int → Int → Int → Int → List (List Int) → Int → Int → Int → Int → List (List Int) → List (List (S77)) → Option ((List (List Int)))
 | 0, _, _, _, _, _, _, _, _, _, _, _, _, _, _, _, _, _, _, _ => none
 | k + 1, x1, x2, x7, x8, x10, x11, x12, x13, x14, x18, x19, x20, x26, x27, x28, x80, x81, x403000, x403001 => if 0 ≤ x18 then (if x18 < (x14.length : Int) then (if (rd x14 x18) < 0 then (if (Int.tmod (wrap64 (x20 - 1)) 2) = 1 then (if 0 ≤ x8 then (if x8 < (x7.length : Int) then (if x18 < ((rd_L1 x7 x8).length : Int) then (mg_round.l2 k x1 x2 (x7.set (x8 : Int).toNat ((rd_L1 x7 x8).set (x18 : Int).toNat (wrap64 (-x19)))) x8 x10 x11 x12 x13 x14 x26 x27 x28 x80 (wrap64 (x81 + 1)) x403000 x403001) else (none)) else (none)) else (none)) else (if 0 ≤ x8 then (if x8 < (x7.length : Int) then (if x18 < ((rd_L1 x7 x8).length : Int) then (mg_round.l2 k x1 x2 (x7.set (x8 : Int).toNat ((rd_L1 x7 x8).set (x18 : Int).toNat x19)) x8 x10 x11 x12 x13 x14 x26 x27 x28 x80 (wrap64 (x81 + 1)) x403000 x403001) else (none)) else (none)) else (none))) else (if (Int.tmod x20 2) = 1 then (if 0 ≤ x8 then (if x8 < (x7.length : Int) then (if x18 < ((rd_L1 x7 x8).length : Int) then (mg_round.l2 k x1 x2 (x7.set (x8 : Int).toNat ((rd_L1 x7 x8).set (x18 : Int).toNat (wrap64 (-x19)))) x8 x10 x11 x12 x13 x14 x26 x27 x28 x80 (wrap64 (x81 + 1)) x403000 x403001) else (none)) else (none)) else (none)) else (if 0 ≤ x8 then (if x8 < (x7.length : Int) then (if x18 < ((rd_L1 x7 x8).length : Int) then (mg_round.l2 k x1 x2 (x7.set (x8 : Int).toNat ((rd_L1 x7 x8).set (x18 : Int).toNat x19)) x8 x10 x11 x12 x13 x14 x26 x27 x28 x80 (wrap64 (x81 + 1)) x403000 x403001) else (none)) else (none)) else (none)))) else (none)) else (none)
end
def mg_round.f (k : Nat) (l0_0 : List (List Int)) (l0_1 : List (List (S77))) (l1 : List Int) (l2 : List (List Int)) : Option ((List (List Int))) := (mg_messages.f k l0_0 l0_1).bind fun t403 => (mg_round.l0 k l1 l2 t403 l0_0 (l0_0.length : Int) 0 l0_0 l0_1)
theorem mg_round.mono_l : ∀ k, (∀ y0 y1 y2 y3 y4 y5 y6 y7, LeO (mg_round.l0 k y0 y1 y2 y3 y4 y5 y6 y7) (mg_round.l0 (k + 1) y0 y1 y2 y3 y4 y5 y6 y7)) ∧ (∀ y0 y1 y2 y3 y4 y5 y6 y7 y8 y9 y10 y11 y12 y13 y14 y15 y16 y17, LeO (mg_round.l1 k y0 y1 y2 y3 y4 y5 y6 y7 y8 y9 y10 y11 y12 y13 y14 y15 y16 y17) (mg_round.l1 (k + 1) y0 y1 y2 y3 y4 y5 y6 y7 y8 y9 y10 y11 y12 y13 y14 y15 y16 y17)) ∧ (∀ y0 y1 y2 y3 y4 y5 y6 y7 y8 y9 y10 y11 y12 y13 y14 y15 y16 y17 y18 y19, LeO (mg_round.j2 k y0 y1 y2 y3 y4 y5 y6 y7 y8 y9 y10 y11 y12 y13 y14 y15 y16 y17 y18 y19) (mg_round.j2 (k + 1) y0 y1 y2 y3 y4 y5 y6 y7 y8 y9 y10 y11 y12 y13 y14 y15 y16 y17 y18 y19)) ∧ (∀ y0 y1 y2 y3 y4 y5 y6 y7 y8 y9 y10 y11 y12 y13 y14 y15 y16 y17 y18 y19 y20, LeO (mg_round.j3 k y0 y1 y2 y3 y4 y5 y6 y7 y8 y9 y10 y11 y12 y13 y14 y15 y16 y17 y18 y19 y20) (mg_round.j3 (k + 1) y0 y1 y2 y3 y4 y5 y6 y7 y8 y9 y10 y11 y12 y13 y14 y15 y16 y17 y18 y19 y20)) ∧ (∀ y0 y1 y2 y3 y4 y5 y6 y7 y8 y9 y10 y11 y12 y13 y14 y15, LeO (mg_round.l2 k y0 y1 y2 y3 y4 y5 y6 y7 y8 y9 y10 y11 y12 y13 y14 y15) (mg_round.l2 (k + 1) y0 y1 y2 y3 y4 y5 y6 y7 y8 y9 y10 y11 y12 y13 y14 y15)) ∧ (∀ y0 y1 y2 y3 y4 y5 y6 y7 y8 y9 y10 y11 y12 y13 y14 y15 y16 y17 y18, LeO (mg_round.j5 k y0 y1 y2 y3 y4 y5 y6 y7 y8 y9 y10 y11 y12 y13 y14 y15 y16 y17 y18) (mg_round.j5 (k + 1) y0 y1 y2 y3 y4 y5 y6 y7 y8 y9 y10 y11 y12 y13 y14 y15 y16 y17 y18))
 | 0 => ⟨fun _ _ _ _ _ _ _ _ r h => by simp [mg_round.l0] at h, fun _ _ _ _ _ _ _ _ _ _ _ _ _ _ _ _ _ _ r h => by simp [mg_round.l1] at h, fun _ _ _ _ _ _ _ _ _ _ _ _ _ _ _ _ _ _ _ _ r h => by simp [mg_round.j2] at h, fun _ _ _ _ _ _ _ _ _ _ _ _ _ _ _ _ _ _ _ _ _ r h => by simp [mg_round.j3] at h, fun _ _ _ _ _ _ _ _ _ _ _ _ _ _ _ _ r h => by simp [mg_round.l2] at h, fun _ _ _ _ _ _ _ _ _ _ _ _ _ _ _ _ _ _ _ r h => by simp [mg_round.j5] at h⟩
 | k + 1 => by
  obtain ⟨ih0, ih1, ih2, ih3, ih4, ih5⟩ := mg_round.mono_l k;refine ⟨?_, ?_, ?_, ?_, ?_, ?_⟩
  ·intro y0 y1 y2 y3 y4 y5 y6 y7;unfold mg_round.l0
   repeat' first
   | (with_reducible exact ih0 _ _ _ _ _ _ _ _)
   | (with_reducible exact ih1 _ _ _ _ _ _ _ _ _ _ _ _ _ _ _ _ _ _)
   | (with_reducible exact ih2 _ _ _ _ _ _ _ _ _ _ _ _ _ _ _ _ _ _ _ _)
   | (with_reducible exact ih3 _ _ _ _ _ _ _ _ _ _ _ _ _ _ _ _ _ _ _ _ _)
   | (with_reducible exact ih4 _ _ _ _ _ _ _ _ _ _ _ _ _ _ _ _)
   | (with_reducible exact ih5 _ _ _ _ _ _ _ _ _ _ _ _ _ _ _ _ _ _ _)
   | (with_reducible exact mg_messages.mono _ _ _)
   | (with_reducible exact mg_sum.mono _ _ _ _ _ _ _)
   | (with_reducible exact LeO.refl _)
   | (with_reducible exact LeO.none _)
   | (with_reducible refine LeO.ite ?_ ?_)
   | (with_reducible refine LeO.bind ?_ (fun _ => ?_))
   | exact ih0 _ _ _ _ _ _ _ _
   | exact ih1 _ _ _ _ _ _ _ _ _ _ _ _ _ _ _ _ _ _
   | exact ih2 _ _ _ _ _ _ _ _ _ _ _ _ _ _ _ _ _ _ _ _
   | exact ih3 _ _ _ _ _ _ _ _ _ _ _ _ _ _ _ _ _ _ _ _ _
   | exact ih4 _ _ _ _ _ _ _ _ _ _ _ _ _ _ _ _
   | exact ih5 _ _ _ _ _ _ _ _ _ _ _ _ _ _ _ _ _ _ _
   | exact mg_messages.mono _ _ _
   | exact mg_sum.mono _ _ _ _ _ _ _
   | exact LeO.none _
   | refine LeO.ite ?_ ?_
   | refine LeO.bind ?_ (fun _ => ?_)
  ·intro y0 y1 y2 y3 y4 y5 y6 y7 y8 y9 y10 y11 y12 y13 y14 y15 y16 y17;unfold mg_round.l1
   repeat' first
   | (with_reducible exact ih0 _ _ _ _ _ _ _ _)
   | (with_reducible exact ih1 _ _ _ _ _ _ _ _ _ _ _ _ _ _ _ _ _ _)
   | (with_reducible exact ih2 _ _ _ _ _ _ _ _ _ _ _ _ _ _ _ _ _ _ _ _)
   | (with_reducible exact ih3 _ _ _ _ _ _ _ _ _ _ _ _ _ _ _ _ _ _ _ _ _)
   | (with_reducible exact ih4 _ _ _ _ _ _ _ _ _ _ _ _ _ _ _ _)
   | (with_reducible exact ih5 _ _ _ _ _ _ _ _ _ _ _ _ _ _ _ _ _ _ _)
   | (with_reducible exact mg_messages.mono _ _ _)
   | (with_reducible exact mg_sum.mono _ _ _ _ _ _ _)
   | (with_reducible exact LeO.refl _)
   | (with_reducible exact LeO.none _)
   | (with_reducible refine LeO.ite ?_ ?_)
   | (with_reducible refine LeO.bind ?_ (fun _ => ?_))
   | exact ih0 _ _ _ _ _ _ _ _
   | exact ih1 _ _ _ _ _ _ _ _ _ _ _ _ _ _ _ _ _ _
   | exact ih2 _ _ _ _ _ _ _ _ _ _ _ _ _ _ _ _ _ _ _ _
   | exact ih3 _ _ _ _ _ _ _ _ _ _ _ _ _ _ _ _ _ _ _ _ _
   | exact ih4 _ _ _ _ _ _ _ _ _ _ _ _ _ _ _ _
   | exact ih5 _ _ _ _ _ _ _ _ _ _ _ _ _ _ _ _ _ _ _
   | exact mg_messages.mono _ _ _
   | exact mg_sum.mono _ _ _ _ _ _ _
   | exact LeO.none _
   | refine LeO.ite ?_ ?_
   | refine LeO.bind ?_ (fun _ => ?_)
  ·intro y0 y1 y2 y3 y4 y5 y6 y7 y8 y9 y10 y11 y12 y13 y14 y15 y16 y17 y18 y19;unfold mg_round.j2
   repeat' first
   | (with_reducible exact ih0 _ _ _ _ _ _ _ _)
   | (with_reducible exact ih1 _ _ _ _ _ _ _ _ _ _ _ _ _ _ _ _ _ _)
   | (with_reducible exact ih2 _ _ _ _ _ _ _ _ _ _ _ _ _ _ _ _ _ _ _ _)
   | (with_reducible exact ih3 _ _ _ _ _ _ _ _ _ _ _ _ _ _ _ _ _ _ _ _ _)
   | (with_reducible exact ih4 _ _ _ _ _ _ _ _ _ _ _ _ _ _ _ _)
   | (with_reducible exact ih5 _ _ _ _ _ _ _ _ _ _ _ _ _ _ _ _ _ _ _)
   | (with_reducible exact mg_messages.mono _ _ _)
   | (with_reducible exact mg_sum.mono _ _ _ _ _ _ _)
   | (with_reducible exact LeO.refl _)
   | (with_reducible exact LeO.none _)
   | (with_reducible refine LeO.ite ?_ ?_)
   | (with_reducible refine LeO.bind ?_ (fun _ => ?_))
   | exact ih0 _ _ _ _ _ _ _ _
   | exact ih1 _ _ _ _ _ _ _ _ _ _ _ _ _ _ _ _ _ _
   | exact ih2 _ _ _ _ _ _ _ _ _ _ _ _ _ _ _ _ _ _ _ _
   | exact ih3 _ _ _ _ _ _ _ _ _ _ _ _ _ _ _ _ _ _ _ _ _
   | exact ih4 _ _ _ _ _ _ _ _ _ _ _ _ _ _ _ _
   | exact ih5 _ _ _ _ _ _ _ _ _ _ _ _ _ _ _ _ _ _ _
   | exact mg_messages.mono _ _ _
   | exact mg_sum.mono _ _ _ _ _ _ _
   | exact LeO.none _
   | refine LeO.ite ?_ ?_
   | refine LeO.bind ?_ (fun _ => ?_)
  ·intro y0 y1 y2 y3 y4 y5 y6 y7 y8 y9 y10 y11 y12 y13 y14 y15 y16 y17 y18 y19 y20;unfold mg_round.j3
   repeat' first
   | (with_reducible exact ih0 _ _ _ _ _ _ _ _)
   | (with_reducible exact ih1 _ _ _ _ _ _ _ _ _ _ _ _ _ _ _ _ _ _)
   | (with_reducible exact ih2 _ _ _ _ _ _ _ _ _ _ _ _ _ _ _ _ _ _ _ _)
   | (with_reducible exact ih3 _ _ _ _ _ _ _ _ _ _ _ _ _ _ _ _ _ _ _ _ _)
   | (with_reducible exact ih4 _ _ _ _ _ _ _ _ _ _ _ _ _ _ _ _)
   | (with_reducible exact ih5 _ _ _ _ _ _ _ _ _ _ _ _ _ _ _ _ _ _ _)
   | (with_reducible exact mg_messages.mono _ _ _)
   | (with_reducible exact mg_sum.mono _ _ _ _ _ _ _)
   | (with_reducible exact LeO.refl _)
   | (with_reducible exact LeO.none _)
   | (with_reducible refine LeO.ite ?_ ?_)
   | (with_reducible refine LeO.bind ?_ (fun _ => ?_))
   | exact ih0 _ _ _ _ _ _ _ _
   | exact ih1 _ _ _ _ _ _ _ _ _ _ _ _ _ _ _ _ _ _
   | exact ih2 _ _ _ _ _ _ _ _ _ _ _ _ _ _ _ _ _ _ _ _
   | exact ih3 _ _ _ _ _ _ _ _ _ _ _ _ _ _ _ _ _ _ _ _ _
   | exact ih4 _ _ _ _ _ _ _ _ _ _ _ _ _ _ _ _
   | exact ih5 _ _ _ _ _ _ _ _ _ _ _ _ _ _ _ _ _ _ _
   | exact mg_messages.mono _ _ _
   | exact mg_sum.mono _ _ _ _ _ _ _
   | exact LeO.none _
   | refine LeO.ite ?_ ?_
   | refine LeO.bind ?_ (fun _ => ?_)
  ·intro y0 y1 y2 y3 y4 y5 y6 y7 y8 y9 y10 y11 y12 y13 y14 y15;unfold mg_round.l2
   repeat' first
   | (with_reducible exact ih0 _ _ _ _ _ _ _ _)
   | (with_reducible exact ih1 _ _ _ _ _ _ _ _ _ _ _ _ _ _ _ _ _ _)
   | (with_reducible exact ih2 _ _ _ _ _ _ _ _ _ _ _ _ _ _ _ _ _ _ _ _)
   | (with_reducible exact ih3 _ _ _ _ _ _ _ _ _ _ _ _ _ _ _ _ _ _ _ _ _)
   | (with_reducible exact ih4 _ _ _ _ _ _ _ _ _ _ _ _ _ _ _ _)
   | (with_reducible exact ih5 _ _ _ _ _ _ _ _ _ _ _ _ _ _ _ _ _ _ _)
   | (with_reducible exact mg_messages.mono _ _ _)
   | (with_reducible exact mg_sum.mono _ _ _ _ _ _ _)
   | (with_reducible exact LeO.refl _)
   | (with_reducible exact LeO.none _)
   | (with_reducible refine LeO.ite ?_ ?_)
   | (with_reducible refine LeO.bind ?_ (fun _ => ?_))
   | exact ih0 _ _ _ _ _ _ _ _
   | exact ih1 _ _ _ _ _ _ _ _ _ _ _ _ _ _ _ _ _ _
   | exact ih2 _ _ _ _ _ _ _ _ _ _ _ _ _ _ _ _ _ _ _ _
   | exact ih3 _ _ _ _ _ _ _ _ _ _ _ _ _ _ _ _ _ _ _ _ _
   | exact ih4 _ _ _ _ _ _ _ _ _ _ _ _ _ _ _ _
   | exact ih5 _ _ _ _ _ _ _ _ _ _ _ _ _ _ _ _ _ _ _
   | exact mg_messages.mono _ _ _
   | exact mg_sum.mono _ _ _ _ _ _ _
   | exact LeO.none _
   | refine LeO.ite ?_ ?_
   | refine LeO.bind ?_ (fun _ => ?_)
  ·intro y0 y1 y2 y3 y4 y5 y6 y7 y8 y9 y10 y11 y12 y13 y14 y15 y16 y17 y18;unfold mg_round.j5
   repeat' first
   | (with_reducible exact ih0 _ _ _ _ _ _ _ _)
   | (with_reducible exact ih1 _ _ _ _ _ _ _ _ _ _ _ _ _ _ _ _ _ _)
   | (with_reducible exact ih2 _ _ _ _ _ _ _ _ _ _ _ _ _ _ _ _ _ _ _ _)
   | (with_reducible exact ih3 _ _ _ _ _ _ _ _ _ _ _ _ _ _ _ _ _ _ _ _ _)
   | (with_reducible exact ih4 _ _ _ _ _ _ _ _ _ _ _ _ _ _ _ _)
   | (with_reducible exact ih5 _ _ _ _ _ _ _ _ _ _ _ _ _ _ _ _ _ _ _)
   | (with_reducible exact mg_messages.mono _ _ _)
   | (with_reducible exact mg_sum.mono _ _ _ _ _ _ _)
   | (with_reducible exact LeO.refl _)
   | (with_reducible exact LeO.none _)
   | (with_reducible refine LeO.ite ?_ ?_)
   | (with_reducible refine LeO.bind ?_ (fun _ => ?_))
   | exact ih0 _ _ _ _ _ _ _ _
   | exact ih1 _ _ _ _ _ _ _ _ _ _ _ _ _ _ _ _ _ _
   | exact ih2 _ _ _ _ _ _ _ _ _ _ _ _ _ _ _ _ _ _ _ _
   | exact ih3 _ _ _ _ _ _ _ _ _ _ _ _ _ _ _ _ _ _ _ _ _
   | exact ih4 _ _ _ _ _ _ _ _ _ _ _ _ _ _ _ _
   | exact ih5 _ _ _ _ _ _ _ _ _ _ _ _ _ _ _ _ _ _ _
   | exact mg_messages.mono _ _ _
   | exact mg_sum.mono _ _ _ _ _ _ _
   | exact LeO.none _
   | refine LeO.ite ?_ ?_
   | refine LeO.bind ?_ (fun _ => ?_)
theorem mg_round.mono : ∀ a0 a1 a2 a3 k, LeO (mg_round.f k a0 a1 a2 a3) (mg_round.f (k + 1) a0 a1 a2 a3) := by
 intro a0 a1 a2 a3 k;obtain ⟨ih0, ih1, ih2, ih3, ih4, ih5⟩ := mg_round.mono_l k;unfold mg_round.f
 repeat' first
   | (with_reducible exact ih0 _ _ _ _ _ _ _ _)
   | (with_reducible exact ih1 _ _ _ _ _ _ _ _ _ _ _ _ _ _ _ _ _ _)
   | (with_reducible exact ih2 _ _ _ _ _ _ _ _ _ _ _ _ _ _ _ _ _ _ _ _)
   | (with_reducible exact ih3 _ _ _ _ _ _ _ _ _ _ _ _ _ _ _ _ _ _ _ _ _)
   | (with_reducible exact ih4 _ _ _ _ _ _ _ _ _ _ _ _ _ _ _ _)
   | (with_reducible exact ih5 _ _ _ _ _ _ _ _ _ _ _ _ _ _ _ _ _ _ _)
   | (with_reducible exact mg_messages.mono _ _ _)
   | (with_reducible exact mg_sum.mono _ _ _ _ _ _ _)
   | (with_reducible exact LeO.refl _)
   | (with_reducible exact LeO.none _)
   | (with_reducible refine LeO.ite ?_ ?_)
   | (with_reducible refine LeO.bind ?_ (fun _ => ?_))
   | exact ih0 _ _ _ _ _ _ _ _
   | exact ih1 _ _ _ _ _ _ _ _ _ _ _ _ _ _ _ _ _ _
   | exact ih2 _ _ _ _ _ _ _ _ _ _ _ _ _ _ _ _ _ _ _ _
   | exact ih3 _ _ _ _ _ _ _ _ _ _ _ _ _ _ _ _ _ _ _ _ _
   | exact ih4 _ _ _ _ _ _ _ _ _ _ _ _ _ _ _ _
   | exact ih5 _ _ _ _ _ _ _ _ _ _ _ _ _ _ _ _ _ _ _
   | exact mg_messages.mono _ _ _
   | exact mg_sum.mono _ _ _ _ _ _ _
   | exact LeO.none _
   | refine LeO.ite ?_ ?_
   | refine LeO.bind ?_ (fun _ => ?_)
set_option maxHeartbeats 8000000 in
set_option maxRecDepth 100000 in
theorem mg_round.calls (k : Nat) (A0_0 : Option Addr) (c0_0 : Nat) (l0_0 : List (List Int)) (A0_1 : Option Addr) (c0_1 : Nat) (l0_1 : List (List (S77))) (A1 : Option Addr) (c1 : Nat) (l1 : List Int) (A2 : Option Addr) (c2 : Nat) (l2 : List (List Int)) (r : List (List Int)) (gG : Nat) (w : World) (hr0_0 : Kd.C (Kd.slice 3 (Kd.int .i64)) w A0_0 l0_0.length l0_0) (hc0_0 : l0_0.length ≤ c0_0) (hr0_1 : Kd.C (Kd.slice 77 k77) w A0_1 l0_1.length l0_1) (hc0_1 : l0_1.length ≤ c0_1) (hr1 : Kd.C (Kd.int .i64) w A1 l1.length l1) (hc1 : l1.length ≤ c1) (hr2 : Kd.C (Kd.slice 3 (Kd.int .i64)) w A2 l2.length l2) (hc2 : l2.length ≤ c2) (hG : w.heap[gG]? = some (.cells #[.slice A0_0 l0_0.length c0_0, .slice A0_1 l0_1.length c0_1] 73 (0, 0))) (h : mg_round.f k l0_0 l0_1 l1 l2 = some r) :
  Calls Try.prog 47 #[.pointer (some ⟨gG, 0, none⟩), .slice A1 l1.length c1, .slice A2 l2.length c2] w fun e w' => ∃ v0_ : Value, e = .returned (v0_) ∧ Kd.S (Kd.slice 3 (Kd.int .i64)) 25 w' w.heap.size (fun _ => True) v0_ r ∧ Below w.heap.size w w' := by
 have hu73 := Try.underlying73;have HR0_0 := Ai0.mk hr0_0;have HC0_0 := Ai0.mk hc0_0;clear hr0_0 hc0_0;have HR0_1 := Ai0.mk hr0_1;have HC0_1 := Ai0.mk hc0_1;clear hr0_1 hc0_1;have HR1 := Ai0.mk hr1;have HC1 := Ai0.mk hc1;clear hr1 hc1;have HR2 := Ai0.mk hr2;have HC2 := Ai0.mk hc2;clear hr2 hc2;have HB := Ai0.mk (Below.refl w.heap.size w);have H : ((mg_messages.f k l0_0 l0_1).bind fun t403 => (mg_round.l0 k l1 l2 t403 l0_0 (l0_0.length : Int) 0 l0_0 l0_1)) = some r := h;clear h;replace H := Option.bind_eq_some_iff.mp H;obtain ⟨t403, A40, H⟩ := H;replace H : (mg_round.l0 k l1 l2 t403 l0_0 (l0_0.length : Int) 0 l0_0 l0_1) = some r := H;have A4 := Ai0.mk A40;clear A40;have H' := Ai0.mk H;clear H;have BK402 := Ai0.mk hG;have hcz6_0 : w.cell? ⟨gG, 0, none⟩ = some (.slice A0_0 l0_0.length c0_0) := (kc1 BK402.out 0).trans rfl;have hcz6_1 : w.cell? ⟨gG, 1, none⟩ = some (.slice A0_1 l0_1.length c0_1) := (kc1 BK402.out 1).trans rfl;have hfz6_0 := kf1 BK402.out 0;have hfz6_1 := kf1 BK402.out 1;go_enter Try.func47, Try.ntmps47
 go_wp2_with (first | ((with_reducible refine gate_callee (f := 46) rfl ?_); refine goesL_ (some 22) rfl rfl Try.func46 (by kernel_rfl) rfl #[.pointer (some ⟨gG, 0, none⟩)] rfl (by (try simp only [List.map_toArray, List.map_cons, List.map_nil]); first | done | rfl | (simp only [List.length_drop, List.length_take]; rfl)) ?_; (with_reducible refine (mg_messages.calls k A0_0 c0_0 l0_0 A0_1 c0_1 l0_1 t403 gG _ ?side1 ?side2 ?side3 ?side4 ?sideG A4.out).mono ?_); (case sideG => (with_reducible repeat (first | refine kn1 ?_ _ | refine kd1 ?_ | refine ka1 ?_ _)); exact BK402.out); (case side1 => exact kc_ HR0_0.out); (case side2 => exact HC0_0.out); (case side3 => exact kc_ HR0_1.out); (case side4 => exact HC0_1.out); rintro e w7 ⟨v404, rfl, ho0, hb⟩; refine ⟨_, rfl, ?_⟩; have n0_ := Ai0.mk (Kd.S_lower ho0 (bz1 bl_)); have n1_ := Ai0.mk (kb1 (g := gG) (o := .cells #[.slice A0_0 l0_0.length c0_0, .slice A0_1 l0_1.length c0_1] 73 (0, 0)) (kk_ BK402.out) hb); have n2_ := Ai0.mk (bt1 bl_ hb); clear BK402; clear HB; have HO405 := n0_; have BK402 := n1_; have HB := n2_; clear n0_ n1_ n2_; (try clear hb); (try clear hb2); (try clear hk); (try clear hi); (try clear ho0); have hcz8_0 : w7.cell? ⟨gG, 0, none⟩ = some (.slice A0_0 l0_0.length c0_0) := (kc1 BK402.out 0).trans rfl; have hcz8_1 : w7.cell? ⟨gG, 1, none⟩ = some (.slice A0_1 l0_1.length c0_1) := (kc1 BK402.out 1).trans rfl; have hfz8_0 := kf1 BK402.out 0; have hfz8_1 := kf1 BK402.out 1))
 go_loopg [28] k (fun kq v28 w' => ∃ (x7_1 : List (List Int)) (x28_1 : Int), v28 = .int .i64 x28_1 ∧ Ai0 (mg_round.l0 kq l1 l2 x7_1 l0_0 (l0_0.length : Int) x28_1 l0_0 l0_1 = some r) ∧ Ai0 (kq ≤ k) ∧ Ai0 (Kd.S (Kd.slice 3 (Kd.int .i64)) 25 w' w.heap.size (fun _ => True) v404 x7_1) ∧ Ai0 (w'.heap[gG]? = some (.cells #[(.slice A0_0 l0_0.length c0_0), (.slice A0_1 l0_1.length c0_1)] 73 (0, 0))) ∧ Ai0 (Below w.heap.size w w'))
 case atStart => exact ⟨(t403), (0), rf_, H', ⟨Nat.le_refl _⟩, ⟨ks_ HO405.out⟩, ⟨kk_ BK402.out⟩, ⟨bl_⟩⟩
 case round =>
  clear H'
  try clear c1
  try clear c2
  try clear p2
  try clear c4
  try clear hcz6_0
  try clear hcz6_1
  try clear hcz8_0
  try clear hcz8_1
  try clear hfz6_0
  try clear hfz6_1
  try clear hfz8_0
  try clear hfz8_1
  obtain ⟨x7_1, x28_1, rfl, HA, HK1, HO_7, BK402, HB⟩ := hrel
  cases gk with
  | zero => exact absurd HA.out (by simp [mg_round.l0])
  | succ k1 =>
   have H := HA.out;clear HA;simp only [mg_round.l0] at H;by_cases c9 : x28_1 < (l0_0.length : Int)
   ·rw [if_pos c9] at H;have c9b0 : decide (x28_1 < (l0_0.length : Int)) = true := decide_eq_true c9;clear c9;by_cases c10 : 0 ≤ x28_1
    ·rw [if_pos c10] at H;have c10b0 : decide (0 ≤ x28_1) = true := decide_eq_true c10;clear c10;by_cases c11 : x28_1 < (l0_0.length : Int)
     ·rw [if_pos c11] at H;have c11b0 : decide (x28_1 < (l0_0.length : Int)) = true := decide_eq_true c11;clear c11;by_cases c12 : 0 ≤ ((rd_L1 l0_0 x28_1).length : Int)
      ·rw [if_pos c12] at H;have c12b0 := eq_true c12;have c12b1 : decide (0 ≤ ((rd_L1 l0_0 x28_1).length : Int)) = true := decide_eq_true c12;clear c12;by_cases c13 : (((rd_L1 l0_0 x28_1).length : Int) : Int).toNat ≤ 35184372088832
       ·rw [if_pos c13] at H;have c13b0 := eq_true c13;have c13b1 : decide ((((rd_L1 l0_0 x28_1).length : Int) : Int).toNat ≤ 35184372088832) = true := decide_eq_true c13;clear c13;(obtain ⟨y407, hy407⟩ : ∃ y_ : List Int, y_ = (List.replicate (((rd_L1 l0_0 x28_1).length : Int) : Int).toNat 0) := ⟨_, rfl⟩);(replace H : (mg_round.l1 k1 l1 l2 x7_1 x28_1 (rd_L1 l0_0 x28_1) 1099511627776 1099511627776 (-1) 0 y407 l0_0 (l0_0.length : Int) x28_1 (rd_L1 l0_0 x28_1) ((rd_L1 l0_0 x28_1).length : Int) 0 l0_0 l0_1) = some r := by first | (rw [hy407]; with_reducible exact H) | (have H2_ := (Option.bind_some _ _).symm.trans H; rw [hy407]; with_reducible exact H2_) | (have H2_ := (Option.bind_some _ _).symm.trans H; with_reducible exact H2_) | with_reducible exact H | (rw [hy407]; exact H) | exact H);have Ny407 := Ai0.mk hy407;clear hy407;have H' := Ai0.mk H;clear H;have p406 : 0 ≤ (x28_1 : Int) := od_;have q406 : x28_1 < (l0_0.length : Int) := od_;obtain ⟨ad406, A406_0, c406_0, e406, hx406_0, hl406_0, hi406_0⟩ := at_L1 HR0_0.out x28_1 p406 q406;cases e406;replace hx406_0 := (HB.out.cell (World.block_lt_of_cell? w _ hx406_0)).trans hx406_0;have HR406_0 := Ai0.mk hi406_0;have HC406_0 := Ai0.mk hl406_0;clear hi406_0 hl406_0;replace p406 := eq_true p406;replace q406 := eq_true q406
        go_wp2_with (first | ((with_reducible refine gate_dst (N := 35) rfl ?_); refine Kd.R_make (Kd.int .i64) _ 3 rfl (N := 35) rfl 25 _ _ rfl ((rd_L1 l0_0 x28_1).length : Int) rfl rfl Try.underlying25 (.int .i64 0) 8 info3 rfl (by decide) (by omega) 0 (ok := fun _ => True) (okp := fun _ => True) rfl (fun _ hk => hk) trivial od_ (Nat.le_trans (Nat.mul_le_mul_right _ (od_ : ((rd_L1 l0_0 x28_1).length : Int).toNat ≤ 35184372088832)) (by omega)) (Below.refl _ _) (Nat.le_refl _) ?_; intro v408 w14 ho15 hb hg_ hnew_; clear hg_ hnew_; (first | rw [← Ny407.out] at ho15 | (simp only [Int.reduceToNat] at ho15; rw [← Ny407.out] at ho15)); have n0_ := Ai0.mk (Kd.S_elder' (ks_ HO_7.out) (Kd.R_base ho15) hb); have n1_ := Ai0.mk (Kd.R_lower ho15 (bz1 bl_)); have n2_ := Ai0.mk (kb1 (g := gG) (o := .cells #[.slice (some ad406) l0_0.length c0_0, .slice A0_1 l0_1.length c0_1] 73 (0, 0)) (kk_ BK402.out) hb); have n3_ := Ai0.mk (bt1 bl_ hb); clear HO_7; clear BK402; clear HB; have HO_7 := n0_; have HO409 := n1_; have BK402 := n2_; have HB := n3_; clear n0_ n1_ n2_ n3_; clear hb ho15))
        go_loopg [10, 11, 12, 13, 38] k1 (fun kq v10 v11 v12 v13 v38 w' => ∃ (x10_2 : Int) (x11_2 : Int) (x12_2 : Int) (x13_2 : Int) (x14_2 : List Int) (x38_2 : Int), v10 = .int .i64 x10_2 ∧ v11 = .int .i64 x11_2 ∧ v12 = .int .i64 x12_2 ∧ v13 = .int .i64 x13_2 ∧ v38 = .int .i64 x38_2 ∧ Ai0 (mg_round.l1 kq l1 l2 x7_1 x28_1 (rd_L1 l0_0 x28_1) x10_2 x11_2 x12_2 x13_2 x14_2 l0_0 (l0_0.length : Int) x28_1 (rd_L1 l0_0 x28_1) ((rd_L1 l0_0 x28_1).length : Int) x38_2 l0_0 l0_1 = some r) ∧ Ai0 (kq ≤ k1) ∧ Ai0 (Kd.S (Kd.slice 3 (Kd.int .i64)) 25 w' w.heap.size (fun k_ => some k_ ≠ (v408 : Value).ownBlock) v404 x7_1) ∧ Ai0 (Kd.R (Kd.int .i64) 3 w' w.heap.size (fun _ => True) v408 x14_2) ∧ Ai0 (w'.heap[gG]? = some (.cells #[(.slice (some ad406) l0_0.length c0_0), (.slice A0_1 l0_1.length c0_1)] 73 (0, 0))) ∧ Ai0 (Below w.heap.size w w'))
        case atStart => exact ⟨(1099511627776), (1099511627776), ((-1)), (0), (y407), (0), rf_, rf_, rf_, rf_, rf_, H', ⟨Nat.le_refl _⟩, ⟨by (with_reducible repeat (first | apply Kd.S_alloc | apply Kd.S_drewN | apply Kd.S_drew)); exact Kd.S_mono HO_7.out (fun _ hk => hk.2)⟩, ⟨kr_ HO409.out⟩, ⟨kk_ BK402.out⟩, ⟨bl_⟩⟩
        case round =>
         clear H'
         try clear c1
         try clear c2
         try clear p2
         try clear c4
         try clear p4
         try clear q4
         try clear hx4
         try clear c9
         try clear c9b0
         try clear c10
         try clear c10b0
         try clear c11
         try clear c11b0
         try clear c12
         try clear c12b0
         try clear c12b1
         try clear c13
         try clear c13b0
         try clear c13b1
         try clear hcz6_0
         try clear hcz6_1
         try clear hcz8_0
         try clear hcz8_1
         try clear hfz6_0
         try clear hfz6_1
         try clear hfz8_0
         try clear hfz8_1
         try clear hx406_0
         try clear p2
         try clear p406
         try clear q406
         obtain ⟨x10_2, x11_2, x12_2, x13_2, x14_2, x38_2, rfl, rfl, rfl, rfl, rfl, HA, HK2, HO_7, HO_14, BK402, HB⟩ := hrel
         cases gk with
         | zero => exact absurd HA.out (by simp [mg_round.l1])
         | succ k2 =>
          have H := HA.out;clear HA;simp only [mg_round.l1] at H;by_cases c16 : x38_2 < ((rd_L1 l0_0 x28_1).length : Int)
          ·rw [if_pos c16] at H;have c16b0 : decide (x38_2 < ((rd_L1 l0_0 x28_1).length : Int)) = true := decide_eq_true c16;clear c16;by_cases c17 : 0 ≤ x38_2
           ·rw [if_pos c17] at H;have c17b0 : decide (0 ≤ x38_2) = true := decide_eq_true c17;clear c17;by_cases c18 : x38_2 < ((rd_L1 l0_0 x28_1).length : Int)
            ·rw [if_pos c18] at H;have c18b0 : decide (x38_2 < ((rd_L1 l0_0 x28_1).length : Int)) = true := decide_eq_true c18;clear c18;replace H := Option.bind_eq_some_iff.mp H;obtain ⟨t411, A190, H⟩ := H;replace H : (if x38_2 < (x14_2.length : Int) then ((some (x14_2.set (x38_2 : Int).toNat t411 : List Int)).bind fun y412 => (if (rd y412 x38_2) < 0 then (mg_round.j2 k2 l1 l2 x7_1 x28_1 (rd_L1 l0_0 x28_1) x10_2 x11_2 x12_2 (wrap64 (x13_2 + 1)) y412 x38_2 (wrap64 (-(rd y412 x38_2))) l0_0 (l0_0.length : Int) x28_1 (rd_L1 l0_0 x28_1) ((rd_L1 l0_0 x28_1).length : Int) x38_2 l0_0 l0_1) else (mg_round.j2 k2 l1 l2 x7_1 x28_1 (rd_L1 l0_0 x28_1) x10_2 x11_2 x12_2 x13_2 y412 x38_2 (rd y412 x38_2) l0_0 (l0_0.length : Int) x28_1 (rd_L1 l0_0 x28_1) ((rd_L1 l0_0 x28_1).length : Int) x38_2 l0_0 l0_1))) else (none)) = some r := H;have A19 := Ai0.mk A190;clear A190;by_cases c20 : x38_2 < (x14_2.length : Int)
             ·rw [if_pos c20] at H;have c20b0 : decide (x38_2 < (x14_2.length : Int)) = true := decide_eq_true c20;clear c20;(obtain ⟨y412, hy412⟩ : ∃ y_ : List Int, y_ = (x14_2.set (x38_2 : Int).toNat t411) := ⟨_, rfl⟩);(replace H : (if (rd y412 x38_2) < 0 then (mg_round.j2 k2 l1 l2 x7_1 x28_1 (rd_L1 l0_0 x28_1) x10_2 x11_2 x12_2 (wrap64 (x13_2 + 1)) y412 x38_2 (wrap64 (-(rd y412 x38_2))) l0_0 (l0_0.length : Int) x28_1 (rd_L1 l0_0 x28_1) ((rd_L1 l0_0 x28_1).length : Int) x38_2 l0_0 l0_1) else (mg_round.j2 k2 l1 l2 x7_1 x28_1 (rd_L1 l0_0 x28_1) x10_2 x11_2 x12_2 x13_2 y412 x38_2 (rd y412 x38_2) l0_0 (l0_0.length : Int) x28_1 (rd_L1 l0_0 x28_1) ((rd_L1 l0_0 x28_1).length : Int) x38_2 l0_0 l0_1)) = some r := by first | (rw [hy412]; with_reducible exact H) | (have H2_ := (Option.bind_some _ _).symm.trans H; rw [hy412]; with_reducible exact H2_) | (have H2_ := (Option.bind_some _ _).symm.trans H; with_reducible exact H2_) | with_reducible exact H | (rw [hy412]; exact H) | exact H);have Ny412 := Ai0.mk hy412;clear hy412;have HC22 := Ai0.mk H;clear H;have p410 : 0 ≤ (x38_2 : Int) := od_;have q410 : x38_2 < ((rd_L1 l0_0 x28_1).length : Int) := od_;obtain ⟨ad410, e410, hx410_0⟩ := Kd.at_int HR406_0.out x38_2 p410 q410;cases e410;replace hx410_0 := (HB.out.cell (World.block_lt_of_cell? w _ hx410_0)).trans hx410_0;replace p410 := eq_true p410;replace q410 := eq_true q410;have hcz23_0 : wr.cell? ⟨gG, 0, none⟩ = some (.slice (some ad406) l0_0.length c0_0) := (kc1 BK402.out 0).trans rfl;have hcz23_1 : wr.cell? ⟨gG, 1, none⟩ = some (.slice A0_1 l0_1.length c0_1) := (kc1 BK402.out 1).trans rfl;have hfz23_0 := kf1 BK402.out 0;have hfz23_1 := kf1 BK402.out 1
              go_upto_if 57 with (first | ((with_reducible refine gate_callee (f := 69) rfl ?_); refine goesL_ (some 50) rfl rfl Try.func69 (by kernel_rfl) rfl #[.pointer (some ⟨gG, 0, none⟩), .slice A1 l1.length c1, .slice A2 l2.length c2, .int .i64 (rd (rd_L1 l0_0 x28_1) x38_2), .int .i64 x28_1] rfl (by (try simp only [List.map_toArray, List.map_cons, List.map_nil]); first | done | rfl | (simp only [List.length_drop, List.length_take]; rfl)) ?_; (with_reducible refine (mg_sum.calls k2 (some ad406) c0_0 l0_0 A0_1 c0_1 l0_1 _ _ l1 _ _ l2 (rd (rd_L1 l0_0 x28_1) x38_2) x28_1 t411 gG _ ?side1 ?side2 ?side3 ?side4 ?side5 ?side6 ?side7 ?side8 ?sideG A19.out).mono ?_); (case sideG => (with_reducible repeat (first | refine kn1 ?_ _ | refine kd1 ?_ | refine ka1 ?_ _)); exact BK402.out); (case side1 => exact kc_ HR0_0.out); (case side2 => exact HC0_0.out); (case side3 => exact kc_ HR0_1.out); (case side4 => exact HC0_1.out); (case side5 => exact kc_ HR1.out); (case side6 => exact HC1.out); (case side7 => exact kc_ HR2.out); (case side8 => exact HC2.out); rintro e w24 ⟨rfl, hb⟩; refine ⟨_, rfl, ?_⟩; have n0_ := Ai0.mk (Kd.S_below (ks_ HO_7.out) hb); have n1_ := Ai0.mk (Kd.R_below (kr_ HO_14.out) hb); have n2_ := Ai0.mk (kb1 (g := gG) (o := .cells #[.slice (some ad406) l0_0.length c0_0, .slice A0_1 l0_1.length c0_1] 73 (0, 0)) (kk_ BK402.out) hb); have n3_ := Ai0.mk (bt1 bl_ hb); clear HO_7; clear HO_14; clear BK402; clear HB; have HO_7 := n0_; have HO_14 := n1_; have BK402 := n2_; have HB := n3_; clear n0_ n1_ n2_ n3_; (try clear hb); (try clear hb2); (try clear hk); (try clear hi); have p21 : 0 ≤ (x38_2 : Int) := od_; have q21 : (x38_2 : Int) < ((x14_2.length : Int) : Int) := od_; obtain ⟨go21, co21, eo21, gb21, gl21, cl21, HG21⟩ := Kd.R_form HO_14.out (by omega); (first | cases eo21 | (injection eo21 with ea_ en_ ec_; (first | subst ea_ | (injection ea_ with ea_; subst ea_)); subst ec_; clear en_)); have GB21 := Ai0.mk gb21; have GG21 := Ai0.mk HG21; clear gb21 gl21 HG21; obtain ⟨hx21_0, hf21_0⟩ := Kd.R_celln 0 HO_14.out (x38_2 : Int) p21 q21; replace p21 := eq_true p21; replace q21 := eq_true q21; obtain ⟨hy25_, hz25_⟩ := Kd.R_celln 0 HO_14.out (x38_2 : Int) od_ od_; have HP25 := Kd.R_putg HO_14.out (x38_2 : Int) t411) | ((with_reducible refine gate_store (t := 3) (p := 51) rfl ?_); refine store_event (t := 3) (p := 51) (v := ?vo_w26) (w1 := (w24.setCell ⟨go21, (x38_2 : Int).toNat, none⟩ (.int .i64 t411))) ?hg ?ho ?hn ?hr ?_; (case ho => rfl); (case hg => rfl); (case hn => rfl); (case hr => first | (go_simp; done) | (go_simp; rfl)); intro w26 hw; have hg : w24.grownBy w26 (some go21) := (by rw [hw]; exact HP25.2); have hp_ : Kd.R (Kd.int .i64) 3 w26 w.heap.size (fun _ => True) (.slice (some ⟨go21, 0, none⟩) x14_2.length co21) y412 := (by rw [hw, Ny412.out]; exact HP25.1); clear HP25; have n0_ := Ai0.mk (Kd.S_after (v := (.slice (some ⟨go21, 0, none⟩) x14_2.length co21)) (v1 := (.slice (some ⟨go21, 0, none⟩) x14_2.length co21)) (ok := (fun _ => True)) (by (with_reducible repeat (first | apply Kd.S_alloc | apply Kd.S_drewN | apply Kd.S_drew)); exact Kd.S_mono HO_7.out (fun _ hk => ⟨trivial, hk⟩)) hg (.inl rfl)); have n1_ := Ai0.mk (hp_); have n2_ := Ai0.mk (blk_grown (g := gG) (o := .cells #[.slice (some ad406) l0_0.length c0_0, .slice A0_1 l0_1.length c0_1] 73 (0, 0)) (kk_ BK402.out) hg (Kd.R_ne HO_14.out BK402.out (by decide))); have n3_ := Ai0.mk ((by rw [hw]; exact bs1 (HB.out) GB21.out : Below w.heap.size w w26)); clear HO_7; clear HO_14; clear BK402; clear HB; have HO_7 := n0_; have HO_14 := n1_; have BK402 := n2_; have HB := n3_; clear n0_ n1_ n2_ n3_; clear hg hw hp_; have p413 : 0 ≤ (x38_2 : Int) := od_; have q413 : x38_2 < (y412.length : Int) := (by have h_ : (x38_2 : Int) < ((x14_2.length : Int) : Int) := od_; first | (have e_ := (Kd.R_reads' HO_14.out).1; omega) | simpa only [Ny412.out, List.length_set] using h_); have ql413 : ((x38_2 : Int) < ((x14_2.length : Int) : Int)) = True := eq_true od_; obtain ⟨ad413, e413, hx413_0⟩ := Kd.at_int (Kd.R_reads' HO_14.out).2.2 x38_2 p413 q413; obtain rfl : (⟨go21, 0, none⟩ : Addr) = ad413 := (by injection e413); (first | simp only [add_plain] at hx413_0 | simp only [add_at] at hx413_0 | simp only [Addr.add, Nat.zero_add] at hx413_0 | skip); replace p413 := eq_true p413; replace q413 := eq_true q413))
              (try simp only [Act.put, l01_, l02_, l03_])
              go_cut [13, 17] (fun v13 v17 wc => ∃ (kq : Nat) (x13_21 : Int) (x17_21 : Int), v13 = .int .i64 x13_21 ∧ v17 = .int .i64 x17_21 ∧ Ai0 (mg_round.j2 kq l1 l2 x7_1 x28_1 (rd_L1 l0_0 x28_1) x10_2 x11_2 x12_2 x13_21 y412 x38_2 x17_21 l0_0 (l0_0.length : Int) x28_1 (rd_L1 l0_0 x28_1) ((rd_L1 l0_0 x28_1).length : Int) x38_2 l0_0 l0_1 = some r) ∧ Ai0 (kq ≤ k2) ∧ Ai0 (Kd.S (Kd.slice 3 (Kd.int .i64)) 25 wc w.heap.size (fun k_ => some k_ ≠ ((.slice (some ⟨go21, 0, none⟩) x14_2.length co21) : Value).ownBlock) v404 x7_1) ∧ Ai0 (Kd.R (Kd.int .i64) 3 wc w.heap.size (fun _ => True) (.slice (some ⟨go21, 0, none⟩) x14_2.length co21) y412) ∧ Ai0 (wc.heap[gG]? = some (.cells #[(.slice (some ad406) l0_0.length c0_0), (.slice A0_1 l0_1.length c0_1)] 73 (0, 0))) ∧ Ai0 (Below w.heap.size w wc))
              case first =>
               have H := HC22.out;clear HC22;by_cases c27 : (rd y412 x38_2) < 0
               ·rw [if_pos c27] at H;have c27b0 : decide ((rd y412 x38_2) < 0) = true := decide_eq_true c27;clear c27;(first | rw [c27b0] | (simp only [i64_w, i32_w]; rw [c27b0]) | skip);have H' := Ai0.mk H;clear H
                go_wp2
                go_meet
                case rel => exact ⟨_, (wrap64 (x13_2 + 1)), (wrap64 (-(rd y412 x38_2))), rf_, rf_, H', ⟨by have := HK1.out; have := HK2.out; first | omega | exact Nat.le_refl _⟩, ⟨by (with_reducible repeat (first | apply Kd.S_alloc | apply Kd.S_drewN | apply Kd.S_drew)); exact Kd.S_mono HO_7.out (fun _ hk => hk.2)⟩, ⟨kr_ HO_14.out⟩, ⟨kk_ BK402.out⟩, ⟨bl_⟩⟩
               ·rw [if_neg c27] at H;have c27b0 : decide ((rd y412 x38_2) < 0) = false := decide_eq_false c27;clear c27;(first | rw [c27b0] | (simp only [i64_w, i32_w]; rw [c27b0]) | skip);have H' := Ai0.mk H;clear H
                go_wp2
                go_meet
                case rel => exact ⟨_, (x13_2), (rd y412 x38_2), rf_, rf_, H', ⟨by have := HK1.out; have := HK2.out; first | omega | exact Nat.le_refl _⟩, ⟨by (with_reducible repeat (first | apply Kd.S_alloc | apply Kd.S_drewN | apply Kd.S_drew)); exact Kd.S_mono HO_7.out (fun _ hk => hk.2)⟩, ⟨kr_ HO_14.out⟩, ⟨kk_ BK402.out⟩, ⟨bl_⟩⟩
              case rest =>
               clear HC22
               try clear c1
               try clear c2
               try clear p2
               try clear q2
               try clear hx2
               try clear c4
               try clear p4
               try clear q4
               try clear hx4
               try clear c6
               try clear p6
               try clear c9
               try clear c9b0
               try clear c10
               try clear c10b0
               try clear c11
               try clear c11b0
               try clear c12
               try clear c12b0
               try clear c12b1
               try clear c13
               try clear c13b0
               try clear c13b1
               try clear c16
               try clear c16b0
               try clear c17
               try clear c17b0
               try clear c18
               try clear c18b0
               try clear c20
               try clear c20b0
               try clear p21
               try clear q21
               try clear hx21
               try clear hf21
               try clear c27
               try clear c27b0
               try clear hcz23_0
               try clear hcz23_1
               try clear hcz6_0
               try clear hcz6_1
               try clear hcz8_0
               try clear hcz8_1
               try clear hfz23_0
               try clear hfz23_1
               try clear hfz6_0
               try clear hfz6_1
               try clear hfz8_0
               try clear hfz8_1
               try clear hx21_0
               try clear hx406_0
               try clear hx410_0
               try clear hx413_0
               try clear p2
               try clear p21
               try clear p4
               try clear p406
               try clear p410
               try clear p413
               try clear q21
               try clear q4
               try clear q406
               try clear q410
               try clear q413
               obtain ⟨kq, x13_21, x17_21, rfl, rfl, HA, HJ21, HO_7, HO_14, BK402, HB⟩ := hcut;have hl14_21 := (Kd.R_reads' HO_14.out).1;rw [hl14_21] at HO_14;(try simp only [hl14_21]);(try simp only [hl14_21] at BK402);(try simp only [hl14_21] at HO_7)
               cases kq with
               | zero => exact absurd HA.out (by simp [mg_round.j2])
               | succ kj21 =>
                have H := HA.out;clear HA;simp only [mg_round.j2] at H;have HC28 := Ai0.mk H;clear H
                go_upto_region 15 with (fail)
                go_cut [62] (fun v62 wc => ∃ (kq : Nat) (x62_27 : Bool), v62 = .bool x62_27 ∧ Ai0 (mg_round.j3 kq l1 l2 x7_1 x28_1 (rd_L1 l0_0 x28_1) x10_2 x11_2 x12_2 x13_21 y412 x38_2 x17_21 l0_0 (l0_0.length : Int) x28_1 (rd_L1 l0_0 x28_1) ((rd_L1 l0_0 x28_1).length : Int) x38_2 x62_27 l0_0 l0_1 = some r) ∧ Ai0 (kq ≤ kj21) ∧ Ai0 (Kd.S (Kd.slice 3 (Kd.int .i64)) 25 wc w.heap.size (fun k_ => some k_ ≠ ((.slice (some ⟨go21, 0, none⟩) y412.length co21) : Value).ownBlock) v404 x7_1) ∧ Ai0 (Kd.R (Kd.int .i64) 3 wc w.heap.size (fun _ => True) (.slice (some ⟨go21, 0, none⟩) y412.length co21) y412) ∧ Ai0 (wc.heap[gG]? = some (.cells #[(.slice (some ad406) l0_0.length c0_0), (.slice A0_1 l0_1.length c0_1)] 73 (0, 0))) ∧ Ai0 (Below w.heap.size w wc))
                case first =>
                 have H := HC28.out;clear HC28;by_cases c29 : x12_2 < 0
                 ·rw [if_pos c29] at H;have c29b0 : decide (x12_2 < 0) = true := decide_eq_true c29;clear c29;(first | rw [c29b0] | (simp only [i64_w, i32_w]; rw [c29b0]) | skip);have H' := Ai0.mk H;clear H
                  go_wp2
                  go_meet
                  case rel => exact ⟨_, (true), rf_, H', ⟨by have := HK1.out; have := HK2.out; have := HJ21.out; first | omega | exact Nat.le_refl _⟩, ⟨by (try simp only [hl14_21]); (with_reducible repeat (first | apply Kd.S_alloc | apply Kd.S_drewN | apply Kd.S_drew)); exact HO_7.out⟩, ⟨by (try simp only [hl14_21]); (with_reducible repeat (first | apply Kd.Ra1 | apply Kd.Rn1 | apply Kd.Rd1)); exact HO_14.out⟩, ⟨by (try simp only [hl14_21]); (with_reducible repeat (first | refine kn1 ?_ _ | refine kd1 ?_ | refine ka1 ?_ _)); exact BK402.out⟩, ⟨bl_⟩⟩
                 ·rw [if_neg c29] at H;have c29b0 : decide (x12_2 < 0) = false := decide_eq_false c29;clear c29;(first | rw [c29b0] | (simp only [i64_w, i32_w]; rw [c29b0]) | skip);have H' := Ai0.mk H;clear H
                  go_wp2
                  go_meet
                  case rel => exact ⟨_, (decide (x17_21 < x10_2)), rf_, H', ⟨by have := HK1.out; have := HK2.out; have := HJ21.out; first | omega | exact Nat.le_refl _⟩, ⟨by (try simp only [hl14_21]); (with_reducible repeat (first | apply Kd.S_alloc | apply Kd.S_drewN | apply Kd.S_drew)); exact HO_7.out⟩, ⟨by (try simp only [hl14_21]); (with_reducible repeat (first | apply Kd.Ra1 | apply Kd.Rn1 | apply Kd.Rd1)); exact HO_14.out⟩, ⟨by (try simp only [hl14_21]); (with_reducible repeat (first | refine kn1 ?_ _ | refine kd1 ?_ | refine ka1 ?_ _)); exact BK402.out⟩, ⟨bl_⟩⟩
                case rest =>
                 clear HC28
                 try clear c1
                 try clear c2
                 try clear p2
                 try clear q2
                 try clear hx2
                 try clear c4
                 try clear p4
                 try clear q4
                 try clear hx4
                 try clear c6
                 try clear p6
                 try clear c9
                 try clear c9b0
                 try clear c10
                 try clear c10b0
                 try clear c11
                 try clear c11b0
                 try clear c12
                 try clear c12b0
                 try clear c12b1
                 try clear c13
                 try clear c13b0
                 try clear c13b1
                 try clear c16
                 try clear c16b0
                 try clear c17
                 try clear c17b0
                 try clear c18
                 try clear c18b0
                 try clear c20
                 try clear c20b0
                 try clear p21
                 try clear q21
                 try clear hx21
                 try clear hf21
                 try clear c27
                 try clear c27b0
                 try clear c29
                 try clear c29b0
                 try clear hcz23_0
                 try clear hcz23_1
                 try clear hcz6_0
                 try clear hcz6_1
                 try clear hcz8_0
                 try clear hcz8_1
                 try clear hfz23_0
                 try clear hfz23_1
                 try clear hfz6_0
                 try clear hfz6_1
                 try clear hfz8_0
                 try clear hfz8_1
                 try clear hx21_0
                 try clear hx406_0
                 try clear hx410_0
                 try clear hx413_0
                 try clear p2
                 try clear p21
                 try clear p4
                 try clear p406
                 try clear p410
                 try clear p413
                 try clear p6
                 try clear q2
                 try clear q21
                 try clear q4
                 try clear q406
                 try clear q410
                 try clear q413
                 obtain ⟨kq, x62_27, rfl, HA, HJ27, HO_7, HO_14, BK402, HB⟩ := hcut
                 cases kq with
                 | zero => exact absurd HA.out (by simp [mg_round.j3])
                 | succ kj27 =>
                  have H := HA.out;clear HA;simp only [mg_round.j3] at H;by_cases c30 : x62_27 = true
                  ·subst c30;(have H1 : (mg_round.l1 kj27 l1 l2 x7_1 x28_1 (rd_L1 l0_0 x28_1) x17_21 x10_2 x38_2 x13_21 y412 l0_0 (l0_0.length : Int) x28_1 (rd_L1 l0_0 x28_1) ((rd_L1 l0_0 x28_1).length : Int) (wrap64 (x38_2 + 1)) l0_0 l0_1) = some r := by rw [if_pos rfl] at H; exact H);clear H;have H := H1;clear H1;have H' := Ai0.mk H;clear H
                   go_wp2
                   (try simp only [← hl14_21])
                   go_roundg kj27
                   case measure => have := HK1.out; have := HK2.out; have := HJ21.out; have := HJ27.out; omega
                   case rel => exact ⟨(x17_21), (x10_2), (x38_2), (x13_21), (y412), (wrap64 (x38_2 + 1)), rf_, rf_, rf_, rf_, rf_, H', ⟨by have := HK1.out; have := HK2.out; have := HJ21.out; have := HJ27.out; omega⟩, ⟨by (try simp only [hl14_21]); (with_reducible repeat (first | apply Kd.S_alloc | apply Kd.S_drewN | apply Kd.S_drew)); exact HO_7.out⟩, ⟨by (try simp only [hl14_21]); (with_reducible repeat (first | apply Kd.Ra1 | apply Kd.Rn1 | apply Kd.Rd1)); exact HO_14.out⟩, ⟨by (try simp only [hl14_21]); (with_reducible repeat (first | refine kn1 ?_ _ | refine kd1 ?_ | refine ka1 ?_ _)); exact BK402.out⟩, ⟨bl_⟩⟩
                  ·replace c30 := Bool.eq_false_iff.mpr c30;subst c30;(have H1 : (if x17_21 < x11_2 then (mg_round.l1 kj27 l1 l2 x7_1 x28_1 (rd_L1 l0_0 x28_1) x10_2 x17_21 x12_2 x13_21 y412 l0_0 (l0_0.length : Int) x28_1 (rd_L1 l0_0 x28_1) ((rd_L1 l0_0 x28_1).length : Int) (wrap64 (x38_2 + 1)) l0_0 l0_1) else (mg_round.l1 kj27 l1 l2 x7_1 x28_1 (rd_L1 l0_0 x28_1) x10_2 x11_2 x12_2 x13_21 y412 l0_0 (l0_0.length : Int) x28_1 (rd_L1 l0_0 x28_1) ((rd_L1 l0_0 x28_1).length : Int) (wrap64 (x38_2 + 1)) l0_0 l0_1)) = some r := by rw [if_neg (show ¬ (false = true) by decide)] at H; exact H);clear H;have H := H1;clear H1;by_cases c31 : x17_21 < x11_2
                   ·rw [if_pos c31] at H;have c31b0 : decide (x17_21 < x11_2) = true := decide_eq_true c31;clear c31;have H' := Ai0.mk H;clear H
                    go_wp2
                    (try simp only [← hl14_21])
                    go_roundg kj27
                    case measure => have := HK1.out; have := HK2.out; have := HJ21.out; have := HJ27.out; omega
                    case rel => exact ⟨(x10_2), (x17_21), (x12_2), (x13_21), (y412), (wrap64 (x38_2 + 1)), rf_, rf_, rf_, rf_, rf_, H', ⟨by have := HK1.out; have := HK2.out; have := HJ21.out; have := HJ27.out; omega⟩, ⟨by (try simp only [hl14_21]); (with_reducible repeat (first | apply Kd.S_alloc | apply Kd.S_drewN | apply Kd.S_drew)); exact HO_7.out⟩, ⟨by (try simp only [hl14_21]); (with_reducible repeat (first | apply Kd.Ra1 | apply Kd.Rn1 | apply Kd.Rd1)); exact HO_14.out⟩, ⟨by (try simp only [hl14_21]); (with_reducible repeat (first | refine kn1 ?_ _ | refine kd1 ?_ | refine ka1 ?_ _)); exact BK402.out⟩, ⟨bl_⟩⟩
                   ·rw [if_neg c31] at H;have c31b0 : decide (x17_21 < x11_2) = false := decide_eq_false c31;clear c31;have H' := Ai0.mk H;clear H
                    go_wp2
                    (try simp only [← hl14_21])
                    go_roundg kj27
                    case measure => have := HK1.out; have := HK2.out; have := HJ21.out; have := HJ27.out; omega
                    case rel => exact ⟨(x10_2), (x11_2), (x12_2), (x13_21), (y412), (wrap64 (x38_2 + 1)), rf_, rf_, rf_, rf_, rf_, H', ⟨by have := HK1.out; have := HK2.out; have := HJ21.out; have := HJ27.out; omega⟩, ⟨by (try simp only [hl14_21]); (with_reducible repeat (first | apply Kd.S_alloc | apply Kd.S_drewN | apply Kd.S_drew)); exact HO_7.out⟩, ⟨by (try simp only [hl14_21]); (with_reducible repeat (first | apply Kd.Ra1 | apply Kd.Rn1 | apply Kd.Rd1)); exact HO_14.out⟩, ⟨by (try simp only [hl14_21]); (with_reducible repeat (first | refine kn1 ?_ _ | refine kd1 ?_ | refine ka1 ?_ _)); exact BK402.out⟩, ⟨bl_⟩⟩
             ·rw [if_neg c20] at H;exact absurd H (by simp)
            ·rw [if_neg c18] at H;exact absurd H (by simp)
           ·rw [if_neg c17] at H;exact absurd H (by simp)
          ·rw [if_neg c16] at H;have c16b0 : decide (x38_2 < ((rd_L1 l0_0 x28_1).length : Int)) = false := decide_eq_false c16;clear c16;have H' := Ai0.mk H;clear H
           go_wp2
           go_loopg [81] k2 (fun kq v81 w' => ∃ (x7_3 : List (List Int)) (x14_3 : List Int) (x81_3 : Int), v81 = .int .i64 x81_3 ∧ Ai0 (mg_round.l2 kq l1 l2 x7_3 x28_1 x10_2 x11_2 x12_2 x13_2 x14_3 l0_0 (l0_0.length : Int) x28_1 ((rd_L1 l0_0 x28_1).length : Int) x81_3 l0_0 l0_1 = some r) ∧ Ai0 (kq ≤ k2) ∧ Ai0 (Kd.S (Kd.slice 3 (Kd.int .i64)) 25 w' w.heap.size (fun k_ => some k_ ≠ (v408 : Value).ownBlock) v404 x7_3) ∧ Ai0 (Kd.R (Kd.int .i64) 3 w' w.heap.size (fun _ => True) v408 x14_3) ∧ Ai0 (w'.heap[gG]? = some (.cells #[(.slice (some ad406) l0_0.length c0_0), (.slice A0_1 l0_1.length c0_1)] 73 (0, 0))) ∧ Ai0 (Below w.heap.size w w'))
           case atStart => exact ⟨(x7_1), (x14_2), (0), rf_, H', ⟨Nat.le_refl _⟩, ⟨ks_ HO_7.out⟩, ⟨kr_ HO_14.out⟩, ⟨kk_ BK402.out⟩, ⟨bl_⟩⟩
           case round =>
            clear H'
            try clear c1
            try clear c2
            try clear p2
            try clear q2
            try clear hx2
            try clear c3
            try clear c4
            try clear p4
            try clear q4
            try clear hx4
            try clear c6
            try clear p6
            try clear c9
            try clear c9b0
            try clear c10
            try clear c10b0
            try clear c11
            try clear c11b0
            try clear c12
            try clear c12b0
            try clear c12b1
            try clear c13
            try clear c13b0
            try clear c13b1
            try clear c16
            try clear c16b0
            try clear c17
            try clear c17b0
            try clear c18
            try clear c18b0
            try clear c20
            try clear c20b0
            try clear p21
            try clear q21
            try clear hx21
            try clear hf21
            try clear c27
            try clear c27b0
            try clear c29
            try clear c29b0
            try clear c30
            try clear c31
            try clear c31b0
            try clear hcz23_0
            try clear hcz23_1
            try clear hcz6_0
            try clear hcz6_1
            try clear hcz8_0
            try clear hcz8_1
            try clear hfz23_0
            try clear hfz23_1
            try clear hfz6_0
            try clear hfz6_1
            try clear hfz8_0
            try clear hfz8_1
            try clear hx21_0
            try clear hx406_0
            try clear hx410_0
            try clear hx413_0
            try clear p2
            try clear p21
            try clear p4
            try clear p406
            try clear p410
            try clear p413
            try clear p6
            try clear q2
            try clear q21
            try clear q4
            try clear q406
            try clear q410
            try clear q413
            obtain ⟨x7_3, x14_3, x81_3, rfl, HA, HK3, HO_7, HO_14, BK402, HB⟩ := hrel
            cases gk with
            | zero => exact absurd HA.out (by simp [mg_round.l2])
            | succ k3 =>
             have H := HA.out;clear HA;simp only [mg_round.l2] at H;by_cases c32 : x81_3 < ((rd_L1 l0_0 x28_1).length : Int)
             ·rw [if_pos c32] at H;have c32b0 : decide (x81_3 < ((rd_L1 l0_0 x28_1).length : Int)) = true := decide_eq_true c32;clear c32;have HC33 := Ai0.mk H;clear H
              go_upto_if 88 with (fail)
              go_cut [19] (fun v19 wc => ∃ (kq : Nat) (x19_32 : Int), v19 = .int .i64 x19_32 ∧ Ai0 (mg_round.j5 kq l1 l2 x7_3 x28_1 x10_2 x11_2 x12_2 x13_2 x14_3 x81_3 x19_32 x13_2 l0_0 (l0_0.length : Int) x28_1 ((rd_L1 l0_0 x28_1).length : Int) x81_3 l0_0 l0_1 = some r) ∧ Ai0 (kq ≤ k3) ∧ Ai0 (Kd.S (Kd.slice 3 (Kd.int .i64)) 25 wc w.heap.size (fun k_ => some k_ ≠ (v408 : Value).ownBlock) v404 x7_3) ∧ Ai0 (Kd.R (Kd.int .i64) 3 wc w.heap.size (fun _ => True) v408 x14_3) ∧ Ai0 (wc.heap[gG]? = some (.cells #[(.slice (some ad406) l0_0.length c0_0), (.slice A0_1 l0_1.length c0_1)] 73 (0, 0))) ∧ Ai0 (Below w.heap.size w wc))
              case first =>
               have H := HC33.out;clear HC33;by_cases c34 : x81_3 = x12_2
               ·rw [if_pos c34] at H;have c34b0 : (x81_3 == x12_2) = true := beq_iff_eq.mpr c34;have c34b1 : (x81_3 != x12_2) = false := bne_eq_false_iff_eq.mpr c34;clear c34;(first | rw [c34b0] | (simp only [i64_w, i32_w]; rw [c34b0]) | skip);have H' := Ai0.mk H;clear H
                go_wp2
                go_meet
                case rel => exact ⟨_, (x11_2), rf_, H', ⟨by have := HK1.out; have := HK2.out; have := HK3.out; first | omega | exact Nat.le_refl _⟩, ⟨ks_ HO_7.out⟩, ⟨kr_ HO_14.out⟩, ⟨kk_ BK402.out⟩, ⟨bl_⟩⟩
               ·rw [if_neg c34] at H;have c34b0 : (x81_3 == x12_2) = false := beq_eq_false_iff_ne.mpr c34;have c34b1 : (x81_3 != x12_2) = true := bne_iff_ne.mpr c34;(first | rw [c34b0] | (simp only [i64_w, i32_w]; rw [c34b0]) | skip);have H' := Ai0.mk H;clear H
                go_wp2
                go_meet
                case rel => exact ⟨_, (x10_2), rf_, H', ⟨by have := HK1.out; have := HK2.out; have := HK3.out; first | omega | exact Nat.le_refl _⟩, ⟨ks_ HO_7.out⟩, ⟨kr_ HO_14.out⟩, ⟨kk_ BK402.out⟩, ⟨bl_⟩⟩
              case rest =>
               clear HC33
               try clear c1
               try clear c2
               try clear p2
               try clear q2
               try clear hx2
               try clear c3
               try clear c4
               try clear p4
               try clear q4
               try clear hx4
               try clear c6
               try clear p6
               try clear c9
               try clear c9b0
               try clear c10
               try clear c10b0
               try clear c11
               try clear c11b0
               try clear c12
               try clear c12b0
               try clear c12b1
               try clear c13
               try clear c13b0
               try clear c13b1
               try clear c16
               try clear c16b0
               try clear c17
               try clear c17b0
               try clear c18
               try clear c18b0
               try clear c20
               try clear c20b0
               try clear p21
               try clear q21
               try clear hx21
               try clear hf21
               try clear c27
               try clear c27b0
               try clear c29
               try clear c29b0
               try clear c30
               try clear c31
               try clear c31b0
               try clear c32
               try clear c32b0
               try clear c34
               try clear c34b0
               try clear c34b1
               try clear hcz23_0
               try clear hcz23_1
               try clear hcz6_0
               try clear hcz6_1
               try clear hcz8_0
               try clear hcz8_1
               try clear hfz23_0
               try clear hfz23_1
               try clear hfz6_0
               try clear hfz6_1
               try clear hfz8_0
               try clear hfz8_1
               try clear hx21_0
               try clear hx406_0
               try clear hx410_0
               try clear hx413_0
               try clear p2
               try clear p21
               try clear p4
               try clear p406
               try clear p410
               try clear p413
               try clear p6
               try clear q2
               try clear q21
               try clear q4
               try clear q406
               try clear q410
               try clear q413
               obtain ⟨kq, x19_32, rfl, HA, HJ32, HO_7, HO_14, BK402, HB⟩ := hcut
               cases kq with
               | zero => exact absurd HA.out (by simp [mg_round.j5])
               | succ kj32 =>
                have H := HA.out;clear HA;simp only [mg_round.j5] at H;by_cases c35 : 0 ≤ x81_3
                ·rw [if_pos c35] at H;have c35b0 : decide (0 ≤ x81_3) = true := decide_eq_true c35;clear c35;by_cases c36 : x81_3 < (x14_3.length : Int)
                 ·rw [if_pos c36] at H;have c36b0 : decide (x81_3 < (x14_3.length : Int)) = true := decide_eq_true c36;clear c36;by_cases c37 : (rd x14_3 x81_3) < 0
                  ·rw [if_pos c37] at H;have c37b0 : decide ((rd x14_3 x81_3) < 0) = true := decide_eq_true c37;clear c37;by_cases c38 : (Int.tmod (wrap64 (x13_2 - 1)) 2) = 1
                   ·rw [if_pos c38] at H;have c38b0 : ((Int.tmod (wrap64 (x13_2 - 1)) 2) == 1) = true := beq_iff_eq.mpr c38;have c38b1 : ((Int.tmod (wrap64 (x13_2 - 1)) 2) != 1) = false := bne_eq_false_iff_eq.mpr c38;clear c38;by_cases c39 : 0 ≤ x28_1
                    ·rw [if_pos c39] at H;have c39b0 : decide (0 ≤ x28_1) = true := decide_eq_true c39;clear c39;by_cases c40 : x28_1 < (x7_3.length : Int)
                     ·rw [if_pos c40] at H;have c40b0 : decide (x28_1 < (x7_3.length : Int)) = true := decide_eq_true c40;clear c40;by_cases c41 : x81_3 < ((rd_L1 x7_3 x28_1).length : Int)
                      ·rw [if_pos c41] at H;have c41b0 : decide (x81_3 < ((rd_L1 x7_3 x28_1).length : Int)) = true := decide_eq_true c41;clear c41;(obtain ⟨y416, hy416⟩ : ∃ y_ : List Int, y_ = ((rd_L1 x7_3 x28_1).set (x81_3 : Int).toNat (wrap64 (-x19_32))) := ⟨_, rfl⟩);(replace H : (mg_round.l2 kj32 l1 l2 (x7_3.set (x28_1 : Int).toNat y416) x28_1 x10_2 x11_2 x12_2 x13_2 x14_3 l0_0 (l0_0.length : Int) x28_1 ((rd_L1 l0_0 x28_1).length : Int) (wrap64 (x81_3 + 1)) l0_0 l0_1) = some r := by first | (rw [hy416]; with_reducible exact H) | (have H2_ := (Option.bind_some _ _).symm.trans H; rw [hy416]; with_reducible exact H2_) | (have H2_ := (Option.bind_some _ _).symm.trans H; with_reducible exact H2_) | with_reducible exact H | (rw [hy416]; exact H) | exact H);have Ny416 := Ai0.mk hy416;clear hy416;(obtain ⟨y418, hy418⟩ : ∃ y_ : List (List Int), y_ = (x7_3.set (x28_1 : Int).toNat y416) := ⟨_, rfl⟩);(replace H : (mg_round.l2 kj32 l1 l2 y418 x28_1 x10_2 x11_2 x12_2 x13_2 x14_3 l0_0 (l0_0.length : Int) x28_1 ((rd_L1 l0_0 x28_1).length : Int) (wrap64 (x81_3 + 1)) l0_0 l0_1) = some r := by first | (rw [hy418]; with_reducible exact H) | (have H2_ := (Option.bind_some _ _).symm.trans H; rw [hy418]; with_reducible exact H2_) | (have H2_ := (Option.bind_some _ _).symm.trans H; with_reducible exact H2_) | with_reducible exact H | (rw [hy418]; exact H) | exact H);have Ny418 := Ai0.mk hy418;clear hy418;have H' := Ai0.mk H;clear H;obtain ⟨Ao43, co43, eo43⟩ := Kd.R_slice HO_14.out;subst eo43;have p414 : 0 ≤ (x81_3 : Int) := od_;have q414 : x81_3 < (x14_3.length : Int) := od_;obtain ⟨ad414, e414, hx414_0⟩ := Kd.at_int (Kd.R_reads' HO_14.out).2.2 x81_3 p414 q414;cases e414;replace p414 := eq_true p414;replace q414 := eq_true q414;obtain ⟨Ao44, co44, eo44⟩ := Kd.S_slice HO_7.out;subst eo44;have p415 : 0 ≤ (x28_1 : Int) := od_;have q415 : x28_1 < (x7_3.length : Int) := od_;obtain ⟨ad415, A415_0, c415_0, e415, hx415_0, hl415_0, hi415_0⟩ := at_L1 (Kd.S_reads' HO_7.out).2.2 x28_1 p415 q415;cases e415;obtain ⟨ce415, hce415, hMe415, hcc415⟩ := Kd.S_get HO_7.out [] x28_1 p415 (by first | exact q415 | exact od_ | (have e_ := (Kd.S_reads' HO_7.out).1; omega));obtain ⟨ve415_0, rfl, ge415_0⟩ := hMe415;have hv415_0 := hcc415 0 _ rfl;rw [Nat.add_zero, show ((Kd.slice 3 (Kd.int .i64))).sz = 1 from rfl, Nat.mul_one] at hv415_0;replace hv415_0 := Option.some.inj (hv415_0.symm.trans hx415_0);rw [hv415_0] at ge415_0;have HL415_0 := Ai0.mk (show Kd.R (Kd.int .i64) 3 _ _ _ _ (rd_L1 x7_3 x28_1) from ge415_0);clear hv415_0 ge415_0;have HX415_0 := Ai0.mk hx415_0;clear hcc415 hce415;have HR415_0 := Ai0.mk hi415_0;have HC415_0 := Ai0.mk hl415_0;clear hi415_0 hl415_0;replace p415 := eq_true p415;replace q415 := eq_true q415;have p42 : 0 ≤ (x81_3 : Int) := od_;have q42 : (x81_3 : Int) < (((rd_L1 x7_3 x28_1).length : Int) : Int) := od_;obtain ⟨go42, co42, eo42, gb42, gl42, cl42, HG42⟩ := Kd.R_form HL415_0.out (by omega);(first | cases eo42 | (injection eo42 with ea_ en_ ec_; (first | subst ea_ | (injection ea_ with ea_; subst ea_)); subst ec_; clear en_));have GB42 := Ai0.mk gb42;have GG42 := Ai0.mk HG42;clear gb42 gl42 HG42;obtain ⟨hx42_0, hf42_0⟩ := Kd.R_celln 0 HL415_0.out (x81_3 : Int) p42 q42;replace p42 := eq_true p42;replace q42 := eq_true q42;have hq45 : (x28_1 : Int) < (x7_3.length : Int) := (by have h_ : (x28_1 : Int) < ((x7_3.length : Int) : Int) := od_; first | exact h_ | (have e_ := (Kd.S_reads' HO_7.out).1; omega) | simpa only [List.length_set, List.length_set] using h_);obtain ⟨oki45, ce45, hcl45, hM45, hcc45, hok45, hbk45⟩ := Kd.S_borrow HO_7.out [] (x28_1 : Int) od_ hq45;obtain ⟨ve45_0, rfl, ge45_0⟩ := hM45;have hv45 := hcc45 0 _ rfl;rw [Nat.add_zero, show ((Kd.slice 3 (Kd.int .i64))).sz = 1 from rfl, Nat.mul_one] at hv45;replace hv45 := Option.some.inj (hv45.symm.trans HX415_0.out);subst hv45;clear hcc45 hcl45;replace ge45_0 := (show Kd.R (Kd.int .i64) 3 _ _ _ _ (rd_L1 x7_3 x28_1) from ge45_0);have HP45 := Kd.R_putg ge45_0 (x81_3 : Int) (wrap64 (-x19_32))
                       go_wp2_with (first | ((with_reducible refine gate_store (t := 3) (p := 108) rfl ?_); refine store_event (t := 3) (p := 108) (v := ?vo_w46) (w1 := (wc.setCell ⟨go42, (x81_3 : Int).toNat, none⟩ (.int .i64 (wrap64 (-x19_32))))) ?hg ?ho ?hn ?hr ?_; (case ho => rfl); (case hg => rfl); (case hn => rfl); (case hr => first | (go_simp; done) | (go_simp; rfl)); intro w46 hw; have hg : wc.grownBy w46 (some go42) := (by rw [hw]; exact HP45.2); have hz_ : Kd.R (Kd.int .i64) 3 w46 w.heap.size oki45 (.slice (some ⟨go42, 0, none⟩) (rd_L1 x7_3 x28_1).length c415_0) y416 := (by rw [hw, Ny416.out]; exact HP45.1); have hp_ : Kd.S (Kd.slice 3 (Kd.int .i64)) 25 w46 w.heap.size (fun k_ => some k_ ≠ (.slice (some ad414) x14_3.length co43 : Value).ownBlock) (.slice (some ad415) x7_3.length co44) y418 := (by rw [Ny418.out]; exact hbk45 hg (fun k_ e_ => by injection e_ with e_; subst e_; exact ge45_0.1 _ rfl) (Kd.M_row hz_)); have hm_ := Kd.R_mono hz_ hok45; clear HP45 hbk45; have n0_ := Ai0.mk (hp_); have n1_ := Ai0.mk (Kd.R_grown1 (kr_ HO_14.out) rfl hg ((HL415_0.out.1 _ rfl).1)); have n2_ := Ai0.mk (blk_grown (g := gG) (o := .cells #[.slice (some ad406) l0_0.length c0_0, .slice A0_1 l0_1.length c0_1] 73 (0, 0)) (kk_ BK402.out) hg (Kd.R_ne HL415_0.out BK402.out (by decide))); have n3_ := Ai0.mk ((by rw [hw]; exact bs1 (HB.out) GB42.out : Below w.heap.size w w46)); have n4_ := Ai0.mk (hm_); have n5_ := Ai0.mk ((Kd.R_reads' hm_).2.1); clear HO_7; clear HO_14; clear BK402; clear HB; clear HL415_0; have HO_7 := n0_; have HO_14 := n1_; have BK402 := n2_; have HB := n3_; have HL431 := n4_; have HC417 := n5_; clear n0_ n1_ n2_ n3_ n4_ n5_; clear hg hw hp_ hz_ hm_ hok45))
                       go_roundg kj32
                       case measure => have := HK1.out; have := HK2.out; have := HK3.out; have := HJ32.out; omega
                       case rel => exact ⟨(y418), (x14_3), (wrap64 (x81_3 + 1)), rf_, H', ⟨by have := HK1.out; have := HK2.out; have := HK3.out; have := HJ32.out; omega⟩, ⟨ks_ HO_7.out⟩, ⟨kr_ HO_14.out⟩, ⟨kk_ BK402.out⟩, ⟨bl_⟩⟩
                      ·rw [if_neg c41] at H;exact absurd H (by simp)
                     ·rw [if_neg c40] at H;exact absurd H (by simp)
                    ·rw [if_neg c39] at H;exact absurd H (by simp)
                   ·rw [if_neg c38] at H;have c38b0 : ((Int.tmod (wrap64 (x13_2 - 1)) 2) == 1) = false := beq_eq_false_iff_ne.mpr c38;have c38b1 : ((Int.tmod (wrap64 (x13_2 - 1)) 2) != 1) = true := bne_iff_ne.mpr c38;by_cases c47 : 0 ≤ x28_1
                    ·rw [if_pos c47] at H;have c47b0 : decide (0 ≤ x28_1) = true := decide_eq_true c47;clear c47;by_cases c48 : x28_1 < (x7_3.length : Int)
                     ·rw [if_pos c48] at H;have c48b0 : decide (x28_1 < (x7_3.length : Int)) = true := decide_eq_true c48;clear c48;by_cases c49 : x81_3 < ((rd_L1 x7_3 x28_1).length : Int)
                      ·rw [if_pos c49] at H;have c49b0 : decide (x81_3 < ((rd_L1 x7_3 x28_1).length : Int)) = true := decide_eq_true c49;clear c49;(obtain ⟨y420, hy420⟩ : ∃ y_ : List Int, y_ = ((rd_L1 x7_3 x28_1).set (x81_3 : Int).toNat x19_32) := ⟨_, rfl⟩);(replace H : (mg_round.l2 kj32 l1 l2 (x7_3.set (x28_1 : Int).toNat y420) x28_1 x10_2 x11_2 x12_2 x13_2 x14_3 l0_0 (l0_0.length : Int) x28_1 ((rd_L1 l0_0 x28_1).length : Int) (wrap64 (x81_3 + 1)) l0_0 l0_1) = some r := by first | (rw [hy420]; with_reducible exact H) | (have H2_ := (Option.bind_some _ _).symm.trans H; rw [hy420]; with_reducible exact H2_) | (have H2_ := (Option.bind_some _ _).symm.trans H; with_reducible exact H2_) | with_reducible exact H | (rw [hy420]; exact H) | exact H);have Ny420 := Ai0.mk hy420;clear hy420;(obtain ⟨y422, hy422⟩ : ∃ y_ : List (List Int), y_ = (x7_3.set (x28_1 : Int).toNat y420) := ⟨_, rfl⟩);(replace H : (mg_round.l2 kj32 l1 l2 y422 x28_1 x10_2 x11_2 x12_2 x13_2 x14_3 l0_0 (l0_0.length : Int) x28_1 ((rd_L1 l0_0 x28_1).length : Int) (wrap64 (x81_3 + 1)) l0_0 l0_1) = some r := by first | (rw [hy422]; with_reducible exact H) | (have H2_ := (Option.bind_some _ _).symm.trans H; rw [hy422]; with_reducible exact H2_) | (have H2_ := (Option.bind_some _ _).symm.trans H; with_reducible exact H2_) | with_reducible exact H | (rw [hy422]; exact H) | exact H);have Ny422 := Ai0.mk hy422;clear hy422;have H' := Ai0.mk H;clear H;obtain ⟨Ao51, co51, eo51⟩ := Kd.R_slice HO_14.out;subst eo51;have p414 : 0 ≤ (x81_3 : Int) := od_;have q414 : x81_3 < (x14_3.length : Int) := od_;obtain ⟨ad414, e414, hx414_0⟩ := Kd.at_int (Kd.R_reads' HO_14.out).2.2 x81_3 p414 q414;cases e414;replace p414 := eq_true p414;replace q414 := eq_true q414;obtain ⟨Ao52, co52, eo52⟩ := Kd.S_slice HO_7.out;subst eo52;have p419 : 0 ≤ (x28_1 : Int) := od_;have q419 : x28_1 < (x7_3.length : Int) := od_;obtain ⟨ad419, A419_0, c419_0, e419, hx419_0, hl419_0, hi419_0⟩ := at_L1 (Kd.S_reads' HO_7.out).2.2 x28_1 p419 q419;cases e419;obtain ⟨ce419, hce419, hMe419, hcc419⟩ := Kd.S_get HO_7.out [] x28_1 p419 (by first | exact q419 | exact od_ | (have e_ := (Kd.S_reads' HO_7.out).1; omega));obtain ⟨ve419_0, rfl, ge419_0⟩ := hMe419;have hv419_0 := hcc419 0 _ rfl;rw [Nat.add_zero, show ((Kd.slice 3 (Kd.int .i64))).sz = 1 from rfl, Nat.mul_one] at hv419_0;replace hv419_0 := Option.some.inj (hv419_0.symm.trans hx419_0);rw [hv419_0] at ge419_0;have HL419_0 := Ai0.mk (show Kd.R (Kd.int .i64) 3 _ _ _ _ (rd_L1 x7_3 x28_1) from ge419_0);clear hv419_0 ge419_0;have HX419_0 := Ai0.mk hx419_0;clear hcc419 hce419;have HR419_0 := Ai0.mk hi419_0;have HC419_0 := Ai0.mk hl419_0;clear hi419_0 hl419_0;replace p419 := eq_true p419;replace q419 := eq_true q419;have p50 : 0 ≤ (x81_3 : Int) := od_;have q50 : (x81_3 : Int) < (((rd_L1 x7_3 x28_1).length : Int) : Int) := od_;obtain ⟨go50, co50, eo50, gb50, gl50, cl50, HG50⟩ := Kd.R_form HL419_0.out (by omega);(first | cases eo50 | (injection eo50 with ea_ en_ ec_; (first | subst ea_ | (injection ea_ with ea_; subst ea_)); subst ec_; clear en_));have GB50 := Ai0.mk gb50;have GG50 := Ai0.mk HG50;clear gb50 gl50 HG50;obtain ⟨hx50_0, hf50_0⟩ := Kd.R_celln 0 HL419_0.out (x81_3 : Int) p50 q50;replace p50 := eq_true p50;replace q50 := eq_true q50;have hq53 : (x28_1 : Int) < (x7_3.length : Int) := (by have h_ : (x28_1 : Int) < ((x7_3.length : Int) : Int) := od_; first | exact h_ | (have e_ := (Kd.S_reads' HO_7.out).1; omega) | simpa only [List.length_set, List.length_set] using h_);obtain ⟨oki53, ce53, hcl53, hM53, hcc53, hok53, hbk53⟩ := Kd.S_borrow HO_7.out [] (x28_1 : Int) od_ hq53;obtain ⟨ve53_0, rfl, ge53_0⟩ := hM53;have hv53 := hcc53 0 _ rfl;rw [Nat.add_zero, show ((Kd.slice 3 (Kd.int .i64))).sz = 1 from rfl, Nat.mul_one] at hv53;replace hv53 := Option.some.inj (hv53.symm.trans HX419_0.out);subst hv53;clear hcc53 hcl53;replace ge53_0 := (show Kd.R (Kd.int .i64) 3 _ _ _ _ (rd_L1 x7_3 x28_1) from ge53_0);have HP53 := Kd.R_putg ge53_0 (x81_3 : Int) x19_32
                       go_wp2_with (first | ((with_reducible refine gate_store (t := 3) (p := 108) rfl ?_); refine store_event (t := 3) (p := 108) (v := ?vo_w54) (w1 := (wc.setCell ⟨go50, (x81_3 : Int).toNat, none⟩ (.int .i64 x19_32))) ?hg ?ho ?hn ?hr ?_; (case ho => rfl); (case hg => rfl); (case hn => rfl); (case hr => first | (go_simp; done) | (go_simp; rfl)); intro w54 hw; have hg : wc.grownBy w54 (some go50) := (by rw [hw]; exact HP53.2); have hz_ : Kd.R (Kd.int .i64) 3 w54 w.heap.size oki53 (.slice (some ⟨go50, 0, none⟩) (rd_L1 x7_3 x28_1).length c419_0) y420 := (by rw [hw, Ny420.out]; exact HP53.1); have hp_ : Kd.S (Kd.slice 3 (Kd.int .i64)) 25 w54 w.heap.size (fun k_ => some k_ ≠ (.slice (some ad414) x14_3.length co51 : Value).ownBlock) (.slice (some ad419) x7_3.length co52) y422 := (by rw [Ny422.out]; exact hbk53 hg (fun k_ e_ => by injection e_ with e_; subst e_; exact ge53_0.1 _ rfl) (Kd.M_row hz_)); have hm_ := Kd.R_mono hz_ hok53; clear HP53 hbk53; have n0_ := Ai0.mk (hp_); have n1_ := Ai0.mk (Kd.R_grown1 (kr_ HO_14.out) rfl hg ((HL419_0.out.1 _ rfl).1)); have n2_ := Ai0.mk (blk_grown (g := gG) (o := .cells #[.slice (some ad406) l0_0.length c0_0, .slice A0_1 l0_1.length c0_1] 73 (0, 0)) (kk_ BK402.out) hg (Kd.R_ne HL419_0.out BK402.out (by decide))); have n3_ := Ai0.mk ((by rw [hw]; exact bs1 (HB.out) GB50.out : Below w.heap.size w w54)); have n4_ := Ai0.mk (hm_); have n5_ := Ai0.mk ((Kd.R_reads' hm_).2.1); clear HO_7; clear HO_14; clear BK402; clear HB; clear HL419_0; have HO_7 := n0_; have HO_14 := n1_; have BK402 := n2_; have HB := n3_; have HL432 := n4_; have HC421 := n5_; clear n0_ n1_ n2_ n3_ n4_ n5_; clear hg hw hp_ hz_ hm_ hok53))
                       go_roundg kj32
                       case measure => have := HK1.out; have := HK2.out; have := HK3.out; have := HJ32.out; omega
                       case rel => exact ⟨(y422), (x14_3), (wrap64 (x81_3 + 1)), rf_, H', ⟨by have := HK1.out; have := HK2.out; have := HK3.out; have := HJ32.out; omega⟩, ⟨ks_ HO_7.out⟩, ⟨kr_ HO_14.out⟩, ⟨kk_ BK402.out⟩, ⟨bl_⟩⟩
                      ·rw [if_neg c49] at H;exact absurd H (by simp)
                     ·rw [if_neg c48] at H;exact absurd H (by simp)
                    ·rw [if_neg c47] at H;exact absurd H (by simp)
                  ·rw [if_neg c37] at H;have c37b0 : decide ((rd x14_3 x81_3) < 0) = false := decide_eq_false c37;clear c37;by_cases c55 : (Int.tmod x13_2 2) = 1
                   ·rw [if_pos c55] at H;have c55b0 : ((Int.tmod x13_2 2) == 1) = true := beq_iff_eq.mpr c55;have c55b1 : ((Int.tmod x13_2 2) != 1) = false := bne_eq_false_iff_eq.mpr c55;clear c55;by_cases c56 : 0 ≤ x28_1
                    ·rw [if_pos c56] at H;have c56b0 : decide (0 ≤ x28_1) = true := decide_eq_true c56;clear c56;by_cases c57 : x28_1 < (x7_3.length : Int)
                     ·rw [if_pos c57] at H;have c57b0 : decide (x28_1 < (x7_3.length : Int)) = true := decide_eq_true c57;clear c57;by_cases c58 : x81_3 < ((rd_L1 x7_3 x28_1).length : Int)
                      ·rw [if_pos c58] at H;have c58b0 : decide (x81_3 < ((rd_L1 x7_3 x28_1).length : Int)) = true := decide_eq_true c58;clear c58;(obtain ⟨y424, hy424⟩ : ∃ y_ : List Int, y_ = ((rd_L1 x7_3 x28_1).set (x81_3 : Int).toNat (wrap64 (-x19_32))) := ⟨_, rfl⟩);(replace H : (mg_round.l2 kj32 l1 l2 (x7_3.set (x28_1 : Int).toNat y424) x28_1 x10_2 x11_2 x12_2 x13_2 x14_3 l0_0 (l0_0.length : Int) x28_1 ((rd_L1 l0_0 x28_1).length : Int) (wrap64 (x81_3 + 1)) l0_0 l0_1) = some r := by first | (rw [hy424]; with_reducible exact H) | (have H2_ := (Option.bind_some _ _).symm.trans H; rw [hy424]; with_reducible exact H2_) | (have H2_ := (Option.bind_some _ _).symm.trans H; with_reducible exact H2_) | with_reducible exact H | (rw [hy424]; exact H) | exact H);have Ny424 := Ai0.mk hy424;clear hy424;(obtain ⟨y426, hy426⟩ : ∃ y_ : List (List Int), y_ = (x7_3.set (x28_1 : Int).toNat y424) := ⟨_, rfl⟩);(replace H : (mg_round.l2 kj32 l1 l2 y426 x28_1 x10_2 x11_2 x12_2 x13_2 x14_3 l0_0 (l0_0.length : Int) x28_1 ((rd_L1 l0_0 x28_1).length : Int) (wrap64 (x81_3 + 1)) l0_0 l0_1) = some r := by first | (rw [hy426]; with_reducible exact H) | (have H2_ := (Option.bind_some _ _).symm.trans H; rw [hy426]; with_reducible exact H2_) | (have H2_ := (Option.bind_some _ _).symm.trans H; with_reducible exact H2_) | with_reducible exact H | (rw [hy426]; exact H) | exact H);have Ny426 := Ai0.mk hy426;clear hy426;have H' := Ai0.mk H;clear H;obtain ⟨Ao60, co60, eo60⟩ := Kd.R_slice HO_14.out;subst eo60;have p414 : 0 ≤ (x81_3 : Int) := od_;have q414 : x81_3 < (x14_3.length : Int) := od_;obtain ⟨ad414, e414, hx414_0⟩ := Kd.at_int (Kd.R_reads' HO_14.out).2.2 x81_3 p414 q414;cases e414;replace p414 := eq_true p414;replace q414 := eq_true q414;obtain ⟨Ao61, co61, eo61⟩ := Kd.S_slice HO_7.out;subst eo61;have p423 : 0 ≤ (x28_1 : Int) := od_;have q423 : x28_1 < (x7_3.length : Int) := od_;obtain ⟨ad423, A423_0, c423_0, e423, hx423_0, hl423_0, hi423_0⟩ := at_L1 (Kd.S_reads' HO_7.out).2.2 x28_1 p423 q423;cases e423;obtain ⟨ce423, hce423, hMe423, hcc423⟩ := Kd.S_get HO_7.out [] x28_1 p423 (by first | exact q423 | exact od_ | (have e_ := (Kd.S_reads' HO_7.out).1; omega));obtain ⟨ve423_0, rfl, ge423_0⟩ := hMe423;have hv423_0 := hcc423 0 _ rfl;rw [Nat.add_zero, show ((Kd.slice 3 (Kd.int .i64))).sz = 1 from rfl, Nat.mul_one] at hv423_0;replace hv423_0 := Option.some.inj (hv423_0.symm.trans hx423_0);rw [hv423_0] at ge423_0;have HL423_0 := Ai0.mk (show Kd.R (Kd.int .i64) 3 _ _ _ _ (rd_L1 x7_3 x28_1) from ge423_0);clear hv423_0 ge423_0;have HX423_0 := Ai0.mk hx423_0;clear hcc423 hce423;have HR423_0 := Ai0.mk hi423_0;have HC423_0 := Ai0.mk hl423_0;clear hi423_0 hl423_0;replace p423 := eq_true p423;replace q423 := eq_true q423;have p59 : 0 ≤ (x81_3 : Int) := od_;have q59 : (x81_3 : Int) < (((rd_L1 x7_3 x28_1).length : Int) : Int) := od_;obtain ⟨go59, co59, eo59, gb59, gl59, cl59, HG59⟩ := Kd.R_form HL423_0.out (by omega);(first | cases eo59 | (injection eo59 with ea_ en_ ec_; (first | subst ea_ | (injection ea_ with ea_; subst ea_)); subst ec_; clear en_));have GB59 := Ai0.mk gb59;have GG59 := Ai0.mk HG59;clear gb59 gl59 HG59;obtain ⟨hx59_0, hf59_0⟩ := Kd.R_celln 0 HL423_0.out (x81_3 : Int) p59 q59;replace p59 := eq_true p59;replace q59 := eq_true q59;have hq62 : (x28_1 : Int) < (x7_3.length : Int) := (by have h_ : (x28_1 : Int) < ((x7_3.length : Int) : Int) := od_; first | exact h_ | (have e_ := (Kd.S_reads' HO_7.out).1; omega) | simpa only [List.length_set, List.length_set] using h_);obtain ⟨oki62, ce62, hcl62, hM62, hcc62, hok62, hbk62⟩ := Kd.S_borrow HO_7.out [] (x28_1 : Int) od_ hq62;obtain ⟨ve62_0, rfl, ge62_0⟩ := hM62;have hv62 := hcc62 0 _ rfl;rw [Nat.add_zero, show ((Kd.slice 3 (Kd.int .i64))).sz = 1 from rfl, Nat.mul_one] at hv62;replace hv62 := Option.some.inj (hv62.symm.trans HX423_0.out);subst hv62;clear hcc62 hcl62;replace ge62_0 := (show Kd.R (Kd.int .i64) 3 _ _ _ _ (rd_L1 x7_3 x28_1) from ge62_0);have HP62 := Kd.R_putg ge62_0 (x81_3 : Int) (wrap64 (-x19_32))
                       go_wp2_with (first | ((with_reducible refine gate_store (t := 3) (p := 108) rfl ?_); refine store_event (t := 3) (p := 108) (v := ?vo_w63) (w1 := (wc.setCell ⟨go59, (x81_3 : Int).toNat, none⟩ (.int .i64 (wrap64 (-x19_32))))) ?hg ?ho ?hn ?hr ?_; (case ho => rfl); (case hg => rfl); (case hn => rfl); (case hr => first | (go_simp; done) | (go_simp; rfl)); intro w63 hw; have hg : wc.grownBy w63 (some go59) := (by rw [hw]; exact HP62.2); have hz_ : Kd.R (Kd.int .i64) 3 w63 w.heap.size oki62 (.slice (some ⟨go59, 0, none⟩) (rd_L1 x7_3 x28_1).length c423_0) y424 := (by rw [hw, Ny424.out]; exact HP62.1); have hp_ : Kd.S (Kd.slice 3 (Kd.int .i64)) 25 w63 w.heap.size (fun k_ => some k_ ≠ (.slice (some ad414) x14_3.length co60 : Value).ownBlock) (.slice (some ad423) x7_3.length co61) y426 := (by rw [Ny426.out]; exact hbk62 hg (fun k_ e_ => by injection e_ with e_; subst e_; exact ge62_0.1 _ rfl) (Kd.M_row hz_)); have hm_ := Kd.R_mono hz_ hok62; clear HP62 hbk62; have n0_ := Ai0.mk (hp_); have n1_ := Ai0.mk (Kd.R_grown1 (kr_ HO_14.out) rfl hg ((HL423_0.out.1 _ rfl).1)); have n2_ := Ai0.mk (blk_grown (g := gG) (o := .cells #[.slice (some ad406) l0_0.length c0_0, .slice A0_1 l0_1.length c0_1] 73 (0, 0)) (kk_ BK402.out) hg (Kd.R_ne HL423_0.out BK402.out (by decide))); have n3_ := Ai0.mk ((by rw [hw]; exact bs1 (HB.out) GB59.out : Below w.heap.size w w63)); have n4_ := Ai0.mk (hm_); have n5_ := Ai0.mk ((Kd.R_reads' hm_).2.1); clear HO_7; clear HO_14; clear BK402; clear HB; clear HL423_0; have HO_7 := n0_; have HO_14 := n1_; have BK402 := n2_; have HB := n3_; have HL433 := n4_; have HC425 := n5_; clear n0_ n1_ n2_ n3_ n4_ n5_; clear hg hw hp_ hz_ hm_ hok62))
                       go_roundg kj32
                       case measure => have := HK1.out; have := HK2.out; have := HK3.out; have := HJ32.out; omega
                       case rel => exact ⟨(y426), (x14_3), (wrap64 (x81_3 + 1)), rf_, H', ⟨by have := HK1.out; have := HK2.out; have := HK3.out; have := HJ32.out; omega⟩, ⟨ks_ HO_7.out⟩, ⟨kr_ HO_14.out⟩, ⟨kk_ BK402.out⟩, ⟨bl_⟩⟩
                      ·rw [if_neg c58] at H;exact absurd H (by simp)
                     ·rw [if_neg c57] at H;exact absurd H (by simp)
                    ·rw [if_neg c56] at H;exact absurd H (by simp)
                   ·rw [if_neg c55] at H;have c55b0 : ((Int.tmod x13_2 2) == 1) = false := beq_eq_false_iff_ne.mpr c55;have c55b1 : ((Int.tmod x13_2 2) != 1) = true := bne_iff_ne.mpr c55;by_cases c64 : 0 ≤ x28_1
                    ·rw [if_pos c64] at H;have c64b0 : decide (0 ≤ x28_1) = true := decide_eq_true c64;clear c64;by_cases c65 : x28_1 < (x7_3.length : Int)
                     ·rw [if_pos c65] at H;have c65b0 : decide (x28_1 < (x7_3.length : Int)) = true := decide_eq_true c65;clear c65;by_cases c66 : x81_3 < ((rd_L1 x7_3 x28_1).length : Int)
                      ·rw [if_pos c66] at H;have c66b0 : decide (x81_3 < ((rd_L1 x7_3 x28_1).length : Int)) = true := decide_eq_true c66;clear c66;(obtain ⟨y428, hy428⟩ : ∃ y_ : List Int, y_ = ((rd_L1 x7_3 x28_1).set (x81_3 : Int).toNat x19_32) := ⟨_, rfl⟩);(replace H : (mg_round.l2 kj32 l1 l2 (x7_3.set (x28_1 : Int).toNat y428) x28_1 x10_2 x11_2 x12_2 x13_2 x14_3 l0_0 (l0_0.length : Int) x28_1 ((rd_L1 l0_0 x28_1).length : Int) (wrap64 (x81_3 + 1)) l0_0 l0_1) = some r := by first | (rw [hy428]; with_reducible exact H) | (have H2_ := (Option.bind_some _ _).symm.trans H; rw [hy428]; with_reducible exact H2_) | (have H2_ := (Option.bind_some _ _).symm.trans H; with_reducible exact H2_) | with_reducible exact H | (rw [hy428]; exact H) | exact H);have Ny428 := Ai0.mk hy428;clear hy428;(obtain ⟨y430, hy430⟩ : ∃ y_ : List (List Int), y_ = (x7_3.set (x28_1 : Int).toNat y428) := ⟨_, rfl⟩);(replace H : (mg_round.l2 kj32 l1 l2 y430 x28_1 x10_2 x11_2 x12_2 x13_2 x14_3 l0_0 (l0_0.length : Int) x28_1 ((rd_L1 l0_0 x28_1).length : Int) (wrap64 (x81_3 + 1)) l0_0 l0_1) = some r := by first | (rw [hy430]; with_reducible exact H) | (have H2_ := (Option.bind_some _ _).symm.trans H; rw [hy430]; with_reducible exact H2_) | (have H2_ := (Option.bind_some _ _).symm.trans H; with_reducible exact H2_) | with_reducible exact H | (rw [hy430]; exact H) | exact H);have Ny430 := Ai0.mk hy430;clear hy430;have H' := Ai0.mk H;clear H;obtain ⟨Ao68, co68, eo68⟩ := Kd.R_slice HO_14.out;subst eo68;have p414 : 0 ≤ (x81_3 : Int) := od_;have q414 : x81_3 < (x14_3.length : Int) := od_;obtain ⟨ad414, e414, hx414_0⟩ := Kd.at_int (Kd.R_reads' HO_14.out).2.2 x81_3 p414 q414;cases e414;replace p414 := eq_true p414;replace q414 := eq_true q414;obtain ⟨Ao69, co69, eo69⟩ := Kd.S_slice HO_7.out;subst eo69;have p427 : 0 ≤ (x28_1 : Int) := od_;have q427 : x28_1 < (x7_3.length : Int) := od_;obtain ⟨ad427, A427_0, c427_0, e427, hx427_0, hl427_0, hi427_0⟩ := at_L1 (Kd.S_reads' HO_7.out).2.2 x28_1 p427 q427;cases e427;obtain ⟨ce427, hce427, hMe427, hcc427⟩ := Kd.S_get HO_7.out [] x28_1 p427 (by first | exact q427 | exact od_ | (have e_ := (Kd.S_reads' HO_7.out).1; omega));obtain ⟨ve427_0, rfl, ge427_0⟩ := hMe427;have hv427_0 := hcc427 0 _ rfl;rw [Nat.add_zero, show ((Kd.slice 3 (Kd.int .i64))).sz = 1 from rfl, Nat.mul_one] at hv427_0;replace hv427_0 := Option.some.inj (hv427_0.symm.trans hx427_0);rw [hv427_0] at ge427_0;have HL427_0 := Ai0.mk (show Kd.R (Kd.int .i64) 3 _ _ _ _ (rd_L1 x7_3 x28_1) from ge427_0);clear hv427_0 ge427_0;have HX427_0 := Ai0.mk hx427_0;clear hcc427 hce427;have HR427_0 := Ai0.mk hi427_0;have HC427_0 := Ai0.mk hl427_0;clear hi427_0 hl427_0;replace p427 := eq_true p427;replace q427 := eq_true q427;have p67 : 0 ≤ (x81_3 : Int) := od_;have q67 : (x81_3 : Int) < (((rd_L1 x7_3 x28_1).length : Int) : Int) := od_;obtain ⟨go67, co67, eo67, gb67, gl67, cl67, HG67⟩ := Kd.R_form HL427_0.out (by omega);(first | cases eo67 | (injection eo67 with ea_ en_ ec_; (first | subst ea_ | (injection ea_ with ea_; subst ea_)); subst ec_; clear en_));have GB67 := Ai0.mk gb67;have GG67 := Ai0.mk HG67;clear gb67 gl67 HG67;obtain ⟨hx67_0, hf67_0⟩ := Kd.R_celln 0 HL427_0.out (x81_3 : Int) p67 q67;replace p67 := eq_true p67;replace q67 := eq_true q67;have hq70 : (x28_1 : Int) < (x7_3.length : Int) := (by have h_ : (x28_1 : Int) < ((x7_3.length : Int) : Int) := od_; first | exact h_ | (have e_ := (Kd.S_reads' HO_7.out).1; omega) | simpa only [List.length_set, List.length_set] using h_);obtain ⟨oki70, ce70, hcl70, hM70, hcc70, hok70, hbk70⟩ := Kd.S_borrow HO_7.out [] (x28_1 : Int) od_ hq70;obtain ⟨ve70_0, rfl, ge70_0⟩ := hM70;have hv70 := hcc70 0 _ rfl;rw [Nat.add_zero, show ((Kd.slice 3 (Kd.int .i64))).sz = 1 from rfl, Nat.mul_one] at hv70;replace hv70 := Option.some.inj (hv70.symm.trans HX427_0.out);subst hv70;clear hcc70 hcl70;replace ge70_0 := (show Kd.R (Kd.int .i64) 3 _ _ _ _ (rd_L1 x7_3 x28_1) from ge70_0);have HP70 := Kd.R_putg ge70_0 (x81_3 : Int) x19_32
                       go_wp2_with (first | ((with_reducible refine gate_store (t := 3) (p := 108) rfl ?_); refine store_event (t := 3) (p := 108) (v := ?vo_w71) (w1 := (wc.setCell ⟨go67, (x81_3 : Int).toNat, none⟩ (.int .i64 x19_32))) ?hg ?ho ?hn ?hr ?_; (case ho => rfl); (case hg => rfl); (case hn => rfl); (case hr => first | (go_simp; done) | (go_simp; rfl)); intro w71 hw; have hg : wc.grownBy w71 (some go67) := (by rw [hw]; exact HP70.2); have hz_ : Kd.R (Kd.int .i64) 3 w71 w.heap.size oki70 (.slice (some ⟨go67, 0, none⟩) (rd_L1 x7_3 x28_1).length c427_0) y428 := (by rw [hw, Ny428.out]; exact HP70.1); have hp_ : Kd.S (Kd.slice 3 (Kd.int .i64)) 25 w71 w.heap.size (fun k_ => some k_ ≠ (.slice (some ad414) x14_3.length co68 : Value).ownBlock) (.slice (some ad427) x7_3.length co69) y430 := (by rw [Ny430.out]; exact hbk70 hg (fun k_ e_ => by injection e_ with e_; subst e_; exact ge70_0.1 _ rfl) (Kd.M_row hz_)); have hm_ := Kd.R_mono hz_ hok70; clear HP70 hbk70; have n0_ := Ai0.mk (hp_); have n1_ := Ai0.mk (Kd.R_grown1 (kr_ HO_14.out) rfl hg ((HL427_0.out.1 _ rfl).1)); have n2_ := Ai0.mk (blk_grown (g := gG) (o := .cells #[.slice (some ad406) l0_0.length c0_0, .slice A0_1 l0_1.length c0_1] 73 (0, 0)) (kk_ BK402.out) hg (Kd.R_ne HL427_0.out BK402.out (by decide))); have n3_ := Ai0.mk ((by rw [hw]; exact bs1 (HB.out) GB67.out : Below w.heap.size w w71)); have n4_ := Ai0.mk (hm_); have n5_ := Ai0.mk ((Kd.R_reads' hm_).2.1); clear HO_7; clear HO_14; clear BK402; clear HB; clear HL427_0; have HO_7 := n0_; have HO_14 := n1_; have BK402 := n2_; have HB := n3_; have HL434 := n4_; have HC429 := n5_; clear n0_ n1_ n2_ n3_ n4_ n5_; clear hg hw hp_ hz_ hm_ hok70))
                       go_roundg kj32
                       case measure => have := HK1.out; have := HK2.out; have := HK3.out; have := HJ32.out; omega
                       case rel => exact ⟨(y430), (x14_3), (wrap64 (x81_3 + 1)), rf_, H', ⟨by have := HK1.out; have := HK2.out; have := HK3.out; have := HJ32.out; omega⟩, ⟨ks_ HO_7.out⟩, ⟨kr_ HO_14.out⟩, ⟨kk_ BK402.out⟩, ⟨bl_⟩⟩
                      ·rw [if_neg c66] at H;exact absurd H (by simp)
                     ·rw [if_neg c65] at H;exact absurd H (by simp)
                    ·rw [if_neg c64] at H;exact absurd H (by simp)
                 ·rw [if_neg c36] at H;exact absurd H (by simp)
                ·rw [if_neg c35] at H;exact absurd H (by simp)
             ·rw [if_neg c32] at H;have c32b0 : decide (x81_3 < ((rd_L1 l0_0 x28_1).length : Int)) = false := decide_eq_false c32;clear c32;have H' := Ai0.mk H;clear H
              go_wp2
              go_roundg k3
              case measure => have := HK1.out; have := HK2.out; have := HK3.out; omega
              case rel => exact ⟨(x7_3), (wrap64 (x28_1 + 1)), rf_, H', ⟨by have := HK1.out; have := HK2.out; have := HK3.out; omega⟩, ⟨by (with_reducible repeat (first | apply Kd.S_alloc | apply Kd.S_drewN | apply Kd.S_drew)); exact Kd.S_mono HO_7.out (fun _ hk => trivial)⟩, ⟨kk_ BK402.out⟩, ⟨bl_⟩⟩
       ·rw [if_neg c13] at H;exact absurd H (by simp)
      ·rw [if_neg c12] at H;exact absurd H (by simp)
     ·rw [if_neg c11] at H;exact absurd H (by simp)
    ·rw [if_neg c10] at H;exact absurd H (by simp)
   ·rw [if_neg c9] at H;have c9b0 : decide (x28_1 < (l0_0.length : Int)) = false := decide_eq_false c9;clear c9;obtain rfl := Option.some.inj H
    go_wp2
    go_ret
    exact ⟨_, by first | rfl | (simp [eW0, eW1] <;> rfl) | (simp [*, eW0, eW1] <;> rfl), by (with_reducible repeat (first | apply Kd.S_alloc | apply Kd.S_drewN | apply Kd.S_drew)); exact HO_7.out, bl_⟩
def mg_beliefs.l0 : Nat → List Int → List (List Int) → List Int → Int → Int → List (List Int) → List (List (S77)) → Option (List Int)
 | 0, _, _, _, _, _, _, _ => none
 | k + 1, x1, x2, x7, x13, x14, x436000, x436001 => if x14 < x13 then ((mg_sum.f k x436000 x436001 x1 x2 x14 (-1)).bind fun t439 => (if 0 ≤ x14 then (if x14 < (x7.length : Int) then (mg_beliefs.l0 k x1 x2 (x7.set (x14 : Int).toNat t439) x13 (wrap64 (x14 + 1)) x436000 x436001) else (none)) else (none))) else (some x7)
def mg_beliefs.f (k : Nat) (l0_0 : List (List Int)) (l0_1 : List (List (S77))) (l1 : List Int) (l2 : List (List Int)) : Option (List Int) := if 0 ≤ (l1.length : Int) then (if ((l1.length : Int) : Int).toNat ≤ 35184372088832 then (mg_beliefs.l0 k l1 l2 (List.replicate ((l1.length : Int) : Int).toNat 0) (l1.length : Int) 0 l0_0 l0_1) else (none)) else (none)
theorem mg_beliefs.mono_l : ∀ k, (∀ y0 y1 y2 y3 y4 y5 y6, LeO (mg_beliefs.l0 k y0 y1 y2 y3 y4 y5 y6) (mg_beliefs.l0 (k + 1) y0 y1 y2 y3 y4 y5 y6))
 | 0 => fun _ _ _ _ _ _ _ r h => by simp [mg_beliefs.l0] at h
 | k + 1 => by
  have ih0 := mg_beliefs.mono_l k
  ·intro y0 y1 y2 y3 y4 y5 y6;unfold mg_beliefs.l0
   repeat' first
   | (with_reducible exact ih0 _ _ _ _ _ _ _)
   | (with_reducible exact mg_sum.mono _ _ _ _ _ _ _)
   | (with_reducible exact LeO.refl _)
   | (with_reducible exact LeO.none _)
   | (with_reducible refine LeO.ite ?_ ?_)
   | (with_reducible refine LeO.bind ?_ (fun _ => ?_))
   | exact ih0 _ _ _ _ _ _ _
   | exact mg_sum.mono _ _ _ _ _ _ _
   | exact LeO.none _
   | refine LeO.ite ?_ ?_
   | refine LeO.bind ?_ (fun _ => ?_)
theorem mg_beliefs.mono : ∀ a0 a1 a2 a3 k, LeO (mg_beliefs.f k a0 a1 a2 a3) (mg_beliefs.f (k + 1) a0 a1 a2 a3) := by
 intro a0 a1 a2 a3 k;have ih0 := mg_beliefs.mono_l k;unfold mg_beliefs.f
 repeat' first
   | (with_reducible exact ih0 _ _ _ _ _ _ _)
   | (with_reducible exact mg_sum.mono _ _ _ _ _ _ _)
   | (with_reducible exact LeO.refl _)
   | (with_reducible exact LeO.none _)
   | (with_reducible refine LeO.ite ?_ ?_)
   | (with_reducible refine LeO.bind ?_ (fun _ => ?_))
   | exact ih0 _ _ _ _ _ _ _
   | exact mg_sum.mono _ _ _ _ _ _ _
   | exact LeO.none _
   | refine LeO.ite ?_ ?_
   | refine LeO.bind ?_ (fun _ => ?_)
set_option maxHeartbeats 8000000 in
set_option maxRecDepth 100000 in
theorem mg_beliefs.calls (k : Nat) (A0_0 : Option Addr) (c0_0 : Nat) (l0_0 : List (List Int)) (A0_1 : Option Addr) (c0_1 : Nat) (l0_1 : List (List (S77))) (A1 : Option Addr) (c1 : Nat) (l1 : List Int) (A2 : Option Addr) (c2 : Nat) (l2 : List (List Int)) (r : List Int) (gG : Nat) (w : World) (hr0_0 : Kd.C (Kd.slice 3 (Kd.int .i64)) w A0_0 l0_0.length l0_0) (hc0_0 : l0_0.length ≤ c0_0) (hr0_1 : Kd.C (Kd.slice 77 k77) w A0_1 l0_1.length l0_1) (hc0_1 : l0_1.length ≤ c0_1) (hr1 : Kd.C (Kd.int .i64) w A1 l1.length l1) (hc1 : l1.length ≤ c1) (hr2 : Kd.C (Kd.slice 3 (Kd.int .i64)) w A2 l2.length l2) (hc2 : l2.length ≤ c2) (hG : w.heap[gG]? = some (.cells #[.slice A0_0 l0_0.length c0_0, .slice A0_1 l0_1.length c0_1] 73 (0, 0))) (h : mg_beliefs.f k l0_0 l0_1 l1 l2 = some r) :
  Calls Try.prog 48 #[.pointer (some ⟨gG, 0, none⟩), .slice A1 l1.length c1, .slice A2 l2.length c2] w fun e w' => ∃ v0_ : Value, e = .returned (v0_) ∧ Kd.R (Kd.int .i64) 3 w' w.heap.size (fun _ => True) v0_ r ∧ Below w.heap.size w w' := by
 have hu73 := Try.underlying73;have HR0_0 := Ai0.mk hr0_0;have HC0_0 := Ai0.mk hc0_0;clear hr0_0 hc0_0;have HR0_1 := Ai0.mk hr0_1;have HC0_1 := Ai0.mk hc0_1;clear hr0_1 hc0_1;have HR1 := Ai0.mk hr1;have HC1 := Ai0.mk hc1;clear hr1 hc1;have HR2 := Ai0.mk hr2;have HC2 := Ai0.mk hc2;clear hr2 hc2;have HB := Ai0.mk (Below.refl w.heap.size w);have H : (if 0 ≤ (l1.length : Int) then (if ((l1.length : Int) : Int).toNat ≤ 35184372088832 then (mg_beliefs.l0 k l1 l2 (List.replicate ((l1.length : Int) : Int).toNat 0) (l1.length : Int) 0 l0_0 l0_1) else (none)) else (none)) = some r := h;clear h;by_cases c4 : 0 ≤ (l1.length : Int)
 ·rw [if_pos c4] at H;have c4b0 := eq_true c4;have c4b1 : decide (0 ≤ (l1.length : Int)) = true := decide_eq_true c4;clear c4;by_cases c5 : ((l1.length : Int) : Int).toNat ≤ 35184372088832
  ·rw [if_pos c5] at H;have c5b0 := eq_true c5;have c5b1 : decide (((l1.length : Int) : Int).toNat ≤ 35184372088832) = true := decide_eq_true c5;clear c5;obtain ⟨y436, hy436⟩ : ∃ y_ : List Int, y_ = (List.replicate ((l1.length : Int) : Int).toNat 0) := ⟨_, rfl⟩
   replace H : (mg_beliefs.l0 k l1 l2 y436 (l1.length : Int) 0 l0_0 l0_1) = some r := by first | (rw [hy436]; with_reducible exact H) | (have H2_ := (Option.bind_some _ _).symm.trans H; rw [hy436]; with_reducible exact H2_) | (have H2_ := (Option.bind_some _ _).symm.trans H; with_reducible exact H2_) | with_reducible exact H | (rw [hy436]; exact H) | exact H
   have Ny436 := Ai0.mk hy436;clear hy436;have H' := Ai0.mk H;clear H;have BK435 := Ai0.mk hG;go_enter Try.func48, Try.ntmps48
   go_wp2_with (first | ((with_reducible refine gate_dst (N := 11) rfl ?_); refine Kd.R_make (Kd.int .i64) _ 3 rfl (N := 11) rfl 25 _ _ rfl (l1.length : Int) rfl rfl Try.underlying25 (.int .i64 0) 8 info3 rfl (by decide) (by omega) 0 (ok := fun _ => True) (okp := fun _ => True) rfl (fun _ hk => hk) trivial od_ (Nat.le_trans (Nat.mul_le_mul_right _ (od_ : (l1.length : Int).toNat ≤ 35184372088832)) (by omega)) (Below.refl _ _) (Nat.le_refl _) ?_; intro v437 w7 ho8 hb hg_ hnew_; clear hg_ hnew_; (first | rw [← Ny436.out] at ho8 | (simp only [Int.reduceToNat] at ho8; rw [← Ny436.out] at ho8)); have n0_ := Ai0.mk (Kd.R_lower ho8 (bz1 bl_)); have n1_ := Ai0.mk (kb1 (g := gG) (o := .cells #[.slice A0_0 l0_0.length c0_0, .slice A0_1 l0_1.length c0_1] 73 (0, 0)) (kk_ BK435.out) hb); have n2_ := Ai0.mk (bt1 bl_ hb); clear BK435; clear HB; have HO438 := n0_; have BK435 := n1_; have HB := n2_; clear n0_ n1_ n2_; clear hb ho8))
   go_loopg [14] k (fun kq v14 w' => ∃ (x7_1 : List Int) (x14_1 : Int), v14 = .int .i64 x14_1 ∧ Ai0 (mg_beliefs.l0 kq l1 l2 x7_1 (l1.length : Int) x14_1 l0_0 l0_1 = some r) ∧ Ai0 (kq ≤ k) ∧ Ai0 (Kd.R (Kd.int .i64) 3 w' w.heap.size (fun _ => True) v437 x7_1) ∧ Ai0 (w'.heap[gG]? = some (.cells #[(.slice A0_0 l0_0.length c0_0), (.slice A0_1 l0_1.length c0_1)] 73 (0, 0))) ∧ Ai0 (Below w.heap.size w w'))
   case atStart => exact ⟨(y436), (0), rf_, H', ⟨Nat.le_refl _⟩, ⟨kr_ HO438.out⟩, ⟨kk_ BK435.out⟩, ⟨bl_⟩⟩
   case round =>
    clear H'
    try clear c1
    try clear c2
    try clear p2
    try clear c4
    try clear c4b0
    try clear c4b1
    try clear c5
    try clear c5b0
    try clear c5b1
    obtain ⟨x7_1, x14_1, rfl, HA, HK1, HO_7, BK435, HB⟩ := hrel
    cases gk with
    | zero => exact absurd HA.out (by simp [mg_beliefs.l0])
    | succ k1 =>
     have H := HA.out;clear HA;simp only [mg_beliefs.l0] at H;by_cases c9 : x14_1 < (l1.length : Int)
     ·rw [if_pos c9] at H;have c9b0 : decide (x14_1 < (l1.length : Int)) = true := decide_eq_true c9;clear c9;replace H := Option.bind_eq_some_iff.mp H;obtain ⟨t439, A100, H⟩ := H;replace H : (if 0 ≤ x14_1 then (if x14_1 < (x7_1.length : Int) then (mg_beliefs.l0 k1 l1 l2 (x7_1.set (x14_1 : Int).toNat t439) (l1.length : Int) (wrap64 (x14_1 + 1)) l0_0 l0_1) else (none)) else (none)) = some r := H;have A10 := Ai0.mk A100;clear A100;by_cases c11 : 0 ≤ x14_1
      ·rw [if_pos c11] at H;have c11b0 : decide (0 ≤ x14_1) = true := decide_eq_true c11;clear c11;by_cases c12 : x14_1 < (x7_1.length : Int)
       ·rw [if_pos c12] at H;have c12b0 : decide (x14_1 < (x7_1.length : Int)) = true := decide_eq_true c12;clear c12;(obtain ⟨y440, hy440⟩ : ∃ y_ : List Int, y_ = (x7_1.set (x14_1 : Int).toNat t439) := ⟨_, rfl⟩);(replace H : (mg_beliefs.l0 k1 l1 l2 y440 (l1.length : Int) (wrap64 (x14_1 + 1)) l0_0 l0_1) = some r := by first | (rw [hy440]; with_reducible exact H) | (have H2_ := (Option.bind_some _ _).symm.trans H; rw [hy440]; with_reducible exact H2_) | (have H2_ := (Option.bind_some _ _).symm.trans H; with_reducible exact H2_) | with_reducible exact H | (rw [hy440]; exact H) | exact H);have Ny440 := Ai0.mk hy440;clear hy440;have H' := Ai0.mk H;clear H;have hcz14_0 : wr.cell? ⟨gG, 0, none⟩ = some (.slice A0_0 l0_0.length c0_0) := (kc1 BK435.out 0).trans rfl;have hcz14_1 : wr.cell? ⟨gG, 1, none⟩ = some (.slice A0_1 l0_1.length c0_1) := (kc1 BK435.out 1).trans rfl;have hfz14_0 := kf1 BK435.out 0;have hfz14_1 := kf1 BK435.out 1
        go_wp2_with (first | ((with_reducible refine gate_callee (f := 69) rfl ?_); refine goesL_ (some 23) rfl rfl Try.func69 (by kernel_rfl) rfl #[.pointer (some ⟨gG, 0, none⟩), .slice A1 l1.length c1, .slice A2 l2.length c2, .int .i64 x14_1, .int .i64 (-1)] rfl (by (try simp only [List.map_toArray, List.map_cons, List.map_nil]); first | done | rfl | (simp only [List.length_drop, List.length_take]; rfl)) ?_; (with_reducible refine (mg_sum.calls k1 A0_0 c0_0 l0_0 A0_1 c0_1 l0_1 _ _ l1 _ _ l2 x14_1 (-1) t439 gG _ ?side1 ?side2 ?side3 ?side4 ?side5 ?side6 ?side7 ?side8 ?sideG A10.out).mono ?_); (case sideG => (with_reducible repeat (first | refine kn1 ?_ _ | refine kd1 ?_ | refine ka1 ?_ _)); exact BK435.out); (case side1 => exact kc_ HR0_0.out); (case side2 => exact HC0_0.out); (case side3 => exact kc_ HR0_1.out); (case side4 => exact HC0_1.out); (case side5 => exact kc_ HR1.out); (case side6 => exact HC1.out); (case side7 => exact kc_ HR2.out); (case side8 => exact HC2.out); rintro e w15 ⟨rfl, hb⟩; refine ⟨_, rfl, ?_⟩; have n0_ := Ai0.mk (Kd.R_below (kr_ HO_7.out) hb); have n1_ := Ai0.mk (kb1 (g := gG) (o := .cells #[.slice A0_0 l0_0.length c0_0, .slice A0_1 l0_1.length c0_1] 73 (0, 0)) (kk_ BK435.out) hb); have n2_ := Ai0.mk (bt1 bl_ hb); clear HO_7; clear BK435; clear HB; have HO_7 := n0_; have BK435 := n1_; have HB := n2_; clear n0_ n1_ n2_; (try clear hb); (try clear hb2); (try clear hk); (try clear hi); have p13 : 0 ≤ (x14_1 : Int) := od_; have q13 : (x14_1 : Int) < ((x7_1.length : Int) : Int) := od_; obtain ⟨go13, co13, eo13, gb13, gl13, cl13, HG13⟩ := Kd.R_form HO_7.out (by omega); (first | cases eo13 | (injection eo13 with ea_ en_ ec_; (first | subst ea_ | (injection ea_ with ea_; subst ea_)); subst ec_; clear en_)); have GB13 := Ai0.mk gb13; have GG13 := Ai0.mk HG13; clear gb13 gl13 HG13; obtain ⟨hx13_0, hf13_0⟩ := Kd.R_celln 0 HO_7.out (x14_1 : Int) p13 q13; replace p13 := eq_true p13; replace q13 := eq_true q13; obtain ⟨hy16_, hz16_⟩ := Kd.R_celln 0 HO_7.out (x14_1 : Int) od_ od_; have HP16 := Kd.R_putg HO_7.out (x14_1 : Int) t439) | ((with_reducible refine gate_store (t := 3) (p := 24) rfl ?_); refine store_event (t := 3) (p := 24) (v := ?vo_w17) (w1 := (w15.setCell ⟨go13, (x14_1 : Int).toNat, none⟩ (.int .i64 t439))) ?hg ?ho ?hn ?hr ?_; (case ho => rfl); (case hg => rfl); (case hn => rfl); (case hr => first | (go_simp; done) | (go_simp; rfl)); intro w17 hw; have hg : w15.grownBy w17 (some go13) := (by rw [hw]; exact HP16.2); have hp_ : Kd.R (Kd.int .i64) 3 w17 w.heap.size (fun _ => True) (.slice (some ⟨go13, 0, none⟩) x7_1.length co13) y440 := (by rw [hw, Ny440.out]; exact HP16.1); clear HP16; have n0_ := Ai0.mk (hp_); have n1_ := Ai0.mk (blk_grown (g := gG) (o := .cells #[.slice A0_0 l0_0.length c0_0, .slice A0_1 l0_1.length c0_1] 73 (0, 0)) (kk_ BK435.out) hg (Kd.R_ne HO_7.out BK435.out (by decide))); have n2_ := Ai0.mk ((by rw [hw]; exact bs1 (HB.out) GB13.out : Below w.heap.size w w17)); clear HO_7; clear BK435; clear HB; have HO_7 := n0_; have BK435 := n1_; have HB := n2_; clear n0_ n1_ n2_; clear hg hw hp_))
        go_roundg k1
        case measure => have := HK1.out; omega
        case rel => exact ⟨(y440), (wrap64 (x14_1 + 1)), rf_, H', ⟨by have := HK1.out; omega⟩, ⟨kr_ HO_7.out⟩, ⟨kk_ BK435.out⟩, ⟨bl_⟩⟩
       ·rw [if_neg c12] at H;exact absurd H (by simp)
      ·rw [if_neg c11] at H;exact absurd H (by simp)
     ·rw [if_neg c9] at H;have c9b0 : decide (x14_1 < (l1.length : Int)) = false := decide_eq_false c9;clear c9;obtain rfl := Option.some.inj H
      go_wp2
      go_ret
      exact ⟨_, by first | rfl | (simp [eW0, eW1] <;> rfl) | (simp [*, eW0, eW1] <;> rfl), by (with_reducible repeat (first | apply Kd.Ra1 | apply Kd.Rn1 | apply Kd.Rd1)); exact HO_7.out, bl_⟩
  ·rw [if_neg c5] at H;exact absurd H (by simp)
 ·rw [if_neg c4] at H;exact absurd H (by simp)
def message_Beliefs.l0 : Nat → List Int → List (List Int) → Int → Int → List (List Int) → List (List (S77)) → Option (List Int × Int)
 | 0, _, _, _, _, _, _ => none
 | k + 1, x1, x11, x29, x30, x552000, x552001 => if x30 < x29 then ((mg_round.f k x552000 x552001 x1 x11).bind fun t556 => (message_Beliefs.l0 k x1 t556 x29 (wrap64 (x30 + 1)) x552000 x552001)) else ((mg_beliefs.f k x552000 x552001 x1 x11).bind fun t559 => (some (t559, 0)))
def message_Beliefs.f (k : Nat) (a0_0 : Int) (l0_1 : List (List Int)) (l1 : List Int) (a2 : Int) : Option (List Int × Int) := (message_build.f k a0_0 l0_1).bind fun bt544 => (if bt544.2.2 = 0 then ((message_inputs.f k a0_0 l0_1 l1 a2).bind fun t552 => (if t552 = 0 then ((mg_messages.f k bt544.1 bt544.2.1).bind fun t553 => (message_Beliefs.l0 k l1 t553 a2 0 bt544.1 bt544.2.1)) else (some (([] : List Int), t552)))) else (some (([] : List Int), bt544.2.2)))
theorem message_Beliefs.mono_l : ∀ k, (∀ y0 y1 y2 y3 y4 y5, LeO (message_Beliefs.l0 k y0 y1 y2 y3 y4 y5) (message_Beliefs.l0 (k + 1) y0 y1 y2 y3 y4 y5))
 | 0 => fun _ _ _ _ _ _ r h => by simp [message_Beliefs.l0] at h
 | k + 1 => by
  have ih0 := message_Beliefs.mono_l k
  ·intro y0 y1 y2 y3 y4 y5;unfold message_Beliefs.l0
   repeat' first
   | (with_reducible exact ih0 _ _ _ _ _ _)
   | (with_reducible exact message_build.mono _ _ _)
   | (with_reducible exact mg_beliefs.mono _ _ _ _ _)
   | (with_reducible exact mg_messages.mono _ _ _)
   | (with_reducible exact mg_round.mono _ _ _ _ _)
   | (with_reducible exact message_inputs.mono _ _ _ _ _)
   | (with_reducible exact LeO.refl _)
   | (with_reducible exact LeO.none _)
   | (with_reducible refine LeO.ite ?_ ?_)
   | (with_reducible refine LeO.bind ?_ (fun _ => ?_))
   | exact ih0 _ _ _ _ _ _
   | exact message_build.mono _ _ _
   | exact mg_beliefs.mono _ _ _ _ _
   | exact mg_messages.mono _ _ _
   | exact mg_round.mono _ _ _ _ _
   | exact message_inputs.mono _ _ _ _ _
   | exact LeO.none _
   | refine LeO.ite ?_ ?_
   | refine LeO.bind ?_ (fun _ => ?_)
theorem message_Beliefs.mono : ∀ a0 a1 a2 a3 k, LeO (message_Beliefs.f k a0 a1 a2 a3) (message_Beliefs.f (k + 1) a0 a1 a2 a3) := by
 intro a0 a1 a2 a3 k;have ih0 := message_Beliefs.mono_l k;unfold message_Beliefs.f
 repeat' first
   | (with_reducible exact ih0 _ _ _ _ _ _)
   | (with_reducible exact message_build.mono _ _ _)
   | (with_reducible exact mg_beliefs.mono _ _ _ _ _)
   | (with_reducible exact mg_messages.mono _ _ _)
   | (with_reducible exact mg_round.mono _ _ _ _ _)
   | (with_reducible exact message_inputs.mono _ _ _ _ _)
   | (with_reducible exact LeO.refl _)
   | (with_reducible exact LeO.none _)
   | (with_reducible refine LeO.ite ?_ ?_)
   | (with_reducible refine LeO.bind ?_ (fun _ => ?_))
   | exact ih0 _ _ _ _ _ _
   | exact message_build.mono _ _ _
   | exact mg_beliefs.mono _ _ _ _ _
   | exact mg_messages.mono _ _ _
   | exact mg_round.mono _ _ _ _ _
   | exact message_inputs.mono _ _ _ _ _
   | exact LeO.none _
   | refine LeO.ite ?_ ?_
   | refine LeO.bind ?_ (fun _ => ?_)
set_option maxHeartbeats 8000000 in
set_option maxRecDepth 100000 in
theorem message_Beliefs.calls (k : Nat) (a0_0 : Int) (A0_1 : Option Addr) (c0_1 : Nat) (l0_1 : List (List Int)) (A1 : Option Addr) (c1 : Nat) (l1 : List Int) (a2 : Int) (r1 : List Int) (r2 : Int) (w : World) (hr0_1 : Kd.C (Kd.slice 3 (Kd.int .i64)) w A0_1 l0_1.length l0_1) (hc0_1 : l0_1.length ≤ c0_1) (hr1 : Kd.C (Kd.int .i64) w A1 l1.length l1) (hc1 : l1.length ≤ c1) (h : message_Beliefs.f k a0_0 l0_1 l1 a2 = some (r1, r2)) :
  Calls Try.prog 18 #[.agg #[.int .i64 a0_0, .slice A0_1 l0_1.length c0_1], .slice A1 l1.length c1, .int .i64 a2] w fun e w' => ∃ v0_ : Value, e = .returned (.tuple #[v0_, .int .i64 r2]) ∧ Kd.R (Kd.int .i64) 3 w' w.heap.size (fun _ => True) v0_ r1 ∧ Below w.heap.size w w' := by
 have hu24 := Try.underlying24;have hu73 := Try.underlying73;have HR0_1 := Ai0.mk hr0_1;have HC0_1 := Ai0.mk hc0_1;clear hr0_1 hc0_1;have HR1 := Ai0.mk hr1;have HC1 := Ai0.mk hc1;clear hr1 hc1;have HB := Ai0.mk (Below.refl w.heap.size w);have H : ((message_build.f k a0_0 l0_1).bind fun bt544 => (if bt544.2.2 = 0 then ((message_inputs.f k a0_0 l0_1 l1 a2).bind fun t552 => (if t552 = 0 then ((mg_messages.f k bt544.1 bt544.2.1).bind fun t553 => (message_Beliefs.l0 k l1 t553 a2 0 bt544.1 bt544.2.1)) else (some (([] : List Int), t552)))) else (some (([] : List Int), bt544.2.2)))) = some (r1, r2) := h;clear h;replace H := Option.bind_eq_some_iff.mp H;obtain ⟨⟨t544, t547, t550⟩, A40, H⟩ := H;replace H : (if t550 = 0 then ((message_inputs.f k a0_0 l0_1 l1 a2).bind fun t552 => (if t552 = 0 then ((mg_messages.f k t544 t547).bind fun t553 => (message_Beliefs.l0 k l1 t553 a2 0 t544 t547)) else (some (([] : List Int), t552)))) else (some (([] : List Int), t550))) = some (r1, r2) := H;have A4 := Ai0.mk A40;clear A40;by_cases c5 : t550 = 0
 ·rw [if_pos c5] at H;have c5b0 : (t550 == 0) = true := beq_iff_eq.mpr c5;have c5b1 : (t550 != 0) = false := bne_eq_false_iff_eq.mpr c5;clear c5;replace H := Option.bind_eq_some_iff.mp H;obtain ⟨t552, A60, H⟩ := H;replace H : (if t552 = 0 then ((mg_messages.f k t544 t547).bind fun t553 => (message_Beliefs.l0 k l1 t553 a2 0 t544 t547)) else (some (([] : List Int), t552))) = some (r1, r2) := H;have A6 := Ai0.mk A60;clear A60;by_cases c7 : t552 = 0
  ·rw [if_pos c7] at H;have c7b0 : (t552 == 0) = true := beq_iff_eq.mpr c7;have c7b1 : (t552 != 0) = false := bne_eq_false_iff_eq.mpr c7;clear c7;replace H := Option.bind_eq_some_iff.mp H;obtain ⟨t553, A80, H⟩ := H;replace H : (message_Beliefs.l0 k l1 t553 a2 0 t544 t547) = some (r1, r2) := H;have A8 := Ai0.mk A80;clear A80;have H' := Ai0.mk H;clear H;go_enter Try.func18, Try.ntmps18
   go_wp2_with (first | ((with_reducible refine gate_dst (N := 3) rfl ?_); refine box_event ?hg (N := 3) ?hd (cs := #[.int .i64 a0_0, .slice A0_1 l0_1.length c0_1]) (t := 24) ?hr ?_; (case hd => rfl); (case hg => rfl); (case hr => first | (go_simp; done) | (go_simp; rfl)); intro gb543 hg w9 hbox hb; have n0_ := Ai0.mk (bt1 bl_ hb); have n1_ := Ai0.mk (hbox); have n2_ := Ai0.mk ((by rw [hg]; exact (bz1 bl_) : w.heap.size ≤ gb543)); have n3_ := Ai0.mk ((by rw [hg]; exact (bz1 bl_) : w.heap.size ≤ gb543)); clear HB; have HB := n0_; have BK543 := n1_; have GW543 := n2_; have GE543 := n3_; clear n0_ n1_ n2_ n3_; clear hb hbox hg; have hcz10_0 : w9.cell? ⟨gb543, 0, none⟩ = some (.int .i64 a0_0) := (kc1 BK543.out 0).trans rfl; have hcz10_1 : w9.cell? ⟨gb543, 1, none⟩ = some (.slice A0_1 l0_1.length c0_1) := (kc1 BK543.out 1).trans rfl; have hfz10_0 := kf1 BK543.out 0; have hfz10_1 := kf1 BK543.out 1) | ((with_reducible refine gate_callee (f := 44) rfl ?_); refine goesL_ (some 14) rfl rfl Try.func44 (by kernel_rfl) rfl #[.agg #[.int .i64 a0_0, .slice A0_1 l0_1.length c0_1]] rfl (by (try simp only [List.map_toArray, List.map_cons, List.map_nil]); first | done | rfl | (simp only [List.length_drop, List.length_take]; rfl)) ?_; (with_reducible refine (message_build.calls k a0_0 _ _ l0_1 t544 t547 t550 _ ?side1 ?side2 A4.out).mono ?_); (case side1 => exact kc_ HR0_1.out); (case side2 => exact HC0_1.out); rintro e w11 ⟨gg_, rfl, hb, hbu_⟩; obtain ⟨gb551, v545, v548, rfl, hge_, hbk_, ho0, ho1⟩ := Built.ok hbu_ (beq_iff_eq.mp c5b0); refine ⟨_, rfl, ?_⟩; have BK551 := Ai0.mk hbk_; have GE551 := Ai0.mk (Nat.le_trans (bz1 bl_) hge_); have GW551 := GE551; have NB543_551 := Ai0.mk (Nat.ne_of_lt (Nat.lt_of_lt_of_le (blk_lt (g := gb543) (o := .cells #[.int .i64 a0_0, .slice A0_1 l0_1.length c0_1] 24 (0, 0)) (kk_ BK543.out)) hge_)); have NB551_543 := Ai0.mk (Ne.symm NB543_551.out); clear hbk_ hge_ hbu_; have n0_ := Ai0.mk (Kd.S_lower ho0 (bz1 bl_)); have n1_ := Ai0.mk (Kd.S_lower ho1 (bz1 bl_)); have n2_ := Ai0.mk (kb1 (g := gb543) (o := .cells #[.int .i64 a0_0, .slice A0_1 l0_1.length c0_1] 24 (0, 0)) (kk_ BK543.out) hb); have n3_ := Ai0.mk (bt1 bl_ hb); clear BK543; clear HB; have HO546 := n0_; have HO549 := n1_; have BK543 := n2_; have HB := n3_; clear n0_ n1_ n2_ n3_; (try clear hb); (try clear hb2); (try clear hk); (try clear hi); (try clear ho0); (try clear ho1); obtain ⟨Ao12, co12, eo12⟩ := Kd.S_slice HO549.out; subst eo12; obtain ⟨Ao13, co13, eo13⟩ := Kd.S_slice HO546.out; subst eo13; have hnb15 := NB543_551.out; have hnc15 := NB551_543.out; have hcz16_0 : w11.cell? ⟨gb543, 0, none⟩ = some (.int .i64 a0_0) := (kc1 BK543.out 0).trans rfl; have hcz16_1 : w11.cell? ⟨gb543, 1, none⟩ = some (.slice A0_1 l0_1.length c0_1) := (kc1 BK543.out 1).trans rfl; have hfz16_0 := kf1 BK543.out 0; have hfz16_1 := kf1 BK543.out 1) | ((with_reducible refine gate_callee (f := 45) rfl ?_); refine goesL_ (some 23) rfl rfl Try.func45 (by kernel_rfl) rfl #[.agg #[.int .i64 a0_0, .slice A0_1 l0_1.length c0_1], .slice A1 l1.length c1, .int .i64 a2] rfl (by (try simp only [List.map_toArray, List.map_cons, List.map_nil]); first | done | rfl | (simp only [List.length_drop, List.length_take]; rfl)) ?_; (with_reducible refine (message_inputs.calls k a0_0 _ _ l0_1 _ _ l1 a2 t552 _ ?side1 ?side2 ?side3 ?side4 A6.out).mono ?_); (case side1 => exact kc_ HR0_1.out); (case side2 => exact HC0_1.out); (case side3 => exact kc_ HR1.out); (case side4 => exact HC1.out); rintro e w17 ⟨rfl, hb⟩; refine ⟨_, rfl, ?_⟩; have n0_ := Ai0.mk (Kd.S_below (ks_ HO546.out) hb); have n1_ := Ai0.mk (Kd.S_below (ks_ HO549.out) hb); have n2_ := Ai0.mk (kb1 (g := gb543) (o := .cells #[.int .i64 a0_0, .slice A0_1 l0_1.length c0_1] 24 (0, 0)) (kk_ BK543.out) hb); have n3_ := Ai0.mk (kb1 (g := gb551) (o := .cells #[.slice Ao13 t544.length co13, .slice Ao12 t547.length co12] 73 (0, 0)) (kk_ BK551.out) hb); have n4_ := Ai0.mk (bt1 bl_ hb); clear HO546; clear HO549; clear BK543; clear BK551; clear HB; have HO546 := n0_; have HO549 := n1_; have BK543 := n2_; have BK551 := n3_; have HB := n4_; clear n0_ n1_ n2_ n3_ n4_; (try clear hb); (try clear hb2); (try clear hk); (try clear hi); have hcz18_0 : w17.cell? ⟨gb551, 0, none⟩ = some (.slice Ao13 t544.length co13) := (kc1 BK551.out 0).trans rfl; have hcz18_1 : w17.cell? ⟨gb551, 1, none⟩ = some (.slice Ao12 t547.length co12) := (kc1 BK551.out 1).trans rfl; have hfz18_0 := kf1 BK551.out 0; have hfz18_1 := kf1 BK551.out 1) | ((with_reducible refine gate_callee (f := 46) rfl ?_); refine goesL_ (some 28) rfl rfl Try.func46 (by kernel_rfl) rfl #[.pointer (some ⟨gb551, 0, none⟩)] rfl (by (try simp only [List.map_toArray, List.map_cons, List.map_nil]); first | done | rfl | (simp only [List.length_drop, List.length_take]; rfl)) ?_; (with_reducible refine (mg_messages.calls k Ao13 co13 t544 Ao12 co12 t547 t553 gb551 _ ?side1 ?side2 ?side3 ?side4 ?sideG A8.out).mono ?_); (case sideG => (with_reducible repeat (first | refine kn1 ?_ _ | refine kd1 ?_ | refine ka1 ?_ _)); exact BK551.out); (case side1 => repeat (first | exact (Kd.S_reads' HO546.out).2.2 | (with_reducible refine Kd.C_alloc ?_ _) | (with_reducible refine Kd.C_drewN ?_ _) | (with_reducible refine Kd.C_drew ?_))); (case side2 => exact (Kd.S_reads' HO546.out).2.1); (case side3 => repeat (first | exact (Kd.S_reads' HO549.out).2.2 | (with_reducible refine Kd.C_alloc ?_ _) | (with_reducible refine Kd.C_drewN ?_ _) | (with_reducible refine Kd.C_drew ?_))); (case side4 => exact (Kd.S_reads' HO549.out).2.1); rintro e w19 ⟨v554, rfl, ho0, hb⟩; refine ⟨_, rfl, ?_⟩; have n0_ := Ai0.mk (Kd.S_elder' (ks_ HO546.out) (Kd.S_base ho0) hb); have n1_ := Ai0.mk (Kd.S_below (ks_ HO549.out) hb); have n2_ := Ai0.mk (Kd.S_lower (Kd.S_new' ho0 (Kd.S_lt (ks_ HO546.out))) (bz1 bl_)); have n3_ := Ai0.mk (kb1 (g := gb543) (o := .cells #[.int .i64 a0_0, .slice A0_1 l0_1.length c0_1] 24 (0, 0)) (kk_ BK543.out) hb); have n4_ := Ai0.mk (kb1 (g := gb551) (o := .cells #[.slice Ao13 t544.length co13, .slice Ao12 t547.length co12] 73 (0, 0)) (kk_ BK551.out) hb); have n5_ := Ai0.mk (bt1 bl_ hb); clear HO546; clear HO549; clear BK543; clear BK551; clear HB; have HO546 := n0_; have HO549 := n1_; have HO555 := n2_; have BK543 := n3_; have BK551 := n4_; have HB := n5_; clear n0_ n1_ n2_ n3_ n4_ n5_; (try clear hb); (try clear hb2); (try clear hk); (try clear hi); (try clear ho0)))
   go_loopg [11, 30] k (fun kq v11 v30 w' => ∃ (x11_1 : List (List Int)) (x30_1 : Int), v30 = .int .i64 x30_1 ∧ Ai0 (message_Beliefs.l0 kq l1 x11_1 a2 x30_1 t544 t547 = some (r1, r2)) ∧ Ai0 (kq ≤ k) ∧ Ai0 (Kd.S (Kd.slice 3 (Kd.int .i64)) 25 w' w.heap.size (fun k_ => some k_ ≠ ((.slice Ao13 t544.length co13) : Value).ownBlock) v11 x11_1) ∧ Ai0 (Kd.S (Kd.slice 3 (Kd.int .i64)) 25 w' w.heap.size (fun k_ => some k_ ≠ (v11 : Value).ownBlock) (.slice Ao13 t544.length co13) t544) ∧ Ai0 (Kd.S (Kd.slice 77 k77) 75 w' w.heap.size (fun _ => True) (.slice Ao12 t547.length co12) t547) ∧ Ai0 (w'.heap[gb543]? = some (.cells #[.int .i64 a0_0, (.slice A0_1 l0_1.length c0_1)] 24 (0, 0))) ∧ Ai0 (w'.heap[gb551]? = some (.cells #[(.slice Ao13 t544.length co13), (.slice Ao12 t547.length co12)] 73 (0, 0))) ∧ Ai0 (Below w.heap.size w w'))
   case atStart => exact ⟨(t553), (0), rf_, H', ⟨Nat.le_refl _⟩, ⟨by (with_reducible repeat (first | apply Kd.S_alloc | apply Kd.S_drewN | apply Kd.S_drew)); exact Kd.S_mono HO555.out (fun _ hk => hk.2)⟩, ⟨by (with_reducible repeat (first | apply Kd.S_alloc | apply Kd.S_drewN | apply Kd.S_drew)); exact Kd.S_mono HO546.out (fun _ hk => hk.2)⟩, ⟨ks_ HO549.out⟩, ⟨kk_ BK543.out⟩, ⟨kk_ BK551.out⟩, ⟨bl_⟩⟩
   case round =>
    clear H'
    try clear c1
    try clear p2
    try clear c4
    try clear c5
    try clear c5b0
    try clear c5b1
    try clear c7
    try clear c7b0
    try clear c7b1
    try clear c15
    try clear c18
    try clear hcz10_0
    try clear hcz10_1
    try clear hcz16_0
    try clear hcz16_1
    try clear hcz18_0
    try clear hcz18_1
    try clear hfz10_0
    try clear hfz10_1
    try clear hfz16_0
    try clear hfz16_1
    try clear hfz18_0
    try clear hfz18_1
    obtain ⟨x11_1, x30_1, rfl, HA, HK1, HO_11, HO_552000, HO_552001, BK543, BK551, HB⟩ := hrel
    cases gk with
    | zero => exact absurd HA.out (by simp [message_Beliefs.l0])
    | succ k1 =>
     have H := HA.out;clear HA;simp only [message_Beliefs.l0] at H;by_cases c20 : x30_1 < a2
     ·rw [if_pos c20] at H;have c20b0 : decide (x30_1 < a2) = true := decide_eq_true c20;clear c20;replace H := Option.bind_eq_some_iff.mp H;obtain ⟨t556, A210, H⟩ := H;replace H : (message_Beliefs.l0 k1 l1 t556 a2 (wrap64 (x30_1 + 1)) t544 t547) = some (r1, r2) := H;have A21 := Ai0.mk A210;clear A210;have H' := Ai0.mk H;clear H;have hnb22 := NB551_543.out;have hnc22 := NB543_551.out;have hcz23_0 : wr.cell? ⟨gb551, 0, none⟩ = some (.slice Ao13 t544.length co13) := (kc1 BK551.out 0).trans rfl;have hcz23_1 : wr.cell? ⟨gb551, 1, none⟩ = some (.slice Ao12 t547.length co12) := (kc1 BK551.out 1).trans rfl;have hfz23_0 := kf1 BK551.out 0;have hfz23_1 := kf1 BK551.out 1;obtain ⟨Ao24, co24, eo24⟩ := Kd.S_slice HO_11.out;subst eo24
      go_wp2_with (first | ((with_reducible refine gate_callee (f := 47) rfl ?_); refine goesL_ (some 35) rfl rfl Try.func47 (by kernel_rfl) rfl #[.pointer (some ⟨gb551, 0, none⟩), .slice A1 l1.length c1, .slice Ao24 x11_1.length co24] rfl (by (try simp only [List.map_toArray, List.map_cons, List.map_nil]); first | done | rfl | (simp only [List.length_drop, List.length_take]; rfl)) ?_; (with_reducible refine (mg_round.calls k1 Ao13 co13 t544 Ao12 co12 t547 _ _ l1 _ _ x11_1 t556 gb551 _ ?side1 ?side2 ?side3 ?side4 ?side5 ?side6 ?side7 ?side8 ?sideG A21.out).mono ?_); (case sideG => (with_reducible repeat (first | refine kn1 ?_ _ | refine kd1 ?_ | refine ka1 ?_ _)); exact BK551.out); (case side1 => repeat (first | exact (Kd.S_reads' HO_552000.out).2.2 | (with_reducible refine Kd.C_alloc ?_ _) | (with_reducible refine Kd.C_drewN ?_ _) | (with_reducible refine Kd.C_drew ?_))); (case side2 => exact (Kd.S_reads' HO_552000.out).2.1); (case side3 => repeat (first | exact (Kd.S_reads' HO_552001.out).2.2 | (with_reducible refine Kd.C_alloc ?_ _) | (with_reducible refine Kd.C_drewN ?_ _) | (with_reducible refine Kd.C_drew ?_))); (case side4 => exact (Kd.S_reads' HO_552001.out).2.1); (case side5 => exact kc_ HR1.out); (case side6 => exact HC1.out); (case side7 => repeat (first | exact (Kd.S_reads' HO_11.out).2.2 | (with_reducible refine Kd.C_alloc ?_ _) | (with_reducible refine Kd.C_drewN ?_ _) | (with_reducible refine Kd.C_drew ?_))); (case side8 => exact (Kd.S_reads' HO_11.out).2.1); rintro e w25 ⟨v557, rfl, ho0, hb⟩; refine ⟨_, rfl, ?_⟩; have n0_ := Ai0.mk (Kd.S_elder' (ks_ HO_11.out) (Kd.S_base ho0) hb); have n1_ := Ai0.mk (Kd.S_elder' (ks_ HO_552000.out) (Kd.S_base ho0) hb); have n2_ := Ai0.mk (Kd.S_below (ks_ HO_552001.out) hb); have n3_ := Ai0.mk (Kd.S_lower (Kd.S_new' (Kd.S_new' ho0 (Kd.S_lt (ks_ HO_11.out))) (Kd.S_lt (ks_ HO_552000.out))) (bz1 bl_)); have n4_ := Ai0.mk (kb1 (g := gb543) (o := .cells #[.int .i64 a0_0, .slice A0_1 l0_1.length c0_1] 24 (0, 0)) (kk_ BK543.out) hb); have n5_ := Ai0.mk (kb1 (g := gb551) (o := .cells #[.slice Ao13 t544.length co13, .slice Ao12 t547.length co12] 73 (0, 0)) (kk_ BK551.out) hb); have n6_ := Ai0.mk (bt1 bl_ hb); clear HO_11; clear HO_552000; clear HO_552001; clear BK543; clear BK551; clear HB; have HO_11 := n0_; have HO_552000 := n1_; have HO_552001 := n2_; have HO558 := n3_; have BK543 := n4_; have BK551 := n5_; have HB := n6_; clear n0_ n1_ n2_ n3_ n4_ n5_ n6_; (try clear hb); (try clear hb2); (try clear hk); (try clear hi); (try clear ho0)))
      go_roundg k1
      case measure => have := HK1.out; omega
      case rel => exact ⟨(t556), (wrap64 (x30_1 + 1)), rf_, H', ⟨by have := HK1.out; omega⟩, ⟨by (with_reducible repeat (first | apply Kd.S_alloc | apply Kd.S_drewN | apply Kd.S_drew)); exact Kd.S_mono HO558.out (fun _ hk => hk.2)⟩, ⟨by (with_reducible repeat (first | apply Kd.S_alloc | apply Kd.S_drewN | apply Kd.S_drew)); exact Kd.S_mono HO_552000.out (fun _ hk => hk.2)⟩, ⟨ks_ HO_552001.out⟩, ⟨kk_ BK543.out⟩, ⟨kk_ BK551.out⟩, ⟨bl_⟩⟩
     ·rw [if_neg c20] at H;have c20b0 : decide (x30_1 < a2) = false := decide_eq_false c20;clear c20;replace H := Option.bind_eq_some_iff.mp H;obtain ⟨t559, A260, H⟩ := H;replace H : (some (t559, 0)) = some (r1, r2) := H;have A26 := Ai0.mk A260;clear A260;simp only [Option.some.injEq, Prod.mk.injEq] at H;obtain ⟨rfl, rfl⟩ := H;have hnb27 := NB551_543.out;have hnc27 := NB543_551.out;have hcz28_0 : wr.cell? ⟨gb551, 0, none⟩ = some (.slice Ao13 t544.length co13) := (kc1 BK551.out 0).trans rfl;have hcz28_1 : wr.cell? ⟨gb551, 1, none⟩ = some (.slice Ao12 t547.length co12) := (kc1 BK551.out 1).trans rfl;have hfz28_0 := kf1 BK551.out 0;have hfz28_1 := kf1 BK551.out 1;obtain ⟨Ao29, co29, eo29⟩ := Kd.S_slice HO_11.out;subst eo29
      go_wp2_with (first | ((with_reducible refine gate_callee (f := 48) rfl ?_); refine goesL_ (some 40) rfl rfl Try.func48 (by kernel_rfl) rfl #[.pointer (some ⟨gb551, 0, none⟩), .slice A1 l1.length c1, .slice Ao29 x11_1.length co29] rfl (by (try simp only [List.map_toArray, List.map_cons, List.map_nil]); first | done | rfl | (simp only [List.length_drop, List.length_take]; rfl)) ?_; (with_reducible refine (mg_beliefs.calls k1 Ao13 co13 t544 Ao12 co12 t547 _ _ l1 _ _ x11_1 t559 gb551 _ ?side1 ?side2 ?side3 ?side4 ?side5 ?side6 ?side7 ?side8 ?sideG A26.out).mono ?_); (case sideG => (with_reducible repeat (first | refine kn1 ?_ _ | refine kd1 ?_ | refine ka1 ?_ _)); exact BK551.out); (case side1 => repeat (first | exact (Kd.S_reads' HO_552000.out).2.2 | (with_reducible refine Kd.C_alloc ?_ _) | (with_reducible refine Kd.C_drewN ?_ _) | (with_reducible refine Kd.C_drew ?_))); (case side2 => exact (Kd.S_reads' HO_552000.out).2.1); (case side3 => repeat (first | exact (Kd.S_reads' HO_552001.out).2.2 | (with_reducible refine Kd.C_alloc ?_ _) | (with_reducible refine Kd.C_drewN ?_ _) | (with_reducible refine Kd.C_drew ?_))); (case side4 => exact (Kd.S_reads' HO_552001.out).2.1); (case side5 => exact kc_ HR1.out); (case side6 => exact HC1.out); (case side7 => repeat (first | exact (Kd.S_reads' HO_11.out).2.2 | (with_reducible refine Kd.C_alloc ?_ _) | (with_reducible refine Kd.C_drewN ?_ _) | (with_reducible refine Kd.C_drew ?_))); (case side8 => exact (Kd.S_reads' HO_11.out).2.1); rintro e w30 ⟨v560, rfl, ho0, hb⟩; refine ⟨_, rfl, ?_⟩; have n0_ := Ai0.mk (Kd.S_elder' (ks_ HO_11.out) (Kd.R_base ho0) hb); have n1_ := Ai0.mk (Kd.S_elder' (ks_ HO_552000.out) (Kd.R_base ho0) hb); have n2_ := Ai0.mk (Kd.S_below (ks_ HO_552001.out) hb); have n3_ := Ai0.mk (Kd.R_lower ho0 (bz1 bl_)); have n4_ := Ai0.mk (kb1 (g := gb543) (o := .cells #[.int .i64 a0_0, .slice A0_1 l0_1.length c0_1] 24 (0, 0)) (kk_ BK543.out) hb); have n5_ := Ai0.mk (kb1 (g := gb551) (o := .cells #[.slice Ao13 t544.length co13, .slice Ao12 t547.length co12] 73 (0, 0)) (kk_ BK551.out) hb); have n6_ := Ai0.mk (bt1 bl_ hb); clear HO_11; clear HO_552000; clear HO_552001; clear BK543; clear BK551; clear HB; have HO_11 := n0_; have HO_552000 := n1_; have HO_552001 := n2_; have HO561 := n3_; have BK543 := n4_; have BK551 := n5_; have HB := n6_; clear n0_ n1_ n2_ n3_ n4_ n5_ n6_; (try clear hb); (try clear hb2); (try clear hk); (try clear hi); (try clear ho0)))
      go_ret2
      exact ⟨_, by first | rfl | (simp [eW0, eW1] <;> rfl) | (simp [*, eW0, eW1] <;> rfl), by (with_reducible repeat (first | apply Kd.Ra1 | apply Kd.Rn1 | apply Kd.Rd1)); exact HO561.out, bl_⟩
  ·rw [if_neg c7] at H;have c7b0 : (t552 == 0) = false := beq_eq_false_iff_ne.mpr c7;have c7b1 : (t552 != 0) = true := bne_iff_ne.mpr c7;simp only [Option.some.injEq, Prod.mk.injEq] at H;obtain ⟨rfl, rfl⟩ := H;go_enter Try.func18, Try.ntmps18
   go_wp2_with (first | ((with_reducible refine gate_dst (N := 3) rfl ?_); refine box_event ?hg (N := 3) ?hd (cs := #[.int .i64 a0_0, .slice A0_1 l0_1.length c0_1]) (t := 24) ?hr ?_; (case hd => rfl); (case hg => rfl); (case hr => first | (go_simp; done) | (go_simp; rfl)); intro gb543 hg w31 hbox hb; have n0_ := Ai0.mk (bt1 bl_ hb); have n1_ := Ai0.mk (hbox); have n2_ := Ai0.mk ((by rw [hg]; exact (bz1 bl_) : w.heap.size ≤ gb543)); have n3_ := Ai0.mk ((by rw [hg]; exact (bz1 bl_) : w.heap.size ≤ gb543)); clear HB; have HB := n0_; have BK543 := n1_; have GW543 := n2_; have GE543 := n3_; clear n0_ n1_ n2_ n3_; clear hb hbox hg; have hcz32_0 : w31.cell? ⟨gb543, 0, none⟩ = some (.int .i64 a0_0) := (kc1 BK543.out 0).trans rfl; have hcz32_1 : w31.cell? ⟨gb543, 1, none⟩ = some (.slice A0_1 l0_1.length c0_1) := (kc1 BK543.out 1).trans rfl; have hfz32_0 := kf1 BK543.out 0; have hfz32_1 := kf1 BK543.out 1) | ((with_reducible refine gate_callee (f := 44) rfl ?_); refine goesL_ (some 14) rfl rfl Try.func44 (by kernel_rfl) rfl #[.agg #[.int .i64 a0_0, .slice A0_1 l0_1.length c0_1]] rfl (by (try simp only [List.map_toArray, List.map_cons, List.map_nil]); first | done | rfl | (simp only [List.length_drop, List.length_take]; rfl)) ?_; (with_reducible refine (message_build.calls k a0_0 _ _ l0_1 t544 t547 t550 _ ?side1 ?side2 A4.out).mono ?_); (case side1 => exact kc_ HR0_1.out); (case side2 => exact HC0_1.out); rintro e w33 ⟨gg_, rfl, hb, hbu_⟩; obtain ⟨gb551, v545, v548, rfl, hge_, hbk_, ho0, ho1⟩ := Built.ok hbu_ (beq_iff_eq.mp c5b0); refine ⟨_, rfl, ?_⟩; have BK551 := Ai0.mk hbk_; have GE551 := Ai0.mk (Nat.le_trans (bz1 bl_) hge_); have GW551 := GE551; have NB543_551 := Ai0.mk (Nat.ne_of_lt (Nat.lt_of_lt_of_le (blk_lt (g := gb543) (o := .cells #[.int .i64 a0_0, .slice A0_1 l0_1.length c0_1] 24 (0, 0)) (kk_ BK543.out)) hge_)); have NB551_543 := Ai0.mk (Ne.symm NB543_551.out); clear hbk_ hge_ hbu_; have n0_ := Ai0.mk (Kd.S_lower ho0 (bz1 bl_)); have n1_ := Ai0.mk (Kd.S_lower ho1 (bz1 bl_)); have n2_ := Ai0.mk (kb1 (g := gb543) (o := .cells #[.int .i64 a0_0, .slice A0_1 l0_1.length c0_1] 24 (0, 0)) (kk_ BK543.out) hb); have n3_ := Ai0.mk (bt1 bl_ hb); clear BK543; clear HB; have HO546 := n0_; have HO549 := n1_; have BK543 := n2_; have HB := n3_; clear n0_ n1_ n2_ n3_; (try clear hb); (try clear hb2); (try clear hk); (try clear hi); (try clear ho0); (try clear ho1); obtain ⟨Ao34, co34, eo34⟩ := Kd.S_slice HO549.out; subst eo34; obtain ⟨Ao35, co35, eo35⟩ := Kd.S_slice HO546.out; subst eo35; have hnb37 := NB543_551.out; have hnc37 := NB551_543.out; have hcz38_0 : w33.cell? ⟨gb543, 0, none⟩ = some (.int .i64 a0_0) := (kc1 BK543.out 0).trans rfl; have hcz38_1 : w33.cell? ⟨gb543, 1, none⟩ = some (.slice A0_1 l0_1.length c0_1) := (kc1 BK543.out 1).trans rfl; have hfz38_0 := kf1 BK543.out 0; have hfz38_1 := kf1 BK543.out 1) | ((with_reducible refine gate_callee (f := 45) rfl ?_); refine goesL_ (some 23) rfl rfl Try.func45 (by kernel_rfl) rfl #[.agg #[.int .i64 a0_0, .slice A0_1 l0_1.length c0_1], .slice A1 l1.length c1, .int .i64 a2] rfl (by (try simp only [List.map_toArray, List.map_cons, List.map_nil]); first | done | rfl | (simp only [List.length_drop, List.length_take]; rfl)) ?_; (with_reducible refine (message_inputs.calls k a0_0 _ _ l0_1 _ _ l1 a2 t552 _ ?side1 ?side2 ?side3 ?side4 A6.out).mono ?_); (case side1 => exact kc_ HR0_1.out); (case side2 => exact HC0_1.out); (case side3 => exact kc_ HR1.out); (case side4 => exact HC1.out); rintro e w39 ⟨rfl, hb⟩; refine ⟨_, rfl, ?_⟩; have n0_ := Ai0.mk (Kd.S_below (ks_ HO546.out) hb); have n1_ := Ai0.mk (Kd.S_below (ks_ HO549.out) hb); have n2_ := Ai0.mk (kb1 (g := gb543) (o := .cells #[.int .i64 a0_0, .slice A0_1 l0_1.length c0_1] 24 (0, 0)) (kk_ BK543.out) hb); have n3_ := Ai0.mk (kb1 (g := gb551) (o := .cells #[.slice Ao35 t544.length co35, .slice Ao34 t547.length co34] 73 (0, 0)) (kk_ BK551.out) hb); have n4_ := Ai0.mk (bt1 bl_ hb); clear HO546; clear HO549; clear BK543; clear BK551; clear HB; have HO546 := n0_; have HO549 := n1_; have BK543 := n2_; have BK551 := n3_; have HB := n4_; clear n0_ n1_ n2_ n3_ n4_; (try clear hb); (try clear hb2); (try clear hk); (try clear hi)))
   go_ret2
   exact ⟨_, by first | rfl | (simp [eW0, eW1] <;> rfl) | (simp [*, eW0, eW1] <;> rfl), by first | exact Kd.R_nil _ _ _ _ _ | exact Kd.N_nil _ _ _ _ _ | exact Kd.V_nil _ _ _ _ _ | exact Kd.Q_nil _ _ _ _ _ | exact Kd.S_nil _ _ _ _ _, bl_⟩
 ·rw [if_neg c5] at H;have c5b0 : (t550 == 0) = false := beq_eq_false_iff_ne.mpr c5;have c5b1 : (t550 != 0) = true := bne_iff_ne.mpr c5;simp only [Option.some.injEq, Prod.mk.injEq] at H;obtain ⟨rfl, rfl⟩ := H;go_enter Try.func18, Try.ntmps18
  go_wp2_with (first | ((with_reducible refine gate_dst (N := 3) rfl ?_); refine box_event ?hg (N := 3) ?hd (cs := #[.int .i64 a0_0, .slice A0_1 l0_1.length c0_1]) (t := 24) ?hr ?_; (case hd => rfl); (case hg => rfl); (case hr => first | (go_simp; done) | (go_simp; rfl)); intro gb543 hg w40 hbox hb; have n0_ := Ai0.mk (bt1 bl_ hb); have n1_ := Ai0.mk (hbox); have n2_ := Ai0.mk ((by rw [hg]; exact (bz1 bl_) : w.heap.size ≤ gb543)); have n3_ := Ai0.mk ((by rw [hg]; exact (bz1 bl_) : w.heap.size ≤ gb543)); clear HB; have HB := n0_; have BK543 := n1_; have GW543 := n2_; have GE543 := n3_; clear n0_ n1_ n2_ n3_; clear hb hbox hg; have hcz41_0 : w40.cell? ⟨gb543, 0, none⟩ = some (.int .i64 a0_0) := (kc1 BK543.out 0).trans rfl; have hcz41_1 : w40.cell? ⟨gb543, 1, none⟩ = some (.slice A0_1 l0_1.length c0_1) := (kc1 BK543.out 1).trans rfl; have hfz41_0 := kf1 BK543.out 0; have hfz41_1 := kf1 BK543.out 1) | ((with_reducible refine gate_callee (f := 44) rfl ?_); refine goesL_ (some 14) rfl rfl Try.func44 (by kernel_rfl) rfl #[.agg #[.int .i64 a0_0, .slice A0_1 l0_1.length c0_1]] rfl (by (try simp only [List.map_toArray, List.map_cons, List.map_nil]); first | done | rfl | (simp only [List.length_drop, List.length_take]; rfl)) ?_; (with_reducible refine (message_build.calls k a0_0 _ _ l0_1 t544 t547 t550 _ ?side1 ?side2 A4.out).mono ?_); (case side1 => exact kc_ HR0_1.out); (case side2 => exact HC0_1.out); rintro e w42 ⟨gg_, rfl, hb, hbu_⟩; obtain rfl := Built.no hbu_ (beq_eq_false_iff_ne.mp c5b0); clear hbu_; refine ⟨_, rfl, ?_⟩; have n2_ := Ai0.mk (kb1 (g := gb543) (o := .cells #[.int .i64 a0_0, .slice A0_1 l0_1.length c0_1] 24 (0, 0)) (kk_ BK543.out) hb); have n3_ := Ai0.mk (bt1 bl_ hb); clear BK543; clear HB; have BK543 := n2_; have HB := n3_; clear n2_ n3_; (try clear hb); (try clear hb2); (try clear hk); (try clear hi); (try clear ho0); (try clear ho1)))
  go_ret2
  exact ⟨_, by first | rfl | (simp [eW0, eW1] <;> rfl) | (simp [*, eW0, eW1] <;> rfl), by first | exact Kd.R_nil _ _ _ _ _ | exact Kd.N_nil _ _ _ _ _ | exact Kd.V_nil _ _ _ _ _ | exact Kd.Q_nil _ _ _ _ _ | exact Kd.S_nil _ _ _ _ _, bl_⟩
end Go.Proofs.Ytmclalniilkjiaa.Q
