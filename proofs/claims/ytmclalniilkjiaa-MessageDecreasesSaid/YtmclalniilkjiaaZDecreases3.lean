-- Joined by pack.py, a program of this work: Ck Qx15 Qx16 Gr Qx44 Qx45 Qx64 Qx77 Qx39 Qx40 Qx27 Qx63 Qx23 Un Qx65
import Derived.Test.YtmclalniilkjiaaZDecreases0
import Derived.Test.YtmclalniilkjiaaZDecreases2
/- What the printed matrix.Check and the document's Check compute over the field of two elements: the same error. -/
namespace Go.Proofs.Ytmclalniilkjiaa.Ck
open Go.RowKit Go.Proofs.Ytmclalniilkjiaa.Q Go.Proofs.YtmclalniilkjiaaW.PrintWords Go.Proofs.YtmclalniilkjiaaW.PrintLast Go.Proofs.Ytmclalniilkjiaa.Ba

/-- All entries are 0 or 1. -/
def okb (l : List Int) : Bool := l.all (fun x => decide (0 ≤ x ∧ x < 2))
def ent (l : List Int) : Int := if okb l = true then 0 else 2
def len (c : Int) (rows : List (List Int)) : Bool := rows.all (fun l => decide ((l.length : Int) = c))
def bits (rows : List (List Int)) : Bool := rows.all okb
def chk (c : Int) (rows : List (List Int)) : Int := if c < 0 ∨ 256 < c ∨ 256 < rows.length then 3 else if len c rows = true then (if bits rows = true then 0 else 2) else 3
theorem drop_cons {α : Type} (l : List α) (d : α) (i : Nat) (h : i < l.length) : l.drop i = l.getD i d :: l.drop (i + 1) := by
 rw [List.drop_eq_getElem_cons h, List.getD_eq_getElem?_getD, List.getElem?_eq_getElem h]; rfl
theorem order_two : Ev (fun k => cr4_Order.f k 2 1 []) 2 := Ev.of (fun k => cr4_Order.mono _ _ _ k) (k := 8) (by kernel_rfl)
theorem check_two : Ev (fun k => cr4_Check.f k 2 1 []) 0 := Ev.of (fun k => cr4_Check.mono _ _ _ k) (k := 12) (by kernel_rfl)
theorem new_two : Ev (fun k => field_New.f k 2 1 []) ([], [1], [0, 0], 0) := Ev.of (fun k => field_New.mono _ _ _ k) (k := 20) (by kernel_rfl)
theorem ord_two : Ev (fun k => field_order.f k 2 1) 2 := Ev.of (fun k => field_order.mono _ _ k) (k := 8) (by kernel_rfl)
theorem is_two (x : Int) : field_GF_Is.f 2 1 [] 2 [1] [0, 0] x = some (decide (0 ≤ x ∧ x < 2)) := by
 unfold field_GF_Is.f
 by_cases h : x ≥ 0
 ·rw [if_pos h]; congr 1
  by_cases h2 : x < 2
  ·rw [decide_eq_true h2, decide_eq_true ⟨h, h2⟩]
  ·rw [decide_eq_false h2, decide_eq_false (fun hh => h2 hh.2)]
 ·rw [if_neg h, decide_eq_false (fun hh => h hh.1)]
theorem ris_two (x : Int) : Ev (fun k => cr4_Is.f k 2 1 [] x) (decide (0 ≤ x ∧ x < 2)) := by
 unfold cr4_Is.f
 by_cases h : x ≥ 0
 ·refine Ev.congr (fun k => if_pos h) (order_two.bind ?_)
  have e : decide (x < 2) = decide (0 ≤ x ∧ x < 2) := by
   by_cases h2 : x < 2
   ·rw [decide_eq_true h2, decide_eq_true ⟨h, h2⟩]
   ·rw [decide_eq_false h2, decide_eq_false (fun hh => h2 hh.2)]
  rw [← e]
  exact Ev.now _
 ·refine Ev.congr (fun k => if_neg h) ?_
  rw [decide_eq_false (fun hh => h hh.1)]
  exact Ev.now _
theorem entries_l0 (l : List Int) (hl : l.length ≤ 4611686018427387904) : ∀ d i : Nat, i + d = l.length → Ev (fun k => matrix_entries.l0 k l (l.length : Int) (i : Int) 2 1 [] 2 [1] [0, 0]) (ent (l.drop i))
 | 0, i, h => by
  refine Ev.step (f := fun _ => some (ent (l.drop i))) (fun k => ?_) (Ev.now _)
  simp only [matrix_entries.l0]
  rw [if_neg (by omega), List.drop_of_length_le (by omega)]; rfl
 | d + 1, i, h => by
  have ih := entries_l0 l hl d (i + 1) (by omega)
  by_cases hx : 0 ≤ rd l (i : Int) ∧ rd l (i : Int) < 2
  ·have e : ent (l.drop i) = ent (l.drop (i + 1)) := by
    unfold ent okb
    rw [drop_cons l 0 i (by omega), List.all_cons, ← rd_nat, decide_eq_true hx, Bool.true_and]
   rw [e]
   refine Ev.step (fun k => ?_) ih
   simp only [matrix_entries.l0, is_two, Option.bind_some]
   rw [if_pos (by omega), if_pos (by omega), if_pos (by omega), decide_eq_true hx, if_pos rfl, w64_id (by omega) (by omega)]
   rfl
  ·have e : ent (l.drop i) = 2 := by
    unfold ent okb
    rw [drop_cons l 0 i (by omega), List.all_cons, ← rd_nat, decide_eq_false hx, Bool.false_and]; rfl
   rw [e]
   refine Ev.step (f := fun _ => some 2) (fun k => ?_) (Ev.now _)
   simp only [matrix_entries.l0, is_two, Option.bind_some]
   rw [if_pos (by omega), if_pos (by omega), if_pos (by omega), decide_eq_false hx, if_neg Bool.false_ne_true]
theorem rentries_l0 (l : List Int) (hl : l.length ≤ 4611686018427387904) : ∀ d i : Nat, i + d = l.length → Ev (fun k => cr9_Entries.l0 k l (i : Int) 2 1 []) (ent (l.drop i))
 | 0, i, h => by
  refine Ev.step (f := fun _ => some (ent (l.drop i))) (fun k => ?_) (Ev.now _)
  simp only [cr9_Entries.l0]
  rw [if_neg (by omega), List.drop_of_length_le (by omega)]; rfl
 | d + 1, i, h => by
  have ih := rentries_l0 l hl d (i + 1) (by omega)
  refine Ev.step (f := fun k => (cr4_Is.f k 2 1 [] (rd l (i : Int))).bind fun t => if t = true then cr9_Entries.l0 k l (wrap64 ((i : Int) + 1)) 2 1 [] else some 2) (fun k => ?_) ?_
  ·simp only [cr9_Entries.l0]
   rw [if_pos (by omega), if_pos (by omega)]
  refine (ris_two _).bind ?_
  by_cases hx : 0 ≤ rd l (i : Int) ∧ rd l (i : Int) < 2
  ·have e : ent (l.drop i) = ent (l.drop (i + 1)) := by
    unfold ent okb
    rw [drop_cons l 0 i (by omega), List.all_cons, ← rd_nat, decide_eq_true hx, Bool.true_and]
   rw [e, decide_eq_true hx]
   refine Ev.congr (fun k => if_pos rfl) ?_
   rw [w64_id (by omega) (by omega)]
   exact ih
  ·have e : ent (l.drop i) = 2 := by
    unfold ent okb
    rw [drop_cons l 0 i (by omega), List.all_cons, ← rd_nat, decide_eq_false hx, Bool.false_and]; rfl
   rw [e, decide_eq_false hx]
   exact Ev.congr (fun k => if_neg Bool.false_ne_true) (Ev.now _)
theorem entries_ev (l : List Int) (hl : l.length ≤ 4611686018427387904) : Ev (fun k => matrix_entries.f k 2 1 [] 2 [1] [0, 0] l) (ent l) := entries_l0 l hl l.length 0 (by omega)
theorem rentries_ev (l : List Int) (hl : l.length ≤ 4611686018427387904) : Ev (fun k => cr9_Entries.f k 2 1 [] l) (ent l) := rentries_l0 l hl l.length 0 (by omega)
theorem rd_L1_nat (rows : List (List Int)) (i : Nat) : rd_L1 rows (i : Int) = rows.getD i [] := by unfold rd_L1; rw [Int.toNat_natCast]
section
variable (rows : List (List Int)) (hr : rows.length ≤ 256)
include hr
theorem l1_ev (hlen : ∀ j, j < rows.length → (rows.getD j []).length ≤ 4611686018427387904) : ∀ d i : Nat, i + d = rows.length → Ev (fun k => matrix_check.l1 k rows (rows.length : Int) (i : Int) 2 1 [] 2 [1] [0, 0]) (if bits (rows.drop i) = true then 0 else 2)
 | 0, i, h => by
  refine Ev.step (f := fun _ => some _) (fun k => ?_) (Ev.now _)
  simp only [matrix_check.l1]
  rw [if_neg (by omega), List.drop_of_length_le (by omega)]; rfl
 | d + 1, i, h => by
  have ih := l1_ev hlen d (i + 1) (by omega)
  refine Ev.step (f := fun k => (matrix_entries.f k 2 1 [] 2 [1] [0, 0] (rd_L1 rows (i : Int))).bind fun t => if t = 0 then matrix_check.l1 k rows (rows.length : Int) (wrap64 ((i : Int) + 1)) 2 1 [] 2 [1] [0, 0] else some t) (fun k => ?_) ?_
  ·simp only [matrix_check.l1]
   rw [if_pos (by omega), if_pos (by omega), if_pos (by omega)]
  rw [rd_L1_nat]
  refine (entries_ev _ (hlen i (by omega))).bind ?_
  unfold ent
  by_cases hx : okb (rows.getD i []) = true
  ·have e : bits (rows.drop i) = bits (rows.drop (i + 1)) := by
    unfold bits
    rw [drop_cons rows [] i (by omega), List.all_cons, hx, Bool.true_and]
   rw [e, if_pos hx]
   refine Ev.congr (fun k => if_pos rfl) ?_
   rw [w64_id (by omega) (by omega)]
   exact ih
  ·have e : bits (rows.drop i) = false := by
    unfold bits
    rw [drop_cons rows [] i (by omega), List.all_cons, Bool.eq_false_iff.2 hx, Bool.false_and]
   rw [e, if_neg hx]
   exact Ev.congr (fun k => if_neg (by decide)) (Ev.now _)
theorem rl1_ev (c : Int) (hlen : ∀ j, j < rows.length → (rows.getD j []).length ≤ 4611686018427387904) : ∀ d i : Nat, i + d = rows.length → Ev (fun k => cr9_Check.l1 k (i : Int) 2 1 [] c rows) (if bits (rows.drop i) = true then 0 else 2)
 | 0, i, h => by
  refine Ev.step (f := fun _ => some _) (fun k => ?_) (Ev.now _)
  simp only [cr9_Check.l1]
  rw [if_neg (by omega), List.drop_of_length_le (by omega)]; rfl
 | d + 1, i, h => by
  have ih := rl1_ev c hlen d (i + 1) (by omega)
  refine Ev.step (f := fun k => (cr9_Entries.f k 2 1 [] (rd_L1 rows (i : Int))).bind fun t => if t = 0 then cr9_Check.l1 k (wrap64 ((i : Int) + 1)) 2 1 [] c rows else some t) (fun k => ?_) ?_
  ·simp only [cr9_Check.l1]
   rw [if_pos (by omega), if_pos (by omega)]
  rw [rd_L1_nat]
  refine (rentries_ev _ (hlen i (by omega))).bind ?_
  unfold ent
  by_cases hx : okb (rows.getD i []) = true
  ·have e : bits (rows.drop i) = bits (rows.drop (i + 1)) := by
    unfold bits
    rw [drop_cons rows [] i (by omega), List.all_cons, hx, Bool.true_and]
   rw [e, if_pos hx]
   refine Ev.congr (fun k => if_pos rfl) ?_
   rw [w64_id (by omega) (by omega)]
   exact ih
  ·have e : bits (rows.drop i) = false := by
    unfold bits
    rw [drop_cons rows [] i (by omega), List.all_cons, Bool.eq_false_iff.2 hx, Bool.false_and]
   rw [e, if_neg hx]
   exact Ev.congr (fun k => if_neg (by decide)) (Ev.now _)
end
theorem len_at {c : Int} {rows : List (List Int)} (h : len c rows = true) (j : Nat) (hj : j < rows.length) : ((rows.getD j []).length : Int) = c := by
 have := List.all_eq_true.1 h _ (getD_mem rows [] j hj)
 simpa using this
theorem l0_ev (rows : List (List Int)) (hr : rows.length ≤ 256) (c : Int) (hc : c ≤ 256) : ∀ d i : Nat, i + d = rows.length → (∀ j, j < i → ((rows.getD j []).length : Int) = c) →
  Ev (fun k => matrix_check.l0 k rows (rows.length : Int) (i : Int) 2 1 [] 2 [1] [0, 0] c rows) (if len c (rows.drop i) = true then (if bits rows = true then 0 else 2) else 3)
 | 0, i, h, hj => by
  refine Ev.step (f := fun k => matrix_check.l1 k rows (rows.length : Int) ((0 : Nat) : Int) 2 1 [] 2 [1] [0, 0]) (fun k => ?_) ?_
  ·simp only [matrix_check.l0]
   rw [if_neg (by omega)]; rfl
  ·have e : len c (rows.drop i) = true := by rw [List.drop_of_length_le (by omega)]; rfl
   rw [if_pos e]
   exact l1_ev rows hr (fun j hj' => by have := hj j (by omega); omega) rows.length 0 (by omega)
 | d + 1, i, h, hj => by
  by_cases hx : ((rows.getD i []).length : Int) = c
  ·have ih := l0_ev rows hr c hc d (i + 1) (by omega) (fun j hj' => by by_cases e : j = i; (· subst e; exact hx); (· exact hj j (by omega)))
   have e : len c (rows.drop i) = len c (rows.drop (i + 1)) := by
    unfold len
    rw [drop_cons rows [] i (by omega), List.all_cons, decide_eq_true hx, Bool.true_and]
   rw [e]
   refine Ev.step (fun k => ?_) ih
   simp only [matrix_check.l0, rd_L1_nat]
   rw [if_pos (by omega), if_pos (by omega), if_pos (by omega), if_pos hx, w64_id (by omega) (by omega)]
   rfl
  ·have e : len c (rows.drop i) = false := by
    unfold len
    rw [drop_cons rows [] i (by omega), List.all_cons, decide_eq_false hx, Bool.false_and]
   rw [e]
   refine Ev.step (f := fun _ => some 3) (fun k => ?_) (Ev.now _)
   simp only [matrix_check.l0, rd_L1_nat]
   rw [if_pos (by omega), if_pos (by omega), if_pos (by omega), if_neg hx]
theorem rl0_ev (rows : List (List Int)) (hr : rows.length ≤ 256) (c : Int) (hc : c ≤ 256) : ∀ d i : Nat, i + d = rows.length → (∀ j, j < i → ((rows.getD j []).length : Int) = c) →
  Ev (fun k => cr9_Check.l0 k (i : Int) 2 1 [] c rows) (if len c (rows.drop i) = true then (if bits rows = true then 0 else 2) else 3)
 | 0, i, h, hj => by
  refine Ev.step (f := fun k => cr9_Check.l1 k ((0 : Nat) : Int) 2 1 [] c rows) (fun k => ?_) ?_
  ·simp only [cr9_Check.l0]
   rw [if_neg (by omega)]; rfl
  ·have e : len c (rows.drop i) = true := by rw [List.drop_of_length_le (by omega)]; rfl
   rw [if_pos e]
   exact rl1_ev rows hr c (fun j hj' => by have := hj j (by omega); omega) rows.length 0 (by omega)
 | d + 1, i, h, hj => by
  by_cases hx : ((rows.getD i []).length : Int) = c
  ·have ih := rl0_ev rows hr c hc d (i + 1) (by omega) (fun j hj' => by by_cases e : j = i; (· subst e; exact hx); (· exact hj j (by omega)))
   have e : len c (rows.drop i) = len c (rows.drop (i + 1)) := by
    unfold len
    rw [drop_cons rows [] i (by omega), List.all_cons, decide_eq_true hx, Bool.true_and]
   rw [e]
   refine Ev.step (fun k => ?_) ih
   simp only [cr9_Check.l0, rd_L1_nat]
   rw [if_pos (by omega), if_pos (by omega), if_pos hx, w64_id (by omega) (by omega)]
   rfl
  ·have e : len c (rows.drop i) = false := by
    unfold len
    rw [drop_cons rows [] i (by omega), List.all_cons, decide_eq_false hx, Bool.false_and]
   rw [e]
   refine Ev.step (f := fun _ => some 3) (fun k => ?_) (Ev.now _)
   simp only [cr9_Check.l0, rd_L1_nat]
   rw [if_pos (by omega), if_pos (by omega), if_neg hx]
theorem check_ev (c : Int) (rows : List (List Int)) : Ev (fun k => matrix_check.f k 2 1 [] 2 [1] [0, 0] c rows) (chk c rows) := by
 have hj : Ev (fun k => matrix_check.j0 k true 2 1 [] 2 [1] [0, 0] c rows) 3 := Ev.step (f := fun _ => some 3) (fun k => by simp only [matrix_check.j0]; rw [if_pos trivial]) (Ev.now _)
 unfold matrix_check.f chk
 by_cases h1 : c < 0
 ·rw [if_pos (Or.inl h1)]; exact Ev.congr (fun k => if_pos h1) hj
 refine Ev.congr (fun k => if_neg h1) ?_
 by_cases h2 : c > 256
 ·rw [if_pos (Or.inr (Or.inl h2))]; exact Ev.congr (fun k => if_pos h2) hj
 refine Ev.congr (fun k => if_neg h2) ?_
 by_cases h3 : (rows.length : Int) > 256
 ·rw [if_pos (Or.inr (Or.inr (by omega))), decide_eq_true h3]; exact hj
 rw [if_neg (by omega), decide_eq_false h3]
 refine Ev.step (f := fun k => matrix_check.l0 k rows (rows.length : Int) ((0 : Nat) : Int) 2 1 [] 2 [1] [0, 0] c rows) (fun k => by simp only [matrix_check.j0]; rw [if_neg Bool.false_ne_true]; rfl) ?_
 exact l0_ev rows (by omega) c (by omega) rows.length 0 (by omega) (fun j hj => by omega)
theorem rCheck_ev (c : Int) (rows : List (List Int)) : Ev (fun k => cr9_Check.f k 2 1 [] c rows) (chk c rows) := by
 have hj : Ev (fun k => cr9_Check.j0 k true 2 1 [] c rows) 3 := Ev.step (f := fun _ => some 3) (fun k => by simp only [cr9_Check.j0]; rw [if_pos trivial]) (Ev.now _)
 unfold cr9_Check.f chk
 refine check_two.bind (Ev.congr (fun k => if_pos rfl) ?_)
 by_cases h1 : c < 0
 ·rw [if_pos (Or.inl h1)]; exact Ev.congr (fun k => if_pos h1) hj
 refine Ev.congr (fun k => if_neg h1) ?_
 by_cases h2 : c > 256
 ·rw [if_pos (Or.inr (Or.inl h2))]; exact Ev.congr (fun k => if_pos h2) hj
 refine Ev.congr (fun k => if_neg h2) ?_
 by_cases h3 : (rows.length : Int) > 256
 ·rw [if_pos (Or.inr (Or.inr (by omega))), decide_eq_true h3]; exact hj
 rw [if_neg (by omega), decide_eq_false h3]
 refine Ev.step (f := fun k => cr9_Check.l0 k ((0 : Nat) : Int) 2 1 [] c rows) (fun k => by simp only [cr9_Check.j0]; rw [if_neg Bool.false_ne_true]; rfl) ?_
 exact rl0_ev rows (by omega) c (by omega) rows.length 0 (by omega) (fun j hj => by omega)
theorem Check_ev (c : Int) (rows : List (List Int)) : Ev (fun k => matrix_Check.f k 2 1 [] c rows) (chk c rows) := by
 unfold matrix_Check.f matrix_open.f
 refine Ev.bind (a := (0, chk c rows)) ?_ (Ev.now _)
 refine new_two.bind (ord_two.bind (Ev.congr (fun k => if_pos rfl) ?_))
 refine Ev.step (f := fun k => (matrix_check.f k 2 1 [] 2 [1] [0, 0] c rows).bind fun t => if t = 0 then matrix_open.l0 k 2 1 [] 2 [1] [0, 0] [⟨c, rows⟩] (([⟨c, rows⟩] : List S24).length : Int) (wrap64 (0 + 1)) else some (0, t)) (fun k => ?_) ?_
 ·simp only [matrix_open.l0]
  rw [if_pos (by simp), if_pos (by simp), if_pos (by simp)]
  rfl
 refine (check_ev c rows).bind ?_
 by_cases h : chk c rows = 0
 ·rw [h]
  refine Ev.congr (fun k => if_pos rfl) (Ev.step (f := fun _ => some (0, 0)) (fun k => ?_) (Ev.now _))
  simp only [matrix_open.l0]
  rw [if_neg (by rw [w64_id (by omega) (by omega)]; simp)]
 ·exact Ev.congr (fun k => if_neg h) (Ev.now _)
theorem chk_ok {c : Int} {rows : List (List Int)} (h : chk c rows = 0) : 0 ≤ c ∧ c ≤ 256 ∧ rows.length ≤ 256 ∧ (∀ j, j < rows.length → ((rows.getD j []).length : Int) = c) ∧ (∀ j, j < rows.length → okb (rows.getD j []) = true) := by
 unfold chk at h
 split at h
 ·omega
 ·next h1 =>
  split at h
  ·next h2 =>
   split at h
   ·next h3 => exact ⟨by omega, by omega, by omega, fun j hj => len_at h2 j hj, fun j hj => List.all_eq_true.1 h3 _ (getD_mem rows [] j hj)⟩
   ·omega
  ·omega
theorem okb_at {l : List Int} (h : okb l = true) (i : Nat) : rd l (i : Int) = 0 ∨ rd l (i : Int) = 1 := by
 by_cases hi : i < l.length
 ·have := List.all_eq_true.1 h _ (getD_mem l 0 i hi)
  rw [rd_nat]
  simp only [decide_eq_true_eq] at this
  omega
 ·left; rw [rd_nat, List.getD_eq_getElem?_getD, List.getElem?_eq_none (by omega)]; rfl
end Go.Proofs.Ytmclalniilkjiaa.Ck
namespace Go.Proofs.Ytmclalniilkjiaa.Q
open Go.RowKit Go.Proofs.YtmclalniilkjiaaW.PrintWords Go.Proofs.YtmclalniilkjiaaW.PrintLast Go.Proofs.YtmclalniilkjiaaW.PrintMore
open List renaming setIfInBounds_toArray → l01_, set_cons_zero → l02_, set_cons_succ → l03_
attribute [local go_sem] max2_int min2_int max_two min_two max_three min_three max_four min_four
set_option linter.unusedVariables false
set_option linter.unusedSimpArgs false
def message_binary.f  : Option (Int × Int × List Int) := some (2, 1, ([] : List Int))
set_option maxHeartbeats 8000000 in
set_option maxRecDepth 100000 in
theorem message_binary.calls  (r1 : Int) (r2 : Int) (r3 : List Int) (w : World) (h : message_binary.f  = some (r1, r2, r3)) :
  Calls Try.prog 68 #[] w fun e w' => ∃ v2_ : Value, e = .returned (.agg #[.int .i64 r1, .int .i64 r2, v2_]) ∧ Kd.R (Kd.int .i64) 3 w' w.heap.size (fun _ => True) v2_ r3 ∧ Below w.heap.size w w' := by
 have hu44 := Try.underlying44;have HB := Ai0.mk (Below.refl w.heap.size w);have H : (some (2, 1, ([] : List Int))) = some (r1, r2, r3) := h;clear h;simp only [Option.some.injEq, Prod.mk.injEq] at H;obtain ⟨rfl, rfl, rfl⟩ := H;go_enter Try.func68, Try.ntmps68
 go_wp2_with (first | ((with_reducible refine gate_dst (N := 0) rfl ?_); refine box_event ?hg (N := 0) ?hd (cs := #[.int .i64 0, .int .i64 0, .slice none 0 0]) (t := 44) ?hr ?_; (case hd => rfl); (case hg => rfl); (case hr => first | (go_simp; done) | (go_simp; rfl)); intro gb124 hg w1 hbox hb; have n0_ := Ai0.mk (bt1 (by repeat (first | (with_reducible first | exact HB.out | apply ba1 | apply pbN | apply bw1) | exact HB.out)) hb); have n1_ := Ai0.mk (hbox); have n2_ := Ai0.mk ((by rw [hg]; exact (bz1 (by repeat (first | (with_reducible first | exact HB.out | apply ba1 | apply pbN | apply bw1) | exact HB.out))) : w.heap.size ≤ gb124)); have n3_ := Ai0.mk ((by rw [hg]; exact (bz1 (by repeat (first | (with_reducible first | exact HB.out | apply ba1 | apply pbN | apply bw1) | exact HB.out))) : w.heap.size ≤ gb124)); clear HB; have HB := n0_; have BK124 := n1_; have GW124 := n2_; have GE124 := n3_; clear n0_ n1_ n2_ n3_; clear hb hbox hg; have hcz2_0 : w1.cell? ⟨gb124, 0, none⟩ = some (.int .i64 0) := (kc1 BK124.out 0).trans rfl; have hcz2_1 : w1.cell? ⟨gb124, 1, none⟩ = some (.int .i64 0) := (kc1 BK124.out 1).trans rfl; have hcz2_2 : w1.cell? ⟨gb124, 2, none⟩ = some (.slice none 0 0) := (kc1 BK124.out 2).trans rfl; have hfz2_0 := kf1 BK124.out 0; have hfz2_1 := kf1 BK124.out 1; have hfz2_2 := kf1 BK124.out 2))
 refine bodyPost_ret (results_cell_row rfl _ _ gb124 44 #[.int .i64 2, .int .i64 1, .slice none 0 0] (0, 0) _ rfl (by (with_reducible repeat (first | refine kn1 ?_ _ | refine kd1 ?_ | refine ka1 ?_ _)); refine blk_put (cs := #[.int .i64 2, .int .i64 1, .slice none 0 0]) ?_ 2 _ rfl; (with_reducible repeat (first | refine kn1 ?_ _ | refine kd1 ?_ | refine ka1 ?_ _)); refine blk_put (cs := #[.int .i64 2, .int .i64 0, .slice none 0 0]) ?_ 1 _ rfl; (with_reducible repeat (first | refine kn1 ?_ _ | refine kd1 ?_ | refine ka1 ?_ _)); refine blk_put (cs := #[.int .i64 0, .int .i64 0, .slice none 0 0]) ?_ 0 _ rfl; (with_reducible repeat (first | refine kn1 ?_ _ | refine kd1 ?_ | refine ka1 ?_ _)); exact BK124.out) Try.underlying44 rfl (by kernel_rfl)) rfl ?_;exact ⟨_, by first | rfl | (simp [eW0, eW1] <;> rfl) | (simp [*, eW0, eW1] <;> rfl), by first | exact Kd.R_nil _ _ _ _ _ | exact Kd.N_nil _ _ _ _ _ | exact Kd.V_nil _ _ _ _ _ | exact Kd.Q_nil _ _ _ _ _ | exact Kd.S_nil _ _ _ _ _, by repeat (first | (with_reducible first | exact HB.out | apply ba1 | apply pbN | apply bw1 | refine bs1 ?_ GE124.out) | exact HB.out)⟩
def IsS73 (w0 W : World) (g : Nat) (f0 : List (List Int)) (f1 : List (List (S77))) : Prop := ∃ A0 c0, ∃ A1 c1, W.heap[g]? = some (.cells #[.slice A0 f0.length c0, .slice A1 f1.length c1] 73 (0, 0)) ∧ w0.heap.size ≤ g ∧ Kd.C (Kd.slice 3 (Kd.int .i64)) w0 A0 f0.length f0 ∧ Kd.C (Kd.slice 77 k77) w0 A1 f1.length f1
theorem IsS73.grown {w0 W : World} {g : Nat} {f0 : List (List Int)} {f1 : List (List (S77))} {W1 : World} {row : Option Nat} (h : IsS73 w0 W g f0 f1) (hw : W.grownBy W1 row) (hne : some g ≠ row) : IsS73 w0 W1 g f0 f1 := by
 obtain ⟨A0, c0, A1, c1, hb, hg, hr0, hr1⟩ := h;exact ⟨A0, c0, A1, c1, blk_grown hb hw hne, hg, hr0, hr1⟩
theorem IsS73.own_neN {w0 W : World} {g : Nat} {f0 : List (List Int)} {f1 : List (List (S77))} {α : Type} {d : Kd α} {e : Nat} {base : Nat} {ok : Nat → Prop} {v : Value} {xs : List α} (h : IsS73 w0 W g f0 f1) (ho : Kd.N d e W base ok v xs) (ht : e ≠ 73) : some g ≠ v.ownBlock := by
 obtain ⟨A0, c0, A1, c1, hb, hg, hr0, hr1⟩ := h;exact Kd.N_ne ho hb ht
theorem IsS73.fresh {w0 W : World} {g : Nat} {f0 : List (List Int)} {f1 : List (List (S77))} (h : IsS73 w0 W g f0 f1) : ∀ k, W.heap.size ≤ k → k ≠ g := by
 obtain ⟨A0, c0, A1, c1, hb, hg, hr0, hr1⟩ := h;exact Kd.freshB hb
theorem IsS73.kept {w0 W : World} {g : Nat} {f0 : List (List Int)} {f1 : List (List (S77))} {W1 : World} {S : Nat → Prop} (h : IsS73 w0 W g f0 f1) (hk : Kept W W1 S) (hne : ¬ S g) : IsS73 w0 W1 g f0 f1 := by
 obtain ⟨A0, c0, A1, c1, hb, hg, hr0, hr1⟩ := h;exact ⟨A0, c0, A1, c1, blk_kept hb hk hne, hg, hr0, hr1⟩
theorem IsS73.below {w0 W : World} {g : Nat} {f0 : List (List Int)} {f1 : List (List (S77))} {W1 : World} (h : IsS73 w0 W g f0 f1) (hw : Below W.heap.size W W1) : IsS73 w0 W1 g f0 f1 := h.grown (grown_of_below hw none) (by simp)
theorem IsS73.alloc {w0 W : World} {g : Nat} {f0 : List (List Int)} {f1 : List (List (S77))} (h : IsS73 w0 W g f0 f1) (o : Obj) : IsS73 w0 (W.alloc o) g f0 f1 := h.below (ba1 (Below.refl _ _) o)
theorem IsS73.drewN {w0 W : World} {g : Nat} {f0 : List (List Int)} {f1 : List (List (S77))} (h : IsS73 w0 W g f0 f1) (m : Nat) : IsS73 w0 (W.drewN m) g f0 f1 := h
theorem IsS73.drew {w0 W : World} {g : Nat} {f0 : List (List Int)} {f1 : List (List (S77))} (h : IsS73 w0 W g f0 f1) : IsS73 w0 W.drew g f0 f1 := h
theorem IsS73.at_ {w0 W : World} {g : Nat} {f0 : List (List Int)} {f1 : List (List (S77))} {w' : World} {m : Nat} (hq : W.drewN m = w') (h : IsS73 w0 W g f0 f1) : IsS73 w0 w' g f0 f1 := by subst hq; exact IsS73.drewN h m
theorem IsS73.apart {w0 W : World} {g : Nat} {f0 : List (List Int)} {f1 : List (List (S77))} {α : Type} {d : Kd α} {e : Nat} {base : Nat} {ok : Nat → Prop} {v : Value} {xs : List α} (h : IsS73 w0 W g f0 f1) (ho : d.R e W base ok v xs) (ht : ∀ q, q ∈ e :: d.E → q ≠ 73) : d.R e W base (fun k => ok k ∧ k ≠ g) v xs := by
 obtain ⟨A0, c0, A1, c1, hb, hg, hr0, hr1⟩ := h;exact Kd.R_types ho hb ht
theorem IsS73.own_ne {w0 W : World} {g : Nat} {f0 : List (List Int)} {f1 : List (List (S77))} {α : Type} {d : Kd α} {e : Nat} {base : Nat} {ok : Nat → Prop} {v : Value} {xs : List α} (h : IsS73 w0 W g f0 f1) (ho : d.R e W base ok v xs) (ht : e ≠ 73) : some g ≠ v.ownBlock := by
 obtain ⟨A0, c0, A1, c1, hb, hg, hr0, hr1⟩ := h;exact Kd.R_ne ho hb ht
theorem IsS73.apartQ {w0 W : World} {g : Nat} {f0 : List (List Int)} {f1 : List (List (S77))} {α : Type} {d : Kd α} {e : Nat} {base : Nat} {ok : Nat → Prop} {v : Value} {xs : List α} (h : IsS73 w0 W g f0 f1) (ho : d.Q e W base ok v xs) (ht : ∀ q, q ∈ e :: d.E → q ≠ 73) : d.Q e W base (fun k => ok k ∧ k ≠ g) v xs := by
 obtain ⟨A0, c0, A1, c1, hb, hg, hr0, hr1⟩ := h;exact Kd.Q_types ho hb ht
theorem IsS73.own_neQ {w0 W : World} {g : Nat} {f0 : List (List Int)} {f1 : List (List (S77))} {α : Type} {d : Kd α} {e : Nat} {base : Nat} {ok : Nat → Prop} {v : Value} {xs : List α} (h : IsS73 w0 W g f0 f1) (ho : d.Q e W base ok v xs) (ht : e ≠ 73) : some g ≠ v.ownBlock := by
 obtain ⟨A0, c0, A1, c1, hb, hg, hr0, hr1⟩ := h;exact Kd.Q_ne ho hb ht
theorem IsS73.apartS {w0 W : World} {g : Nat} {f0 : List (List Int)} {f1 : List (List (S77))} {α : Type} {d : Kd α} {e : Nat} {base : Nat} {ok : Nat → Prop} {v : Value} {xs : List α} (h : IsS73 w0 W g f0 f1) (ho : d.S e W base ok v xs) (ht : ∀ q, q ∈ e :: d.E → q ≠ 73) : d.S e W base (fun k => ok k ∧ k ≠ g) v xs := by
 obtain ⟨A0, c0, A1, c1, hb, hg, hr0, hr1⟩ := h;exact Kd.S_types ho hb ht
theorem IsS73.own_neS {w0 W : World} {g : Nat} {f0 : List (List Int)} {f1 : List (List (S77))} {α : Type} {d : Kd α} {e : Nat} {base : Nat} {ok : Nat → Prop} {v : Value} {xs : List α} (h : IsS73 w0 W g f0 f1) (ho : d.S e W base ok v xs) (ht : e ≠ 73) : some g ≠ v.ownBlock := by
 obtain ⟨A0, c0, A1, c1, hb, hg, hr0, hr1⟩ := h;exact Kd.S_ne ho hb ht
theorem IsS73.lt {w0 W : World} {g : Nat} {f0 : List (List Int)} {f1 : List (List (S77))} (h : IsS73 w0 W g f0 f1) : g < W.heap.size := by
 obtain ⟨A0, c0, A1, c1, hb, hg, hr0, hr1⟩ := h;exact blk_lt hb
theorem IsS73.ge {w0 W : World} {g : Nat} {f0 : List (List Int)} {f1 : List (List (S77))} (h : IsS73 w0 W g f0 f1) : w0.heap.size ≤ g := by
 obtain ⟨A0, c0, A1, c1, hb, hg, hr0, hr1⟩ := h;exact hg
theorem IsS73.ne_blk {w0 W : World} {g : Nat} {f0 : List (List Int)} {f1 : List (List (S77))} {a : Nat} {cs : Array Value} {t : TypeId} {fr : Nat × Nat} (h : IsS73 w0 W g f0 f1) (hb2 : W.heap[a]? = some (.cells cs t fr)) (ht : t ≠ 73) : g ≠ a := by
 obtain ⟨A0, c0, A1, c1, hb, hg, hr0, hr1⟩ := h
 rintro rfl
 rw [hb] at hb2
 injection hb2 with hb2
 injection hb2 with _ ht2
 exact ht ht2.symm
theorem IsS73.far {w0 W : World} {g : Nat} {f0 : List (List Int)} {f1 : List (List (S77))} {p : Addr} (h : IsS73 w0 W g f0 f1) (hne : g ≠ p.block) (u : Value) : IsS73 w0 (W.setCell p u) g f0 f1 := by
 obtain ⟨A0, c0, A1, c1, hb, hg, hr0, hr1⟩ := h;exact ⟨A0, c0, A1, c1, blk_far hb hne u, hg, hr0, hr1⟩
theorem cellS73_0 {W : World} {g : Nat} {A0 : Option Addr} {c0 : Nat} {A1 : Option Addr} {c1 : Nat} {f0 : List (List Int)} {f1 : List (List (S77))} (h : W.heap[g]? = some (.cells #[.slice A0 f0.length c0, .slice A1 f1.length c1] 73 (0, 0))) : W.cell? ⟨g, 0, none⟩ = some (.slice A0 f0.length c0) := (kc1 h 0).trans rfl
theorem cellS73_1 {W : World} {g : Nat} {A0 : Option Addr} {c0 : Nat} {A1 : Option Addr} {c1 : Nat} {f0 : List (List Int)} {f1 : List (List (S77))} (h : W.heap[g]? = some (.cells #[.slice A0 f0.length c0, .slice A1 f1.length c1] 73 (0, 0))) : W.cell? ⟨g, 1, none⟩ = some (.slice A1 f1.length c1) := (kc1 h 1).trans rfl
theorem IsS73.new (w0 W : World) (A0 : Option Addr) (c0 : Nat) (A1 : Option Addr) (c1 : Nat) (f0 : List (List Int)) (f1 : List (List (S77))) (hB : Below w0.heap.size w0 W) (hr0 : Kd.C (Kd.slice 3 (Kd.int .i64)) w0 A0 f0.length f0) (hr1 : Kd.C (Kd.slice 77 k77) w0 A1 f1.length f1) : IsS73 w0 (W.alloc (.cells #[.slice A0 f0.length c0, .slice A1 f1.length c1] 73)) W.heap.size f0 f1 := ⟨A0, c0, A1, c1, by simpa using heap_alloc_new W _, hB.size, hr0, hr1⟩
mutual
def message_build.l0 : Nat → List (List Int) → Int → Int → List (List Int) → List (List (S77)) → Option ((List (List Int)) × (List (List (S77))) × Int)
 | 0, _, _, _, _, _ => none
 | k + 1, x23, x24, x25, x169000, x169001 => if x25 < x24 then (if 0 ≤ x25 then (if x25 < (x23.length : Int) then (message_build.l1 k x25 ([] : List Int) x23 x24 x25 (rd_L1 x23 x25) ((rd_L1 x23 x25).length : Int) 0 x169000 x169001) else (none)) else (none)) else (some (x169000, x169001, 0))
def message_build.l1 : Nat → Int → List Int → List (List Int) → Int → Int → List Int → Int → Int → List (List Int) → List (List (S77)) → Option ((List (List Int)) × (List (List (S77))) × Int)
 | 0, _, _, _, _, _, _, _, _, _, _ => none
 | k + 1, x6, x8, x23, x24, x25, x30, x31, x32, x169000, x169001 => if x32 < x31 then (if 0 ≤ x32 then (if x32 < (x30.length : Int) then (if (rd x30 x32) = 1 then (if x32 < (x169001.length : Int) then (if (rd_L9 x169001 x32).length < 8796093022208 then (if x8.length < 17592186044416 then (message_build.l1 k x6 (x8 ++ [x32]) x23 x24 x25 x30 x31 (wrap64 (x32 + 1)) x169000 (x169001.set (x32 : Int).toNat ((rd_L9 x169001 x32) ++ [(⟨x6, (x8.length : Int)⟩ : S77)]))) else (none)) else (none)) else (none)) else (message_build.l1 k x6 x8 x23 x24 x25 x30 x31 (wrap64 (x32 + 1)) x169000 x169001)) else (none)) else (none)) else (if x169000.length < 5864062014805 then (message_build.l0 k x23 x24 (wrap64 (x25 + 1)) (x169000 ++ [x8]) x169001) else (none))
end
def message_build.f (k : Nat) (a0_0 : Int) (l0_1 : List (List Int)) : Option ((List (List Int)) × (List (List (S77))) × Int) := (message_binary.f).bind fun bt159 => ((matrix_Check.f k bt159.1 bt159.2.1 bt159.2.2 a0_0 l0_1).bind fun t164 => (if t164 = 0 then (if 0 ≤ a0_0 then (if (a0_0 : Int).toNat ≤ 11728124029610 then (message_build.l0 k l0_1 (l0_1.length : Int) 0 ([] : List (List Int)) (List.replicate (a0_0 : Int).toNat [])) else (none)) else (none)) else (some (([] : List (List Int)), ([] : List (List (S77))), t164))))
theorem message_build.mono_l : ∀ k, (∀ y0 y1 y2 y3 y4, LeO (message_build.l0 k y0 y1 y2 y3 y4) (message_build.l0 (k + 1) y0 y1 y2 y3 y4)) ∧ (∀ y0 y1 y2 y3 y4 y5 y6 y7 y8 y9, LeO (message_build.l1 k y0 y1 y2 y3 y4 y5 y6 y7 y8 y9) (message_build.l1 (k + 1) y0 y1 y2 y3 y4 y5 y6 y7 y8 y9))
 | 0 => ⟨fun _ _ _ _ _ r h => by simp [message_build.l0] at h, fun _ _ _ _ _ _ _ _ _ _ r h => by simp [message_build.l1] at h⟩
 | k + 1 => by
  obtain ⟨ih0, ih1⟩ := message_build.mono_l k;refine ⟨?_, ?_⟩
  ·intro y0 y1 y2 y3 y4;unfold message_build.l0
   repeat' first
   | (with_reducible exact ih0 _ _ _ _ _)
   | (with_reducible exact ih1 _ _ _ _ _ _ _ _ _ _)
   | (with_reducible exact matrix_Check.mono _ _ _ _ _ _)
   | (with_reducible exact LeO.refl _)
   | (with_reducible exact LeO.none _)
   | (with_reducible refine LeO.ite ?_ ?_)
   | (with_reducible refine LeO.bind ?_ (fun _ => ?_))
   | exact ih0 _ _ _ _ _
   | exact ih1 _ _ _ _ _ _ _ _ _ _
   | exact matrix_Check.mono _ _ _ _ _ _
   | exact LeO.none _
   | refine LeO.ite ?_ ?_
   | refine LeO.bind ?_ (fun _ => ?_)
  ·intro y0 y1 y2 y3 y4 y5 y6 y7 y8 y9;unfold message_build.l1
   repeat' first
   | (with_reducible exact ih0 _ _ _ _ _)
   | (with_reducible exact ih1 _ _ _ _ _ _ _ _ _ _)
   | (with_reducible exact matrix_Check.mono _ _ _ _ _ _)
   | (with_reducible exact LeO.refl _)
   | (with_reducible exact LeO.none _)
   | (with_reducible refine LeO.ite ?_ ?_)
   | (with_reducible refine LeO.bind ?_ (fun _ => ?_))
   | exact ih0 _ _ _ _ _
   | exact ih1 _ _ _ _ _ _ _ _ _ _
   | exact matrix_Check.mono _ _ _ _ _ _
   | exact LeO.none _
   | refine LeO.ite ?_ ?_
   | refine LeO.bind ?_ (fun _ => ?_)
theorem message_build.mono : ∀ a0 a1 k, LeO (message_build.f k a0 a1) (message_build.f (k + 1) a0 a1) := by
 intro a0 a1 k;obtain ⟨ih0, ih1⟩ := message_build.mono_l k;unfold message_build.f
 repeat' first
   | (with_reducible exact ih0 _ _ _ _ _)
   | (with_reducible exact ih1 _ _ _ _ _ _ _ _ _ _)
   | (with_reducible exact matrix_Check.mono _ _ _ _ _ _)
   | (with_reducible exact LeO.refl _)
   | (with_reducible exact LeO.none _)
   | (with_reducible refine LeO.ite ?_ ?_)
   | (with_reducible refine LeO.bind ?_ (fun _ => ?_))
   | exact ih0 _ _ _ _ _
   | exact ih1 _ _ _ _ _ _ _ _ _ _
   | exact matrix_Check.mono _ _ _ _ _ _
   | exact LeO.none _
   | refine LeO.ite ?_ ?_
   | refine LeO.bind ?_ (fun _ => ?_)
def Built (w' : World) (base : Nat) (gg : Option Addr) (r3 : Int) (r1 : List (List Int)) (r2 : List (List S77)) : Prop := (r3 ≠ 0 ∧ gg = none) ∨ (r3 = 0 ∧ ∃ (g : Nat) (v0_ v1_ : Value), gg = some ⟨g, 0, none⟩ ∧ base ≤ g ∧ w'.heap[g]? = some (.cells #[v0_, v1_] 73 (0, 0)) ∧ Kd.S (Kd.slice 3 (Kd.int .i64)) 25 w' base (fun _ => True) v0_ r1 ∧ Kd.S (Kd.slice 77 k77) 75 w' base (fun _ => True) v1_ r2)
theorem Built.ok {w' : World} {base : Nat} {gg : Option Addr} {r3 : Int} {r1 : List (List Int)} {r2 : List (List S77)} (h : Built w' base gg r3 r1 r2) (h0 : r3 = 0) : ∃ (g : Nat) (v0_ v1_ : Value), gg = some ⟨g, 0, none⟩ ∧ base ≤ g ∧ w'.heap[g]? = some (.cells #[v0_, v1_] 73 (0, 0)) ∧ Kd.S (Kd.slice 3 (Kd.int .i64)) 25 w' base (fun _ => True) v0_ r1 ∧ Kd.S (Kd.slice 77 k77) 75 w' base (fun _ => True) v1_ r2 := h.elim (fun h_ => absurd h0 h_.1) (fun h_ => h_.2)
theorem Built.no {w' : World} {base : Nat} {gg : Option Addr} {r3 : Int} {r1 : List (List Int)} {r2 : List (List S77)} (h : Built w' base gg r3 r1 r2) (h0 : r3 ≠ 0) : gg = none := h.elim (fun h_ => h_.2) (fun h_ => absurd h_.1 h0)
def message_build.T13 : Bool × List (List Nat × List Nat) := (true, [([], []), ([0], [0]), ([1], [1]), ([2], [2]), ([], []), ([], []), ([5], [5]), ([6], [6]), ([7], [7]), ([], []), ([8, 9], [8, 9]), ([10], [10]), ([], []), ([], []), ([13], [13]), ([12, 14], [12, 14]), ([15], [15]), ([11, 16], [11, 16]), ([3, 4, 0, 1, 2, 3, 4, 5, 6, 7, 8, 9, 10, 11, 12, 13, 14, 15, 16, 17], [3, 4]), ([18, 17, 17, 0, 1, 2, 3, 4, 5, 6, 7, 8, 9, 10, 11, 12, 13, 14, 15, 16, 17], [17, 18])])
def message_build.B13 : List Nat := [0, 1, 3, 7, 0, 0, 32, 96, 224, 0, 992, 2016, 0, 0, 8192, 28672, 61440, 131040, 262143, 524287]
theorem message_build.tab13 : rtab .any (opsOf Try.f44 13) = message_build.T13 := by kernel_rfl
theorem message_build.bits13 : waitsOk message_build.T13.2 message_build.B13 = true := by kernel_rfl
set_option maxHeartbeats 8000000 in
set_option maxRecDepth 100000 in
theorem message_build.calls (k : Nat) (a0_0 : Int) (A0_1 : Option Addr) (c0_1 : Nat) (l0_1 : List (List Int)) (r1 : List (List Int)) (r2 : List (List (S77))) (r3 : Int) (w : World) (hr0_1 : Kd.C (Kd.slice 3 (Kd.int .i64)) w A0_1 l0_1.length l0_1) (hc0_1 : l0_1.length ≤ c0_1) (h : message_build.f k a0_0 l0_1 = some (r1, r2, r3)) :
  Calls Try.prog 44 #[.agg #[.int .i64 a0_0, .slice A0_1 l0_1.length c0_1]] w fun e w' => ∃ gg : Option Addr, e = .returned (.tuple #[.pointer gg, .int .i64 r3]) ∧ Below w.heap.size w w' ∧ Built w' w.heap.size gg r3 r1 r2 := by
 have hu24 := Try.underlying24;have hu73 := Try.underlying73;have hu77 := Try.underlying77;have HR0_1 := Ai0.mk hr0_1;have HC0_1 := Ai0.mk hc0_1;clear hr0_1 hc0_1;have HB := Ai0.mk (Below.refl w.heap.size w);have H : ((message_binary.f).bind fun bt159 => ((matrix_Check.f k bt159.1 bt159.2.1 bt159.2.2 a0_0 l0_1).bind fun t164 => (if t164 = 0 then (if 0 ≤ a0_0 then (if (a0_0 : Int).toNat ≤ 11728124029610 then (message_build.l0 k l0_1 (l0_1.length : Int) 0 ([] : List (List Int)) (List.replicate (a0_0 : Int).toNat [])) else (none)) else (none)) else (some (([] : List (List Int)), ([] : List (List (S77))), t164))))) = some (r1, r2, r3) := h;clear h;replace H := Option.bind_eq_some_iff.mp H;obtain ⟨⟨t159, t160, t161⟩, A20, H⟩ := H;replace H : ((matrix_Check.f k t159 t160 t161 a0_0 l0_1).bind fun t164 => (if t164 = 0 then (if 0 ≤ a0_0 then (if (a0_0 : Int).toNat ≤ 11728124029610 then (message_build.l0 k l0_1 (l0_1.length : Int) 0 ([] : List (List Int)) (List.replicate (a0_0 : Int).toNat [])) else (none)) else (none)) else (some (([] : List (List Int)), ([] : List (List (S77))), t164)))) = some (r1, r2, r3) := H;have A2 := Ai0.mk A20;clear A20;replace H := Option.bind_eq_some_iff.mp H;obtain ⟨t164, A30, H⟩ := H;replace H : (if t164 = 0 then (if 0 ≤ a0_0 then (if (a0_0 : Int).toNat ≤ 11728124029610 then (message_build.l0 k l0_1 (l0_1.length : Int) 0 ([] : List (List Int)) (List.replicate (a0_0 : Int).toNat [])) else (none)) else (none)) else (some (([] : List (List Int)), ([] : List (List (S77))), t164))) = some (r1, r2, r3) := H;have A3 := Ai0.mk A30;clear A30;by_cases c4 : t164 = 0
 ·rw [if_pos c4] at H;have c4b0 : (t164 == 0) = true := beq_iff_eq.mpr c4;have c4b1 : (t164 != 0) = false := bne_eq_false_iff_eq.mpr c4;clear c4;by_cases c5 : 0 ≤ a0_0
  ·rw [if_pos c5] at H;have c5b0 := eq_true c5;have c5b1 : decide (0 ≤ a0_0) = true := decide_eq_true c5;clear c5;by_cases c6 : (a0_0 : Int).toNat ≤ 11728124029610
   ·rw [if_pos c6] at H;have c6b0 := eq_true c6;have c6b1 : decide ((a0_0 : Int).toNat ≤ 11728124029610) = true := decide_eq_true c6;clear c6;(obtain ⟨y165, hy165⟩ : ∃ y_ : List (List (S77)), y_ = (List.replicate (a0_0 : Int).toNat []) := ⟨_, rfl⟩);(replace H : (message_build.l0 k l0_1 (l0_1.length : Int) 0 ([] : List (List Int)) y165) = some (r1, r2, r3) := by first | (rw [hy165]; with_reducible exact H) | (have H2_ := (Option.bind_some _ _).symm.trans H; rw [hy165]; with_reducible exact H2_) | (have H2_ := (Option.bind_some _ _).symm.trans H; with_reducible exact H2_) | with_reducible exact H | (rw [hy165]; exact H) | exact H);have Ny165 := Ai0.mk hy165;clear hy165;have H' := Ai0.mk H;clear H;go_enter Try.func44, Try.ntmps44
    try go_wp2_with (first | ((with_reducible refine gate_dst (N := 1) rfl ?_); refine box_event ?hg (N := 1) ?hd (cs := #[.int .i64 a0_0, .slice A0_1 l0_1.length c0_1]) (t := 24) ?hr ?_; (case hd => rfl); (case hg => rfl); (case hr => first | (go_simp; done) | (go_simp; rfl)); intro gb158 hg w7 hbox hb; have n0_ := Ai0.mk (bt1 (by repeat (first | (with_reducible first | exact HB.out | apply ba1 | apply pbN | apply bw1) | exact HB.out)) hb); have n1_ := Ai0.mk (hbox); have n2_ := Ai0.mk ((by rw [hg]; exact (bz1 (by repeat (first | (with_reducible first | exact HB.out | apply ba1 | apply pbN | apply bw1) | exact HB.out))) : w.heap.size ≤ gb158)); have n3_ := Ai0.mk ((by rw [hg]; exact (bz1 (by repeat (first | (with_reducible first | exact HB.out | apply ba1 | apply pbN | apply bw1) | exact HB.out))) : w.heap.size ≤ gb158)); clear HB; have HB := n0_; have BK158 := n1_; have GW158 := n2_; have GE158 := n3_; clear n0_ n1_ n2_ n3_; clear hb hbox hg))
    have n0_ := Ai0.mk (kd1 BK158.out);have n1_ := Ai0.mk (bw1 HB.out);clear BK158;clear HB;have BK158 := n0_;have HB := n1_;clear n0_ n1_;refine start_ (n := 4) (S := fun w' => w'.cell? ⟨gb158, 0, none⟩ = some (.int .i64 a0_0) ∧ w'.cell? ⟨gb158, 1, none⟩ = some (.slice A0_1 l0_1.length c0_1)) (ds := []) #[false, false, false, false] (by kernel_rfl) rfl rfl ⟨(kc1 BK158.out 0).trans rfl, (kc1 BK158.out 1).trans rfl⟩ (fun hHeld => ?_);(generalize w7.drew = w8 at BK158 HB hHeld ⊢);refine take_ (i := 1) (N := some 12) (v := ?_) (a' := ?_) #[false, true, false, false] rfl rfl (by kernel_rfl) (fun _ _ _ h => h) (Or.inl ⟨by rfl, ?_⟩) hHeld ?_ ?_;rotate_left
    ·rintro w' ⟨s0, s1⟩
     go_simp
     with_reducible rfl
    rotate_left
    ·simp only [Act.put, l01_, l02_, l03_, i64_w, i32_w]
     rfl
    refine one_ (i := 0) (N := some 11) #[true, true, false, false] rfl rfl (by kernel_rfl) (by decide) (fun K hK => ?_);refine goes_ Try.func68 (by kernel_rfl) rfl #[] (by rfl) rfl rfl (by (try simp only [List.map_toArray, List.map_cons, List.map_nil]); first | done | rfl | (simp only [List.length_drop, List.length_take]; rfl)) ?_
    with_reducible refine (message_binary.calls  t159 t160 t161 _ A2.out).mono ?_
    rintro e w9 ⟨v162, rfl, ho0, hb⟩
    refine ⟨_, rfl, ?_⟩;have n0_ := Ai0.mk (Kd.R_lower ho0 (bz1 (by repeat (first | (with_reducible first | exact HB.out | apply ba1 | apply pbN | apply bw1 | refine bs1 ?_ GE158.out) | exact HB.out))));have n1_ := Ai0.mk (kb1 (g := gb158) (o := .cells #[.int .i64 a0_0, .slice A0_1 l0_1.length c0_1] 24 (0, 0)) (by (with_reducible repeat (first | refine kn1 ?_ _ | refine kd1 ?_ | refine ka1 ?_ _)); exact BK158.out) hb);have n2_ := Ai0.mk (bt1 (by repeat (first | (with_reducible first | exact HB.out | apply ba1 | apply pbN | apply bw1 | refine bs1 ?_ GE158.out) | exact HB.out)) hb);clear BK158;clear HB;have HO163 := n0_;have BK158 := n1_;have HB := n2_;clear n0_ n1_ n2_;(try clear hb);(try clear hb2);(try clear hk);(try clear hi);(try clear ho0);obtain ⟨Ao10, co10, eo10⟩ := Kd.R_slice HO163.out;(first | subst eo10 | (injection eo10 with f1_ f2_ f3_; have f4_ := f1_.symm; have f5_ := f3_.symm; clear f1_ f2_ f3_; subst f4_; subst f5_));refine hK.out _ _ ⟨(kc1 BK158.out 0).trans rfl, (kc1 BK158.out 1).trans rfl⟩ (fun hHeld => ?_);clear hK K;refine norm_ (a' := ?_) ?_ ?_;rotate_left
    ·show Act.put _ (some 11) _ = _;simp only [Act.put, l01_, l02_, l03_, i64_w, i32_w]
     rfl
    refine one_ (i := 2) (N := some 13) #[true, true, true, false] rfl rfl (by kernel_rfl) (by decide) (fun K hK => ?_);refine goes_ Try.func67 (by kernel_rfl) rfl #[.agg #[.int .i64 t159, .int .i64 t160, .slice Ao10 t161.length co10], .agg #[.int .i64 a0_0, .slice A0_1 l0_1.length c0_1]] (by rfl) rfl rfl (by (try simp only [List.map_toArray, List.map_cons, List.map_nil]); first | done | rfl | (simp only [List.length_drop, List.length_take]; rfl)) ?_
    with_reducible refine (matrix_Check.calls k t159 t160 _ _ t161 a0_0 _ _ l0_1 t164 _ ?side1 ?side2 ?side3 ?side4 A3.out).mono ?_
    (case side1 => repeat (first | exact (Kd.R_reads' HO163.out).2.2 | (with_reducible refine Kd.C_alloc ?_ _) | (with_reducible refine Kd.C_drewN ?_ _) | (with_reducible refine Kd.C_drew ?_)));(case side2 => exact (Kd.R_reads' HO163.out).2.1);(case side3 => repeat (first | exact (Kd.C_below HR0_1.out HB.out) | (with_reducible refine Kd.C_alloc ?_ _) | (with_reducible refine Kd.C_drewN ?_ _) | (with_reducible refine Kd.C_drew ?_)));(case side4 => exact HC0_1.out)
    rintro e w11 ⟨rfl, hb⟩
    refine ⟨_, rfl, ?_⟩;have n0_ := Ai0.mk (Kd.R_below (by (with_reducible repeat (first | apply Kd.Ra1 | apply Kd.Rn1 | apply Kd.Rd1)); exact HO163.out) hb);have n1_ := Ai0.mk (kb1 (g := gb158) (o := .cells #[.int .i64 a0_0, .slice A0_1 l0_1.length c0_1] 24 (0, 0)) (by (with_reducible repeat (first | refine kn1 ?_ _ | refine kd1 ?_ | refine ka1 ?_ _)); exact BK158.out) hb);have n2_ := Ai0.mk (bt1 (by repeat (first | (with_reducible first | exact HB.out | apply ba1 | apply pbN | apply bw1 | refine bs1 ?_ GE158.out) | exact HB.out)) hb);clear HO163;clear BK158;clear HB;have HO163 := n0_;have BK158 := n1_;have HB := n2_;clear n0_ n1_ n2_;(try clear hb);(try clear hb2);(try clear hk);(try clear hi);refine hK.out _ _ ⟨(kc1 BK158.out 0).trans rfl, (kc1 BK158.out 1).trans rfl⟩ (fun hHeld => ?_);clear hK K;refine norm_ (a' := ?_) ?_ ?_;rotate_left
    ·show Act.put _ (some 13) _ = _;simp only [Act.put, l01_, l02_, l03_, i64_w, i32_w]
     rfl
    refine pure_ (i := 3) (N := some 4) (v := ?_) (a' := ?_) #[true, true, true, true] rfl rfl (by kernel_rfl) (fun _ _ _ h => h) (Or.inl ⟨by rfl, ?_⟩) ?_ ?_;rotate_left
    ·intro w';go_simp
     with_reducible rfl
    rotate_left
    ·simp only [Act.put, l01_, l02_, l03_, i64_w, i32_w]
     rfl
    refine done_ (by kernel_rfl) ?_;have hcz12_0 : w11.cell? ⟨gb158, 0, none⟩ = some (.int .i64 a0_0) := (kc1 BK158.out 0).trans rfl;have hcz12_1 : w11.cell? ⟨gb158, 1, none⟩ = some (.slice A0_1 l0_1.length c0_1) := (kc1 BK158.out 1).trans rfl;have hfz12_0 := kf1 BK158.out 0;have hfz12_1 := kf1 BK158.out 1
    try go_wp2_with (first | ((with_reducible refine gate_dst (N := 19) rfl ?_); refine Kd.S_make (Kd.slice 77 k77) _ 75 rfl (N := 19) rfl 71 _ _ rfl a0_0 rfl rfl Try.underlying71 (.slice none 0 0) 24 info75 rfl (by decide) (by omega) [] (ok := fun _ => True) (okp := fun _ => True) ⟨_, rfl, Kd.R_nil _ _ _ _ _⟩ (fun _ hk => hk) trivial (of_decide_eq_true (by first | (with_reducible assumption) | assumption)) (Nat.le_trans (Nat.mul_le_mul_right _ (of_decide_eq_true (by first | (with_reducible assumption) | assumption) : a0_0.toNat ≤ 11728124029610)) (by omega)) (Below.refl _ _) (Nat.le_refl _) ?_; intro v166 w13 ho14 hb hg_ hnew_; clear hg_ hnew_; (first | rw [← Ny165.out] at ho14 | (simp only [Int.reduceToNat] at ho14; rw [← Ny165.out] at ho14)); have n0_ := Ai0.mk (Kd.R_below (by (with_reducible repeat (first | apply Kd.Ra1 | apply Kd.Rn1 | apply Kd.Rd1)); exact HO163.out) hb); have n1_ := Ai0.mk (Kd.S_lower ho14 (bz1 (by repeat (first | (with_reducible first | exact HB.out | apply ba1 | apply pbN | apply bw1 | refine bs1 ?_ GE158.out) | exact HB.out)))); have n2_ := Ai0.mk (kb1 (g := gb158) (o := .cells #[.int .i64 a0_0, .slice A0_1 l0_1.length c0_1] 24 (0, 0)) (by (with_reducible repeat (first | refine kn1 ?_ _ | refine kd1 ?_ | refine ka1 ?_ _)); exact BK158.out) hb); have n3_ := Ai0.mk (bt1 (by repeat (first | (with_reducible first | exact HB.out | apply ba1 | apply pbN | apply bw1 | refine bs1 ?_ GE158.out) | exact HB.out)) hb); clear HO163; clear BK158; clear HB; have HO163 := n0_; have HO167 := n1_; have BK158 := n2_; have HB := n3_; clear n0_ n1_ n2_ n3_; clear hb ho14; obtain ⟨Ao15, co15, eo15⟩ := Kd.S_slice HO167.out; subst eo15) | ((with_reducible refine gate_dst (N := 21) rfl ?_); refine box_event ?hg (N := 21) ?hd (cs := #[.slice none 0 0, .slice Ao15 y165.length co15]) (t := 73) ?hr ?_; (case hd => rfl); (case hg => rfl); (case hr => first | (go_simp; done) | (go_simp; rfl)); intro gb168 hg w16 hbox hb; have n0_ := Ai0.mk (Kd.R_below (by (with_reducible repeat (first | apply Kd.Ra1 | apply Kd.Rn1 | apply Kd.Rd1)); exact HO163.out) hb); have n1_ := Ai0.mk (Kd.S_below (by (with_reducible repeat (first | apply Kd.S_alloc | apply Kd.S_drewN | apply Kd.S_drew)); exact HO167.out) hb); have n2_ := Ai0.mk (kb1 (g := gb158) (o := .cells #[.int .i64 a0_0, .slice A0_1 l0_1.length c0_1] 24 (0, 0)) (by (with_reducible repeat (first | refine kn1 ?_ _ | refine kd1 ?_ | refine ka1 ?_ _)); exact BK158.out) hb); have n3_ := Ai0.mk (bt1 (by repeat (first | (with_reducible first | exact HB.out | apply ba1 | apply pbN | apply bw1 | refine bs1 ?_ GE158.out) | exact HB.out)) hb); have n4_ := Ai0.mk (hbox); have n5_ := Ai0.mk ((by rw [hg]; exact (bz1 (by repeat (first | (with_reducible first | exact HB.out | apply ba1 | apply pbN | apply bw1 | refine bs1 ?_ GE158.out) | exact HB.out))) : w.heap.size ≤ gb168)); have n6_ := Ai0.mk ((by rw [hg]; exact (bz1 (by repeat (first | (with_reducible first | exact HB.out | apply ba1 | apply pbN | apply bw1 | refine bs1 ?_ GE158.out) | exact HB.out))) : w.heap.size ≤ gb168)); have n7_ := Ai0.mk ((by rw [hg]; exact Nat.ne_of_lt (blk_lt (g := gb158) (o := .cells #[.int .i64 a0_0, .slice A0_1 l0_1.length c0_1] 24 (0, 0)) (by (with_reducible repeat (first | refine kn1 ?_ _ | refine kd1 ?_ | refine ka1 ?_ _)); exact BK158.out)) : gb158 ≠ gb168)); have n8_ := Ai0.mk ((by rw [hg]; exact Nat.ne_of_gt (blk_lt (g := gb158) (o := .cells #[.int .i64 a0_0, .slice A0_1 l0_1.length c0_1] 24 (0, 0)) (by (with_reducible repeat (first | refine kn1 ?_ _ | refine kd1 ?_ | refine ka1 ?_ _)); exact BK158.out)) : gb168 ≠ gb158)); clear HO163; clear HO167; clear BK158; clear HB; have HO163 := n0_; have HO167 := n1_; have BK158 := n2_; have HB := n3_; have BK168 := n4_; have GW168 := n5_; have GE168 := n6_; have NB158_168 := n7_; have NB168_158 := n8_; clear n0_ n1_ n2_ n3_ n4_ n5_ n6_ n7_ n8_; clear hb hbox hg; have hnb17 := NB158_168.out; have hnc17 := NB168_158.out; have hcz18_0 : w16.cell? ⟨gb158, 0, none⟩ = some (.int .i64 a0_0) := (kc1 BK158.out 0).trans rfl; have hcz18_1 : w16.cell? ⟨gb158, 1, none⟩ = some (.slice A0_1 l0_1.length c0_1) := (kc1 BK158.out 1).trans rfl; have hfz18_0 := kf1 BK158.out 0; have hfz18_1 := kf1 BK158.out 1))
    go_loopg [25] k (fun kq v25 w' => ∃ (x25_1 : Int) (x169000_1 : List (List Int)) (x169001_1 : List (List (S77))) (u169000 : Value) (u169001 : Value), v25 = .int .i64 x25_1 ∧ Ai0 (message_build.l0 kq l0_1 (l0_1.length : Int) x25_1 x169000_1 x169001_1 = some (r1, r2, r3)) ∧ Ai0 (kq ≤ k) ∧ Ai0 (Kd.S (Kd.slice 3 (Kd.int .i64)) 25 w' w.heap.size (fun _ => True) u169000 x169000_1) ∧ Ai0 (Kd.S (Kd.slice 77 k77) 75 w' w.heap.size (fun _ => True) u169001 x169001_1) ∧ Ai0 (w'.heap[gb158]? = some (.cells #[.int .i64 a0_0, (.slice A0_1 l0_1.length c0_1)] 24 (0, 0))) ∧ Ai0 (w'.heap[gb168]? = some (.cells #[u169000, u169001] 73 (0, 0))) ∧ Ai0 (Below w.heap.size w w'))
    case atStart => exact ⟨(0), (([] : List (List Int))), (y165), (.slice none 0 0), (.slice Ao15 y165.length co15), (by first | rfl | (simp; done) | (simp [*]; done)), H', ⟨Nat.le_refl _⟩, ⟨by first | exact Kd.S_nil _ _ _ _ _ | exact Kd.N_nil _ _ _ _ _ | exact Kd.V_nil _ _ _ _ _ | exact Kd.Q_nil _ _ _ _ _ | exact Kd.R_nil _ _ _ _ _⟩, ⟨by (with_reducible repeat (first | apply Kd.S_alloc | apply Kd.S_drewN | apply Kd.S_drew)); exact HO167.out⟩, ⟨by (with_reducible repeat (first | refine kn1 ?_ _ | refine kd1 ?_ | refine ka1 ?_ _)); exact BK158.out⟩, ⟨by (with_reducible repeat (first | refine kn1 ?_ _ | refine kd1 ?_ | refine ka1 ?_ _)); exact BK168.out⟩, ⟨by repeat (first | (with_reducible first | exact HB.out | apply ba1 | apply pbN | apply bw1 | refine bs1 ?_ GE158.out | refine bs1 ?_ GE168.out) | exact HB.out)⟩⟩
    case round =>
     clear H'
     try clear c1
     try clear p2
     try clear c4
     try clear c4b0
     try clear c4b1
     try clear c5
     try clear c5b0
     try clear c5b1
     try clear c6
     try clear c6b0
     try clear c6b1
     try clear c17
     try clear hcz12_0
     try clear hcz12_1
     try clear hcz18_0
     try clear hcz18_1
     try clear hfz12_0
     try clear hfz12_1
     try clear hfz18_0
     try clear hfz18_1
     obtain ⟨x25_1, x169000_1, x169001_1, u169000, u169001, rfl, HA, HK1, HO_169000, HO_169001, BK158, BK168, HB⟩ := hrel
     cases gk with
     | zero => exact absurd HA.out (by simp [message_build.l0])
     | succ k1 =>
      have H := HA.out;clear HA;simp only [message_build.l0] at H;by_cases c19 : x25_1 < (l0_1.length : Int)
      ·rw [if_pos c19] at H;have c19b0 : decide (x25_1 < (l0_1.length : Int)) = true := decide_eq_true c19;clear c19;by_cases c20 : 0 ≤ x25_1
       ·rw [if_pos c20] at H;have c20b0 : decide (0 ≤ x25_1) = true := decide_eq_true c20;clear c20;by_cases c21 : x25_1 < (l0_1.length : Int)
        ·rw [if_pos c21] at H;have c21b0 : decide (x25_1 < (l0_1.length : Int)) = true := decide_eq_true c21;clear c21;have H' := Ai0.mk H;clear H;have p169 : 0 ≤ (x25_1 : Int) := of_decide_eq_true (by first | (with_reducible assumption) | assumption);have q169 : x25_1 < (l0_1.length : Int) := of_decide_eq_true (by first | (with_reducible assumption) | assumption);obtain ⟨ad169, A169_0, c169_0, e169, hx169_0, hl169_0, hi169_0⟩ := at_L1 HR0_1.out x25_1 p169 q169;cases e169;replace hx169_0 := (HB.out.cell (World.block_lt_of_cell? w _ hx169_0)).trans hx169_0;have HR169_0 := Ai0.mk hi169_0;have HC169_0 := Ai0.mk hl169_0;clear hi169_0 hl169_0;replace p169 := eq_true p169;replace q169 := eq_true q169
         go_wp2
         go_loopg [8, 32] k1 (fun kq v8 v32 w' => ∃ (x8_2 : List Int) (x32_2 : Int) (x169001_2 : List (List (S77))) (u169001 : Value), v32 = .int .i64 x32_2 ∧ Ai0 (message_build.l1 kq x25_1 x8_2 l0_1 (l0_1.length : Int) x25_1 (rd_L1 l0_1 x25_1) ((rd_L1 l0_1 x25_1).length : Int) x32_2 x169000_1 x169001_2 = some (r1, r2, r3)) ∧ Ai0 (kq ≤ k1) ∧ Ai0 (Kd.R (Kd.int .i64) 3 w' w.heap.size (fun _ => True) v8 x8_2) ∧ Ai0 (Kd.S (Kd.slice 3 (Kd.int .i64)) 25 w' w.heap.size (fun k_ => some k_ ≠ (v8 : Value).ownBlock) u169000 x169000_1) ∧ Ai0 (Kd.S (Kd.slice 77 k77) 75 w' w.heap.size (fun _ => True) u169001 x169001_2) ∧ Ai0 (w'.heap[gb158]? = some (.cells #[.int .i64 a0_0, (.slice (some ad169) l0_1.length c0_1)] 24 (0, 0))) ∧ Ai0 (w'.heap[gb168]? = some (.cells #[u169000, u169001] 73 (0, 0))) ∧ Ai0 (Below w.heap.size w w'))
         case atStart => exact ⟨(([] : List Int)), (0), (x169001_1), (u169001), (by first | rfl | (simp; done) | (simp [*]; done)), H', ⟨Nat.le_refl _⟩, ⟨by first | exact Kd.R_nil _ _ _ _ _ | exact Kd.N_nil _ _ _ _ _ | exact Kd.V_nil _ _ _ _ _ | exact Kd.Q_nil _ _ _ _ _ | exact Kd.S_nil _ _ _ _ _⟩, ⟨by (with_reducible repeat (first | apply Kd.S_alloc | apply Kd.S_drewN | apply Kd.S_drew)); exact Kd.S_mono HO_169000.out (fun _ hk => (by simp [Value.ownBlock]))⟩, ⟨by (with_reducible repeat (first | apply Kd.S_alloc | apply Kd.S_drewN | apply Kd.S_drew)); exact HO_169001.out⟩, ⟨by (with_reducible repeat (first | refine kn1 ?_ _ | refine kd1 ?_ | refine ka1 ?_ _)); exact BK158.out⟩, ⟨by (with_reducible repeat (first | refine kn1 ?_ _ | refine kd1 ?_ | refine ka1 ?_ _)); exact BK168.out⟩, ⟨by repeat (first | (with_reducible first | exact HB.out | apply ba1 | apply pbN | apply bw1 | refine bs1 ?_ GE158.out | refine bs1 ?_ GE168.out) | exact HB.out)⟩⟩
         case round =>
          clear H'
          try clear c1
          try clear p1
          try clear q1
          try clear hx1
          try clear c2
          try clear p2
          try clear c4
          try clear c4b0
          try clear c4b1
          try clear c5
          try clear c5b0
          try clear c5b1
          try clear c6
          try clear c6b0
          try clear c6b1
          try clear c16
          try clear p16
          try clear q16
          try clear hx16
          try clear c17
          try clear c19
          try clear c19b0
          try clear c20
          try clear c20b0
          try clear c21
          try clear c21b0
          try clear hcz12_0
          try clear hcz12_1
          try clear hcz18_0
          try clear hcz18_1
          try clear hfz12_0
          try clear hfz12_1
          try clear hfz18_0
          try clear hfz18_1
          try clear hx169_0
          try clear p169
          try clear p2
          try clear q169
          obtain ⟨x8_2, x32_2, x169001_2, u169001, rfl, HA, HK2, HO_8, HO_169000, HO_169001, BK158, BK168, HB⟩ := hrel
          cases gk with
          | zero => exact absurd HA.out (by simp [message_build.l1])
          | succ k2 =>
           have H := HA.out;clear HA;simp only [message_build.l1] at H;by_cases c22 : x32_2 < ((rd_L1 l0_1 x25_1).length : Int)
           ·rw [if_pos c22] at H;have c22b0 : decide (x32_2 < ((rd_L1 l0_1 x25_1).length : Int)) = true := decide_eq_true c22;clear c22;by_cases c23 : 0 ≤ x32_2
            ·rw [if_pos c23] at H;have c23b0 : decide (0 ≤ x32_2) = true := decide_eq_true c23;clear c23;by_cases c24 : x32_2 < ((rd_L1 l0_1 x25_1).length : Int)
             ·rw [if_pos c24] at H;have c24b0 : decide (x32_2 < ((rd_L1 l0_1 x25_1).length : Int)) = true := decide_eq_true c24;clear c24;by_cases c25 : (rd (rd_L1 l0_1 x25_1) x32_2) = 1
              ·rw [if_pos c25] at H;have c25b0 : ((rd (rd_L1 l0_1 x25_1) x32_2) == 1) = true := beq_iff_eq.mpr c25;have c25b1 : ((rd (rd_L1 l0_1 x25_1) x32_2) != 1) = false := bne_eq_false_iff_eq.mpr c25;clear c25;by_cases c26 : x32_2 < (x169001_2.length : Int)
               ·rw [if_pos c26] at H;have c26b0 : decide (x32_2 < (x169001_2.length : Int)) = true := decide_eq_true c26;clear c26;by_cases c27 : (rd_L9 x169001_2 x32_2).length < 8796093022208
                ·rw [if_pos c27] at H;have LMc27 := Ai0.mk c27;clear c27;(obtain ⟨y172, hy172⟩ : ∃ y_ : List (S77), y_ = ((rd_L9 x169001_2 x32_2) ++ [(⟨x25_1, (x8_2.length : Int)⟩ : S77)]) := ⟨_, rfl⟩);(replace H : (if x8_2.length < 17592186044416 then (message_build.l1 k2 x25_1 (x8_2 ++ [x32_2]) l0_1 (l0_1.length : Int) x25_1 (rd_L1 l0_1 x25_1) ((rd_L1 l0_1 x25_1).length : Int) (wrap64 (x32_2 + 1)) x169000_1 (x169001_2.set (x32_2 : Int).toNat y172)) else (none)) = some (r1, r2, r3) := by first | (rw [hy172]; with_reducible exact H) | (have H2_ := (Option.bind_some _ _).symm.trans H; rw [hy172]; with_reducible exact H2_) | (have H2_ := (Option.bind_some _ _).symm.trans H; with_reducible exact H2_) | with_reducible exact H | (rw [hy172]; exact H) | exact H);have Ny172 := Ai0.mk hy172;clear hy172;(obtain ⟨y175, hy175⟩ : ∃ y_ : List (List (S77)), y_ = (x169001_2.set (x32_2 : Int).toNat y172) := ⟨_, rfl⟩);(replace H : (if x8_2.length < 17592186044416 then (message_build.l1 k2 x25_1 (x8_2 ++ [x32_2]) l0_1 (l0_1.length : Int) x25_1 (rd_L1 l0_1 x25_1) ((rd_L1 l0_1 x25_1).length : Int) (wrap64 (x32_2 + 1)) x169000_1 y175) else (none)) = some (r1, r2, r3) := by first | (rw [hy175]; with_reducible exact H) | (have H2_ := (Option.bind_some _ _).symm.trans H; rw [hy175]; with_reducible exact H2_) | (have H2_ := (Option.bind_some _ _).symm.trans H; with_reducible exact H2_) | with_reducible exact H | (rw [hy175]; exact H) | exact H);have Ny175 := Ai0.mk hy175;clear hy175;by_cases c29 : x8_2.length < 17592186044416
                 ·rw [if_pos c29] at H;have LMc29 := Ai0.mk c29;clear c29;(obtain ⟨y176, hy176⟩ : ∃ y_ : List Int, y_ = (x8_2 ++ [x32_2]) := ⟨_, rfl⟩);(replace H : (message_build.l1 k2 x25_1 y176 l0_1 (l0_1.length : Int) x25_1 (rd_L1 l0_1 x25_1) ((rd_L1 l0_1 x25_1).length : Int) (wrap64 (x32_2 + 1)) x169000_1 y175) = some (r1, r2, r3) := by first | (rw [hy176]; with_reducible exact H) | (have H2_ := (Option.bind_some _ _).symm.trans H; rw [hy176]; with_reducible exact H2_) | (have H2_ := (Option.bind_some _ _).symm.trans H; with_reducible exact H2_) | with_reducible exact H | (rw [hy176]; exact H) | exact H);have Ny176 := Ai0.mk hy176;clear hy176;have H' := Ai0.mk H;clear H;have p170 : 0 ≤ (x32_2 : Int) := of_decide_eq_true (by first | (with_reducible assumption) | assumption);have q170 : x32_2 < ((rd_L1 l0_1 x25_1).length : Int) := of_decide_eq_true (by first | (with_reducible assumption) | assumption);obtain ⟨ad170, e170, hx170_0⟩ := Kd.at_int HR169_0.out x32_2 p170 q170;cases e170;replace hx170_0 := (HB.out.cell (World.block_lt_of_cell? w _ hx170_0)).trans hx170_0;replace p170 := eq_true p170;replace q170 := eq_true q170
                  try go_wp2
                  have n0_ := Ai0.mk (Kd.Rd1 HO_8.out);have n1_ := Ai0.mk (Kd.S_drew HO_169000.out);have n2_ := Ai0.mk (Kd.S_drew HO_169001.out);have n3_ := Ai0.mk (kd1 BK158.out);have n4_ := Ai0.mk (kd1 BK168.out);have n5_ := Ai0.mk (bw1 HB.out);clear HO_8;clear HO_169000;clear HO_169001;clear BK158;clear BK168;clear HB;have HO_8 := n0_;have HO_169000 := n1_;have HO_169001 := n2_;have BK158 := n3_;have BK168 := n4_;have HB := n5_;clear n0_ n1_ n2_ n3_ n4_ n5_;obtain ⟨Ao31, co31, eo31⟩ := Kd.S_slice HO_169001.out;(first | subst eo31 | (injection eo31 with f1_ f2_ f3_; have f4_ := f1_.symm; have f5_ := f3_.symm; clear f1_ f2_ f3_; subst f4_; subst f5_));have p171 : 0 ≤ (x32_2 : Int) := of_decide_eq_true (by first | (with_reducible assumption) | assumption);have q171 : x32_2 < (x169001_2.length : Int) := of_decide_eq_true (by first | (with_reducible assumption) | assumption);obtain ⟨ad171, A171_0, c171_0, e171, hx171_0, hl171_0, hi171_0⟩ := at_L9 (Kd.S_reads' HO_169001.out).2.2 x32_2 p171 q171;cases e171;obtain ⟨ce171, hce171, hMe171, hcc171⟩ := Kd.S_get HO_169001.out [] x32_2 p171 (by first | exact q171 | exact of_decide_eq_true (by first | (with_reducible assumption) | assumption) | (have e_ := (Kd.S_reads' HO_169001.out).1; omega));obtain ⟨ve171_0, rfl, ge171_0⟩ := hMe171;have hv171_0 := hcc171 0 _ rfl;rw [Nat.add_zero, show ((Kd.slice 77 k77)).sz = 1 from rfl, Nat.mul_one] at hv171_0;replace hv171_0 := Option.some.inj (hv171_0.symm.trans hx171_0);rw [hv171_0] at ge171_0;have HL171_0 := Ai0.mk (show Kd.R k77 77 _ _ _ _ (rd_L9 x169001_2 x32_2) from ge171_0);clear hv171_0 ge171_0;have HX171_0 := Ai0.mk hx171_0;clear hcc171 hce171;have HR171_0 := Ai0.mk hi171_0;have HC171_0 := Ai0.mk hl171_0;clear hi171_0 hl171_0;replace p171 := eq_true p171;replace q171 := eq_true q171;obtain ⟨Ao32, co32, eo32⟩ := Kd.R_slice HO_8.out;(first | subst eo32 | (injection eo32 with f1_ f2_ f3_; have f4_ := f1_.symm; have f5_ := f3_.symm; clear f1_ f2_ f3_; subst f4_; subst f5_));obtain ⟨go33, co33, eo33, gb33, gl33, cl33, HG33⟩ := Kd.S_form HO_169001.out (by have h_ : (x32_2 : Int) < ((x169001_2.length : Int) : Int) := of_decide_eq_true (by first | (with_reducible assumption) | assumption); have h2_ : 0 ≤ (x32_2 : Int) := (of_decide_eq_true (by first | (with_reducible assumption) | assumption)); omega);(first | cases eo33 | (injection eo33 with ea_ en_ ec_; (first | subst ea_ | (injection ea_ with ea_; subst ea_)); subst ec_; clear en_));have GB33 := Ai0.mk gb33;have GG33 := Ai0.mk HG33;clear gb33 gl33 HG33;(first | simp only [add_plain] at hx171_0 | skip);obtain ⟨oki33, ce33, hcl33, hM33, hcc33, _, _, hH33⟩ := Kd.S_elem HO_169001.out [] (x32_2 : Int) (of_decide_eq_true (by first | (with_reducible assumption) | assumption)) (by have h_ : (x32_2 : Int) < ((x169001_2.length : Int) : Int) := of_decide_eq_true (by first | (with_reducible assumption) | assumption); first | exact h_ | (have e_ := (Kd.S_reads' HO_169001.out).1; omega) | simpa using h_);obtain ⟨ve33_0, rfl, ge33_0⟩ := hM33;have hv33 := hcc33 0 _ rfl;have hX33 := HX171_0.out;(try simp only [add_plain] at hX33);(try simp only [Nat.add_zero] at hv33);(try rw [show ((Kd.slice 77 k77)).sz = 1 from rfl, Nat.mul_one] at hv33);replace hv33 := Option.some.inj (hv33.symm.trans hX33);subst hv33;clear hX33 hcc33 hcl33;have UU33 := Ai0.mk (show Kd.R k77 77 _ w.heap.size oki33 (.slice A171_0 (rd_L9 x169001_2 x32_2).length c171_0) (rd_L9 x169001_2 x32_2) from ge33_0);have HH33 := Ai0.mk hH33;have HN33 := Ai0.mk (Kd.S_reads' HO_169001.out).1;clear hH33 ge33_0;refine start_ (n := 20) (S := fun w' => w'.cell? ⟨gb168, 0, none⟩ = some (u169000) ∧ w'.cell? ⟨gb168, 1, none⟩ = some (.slice (some ⟨go33, 0, none⟩) x169001_2.length co31) ∧ w'.cell? ⟨go33, (x32_2).toNat, none⟩ = some (.slice A171_0 (rd_L9 x169001_2 x32_2).length c171_0)) (ds := [19]) #[false, false, false, false, false, false, false, false, false, false, false, false, false, false, false, false, false, false, false, false] (by kernel_rfl) rfl rfl ⟨(kc1 BK168.out 0).trans rfl, (kc1 BK168.out 1).trans rfl, hx171_0⟩ (fun hHeld => ?_); refine with_tabW message_build.tab13 message_build.bits13 (fun HT_ HW_ => ?_);(generalize wr.drew = w30 at HO_8 HO_169000 HO_169001 BK158 BK168 HB GG33 HH33 HL171_0 HR171_0 HX171_0 UU33 hx171_0 hHeld ⊢);refine pure_ (i := 0) (N := some 39) (v := ?_) (a' := ?_) #[true, false, false, false, false, false, false, false, false, false, false, false, false, false, false, false, false, false, false, false] rfl rfl (any_of HT_.out (by kernel_rfl)) (fun _ _ _ h => h) (Or.inl ⟨by rfl, ?_⟩) ?_ ?_;rotate_left
                  ·intro w';go_simp
                   with_reducible rfl
                  rotate_left
                  ·simp only [Act.put, l01_, l02_, l03_, i64_w, i32_w]
                   rfl
                  refine pure_ (i := 1) (N := some 40) (v := ?_) (a' := ?_) #[true, true, false, false, false, false, false, false, false, false, false, false, false, false, false, false, false, false, false, false] rfl rfl (any_of HT_.out (by kernel_rfl)) (fun _ _ _ h => h) (Or.inl ⟨by rfl, ?_⟩) ?_ ?_;rotate_left
                  ·intro w';go_simp
                   with_reducible rfl
                  rotate_left
                  ·simp only [Act.put, l01_, l02_, l03_, i64_w, i32_w]
                   rfl
                  refine pure_ (i := 2) (N := some 41) (v := ?_) (a' := ?_) #[true, true, true, false, false, false, false, false, false, false, false, false, false, false, false, false, false, false, false, false] rfl rfl (any_of HT_.out (by kernel_rfl)) (fun _ _ _ h => h) (Or.inl ⟨by rfl, ?_⟩) ?_ ?_;rotate_left
                  ·intro w';go_simp
                   with_reducible rfl
                  rotate_left
                  ·simp only [Act.put, l01_, l02_, l03_, i64_w, i32_w]
                   rfl
                  refine pure_ (i := 4) (N := some 43) (v := ?_) (a' := ?_) #[true, true, true, false, true, false, false, false, false, false, false, false, false, false, false, false, false, false, false, false] rfl rfl (any_of HT_.out (by kernel_rfl)) (fun _ _ _ h => h) (Or.inl ⟨by rfl, ?_⟩) ?_ ?_;rotate_left
                  ·intro w';go_simp
                   with_reducible rfl
                  rotate_left
                  ·simp only [Act.put, l01_, l02_, l03_, i64_w, i32_w]
                   rfl
                  refine pure_ (i := 5) (N := some 44) (v := ?_) (a' := ?_) #[true, true, true, false, true, true, false, false, false, false, false, false, false, false, false, false, false, false, false, false] rfl rfl (any_of HT_.out (by kernel_rfl)) (fun _ _ _ h => h) (Or.inl ⟨by rfl, ?_⟩) ?_ ?_;rotate_left
                  ·intro w';go_simp
                   with_reducible rfl
                  rotate_left
                  ·simp only [Act.put, l01_, l02_, l03_, i64_w, i32_w]
                   rfl
                  refine pure_ (i := 6) (N := some 45) (v := ?_) (a' := ?_) #[true, true, true, false, true, true, true, false, false, false, false, false, false, false, false, false, false, false, false, false] rfl rfl (any_of HT_.out (by kernel_rfl)) (fun _ _ _ h => h) (Or.inl ⟨by rfl, ?_⟩) ?_ ?_;rotate_left
                  ·intro w';go_simp
                   with_reducible rfl
                  rotate_left
                  ·simp only [Act.put, l01_, l02_, l03_, i64_w, i32_w]
                   rfl
                  refine pure_ (i := 7) (N := some 46) (v := ?_) (a' := ?_) #[true, true, true, false, true, true, true, true, false, false, false, false, false, false, false, false, false, false, false, false] rfl rfl (any_of HT_.out (by kernel_rfl)) (fun _ _ _ h => h) (Or.inl ⟨by rfl, ?_⟩) ?_ ?_;rotate_left
                  ·intro w';go_simp
                   with_reducible rfl
                  rotate_left
                  ·simp only [Act.put, l01_, l02_, l03_, i64_w, i32_w]
                   rfl
                  refine pure_ (i := 9) (N := some 48) (v := ?_) (a' := ?_) #[true, true, true, false, true, true, true, true, false, true, false, false, false, false, false, false, false, false, false, false] rfl rfl (any_of HT_.out (by kernel_rfl)) (fun _ _ _ h => h) (Or.inl ⟨by rfl, ?_⟩) ?_ ?_;rotate_left
                  ·intro w';go_simp
                   with_reducible rfl
                  rotate_left
                  ·simp only [Act.put, l01_, l02_, l03_, i64_w, i32_w]
                   rfl
                  refine pure_ (i := 12) (N := some 51) (v := ?_) (a' := ?_) #[true, true, true, false, true, true, true, true, false, true, false, false, true, false, false, false, false, false, false, false] rfl rfl (any_of HT_.out (by kernel_rfl)) (fun _ _ _ h => h) (Or.inl ⟨by rfl, ?_⟩) ?_ ?_;rotate_left
                  ·intro w';go_simp
                   with_reducible rfl
                  rotate_left
                  ·simp only [Act.put, l01_, l02_, l03_, i64_w, i32_w]
                   rfl
                  refine pure_ (i := 13) (N := some 52) (v := ?_) (a' := ?_) #[true, true, true, false, true, true, true, true, false, true, false, false, true, true, false, false, false, false, false, false] rfl rfl (any_of HT_.out (by kernel_rfl)) (fun _ _ _ h => h) (Or.inl ⟨by rfl, ?_⟩) ?_ ?_;rotate_left
                  ·intro w';go_simp
                   with_reducible rfl
                  rotate_left
                  ·simp only [Act.put, l01_, l02_, l03_, i64_w, i32_w]
                   rfl
                  refine pure_ (i := 14) (N := some 53) (v := ?_) (a' := ?_) #[true, true, true, false, true, true, true, true, false, true, false, false, true, true, true, false, false, false, false, false] rfl rfl (any_of HT_.out (by kernel_rfl)) (fun _ _ _ h => h) (Or.inl ⟨by rfl, ?_⟩) ?_ ?_;rotate_left
                  ·intro w';go_simp
                   with_reducible rfl
                  rotate_left
                  ·simp only [Act.put, l01_, l02_, l03_, i64_w, i32_w]
                   rfl
                  refine pure_ (i := 15) (N := some 54) (v := ?_) (a' := ?_) #[true, true, true, false, true, true, true, true, false, true, false, false, true, true, true, true, false, false, false, false] rfl rfl (any_of HT_.out (by kernel_rfl)) (fun _ _ _ h => h) (Or.inl ⟨by rfl, ?_⟩) ?_ ?_;rotate_left
                  ·intro w';go_simp
                   with_reducible rfl
                  rotate_left
                  ·simp only [Act.put, l01_, l02_, l03_, i64_w, i32_w]
                   rfl
                  refine take_ (i := 3) (N := some 42) (v := ?_) (a' := ?_) #[true, true, true, true, true, true, true, true, false, true, false, false, true, true, true, true, false, false, false, false] rfl rfl (take_ofW HT_.out HW_.out (by kernel_rfl)) (fun _ _ _ h => h) (Or.inl ⟨by rfl, ?_⟩) hHeld ?_ ?_;rotate_left
                  ·rintro w' ⟨s0, s1, s2⟩
                   go_simp
                   with_reducible rfl
                  rotate_left
                  ·simp only [Act.put, l01_, l02_, l03_, i64_w, i32_w]
                   rfl
                  refine take_ (i := 8) (N := some 47) (v := ?_) (a' := ?_) #[true, true, true, true, true, true, true, true, true, true, false, false, true, true, true, true, false, false, false, false] rfl rfl (take_ofW HT_.out HW_.out (by kernel_rfl)) (fun _ _ _ h => h) (Or.inl ⟨by rfl, ?_⟩) hHeld ?_ ?_;rotate_left
                  ·rintro w' ⟨s0, s1, s2⟩
                   go_simp
                   with_reducible rfl
                  rotate_left
                  ·simp only [Act.put, l01_, l02_, l03_, i64_w, i32_w]
                   rfl
                  refine pure_ (i := 10) (N := some 49) (v := ?_) (a' := ?_) #[true, true, true, true, true, true, true, true, true, true, true, false, true, true, true, true, false, false, false, false] rfl rfl (any_of HT_.out (by kernel_rfl)) (fun _ _ _ h => h) (Or.inl ⟨by rfl, ?_⟩) ?_ ?_;rotate_left
                  ·intro w';go_simp
                   with_reducible rfl
                  rotate_left
                  ·simp only [Act.put, l01_, l02_, l03_, i64_w, i32_w]
                   rfl
                  refine take_ (i := 11) (N := some 50) (v := ?_) (a' := ?_) #[true, true, true, true, true, true, true, true, true, true, true, true, true, true, true, true, false, false, false, false] rfl rfl (take_ofW HT_.out HW_.out (by kernel_rfl)) (fun _ _ _ h => h) (Or.inl ⟨by rfl, ?_⟩) hHeld ?_ ?_;rotate_left
                  ·rintro w' ⟨s0, s1, s2⟩
                   go_simp
                   with_reducible rfl
                  rotate_left
                  ·simp only [Act.put, l01_, l02_, l03_, i64_w, i32_w]
                   rfl
                  refine one_ (i := 16) (N := some 55) #[true, true, true, true, true, true, true, true, true, true, true, true, true, true, true, true, true, false, false, false] rfl rfl (one_of HT_.out (by kernel_rfl)) (by decide) (fun K hK => ?_);refine value_ (w1 := ?_) (v := ?_) (by rfl) rfl ?_ ?_;rotate_left 2
                  ·go_simp
                   constructor
                   ·rfl
                   ·rfl
                  refine hK.out _ _ ⟨(kc1 (ka1 BK168.out _) 0).trans rfl, (kc1 (ka1 BK168.out _) 1).trans rfl, (World.cell?_alloc_lt _ _ _ (World.block_lt_of_cell? _ _ (hHeld.2.2))).trans (hHeld.2.2)⟩ (fun hHeld => ?_);clear hK K;refine norm_ (a' := ?_) ?_ ?_;rotate_left
                  ·show Act.put _ (some 55) _ = _;simp only [Act.put, l01_, l02_, l03_, i64_w, i32_w]
                   rfl
                  refine one_ (i := 17) (N := some 56) #[true, true, true, true, true, true, true, true, true, true, true, true, true, true, true, true, true, true, false, false] rfl rfl (one_of HT_.out (by kernel_rfl)) (by decide) (fun K hK => ?_);refine Kd.R_append_step k77 (w0 := w) w.heap.size (by rfl) (.tmp 50) (.tmp 55) 75 77 (.agg #[(.int .i64 0), (.int .i64 0)]) 16 rfl Try.underlying75 info77 rfl (by decide) (by omega) (.slice A171_0 (rd_L9 x169001_2 x32_2).length c171_0) (rd_L9 x169001_2 x32_2) (⟨x25_1, (x8_2.length : Int)⟩ : S77) [.int .i64 x25_1, .int .i64 (x8_2.length : Int)] (fun k_ => oki33 k_ ∨ ((fun _ => True)) k_ ∧ w30.heap.size ≤ k_) (fun _ => False) rfl rfl ?aP (fun _ hk => hk.elim) ?aF ?aO ?aB ?aS ?aL ?_;(case aP => exact k77_mkM _ _ _ (⟨x25_1, (x8_2.length : Int)⟩ : S77));(case aB => exact (by repeat (first | (with_reducible first | exact HB.out | apply ba1 | apply pbN | apply bw1 | refine bs1 ?_ GE158.out | refine bs1 ?_ GE168.out) | exact HB.out)));(case aF => exact (fun k_ hk => .inr ⟨trivial, hk⟩));(case aO => exact (by (with_reducible repeat (first | apply Kd.Ra1 | apply Kd.Rn1 | apply Kd.Rd1)); exact Kd.R_mono UU33.out (fun _ hk => .inl hk)));(case aS => exact (bz1 (by repeat (first | (with_reducible first | exact HB.out | apply ba1 | apply pbN | apply bw1 | refine bs1 ?_ GE158.out | refine bs1 ?_ GE168.out) | exact HB.out))));(case aL => have := LMc27.out; omega);intro v173 w34 ho hb hg hat;(first | have HS2_ := cell_grown hg (hHeld.2.2) (by first | (rw [add_block]; exact (fun e_ => ((HL171_0.out.1 _ e_.symm).2) rfl)) | (show some (Addr.add _ _).block ≠ _; rw [add_block]; exact (fun e_ => ((HL171_0.out.1 _ e_.symm).2) rfl)) | exact (fun e_ => ((HL171_0.out.1 _ e_.symm).2) rfl)) | have HS2_ := cell_grown hg (cell_unalloc (hHeld.2.2) (by first | (rw [add_block]; exact Kd.S_lt HO_169001.out _ rfl) | (show (Addr.add _ _).block < _; rw [add_block]; exact Kd.S_lt HO_169001.out _ rfl) | exact Kd.S_lt HO_169001.out _ rfl)) (by first | (rw [add_block]; exact (fun e_ => ((HL171_0.out.1 _ e_.symm).2) rfl)) | (show some (Addr.add _ _).block ≠ _; rw [add_block]; exact (fun e_ => ((HL171_0.out.1 _ e_.symm).2) rfl)) | exact (fun e_ => ((HL171_0.out.1 _ e_.symm).2) rfl)));rw [← Ny172.out] at ho;have n0_ := Ai0.mk (Kd.R_over' (v := (.slice A171_0 (rd_L9 x169001_2 x32_2).length c171_0)) (by (with_reducible repeat (first | apply Kd.Ra1 | apply Kd.Rn1 | apply Kd.Rd1)); exact HO_8.out) (Kd.R_typed HL171_0.out) (by decide) hg);have n1_ := Ai0.mk (Kd.S_over' (v := (.slice A171_0 (rd_L9 x169001_2 x32_2).length c171_0)) (by (with_reducible repeat (first | apply Kd.S_alloc | apply Kd.S_drewN | apply Kd.S_drew)); exact HO_169000.out) (Kd.R_typed HL171_0.out) (by decide) hg);have n2_ := Ai0.mk (blk_grown (g := gb158) (o := .cells #[.int .i64 a0_0, .slice (some ad169) l0_1.length c0_1] 24 (0, 0)) (by (with_reducible repeat (first | refine kn1 ?_ _ | refine kd1 ?_ | refine ka1 ?_ _)); exact BK158.out) hg (Kd.R_ne HL171_0.out BK158.out (by decide)));have n3_ := Ai0.mk (blk_grown (g := gb168) (o := .cells #[u169000, .slice (some ⟨go33, 0, none⟩) x169001_2.length co31] 73 (0, 0)) (by (with_reducible repeat (first | refine kn1 ?_ _ | refine kd1 ?_ | refine ka1 ?_ _)); exact BK168.out) hg (Kd.R_ne HL171_0.out BK168.out (by decide)));have n4_ := Ai0.mk (hb);have n5_ := Ai0.mk (Kd.H_grown (Kd.H_widen (by repeat (first | exact HH33.out | refine Kd.H_alloc ?_ _ | refine Kd.H_drewN ?_ _ | refine Kd.H_drew ?_))) hg (fun k_ e_ => .inl (UU33.out.1 k_ e_)));have n6_ := Ai0.mk (ho);clear HO_8;clear HO_169000;clear BK158;clear BK168;clear HB;clear HH33;clear HO_169001;clear UU33;clear HL171_0;have HO_8 := n0_;have HO_169000 := n1_;have BK158 := n2_;have BK168 := n3_;have HB := n4_;have HH33 := n5_;have HO174 := n6_;clear n0_ n1_ n2_ n3_ n4_ n5_ n6_;clear ho hb hg hat;have p28 : 0 ≤ (x32_2 : Int) := of_decide_eq_true (by first | (with_reducible assumption) | assumption);have q28 : (x32_2 : Int) < ((x169001_2.length : Int) : Int) := of_decide_eq_true (by first | (with_reducible assumption) | assumption);replace p28 := eq_true p28;replace q28 := eq_true q28;obtain ⟨Ao37, co37, eo37⟩ := Kd.R_slice HO174.out;(first | subst eo37 | (injection eo37 with f1_ f2_ f3_; have f4_ := f1_.symm; have f5_ := f3_.symm; clear f1_ f2_ f3_; subst f4_; subst f5_));obtain ⟨_, _, hraw35, _, _, hcc35, _⟩ := Kd.H_raw HH33.out (of_decide_eq_true (by first | (with_reducible assumption) | assumption)) (by have h_ : (x32_2 : Int) < ((x169001_2.length : Int) : Int) := of_decide_eq_true (by first | (with_reducible assumption) | assumption); first | exact h_ | (have e_ := (HN33.out); omega) | simpa using h_);obtain ⟨_, hfr35⟩ := Kd.H_at HH33.out (of_decide_eq_true (by first | (with_reducible assumption) | assumption)) (by have h_ : (x32_2 : Int) < ((x169001_2.length : Int) : Int) := of_decide_eq_true (by first | (with_reducible assumption) | assumption); first | exact h_ | (have e_ := (HN33.out); omega) | simpa using h_);have hx35_0 := hcc35 0 _ rfl;have hf35_0 := hfr35 0;(try simp only [Nat.add_zero] at hx35_0 hf35_0);(try rw [show ((Kd.slice 77 k77)).sz = 1 from rfl, Nat.mul_one] at hx35_0);(try rw [show ((Kd.slice 77 k77)).sz = 1 from rfl, Nat.mul_one] at hf35_0);have HP35 := Kd.S_seg0 HH33.out (of_decide_eq_true (by first | (with_reducible assumption) | assumption)) (by have h_ : (x32_2 : Int) < ((x169001_2.length : Int) : Int) := of_decide_eq_true (by first | (with_reducible assumption) | assumption); first | exact h_ | (have e_ := (HN33.out); omega) | simpa using h_) (seg := [.slice Ao37 y172.length co37]) (j := 0) (show 1 ≤ 1 from by decide) (x' := y172) (Kd.M_row HO174.out) (fun _ hk => hk);(try simp only [show ((Kd.slice 77 k77)).sz = 1 from rfl, Nat.mul_one, Nat.add_zero] at HP35);clear hcc35 hfr35;have HNB158_go33 := Ai0.mk (show gb158 ≠ go33 from by have h_ := Kd.R_ne hraw35 BK158.out (by decide); intro e_; exact h_ (by rw [e_]; rfl));have HNB168_go33 := Ai0.mk (show gb168 ≠ go33 from by have h_ := Kd.R_ne hraw35 BK168.out (by decide); intro e_; exact h_ (by rw [e_]; rfl));have HS35 := HP35.1;rw [← Ny175.out] at HS35;have HQ35 := Ai0.mk HS35;obtain ⟨_, hgg35⟩ := Kd.R_typed hraw35 go33 rfl;have GG35_ := Ai0.mk hgg35;clear HP35 HS35 hgg35;refine hK.out _ _ ⟨(kc1 BK168.out 0).trans rfl, (kc1 BK168.out 1).trans rfl, HS2_⟩ (fun hHeld => ?_);clear hK K;refine norm_ (a' := ?_) ?_ ?_;rotate_left
                  ·show Act.put _ (some 56) _ = _;simp only [Act.put, l01_, l02_, l03_, i64_w, i32_w]
                   rfl
                  refine pure_ (i := 18) (N := some 57) (v := ?_) (a' := ?_) #[true, true, true, true, true, true, true, true, true, true, true, true, true, true, true, true, true, true, true, false] rfl rfl (any_of HT_.out (by kernel_rfl)) (fun _ _ _ h => h) (Or.inl ⟨by rfl, ?_⟩) ?_ ?_;rotate_left
                  ·intro w';go_simp
                   with_reducible rfl
                  rotate_left
                  ·simp only [Act.put, l01_, l02_, l03_, i64_w, i32_w]
                   rfl
                  refine last_ (i := 19) (N := none) #[true, true, true, true, true, true, true, true, true, true, true, true, true, true, true, true, true, true, true, true] rfl rfl (one_of HT_.out (by kernel_rfl)) (by decide) (fun K hK => ?_);refine skip_ (w1 := ?_) (by rfl) rfl ?_ ?_;rotate_left
                  ·go_simp
                   rfl
                  refine hK.out _ _ ?_;clear hK K;refine done_ (done_of HT_.out (by kernel_rfl)) ?_
                  try go_wp2_with (first | ((with_reducible refine gate_builtin (b := .append) (xs := #[.tmp 58, .tmp 60]) rfl ?_); at_builtin; refine Kd.R_append (Kd.int .i64) (w0 := w) w.heap.size rfl (.tmp 58) (.tmp 60) 25 3 (.int .i64 0) 8 rfl Try.underlying25 info3 rfl (by decide) (by omega) (.slice Ao32 x8_2.length co32) x8_2 x32_2 [.int .i64 x32_2] (fun _ => True) (fun _ => False) rfl (by first | (go_simp; done) | (go_simp; rfl)) ?aP (fun _ hk => hk.elim) ?aF ?aO ?aB ?aS ?aL ?_; (case aP => exact rfl); (case aB => exact (by repeat (first | (with_reducible first | exact HB.out | apply ba1 | apply pbN | apply bw1 | refine bs1 ?_ GB33.out | refine bs1 ?_ GE158.out | refine bs1 ?_ GE168.out) | exact HB.out))); (case aF => exact (fun _ _ => trivial)); (case aO => exact (by (with_reducible repeat (first | apply Kd.Ra1 | apply Kd.Rn1 | apply Kd.Rd1)); exact Kd.R_mono (Kd.R_far (p := ⟨go33, (x32_2 : Int).toNat, none⟩) (Kd.R_types HO_8.out GG35_.out (by decide)) (fun _ hk => hk.2) (.slice Ao37 y172.length co37)) (fun _ hk => trivial))); (case aS => exact (bz1 (by repeat (first | (with_reducible first | exact HB.out | apply ba1 | apply pbN | apply bw1 | refine bs1 ?_ GB33.out | refine bs1 ?_ GE158.out | refine bs1 ?_ GE168.out) | exact HB.out)))); (case aL => have := LMc29.out; omega); intro v177 w38 ho hb hg hat; rw [← Ny176.out] at ho; have n0_ := Ai0.mk (Kd.S_after (ok := (fun _ => True)) (by (with_reducible repeat (first | apply Kd.S_alloc | apply Kd.S_drewN | apply Kd.S_drew)); exact Kd.S_mono (Kd.S_far (p := ⟨go33, (x32_2 : Int).toNat, none⟩) (Kd.S_types HO_169000.out GG35_.out (by decide)) (fun _ hk => hk.2) (.slice Ao37 y172.length co37)) (fun _ hk => ⟨trivial, hk.1⟩)) hg hat); have n1_ := Ai0.mk (blk_grown (g := gb158) (o := .cells #[.int .i64 a0_0, .slice (some ad169) l0_1.length c0_1] 24 (0, 0)) (by (with_reducible repeat (first | refine kn1 ?_ _ | refine kd1 ?_ | refine ka1 ?_ _)); refine blk_far ?_ HNB158_go33.out _; (with_reducible repeat (first | refine kn1 ?_ _ | refine kd1 ?_ | refine ka1 ?_ _)); exact BK158.out) hg (Kd.R_ne HO_8.out BK158.out (by decide))); have n2_ := Ai0.mk (blk_grown (g := gb168) (o := .cells #[u169000, .slice (some ⟨go33, 0, none⟩) x169001_2.length co31] 73 (0, 0)) (by (with_reducible repeat (first | refine kn1 ?_ _ | refine kd1 ?_ | refine ka1 ?_ _)); refine blk_far ?_ HNB168_go33.out _; (with_reducible repeat (first | refine kn1 ?_ _ | refine kd1 ?_ | refine ka1 ?_ _)); exact BK168.out) hg (Kd.R_ne HO_8.out BK168.out (by decide))); have n3_ := Ai0.mk (Kd.S_over' (by (with_reducible repeat (first | apply Kd.S_alloc | apply Kd.S_drewN | apply Kd.S_drew)); exact HQ35.out) (Kd.R_typed (by (with_reducible repeat (first | apply Kd.Ra1 | apply Kd.Rn1 | apply Kd.Rd1)); exact (Kd.R_mono (Kd.R_far (p := ⟨go33, (x32_2 : Int).toNat, none⟩) (Kd.R_types HO_8.out GG35_.out (by decide)) (fun _ hk => hk.2) (.slice Ao37 y172.length co37)) (fun _ h_ => h_.1)))) (by decide) hg); have n4_ := Ai0.mk (hb); have n5_ := Ai0.mk (ho); clear HO_169000; clear BK158; clear BK168; clear HO_169001; clear HB; clear HO_8; have HO_169000 := n0_; have BK158 := n1_; have BK168 := n2_; have HO_169001 := n3_; have HB := n4_; have HO178 := n5_; clear n0_ n1_ n2_ n3_ n4_ n5_; clear ho hb hg hat))
                  go_roundg k2
                  case measure => have := HK1.out; have := HK2.out; omega
                  case rel => exact ⟨(y176), (wrap64 (x32_2 + 1)), (y175), (.slice (some ⟨go33, 0, none⟩) x169001_2.length co31), (by first | rfl | (simp; done) | (simp [*]; done)), H', ⟨by have := HK1.out; have := HK2.out; omega⟩, ⟨by (with_reducible repeat (first | apply Kd.Ra1 | apply Kd.Rn1 | apply Kd.Rd1)); exact HO178.out⟩, ⟨by (with_reducible repeat (first | apply Kd.S_alloc | apply Kd.S_drewN | apply Kd.S_drew)); exact Kd.S_mono HO_169000.out (fun _ hk => hk.2)⟩, ⟨by (with_reducible repeat (first | apply Kd.S_alloc | apply Kd.S_drewN | apply Kd.S_drew)); exact HO_169001.out⟩, ⟨by (with_reducible repeat (first | refine kn1 ?_ _ | refine kd1 ?_ | refine ka1 ?_ _)); exact BK158.out⟩, ⟨by (with_reducible repeat (first | refine kn1 ?_ _ | refine kd1 ?_ | refine ka1 ?_ _)); exact BK168.out⟩, ⟨by repeat (first | (with_reducible first | exact HB.out | apply ba1 | apply pbN | apply bw1 | refine bs1 ?_ GE158.out | refine bs1 ?_ GE168.out) | exact HB.out)⟩⟩
                 ·rw [if_neg c29] at H;exact absurd H (by simp)
                ·rw [if_neg c27] at H;exact absurd H (by simp)
               ·rw [if_neg c26] at H;exact absurd H (by simp)
              ·rw [if_neg c25] at H;have c25b0 : ((rd (rd_L1 l0_1 x25_1) x32_2) == 1) = false := beq_eq_false_iff_ne.mpr c25;have c25b1 : ((rd (rd_L1 l0_1 x25_1) x32_2) != 1) = true := bne_iff_ne.mpr c25;have H' := Ai0.mk H;clear H;have p170 : 0 ≤ (x32_2 : Int) := of_decide_eq_true (by first | (with_reducible assumption) | assumption);have q170 : x32_2 < ((rd_L1 l0_1 x25_1).length : Int) := of_decide_eq_true (by first | (with_reducible assumption) | assumption);obtain ⟨ad170, e170, hx170_0⟩ := Kd.at_int HR169_0.out x32_2 p170 q170;cases e170;replace hx170_0 := (HB.out.cell (World.block_lt_of_cell? w _ hx170_0)).trans hx170_0;replace p170 := eq_true p170;replace q170 := eq_true q170
               go_wp2
               go_roundg k2
               case measure => have := HK1.out; have := HK2.out; omega
               case rel => exact ⟨(x8_2), (wrap64 (x32_2 + 1)), (x169001_2), (u169001), (by first | rfl | (simp; done) | (simp [*]; done)), H', ⟨by have := HK1.out; have := HK2.out; omega⟩, ⟨by (with_reducible repeat (first | apply Kd.Ra1 | apply Kd.Rn1 | apply Kd.Rd1)); exact HO_8.out⟩, ⟨by (with_reducible repeat (first | apply Kd.S_alloc | apply Kd.S_drewN | apply Kd.S_drew)); exact HO_169000.out⟩, ⟨by (with_reducible repeat (first | apply Kd.S_alloc | apply Kd.S_drewN | apply Kd.S_drew)); exact HO_169001.out⟩, ⟨by (with_reducible repeat (first | refine kn1 ?_ _ | refine kd1 ?_ | refine ka1 ?_ _)); exact BK158.out⟩, ⟨by (with_reducible repeat (first | refine kn1 ?_ _ | refine kd1 ?_ | refine ka1 ?_ _)); exact BK168.out⟩, ⟨by repeat (first | (with_reducible first | exact HB.out | apply ba1 | apply pbN | apply bw1 | refine bs1 ?_ GE158.out | refine bs1 ?_ GE168.out) | exact HB.out)⟩⟩
             ·rw [if_neg c24] at H;exact absurd H (by simp)
            ·rw [if_neg c23] at H;exact absurd H (by simp)
           ·rw [if_neg c22] at H;have c22b0 : decide (x32_2 < ((rd_L1 l0_1 x25_1).length : Int)) = false := decide_eq_false c22;clear c22;by_cases c39 : x169000_1.length < 5864062014805
            ·rw [if_pos c39] at H;have LMc39 := Ai0.mk c39;clear c39;(obtain ⟨y179, hy179⟩ : ∃ y_ : List (List Int), y_ = (x169000_1 ++ [x8_2]) := ⟨_, rfl⟩);(replace H : (message_build.l0 k2 l0_1 (l0_1.length : Int) (wrap64 (x25_1 + 1)) y179 x169001_2) = some (r1, r2, r3) := by first | (rw [hy179]; with_reducible exact H) | (have H2_ := (Option.bind_some _ _).symm.trans H; rw [hy179]; with_reducible exact H2_) | (have H2_ := (Option.bind_some _ _).symm.trans H; with_reducible exact H2_) | with_reducible exact H | (rw [hy179]; exact H) | exact H);have Ny179 := Ai0.mk hy179;clear hy179;have H' := Ai0.mk H;clear H;have hnb40 := NB168_158.out;have hnc40 := NB158_168.out;have hcz41_0 : wr.cell? ⟨gb168, 0, none⟩ = some (u169000) := (kc1 BK168.out 0).trans rfl;have hcz41_1 : wr.cell? ⟨gb168, 1, none⟩ = some (u169001) := (kc1 BK168.out 1).trans rfl;have hfz41_0 := kf1 BK168.out 0;have hfz41_1 := kf1 BK168.out 1;obtain ⟨Ao43, co43, eo43⟩ := Kd.R_slice HO_8.out;subst eo43
             go_wp2_with (first | ((with_reducible refine gate_builtin (b := .append) (xs := #[.tmp 67, .tmp 69]) rfl ?_); at_builtin; refine Kd.S_append (Kd.slice 3 (Kd.int .i64)) (w0 := w) w.heap.size rfl (.tmp 67) (.tmp 69) 22 25 (.slice none 0 0) 24 rfl Try.underlying22 info25 rfl (by decide) (by omega) u169000 x169000_1 x8_2 [.slice Ao43 x8_2.length co43] (fun _ => True) (fun k_ => some k_ = (.slice Ao43 x8_2.length co43 : Value).ownBlock) rfl rfl ?aP (fun k_ hk_ => ((Kd.R_mono (ok' := fun k_ => ((fun _ => True)) k_ ∧ some k_ ≠ (u169000 : Value).ownBlock) (Kd.R_apart' (HO_8.out) (Kd.S_typed HO_169000.out) (by decide)) (fun k_ hk => ⟨trivial, hk.2⟩))).1 k_ hk_.symm) ?aF ?aO ?aB ?aS ?aL ?_; (case aP => exact Kd.M_row (Kd.R_mono (Kd.R_tight rfl (Kd.R_mono (ok' := fun k_ => ((fun _ => True)) k_ ∧ some k_ ≠ (u169000 : Value).ownBlock) (Kd.R_apart' (HO_8.out) (Kd.S_typed HO_169000.out) (by decide)) (fun k_ hk => ⟨trivial, hk.2⟩))) (fun _ h_ => h_))); (case aB => exact (by repeat (first | (with_reducible first | exact HB.out | apply ba1 | apply pbN | apply bw1 | refine bs1 ?_ GE158.out | refine bs1 ?_ GE168.out) | exact HB.out))); (case aF => exact (fun _ _ => trivial)); (case aO => exact (by (with_reducible repeat (first | apply Kd.S_alloc | apply Kd.S_drewN | apply Kd.S_drew)); exact Kd.S_mono HO_169000.out (fun k_ hk => ⟨trivial, fun e_ => hk e_⟩))); (case aS => exact (bz1 (by repeat (first | (with_reducible first | exact HB.out | apply ba1 | apply pbN | apply bw1 | refine bs1 ?_ GE158.out | refine bs1 ?_ GE168.out) | exact HB.out)))); (case aL => have := LMc39.out; omega); intro v180 w42 ho hb hg hat; rw [← Ny179.out] at ho; have n0_ := Ai0.mk (Kd.S_over' (by (with_reducible repeat (first | apply Kd.S_alloc | apply Kd.S_drewN | apply Kd.S_drew)); exact HO_169001.out) (Kd.S_typed (by (with_reducible repeat (first | apply Kd.S_alloc | apply Kd.S_drewN | apply Kd.S_drew)); exact HO_169000.out)) (by decide) hg); have n1_ := Ai0.mk (blk_grown (g := gb158) (o := .cells #[.int .i64 a0_0, .slice (some ad169) l0_1.length c0_1] 24 (0, 0)) (by (with_reducible repeat (first | refine kn1 ?_ _ | refine kd1 ?_ | refine ka1 ?_ _)); exact BK158.out) hg (Kd.S_ne HO_169000.out BK158.out (by decide))); have n2_ := Ai0.mk (blk_grown (g := gb168) (o := .cells #[u169000, u169001] 73 (0, 0)) (by (with_reducible repeat (first | refine kn1 ?_ _ | refine kd1 ?_ | refine ka1 ?_ _)); exact BK168.out) hg (Kd.S_ne HO_169000.out BK168.out (by decide))); have n3_ := Ai0.mk (hb); have n4_ := Ai0.mk (ho); clear HO_169001; clear BK158; clear BK168; clear HB; clear HO_169000; clear HO_8; have HO_169001 := n0_; have BK158 := n1_; have BK168 := n2_; have HB := n3_; have HO181 := n4_; clear n0_ n1_ n2_ n3_ n4_; clear ho hb hg hat; obtain ⟨Ao44, co44, eo44⟩ := Kd.S_slice HO181.out; subst eo44; have hcz45_0 : w42.cell? ⟨gb168, 0, none⟩ = some (u169000) := (kc1 BK168.out 0).trans rfl; have hcz45_1 : w42.cell? ⟨gb168, 1, none⟩ = some (u169001) := (kc1 BK168.out 1).trans rfl; have hfz45_0 := kf1 BK168.out 0; have hfz45_1 := kf1 BK168.out 1))
             go_roundg k2
             case measure => have := HK1.out; have := HK2.out; omega
             case rel => exact ⟨(wrap64 (x25_1 + 1)), (y179), (x169001_2), (.slice Ao44 y179.length co44), (u169001), (by first | rfl | (simp; done) | (simp [*]; done)), H', ⟨by have := HK1.out; have := HK2.out; omega⟩, ⟨by (with_reducible repeat (first | apply Kd.S_alloc | apply Kd.S_drewN | apply Kd.S_drew)); exact Kd.S_mono (Kd.S_far (p := ⟨gb168, 0, none⟩) (Kd.S_types HO181.out BK168.out (by decide)) (fun _ hk => hk.2) (.slice Ao44 y179.length co44)) (fun _ hk => trivial)⟩, ⟨by (with_reducible repeat (first | apply Kd.S_alloc | apply Kd.S_drewN | apply Kd.S_drew)); exact Kd.S_mono (Kd.S_far (p := ⟨gb168, 0, none⟩) (Kd.S_types HO_169001.out BK168.out (by decide)) (fun _ hk => hk.2) (.slice Ao44 y179.length co44)) (fun _ hk => trivial)⟩, ⟨by (with_reducible repeat (first | refine kn1 ?_ _ | refine kd1 ?_ | refine ka1 ?_ _)); refine blk_far ?_ NB158_168.out _; (with_reducible repeat (first | refine kn1 ?_ _ | refine kd1 ?_ | refine ka1 ?_ _)); exact BK158.out⟩, ⟨by (with_reducible repeat (first | refine kn1 ?_ _ | refine kd1 ?_ | refine ka1 ?_ _)); refine blk_put (cs := #[u169000, u169001]) ?_ 0 _ rfl; (with_reducible repeat (first | refine kn1 ?_ _ | refine kd1 ?_ | refine ka1 ?_ _)); exact BK168.out⟩, ⟨by repeat (first | (with_reducible first | exact HB.out | apply ba1 | apply pbN | apply bw1 | refine bs1 ?_ GE158.out | refine bs1 ?_ GE168.out) | exact HB.out)⟩⟩
            ·rw [if_neg c39] at H;exact absurd H (by simp)
        ·rw [if_neg c21] at H;exact absurd H (by simp)
       ·rw [if_neg c20] at H;exact absurd H (by simp)
      ·rw [if_neg c19] at H;have c19b0 : decide (x25_1 < (l0_1.length : Int)) = false := decide_eq_false c19;clear c19;simp only [Option.some.injEq, Prod.mk.injEq] at H;obtain ⟨rfl, rfl, rfl⟩ := H;have hnb46 := NB168_158.out;have hnc46 := NB158_168.out;have hcz47_0 : wr.cell? ⟨gb168, 0, none⟩ = some (u169000) := (kc1 BK168.out 0).trans rfl;have hcz47_1 : wr.cell? ⟨gb168, 1, none⟩ = some (u169001) := (kc1 BK168.out 1).trans rfl;have hfz47_0 := kf1 BK168.out 0;have hfz47_1 := kf1 BK168.out 1
       go_wp2
       go_ret2
       exact ⟨some ⟨gb168, 0, none⟩, by first | rfl | (simp [eW0, eW1] <;> rfl) | (simp [*, eW0, eW1] <;> rfl), by repeat (first | (with_reducible first | exact HB.out | apply ba1 | apply pbN | apply bw1 | refine bs1 ?_ GE158.out | refine bs1 ?_ GE168.out) | exact HB.out), .inr ⟨rfl, gb168, _, _, rfl, GE168.out, by (with_reducible repeat (first | refine kn1 ?_ _ | refine kd1 ?_ | refine ka1 ?_ _)); exact BK168.out, by (with_reducible repeat (first | apply Kd.S_alloc | apply Kd.S_drewN | apply Kd.S_drew)); exact HO_169000.out, by (with_reducible repeat (first | apply Kd.S_alloc | apply Kd.S_drewN | apply Kd.S_drew)); exact HO_169001.out⟩⟩
   ·rw [if_neg c6] at H;exact absurd H (by simp)
  ·rw [if_neg c5] at H;exact absurd H (by simp)
 ·rw [if_neg c4] at H;have c4b0 : (t164 == 0) = false := beq_eq_false_iff_ne.mpr c4;have c4b1 : (t164 != 0) = true := bne_iff_ne.mpr c4;simp only [Option.some.injEq, Prod.mk.injEq] at H;obtain ⟨rfl, rfl, rfl⟩ := H;go_enter Try.func44, Try.ntmps44
  try go_wp2_with (first | ((with_reducible refine gate_dst (N := 1) rfl ?_); refine box_event ?hg (N := 1) ?hd (cs := #[.int .i64 a0_0, .slice A0_1 l0_1.length c0_1]) (t := 24) ?hr ?_; (case hd => rfl); (case hg => rfl); (case hr => first | (go_simp; done) | (go_simp; rfl)); intro gb158 hg w48 hbox hb; have n0_ := Ai0.mk (bt1 (by repeat (first | (with_reducible first | exact HB.out | apply ba1 | apply pbN | apply bw1) | exact HB.out)) hb); have n1_ := Ai0.mk (hbox); have n2_ := Ai0.mk ((by rw [hg]; exact (bz1 (by repeat (first | (with_reducible first | exact HB.out | apply ba1 | apply pbN | apply bw1) | exact HB.out))) : w.heap.size ≤ gb158)); have n3_ := Ai0.mk ((by rw [hg]; exact (bz1 (by repeat (first | (with_reducible first | exact HB.out | apply ba1 | apply pbN | apply bw1) | exact HB.out))) : w.heap.size ≤ gb158)); clear HB; have HB := n0_; have BK158 := n1_; have GW158 := n2_; have GE158 := n3_; clear n0_ n1_ n2_ n3_; clear hb hbox hg))
  have n0_ := Ai0.mk (kd1 BK158.out);have n1_ := Ai0.mk (bw1 HB.out);clear BK158;clear HB;have BK158 := n0_;have HB := n1_;clear n0_ n1_;refine start_ (n := 4) (S := fun w' => w'.cell? ⟨gb158, 0, none⟩ = some (.int .i64 a0_0) ∧ w'.cell? ⟨gb158, 1, none⟩ = some (.slice A0_1 l0_1.length c0_1)) (ds := []) #[false, false, false, false] (by kernel_rfl) rfl rfl ⟨(kc1 BK158.out 0).trans rfl, (kc1 BK158.out 1).trans rfl⟩ (fun hHeld => ?_);generalize w48.drew = w49 at BK158 HB hHeld ⊢
  refine take_ (i := 1) (N := some 12) (v := ?_) (a' := ?_) #[false, true, false, false] rfl rfl (by kernel_rfl) (fun _ _ _ h => h) (Or.inl ⟨by rfl, ?_⟩) hHeld ?_ ?_;rotate_left
  ·rintro w' ⟨s0, s1⟩
   go_simp
   with_reducible rfl
  rotate_left
  ·simp only [Act.put, l01_, l02_, l03_, i64_w, i32_w]
   rfl
  refine one_ (i := 0) (N := some 11) #[true, true, false, false] rfl rfl (by kernel_rfl) (by decide) (fun K hK => ?_);refine goes_ Try.func68 (by kernel_rfl) rfl #[] (by rfl) rfl rfl (by (try simp only [List.map_toArray, List.map_cons, List.map_nil]); first | done | rfl | (simp only [List.length_drop, List.length_take]; rfl)) ?_
  with_reducible refine (message_binary.calls  t159 t160 t161 _ A2.out).mono ?_
  rintro e w50 ⟨v162, rfl, ho0, hb⟩
  refine ⟨_, rfl, ?_⟩;have n0_ := Ai0.mk (Kd.R_lower ho0 (bz1 (by repeat (first | (with_reducible first | exact HB.out | apply ba1 | apply pbN | apply bw1 | refine bs1 ?_ GE158.out) | exact HB.out))));have n1_ := Ai0.mk (kb1 (g := gb158) (o := .cells #[.int .i64 a0_0, .slice A0_1 l0_1.length c0_1] 24 (0, 0)) (by (with_reducible repeat (first | refine kn1 ?_ _ | refine kd1 ?_ | refine ka1 ?_ _)); exact BK158.out) hb);have n2_ := Ai0.mk (bt1 (by repeat (first | (with_reducible first | exact HB.out | apply ba1 | apply pbN | apply bw1 | refine bs1 ?_ GE158.out) | exact HB.out)) hb);clear BK158;clear HB;have HO163 := n0_;have BK158 := n1_;have HB := n2_;clear n0_ n1_ n2_;(try clear hb);(try clear hb2);(try clear hk);(try clear hi);(try clear ho0);obtain ⟨Ao51, co51, eo51⟩ := Kd.R_slice HO163.out;(first | subst eo51 | (injection eo51 with f1_ f2_ f3_; have f4_ := f1_.symm; have f5_ := f3_.symm; clear f1_ f2_ f3_; subst f4_; subst f5_));refine hK.out _ _ ⟨(kc1 BK158.out 0).trans rfl, (kc1 BK158.out 1).trans rfl⟩ (fun hHeld => ?_);clear hK K;refine norm_ (a' := ?_) ?_ ?_;rotate_left
  ·show Act.put _ (some 11) _ = _;simp only [Act.put, l01_, l02_, l03_, i64_w, i32_w]
   rfl
  refine one_ (i := 2) (N := some 13) #[true, true, true, false] rfl rfl (by kernel_rfl) (by decide) (fun K hK => ?_);refine goes_ Try.func67 (by kernel_rfl) rfl #[.agg #[.int .i64 t159, .int .i64 t160, .slice Ao51 t161.length co51], .agg #[.int .i64 a0_0, .slice A0_1 l0_1.length c0_1]] (by rfl) rfl rfl (by (try simp only [List.map_toArray, List.map_cons, List.map_nil]); first | done | rfl | (simp only [List.length_drop, List.length_take]; rfl)) ?_
  with_reducible refine (matrix_Check.calls k t159 t160 _ _ t161 a0_0 _ _ l0_1 t164 _ ?side1 ?side2 ?side3 ?side4 A3.out).mono ?_
  (case side1 => repeat (first | exact (Kd.R_reads' HO163.out).2.2 | (with_reducible refine Kd.C_alloc ?_ _) | (with_reducible refine Kd.C_drewN ?_ _) | (with_reducible refine Kd.C_drew ?_)));(case side2 => exact (Kd.R_reads' HO163.out).2.1);(case side3 => repeat (first | exact (Kd.C_below HR0_1.out HB.out) | (with_reducible refine Kd.C_alloc ?_ _) | (with_reducible refine Kd.C_drewN ?_ _) | (with_reducible refine Kd.C_drew ?_)));(case side4 => exact HC0_1.out)
  rintro e w52 ⟨rfl, hb⟩
  refine ⟨_, rfl, ?_⟩;have n0_ := Ai0.mk (Kd.R_below (by (with_reducible repeat (first | apply Kd.Ra1 | apply Kd.Rn1 | apply Kd.Rd1)); exact HO163.out) hb);have n1_ := Ai0.mk (kb1 (g := gb158) (o := .cells #[.int .i64 a0_0, .slice A0_1 l0_1.length c0_1] 24 (0, 0)) (by (with_reducible repeat (first | refine kn1 ?_ _ | refine kd1 ?_ | refine ka1 ?_ _)); exact BK158.out) hb);have n2_ := Ai0.mk (bt1 (by repeat (first | (with_reducible first | exact HB.out | apply ba1 | apply pbN | apply bw1 | refine bs1 ?_ GE158.out) | exact HB.out)) hb);clear HO163;clear BK158;clear HB;have HO163 := n0_;have BK158 := n1_;have HB := n2_;clear n0_ n1_ n2_;(try clear hb);(try clear hb2);(try clear hk);(try clear hi);refine hK.out _ _ ⟨(kc1 BK158.out 0).trans rfl, (kc1 BK158.out 1).trans rfl⟩ (fun hHeld => ?_);clear hK K;refine norm_ (a' := ?_) ?_ ?_;rotate_left
  ·show Act.put _ (some 13) _ = _;simp only [Act.put, l01_, l02_, l03_, i64_w, i32_w]
   rfl
  refine pure_ (i := 3) (N := some 4) (v := ?_) (a' := ?_) #[true, true, true, true] rfl rfl (by kernel_rfl) (fun _ _ _ h => h) (Or.inl ⟨by rfl, ?_⟩) ?_ ?_;rotate_left
  ·intro w';go_simp
   with_reducible rfl
  rotate_left
  ·simp only [Act.put, l01_, l02_, l03_, i64_w, i32_w]
   rfl
  refine done_ (by kernel_rfl) ?_
  try go_wp2
  go_ret2
  exact ⟨none, by first | rfl | (simp [eW0, eW1] <;> rfl) | (simp [*, eW0, eW1] <;> rfl), by repeat (first | (with_reducible first | exact HB.out | apply ba1 | apply pbN | apply bw1 | refine bs1 ?_ GE158.out) | exact HB.out), .inl ⟨by intro h_; simp [h_] at *, rfl⟩⟩
end Go.Proofs.Ytmclalniilkjiaa.Q
/- What the printed build computes: the checks' positions and the positions' edges. Condition: Check finds no fault. -/
namespace Go.Proofs.Ytmclalniilkjiaa.Gr
open Go.RowKit Go.Proofs.Ytmclalniilkjiaa.Q Go.Proofs.YtmclalniilkjiaaW.PrintWords Go.Proofs.YtmclalniilkjiaaW.PrintLast Go.Proofs.Ytmclalniilkjiaa.Ba Go.Proofs.Ytmclalniilkjiaa.Ck

/-- Row j has 1 at position i. -/
def bit (rows : List (List Int)) (j i : Nat) : Bool := decide (rd (rows.getD j []) (i : Int) = 1)
/-- The positions below n at which row j has 1. -/
def one (rows : List (List Int)) (j n : Nat) : List Int := PG (fun i => (i : Int)) (bit rows j) n
/-- The edges of position p in the rows below n. -/
def edg (rows : List (List Int)) (p n : Nat) : List S77 := PG (fun j => (⟨(j : Int), ((one rows j p).length : Int)⟩ : S77)) (fun j => bit rows j p) n
def checks (rows : List (List Int)) (C n : Nat) : List (List Int) := LL n (fun j => one rows j C)
def at_ (rows : List (List Int)) (C n : Nat) : List (List S77) := LL C (fun p => edg rows p n)
theorem one_le (rows : List (List Int)) (j n : Nat) : (one rows j n).length ≤ n := PG_le _ _ n
theorem edg_le (rows : List (List Int)) (p n : Nat) : (edg rows p n).length ≤ n := PG_le _ _ n
section
variable (rows : List (List Int)) (C : Nat) (hC : C ≤ 256) (hr : rows.length ≤ 256) (hlen : ∀ j, j < rows.length → (rows.getD j []).length = C)
include hC hr hlen
theorem l1_ev {r : List (List Int) × List (List S77) × Int} (j : Nat) (hj : j < rows.length) (chs : List (List Int)) (hch : chs.length ≤ 256)
  (ih : Ev (fun k => message_build.l0 k rows (rows.length : Int) ((j + 1 : Nat) : Int) (chs ++ [one rows j C]) (LL C (fun p => edg rows p (j + 1)))) r) : ∀ d i : Nat, i + d = C →
  Ev (fun k => message_build.l1 k (j : Int) (one rows j i) rows (rows.length : Int) (j : Int) (rows.getD j []) (C : Int) (i : Int) chs (LL C (fun p => if p < i then edg rows p (j + 1) else edg rows p j))) r
 | 0, i, h => by
  obtain rfl : i = C := by omega
  refine Ev.step (fun k => ?_) ih
  simp only [message_build.l1]
  rw [if_neg (by omega), if_pos (by omega), w64_id (by omega) (by omega)]
  congr 1
  exact LL_congr _ _ _ (fun p hp => by rw [if_pos hp])
 | d + 1, i, h => by
  have e := hlen j hj
  have ih2 := l1_ev j hj chs hch ih d (i + 1) (by omega)
  by_cases hb : rd (rows.getD j []) (i : Int) = 1
  ·have hb2 : bit rows j i = true := decide_eq_true hb
   refine Ev.step (fun k => ?_) ih2
   have h9 : ∀ x, rd_L9 (LL C x) (i : Int) = x i := fun x => by unfold rd_L9; rw [Int.toNat_natCast, LL_at _ _ _ _ (by omega)]
   have h9' : rd_L9 (LL C (fun p => if p < i then edg rows p (j + 1) else edg rows p j)) (i : Int) = edg rows i j := by rw [h9]; exact if_neg (by omega)
   have hle := edg_le rows i j
   have hlo := one_le rows j i
   simp only [message_build.l1]
   rw [if_pos (by omega), if_pos (by omega), if_pos (by omega), if_pos hb, if_pos (by rw [LL_length]; omega), h9', if_pos (by omega), if_pos (by omega), w64_id (by omega) (by omega)]
   have e1 : one rows j (i + 1) = one rows j i ++ [(i : Int)] := by show (if bit rows j i = true then _ else _) = _; rw [if_pos hb2]; rfl
   have e2 : edg rows i (j + 1) = edg rows i j ++ [⟨(j : Int), ((one rows j i).length : Int)⟩] := by show (if bit rows j i = true then _ else _) = _; rw [if_pos hb2]; rfl
   rw [e1, Int.toNat_natCast, LL_set]
   congr 1
   refine LL_congr _ _ _ (fun p hp => ?_)
   by_cases ep : p = i
   ·subst ep; rw [if_pos rfl, if_pos (by omega), e2]
   ·rw [if_neg ep]
    by_cases e3 : p < i
    ·rw [if_pos e3, if_pos (by omega)]
    ·rw [if_neg e3, if_neg (by omega)]
  ·have hb2 : ¬ bit rows j i = true := by unfold bit; rw [decide_eq_false hb]; decide
   refine Ev.step (fun k => ?_) ih2
   simp only [message_build.l1]
   rw [if_pos (by omega), if_pos (by omega), if_pos (by omega), if_neg hb, w64_id (by omega) (by omega)]
   have e1 : one rows j (i + 1) = one rows j i := by show (if bit rows j i = true then _ else _) = _; rw [if_neg hb2]; rfl
   have e2 : edg rows i (j + 1) = edg rows i j := by show (if bit rows j i = true then _ else _) = _; rw [if_neg hb2]; rfl
   rw [e1]
   congr 1
   refine LL_congr _ _ _ (fun p hp => ?_)
   by_cases ep : p = i
   ·subst ep; rw [if_neg (by omega), if_pos (by omega), e2]
   ·by_cases e3 : p < i
    ·rw [if_pos e3, if_pos (by omega)]
    ·rw [if_neg e3, if_neg (by omega)]
theorem l0_ev : ∀ d j : Nat, j + d = rows.length →
  Ev (fun k => message_build.l0 k rows (rows.length : Int) (j : Int) (checks rows C j) (at_ rows C j)) (checks rows C rows.length, at_ rows C rows.length, 0)
 | 0, j, h => by
  obtain rfl : j = rows.length := by omega
  refine Ev.step (f := fun _ => some _) (fun k => ?_) (Ev.now _)
  simp only [message_build.l0]
  rw [if_neg (by omega)]
 | d + 1, j, h => by
  have ih := l0_ev d (j + 1) (by omega)
  have hcl : (checks rows C j).length = j := LL_length _ _
  have h1 := l1_ev rows C hC hr hlen (r := (checks rows C rows.length, at_ rows C rows.length, 0)) j (by omega) (checks rows C j) (by omega) (by have e : checks rows C j ++ [one rows j C] = checks rows C (j + 1) := (LL_succ j _).symm; rw [e]; exact ih) C 0 (by omega)
  refine Ev.step (fun k => ?_) h1
  simp only [message_build.l0, rd_L1_nat]
  rw [if_pos (by omega), if_pos (by omega), if_pos (by omega), hlen j (by omega)]
  first | rfl | (congr 1; exact LL_congr _ _ _ (fun p hp => by rw [if_neg (by omega)]))
end
theorem build_ok {c : Int} {rows : List (List Int)} (h : chk c rows = 0) : Ev (fun k => message_build.f k c rows) (checks rows c.toNat rows.length, at_ rows c.toNat rows.length, 0) := by
 obtain ⟨h0, h1, h2, h3, h4⟩ := chk_ok h
 unfold message_build.f
 refine Ev.bind (a := ((2 : Int), (1 : Int), ([] : List Int))) (Ev.now _) ?_
 refine (Check_ev c rows).bind ?_
 rw [h]
 refine Ev.congr (fun k => if_pos rfl) (Ev.congr (fun k => if_pos h0) (Ev.congr (fun k => if_pos (by omega)) ?_))
 have hh := l0_ev rows c.toNat (by omega) h2 (fun j hj => by have := h3 j hj; omega) rows.length 0 (by omega)
 have e : List.replicate c.toNat ([] : List S77) = at_ rows c.toNat 0 := by rw [LL_rep]; rfl
 rw [e]
 exact hh
end Go.Proofs.Ytmclalniilkjiaa.Gr
namespace Go.Proofs.Ytmclalniilkjiaa.Q
open Go.RowKit Go.Proofs.YtmclalniilkjiaaW.PrintWords Go.Proofs.YtmclalniilkjiaaW.PrintLast Go.Proofs.YtmclalniilkjiaaW.PrintMore
open List renaming setIfInBounds_toArray → l01_, set_cons_zero → l02_, set_cons_succ → l03_
attribute [local go_sem] max2_int min2_int max_two min_two max_three min_three max_four min_four
set_option linter.unusedVariables false
set_option linter.unusedSimpArgs false
def message_odd.l0 : Nat → List Int → Int → List Int → Int → Int → Option (Bool)
 | 0, _, _, _, _, _ => none
 | k + 1, x1, x5, x8, x9, x10 => if x10 < x9 then (if 0 ≤ x10 then (if x10 < (x8.length : Int) then (if 0 ≤ (rd x8 x10) then (if (rd x8 x10) < (x1.length : Int) then (message_odd.l0 k x1 (wrap64 (x5 + (rd x1 (rd x8 x10)))) x8 x9 (wrap64 (x10 + 1))) else (none)) else (none)) else (none)) else (none)) else (some ((Int.tmod x5 2) == 1))
def message_odd.f (k : Nat) (l0 : List Int) (l1 : List Int) : Option (Bool) := message_odd.l0 k l1 0 l0 (l0.length : Int) 0
theorem message_odd.mono_l : ∀ k, (∀ y0 y1 y2 y3 y4, LeO (message_odd.l0 k y0 y1 y2 y3 y4) (message_odd.l0 (k + 1) y0 y1 y2 y3 y4))
 | 0 => fun _ _ _ _ _ r h => by simp [message_odd.l0] at h
 | k + 1 => by
  have ih0 := message_odd.mono_l k
  ·intro y0 y1 y2 y3 y4;unfold message_odd.l0
   repeat' first
   | (with_reducible exact ih0 _ _ _ _ _)
   | (with_reducible exact LeO.refl _)
   | (with_reducible exact LeO.none _)
   | (with_reducible refine LeO.ite ?_ ?_)
   | (with_reducible refine LeO.bind ?_ (fun _ => ?_))
   | exact ih0 _ _ _ _ _
   | exact LeO.none _
   | refine LeO.ite ?_ ?_
   | refine LeO.bind ?_ (fun _ => ?_)
theorem message_odd.mono : ∀ a0 a1 k, LeO (message_odd.f k a0 a1) (message_odd.f (k + 1) a0 a1) := by
 intro a0 a1 k;have ih0 := message_odd.mono_l k;unfold message_odd.f
 repeat' first
   | (with_reducible exact ih0 _ _ _ _ _)
   | (with_reducible exact LeO.refl _)
   | (with_reducible exact LeO.none _)
   | (with_reducible refine LeO.ite ?_ ?_)
   | (with_reducible refine LeO.bind ?_ (fun _ => ?_))
   | exact ih0 _ _ _ _ _
   | exact LeO.none _
   | refine LeO.ite ?_ ?_
   | refine LeO.bind ?_ (fun _ => ?_)
set_option maxHeartbeats 8000000 in
set_option maxRecDepth 100000 in
theorem message_odd.calls (k : Nat) (A0 : Option Addr) (c0 : Nat) (l0 : List Int) (A1 : Option Addr) (c1 : Nat) (l1 : List Int) (r : Bool) (w : World) (hr0 : Kd.C (Kd.int .i64) w A0 l0.length l0) (hc0 : l0.length ≤ c0) (hr1 : Kd.C (Kd.int .i64) w A1 l1.length l1) (hc1 : l1.length ≤ c1) (h : message_odd.f k l0 l1 = some r) :
  Calls Try.prog 70 #[.slice A0 l0.length c0, .slice A1 l1.length c1] w fun e w' => e = .returned (.bool r) ∧ Drawn0 w w' := by
 have HR0 := Ai0.mk hr0;have HC0 := Ai0.mk hc0;clear hr0 hc0;have HR1 := Ai0.mk hr1;have HC1 := Ai0.mk hc1;clear hr1 hc1;have H : (message_odd.l0 k l1 0 l0 (l0.length : Int) 0) = some r := h;clear h;have H' := Ai0.mk H;clear H;go_enter Try.func70, Try.ntmps70
 go_wp2
 go_loopg [5, 10] k (fun kq v5 v10 w' => ∃ (x5_1 : Int) (x10_1 : Int), v5 = .int .i64 x5_1 ∧ v10 = .int .i64 x10_1 ∧ Ai0 (message_odd.l0 kq l1 x5_1 l0 (l0.length : Int) x10_1 = some r) ∧ Ai0 (kq ≤ k) ∧ Drawn0 w w')
 case atStart => exact ⟨(0), (0), (by first | rfl | (simp; done) | (simp [*]; done)), (by first | rfl | (simp; done) | (simp [*]; done)), H', ⟨Nat.le_refl _⟩, by repeat (first | exact Drawn0.refl _ | apply Drawn0.step)⟩
 case round =>
  clear H'
  try clear c1
  try clear p2
  obtain ⟨x5_1, x10_1, rfl, rfl, HA, HK1, ⟨m1, rfl⟩⟩ := hrel
  cases gk with
  | zero => exact absurd HA.out (by simp [message_odd.l0])
  | succ k1 =>
   have H := HA.out;clear HA;simp only [message_odd.l0] at H;by_cases c3 : x10_1 < (l0.length : Int)
   ·rw [if_pos c3] at H;have c3b0 : decide (x10_1 < (l0.length : Int)) = true := decide_eq_true c3;clear c3;by_cases c4 : 0 ≤ x10_1
    ·rw [if_pos c4] at H;have c4b0 : decide (0 ≤ x10_1) = true := decide_eq_true c4;clear c4;by_cases c5 : x10_1 < (l0.length : Int)
     ·rw [if_pos c5] at H;have c5b0 : decide (x10_1 < (l0.length : Int)) = true := decide_eq_true c5;clear c5;by_cases c6 : 0 ≤ (rd l0 x10_1)
      ·rw [if_pos c6] at H;have c6b0 : decide (0 ≤ (rd l0 x10_1)) = true := decide_eq_true c6;clear c6;by_cases c7 : (rd l0 x10_1) < (l1.length : Int)
       ·rw [if_pos c7] at H;have c7b0 : decide ((rd l0 x10_1) < (l1.length : Int)) = true := decide_eq_true c7;clear c7;have H' := Ai0.mk H;clear H;have p254 : 0 ≤ (x10_1 : Int) := of_decide_eq_true (by first | (with_reducible assumption) | assumption);have q254 : x10_1 < (l0.length : Int) := of_decide_eq_true (by first | (with_reducible assumption) | assumption);obtain ⟨ad254, e254, hx254_0⟩ := Kd.at_int HR0.out x10_1 p254 q254;cases e254;replace p254 := eq_true p254;replace q254 := eq_true q254;have p255 : 0 ≤ ((rd l0 x10_1) : Int) := of_decide_eq_true (by first | (with_reducible assumption) | assumption);have q255 : (rd l0 x10_1) < (l1.length : Int) := of_decide_eq_true (by first | (with_reducible assumption) | assumption);obtain ⟨ad255, e255, hx255_0⟩ := Kd.at_int HR1.out (rd l0 x10_1) p255 q255;cases e255;replace p255 := eq_true p255;replace q255 := eq_true q255
        go_wp2
        go_roundg k1
        case measure => have := HK1.out; omega
        case rel => exact ⟨(wrap64 (x5_1 + (rd l1 (rd l0 x10_1)))), (wrap64 (x10_1 + 1)), (by first | rfl | (simp; done) | (simp [*]; done)), (by first | rfl | (simp; done) | (simp [*]; done)), H', ⟨by have := HK1.out; omega⟩, by repeat (first | exact Drawn0.refl _ | apply Drawn0.step)⟩
       ·rw [if_neg c7] at H;exact absurd H (by simp)
      ·rw [if_neg c6] at H;exact absurd H (by simp)
     ·rw [if_neg c5] at H;exact absurd H (by simp)
    ·rw [if_neg c4] at H;exact absurd H (by simp)
   ·rw [if_neg c3] at H;have c3b0 : decide (x10_1 < (l0.length : Int)) = false := decide_eq_false c3;clear c3;obtain rfl := Option.some.inj H
    go_wp2
    go_ret
    exact ⟨by first | rfl | (simp; done) | (simp [*]; done), by repeat (first | exact Drawn0.refl _ | apply Drawn0.step)⟩
def mg_unsatisfied.l0 : Nat → List Int → List Int → List (List Int) → Int → Int → Option (List Int)
 | 0, _, _, _, _, _ => none
 | k + 1, x1, x5, x11, x12, x13 => if x13 < x12 then (if 0 ≤ x13 then (if x13 < (x11.length : Int) then ((message_odd.f k (rd_L1 x11 x13) x1).bind fun t274 => (if t274 = true then (if x5.length < 17592186044416 then (mg_unsatisfied.l0 k x1 (x5 ++ [x13]) x11 x12 (wrap64 (x13 + 1))) else (none)) else (mg_unsatisfied.l0 k x1 x5 x11 x12 (wrap64 (x13 + 1))))) else (none)) else (none)) else (some x5)
def mg_unsatisfied.f (k : Nat) (l0_0 : List (List Int)) (l0_1 : List (List (S77))) (l1 : List Int) : Option (List Int) := mg_unsatisfied.l0 k l1 ([] : List Int) l0_0 (l0_0.length : Int) 0
theorem mg_unsatisfied.mono_l : ∀ k, (∀ y0 y1 y2 y3 y4, LeO (mg_unsatisfied.l0 k y0 y1 y2 y3 y4) (mg_unsatisfied.l0 (k + 1) y0 y1 y2 y3 y4))
 | 0 => fun _ _ _ _ _ r h => by simp [mg_unsatisfied.l0] at h
 | k + 1 => by
  have ih0 := mg_unsatisfied.mono_l k
  ·intro y0 y1 y2 y3 y4;unfold mg_unsatisfied.l0
   repeat' first
   | (with_reducible exact ih0 _ _ _ _ _)
   | (with_reducible exact message_odd.mono _ _ _)
   | (with_reducible exact LeO.refl _)
   | (with_reducible exact LeO.none _)
   | (with_reducible refine LeO.ite ?_ ?_)
   | (with_reducible refine LeO.bind ?_ (fun _ => ?_))
   | exact ih0 _ _ _ _ _
   | exact message_odd.mono _ _ _
   | exact LeO.none _
   | refine LeO.ite ?_ ?_
   | refine LeO.bind ?_ (fun _ => ?_)
theorem mg_unsatisfied.mono : ∀ a0 a1 a2 k, LeO (mg_unsatisfied.f k a0 a1 a2) (mg_unsatisfied.f (k + 1) a0 a1 a2) := by
 intro a0 a1 a2 k;have ih0 := mg_unsatisfied.mono_l k;unfold mg_unsatisfied.f
 repeat' first
   | (with_reducible exact ih0 _ _ _ _ _)
   | (with_reducible exact message_odd.mono _ _ _)
   | (with_reducible exact LeO.refl _)
   | (with_reducible exact LeO.none _)
   | (with_reducible refine LeO.ite ?_ ?_)
   | (with_reducible refine LeO.bind ?_ (fun _ => ?_))
   | exact ih0 _ _ _ _ _
   | exact message_odd.mono _ _ _
   | exact LeO.none _
   | refine LeO.ite ?_ ?_
   | refine LeO.bind ?_ (fun _ => ?_)
set_option maxHeartbeats 8000000 in
set_option maxRecDepth 100000 in
theorem mg_unsatisfied.calls (k : Nat) (A0_0 : Option Addr) (c0_0 : Nat) (l0_0 : List (List Int)) (A0_1 : Option Addr) (c0_1 : Nat) (l0_1 : List (List (S77))) (A1 : Option Addr) (c1 : Nat) (l1 : List Int) (r : List Int) (gG : Nat) (w : World) (hr0_0 : Kd.C (Kd.slice 3 (Kd.int .i64)) w A0_0 l0_0.length l0_0) (hc0_0 : l0_0.length ≤ c0_0) (hr0_1 : Kd.C (Kd.slice 77 k77) w A0_1 l0_1.length l0_1) (hc0_1 : l0_1.length ≤ c0_1) (hr1 : Kd.C (Kd.int .i64) w A1 l1.length l1) (hc1 : l1.length ≤ c1) (hG : w.heap[gG]? = some (.cells #[.slice A0_0 l0_0.length c0_0, .slice A0_1 l0_1.length c0_1] 73 (0, 0))) (h : mg_unsatisfied.f k l0_0 l0_1 l1 = some r) :
  Calls Try.prog 49 #[.pointer (some ⟨gG, 0, none⟩), .slice A1 l1.length c1] w fun e w' => ∃ v0_ : Value, e = .returned (v0_) ∧ Kd.R (Kd.int .i64) 3 w' w.heap.size (fun _ => True) v0_ r ∧ Below w.heap.size w w' := by
 have hu73 := Try.underlying73;have HR0_0 := Ai0.mk hr0_0;have HC0_0 := Ai0.mk hc0_0;clear hr0_0 hc0_0;have HR0_1 := Ai0.mk hr0_1;have HC0_1 := Ai0.mk hc0_1;clear hr0_1 hc0_1;have HR1 := Ai0.mk hr1;have HC1 := Ai0.mk hc1;clear hr1 hc1;have HB := Ai0.mk (Below.refl w.heap.size w);have H : (mg_unsatisfied.l0 k l1 ([] : List Int) l0_0 (l0_0.length : Int) 0) = some r := h;clear h;have H' := Ai0.mk H;clear H;have BK272 := Ai0.mk hG;have hcz4_0 : w.cell? ⟨gG, 0, none⟩ = some (.slice A0_0 l0_0.length c0_0) := (kc1 BK272.out 0).trans rfl;have hcz4_1 : w.cell? ⟨gG, 1, none⟩ = some (.slice A0_1 l0_1.length c0_1) := (kc1 BK272.out 1).trans rfl;have hfz4_0 := kf1 BK272.out 0;have hfz4_1 := kf1 BK272.out 1;go_enter Try.func49, Try.ntmps49
 go_wp2
 go_loopg [5, 13] k (fun kq v5 v13 w' => ∃ (x5_1 : List Int) (x13_1 : Int), v13 = .int .i64 x13_1 ∧ Ai0 (mg_unsatisfied.l0 kq l1 x5_1 l0_0 (l0_0.length : Int) x13_1 = some r) ∧ Ai0 (kq ≤ k) ∧ Ai0 (Kd.R (Kd.int .i64) 3 w' w.heap.size (fun _ => True) v5 x5_1) ∧ Ai0 (w'.heap[gG]? = some (.cells #[(.slice A0_0 l0_0.length c0_0), (.slice A0_1 l0_1.length c0_1)] 73 (0, 0))) ∧ Ai0 (Below w.heap.size w w'))
 case atStart => exact ⟨(([] : List Int)), (0), (by first | rfl | (simp; done) | (simp [*]; done)), H', ⟨Nat.le_refl _⟩, ⟨by first | exact Kd.R_nil _ _ _ _ _ | exact Kd.N_nil _ _ _ _ _ | exact Kd.V_nil _ _ _ _ _ | exact Kd.Q_nil _ _ _ _ _ | exact Kd.S_nil _ _ _ _ _⟩, ⟨by (with_reducible repeat (first | refine kn1 ?_ _ | refine kd1 ?_ | refine ka1 ?_ _)); exact BK272.out⟩, ⟨by repeat (first | (with_reducible first | exact HB.out | apply ba1 | apply pbN | apply bw1) | exact HB.out)⟩⟩
 case round =>
  clear H'
  try clear c1
  try clear p2
  try clear c4
  try clear hcz4_0
  try clear hcz4_1
  try clear hfz4_0
  try clear hfz4_1
  obtain ⟨x5_1, x13_1, rfl, HA, HK1, HO_5, BK272, HB⟩ := hrel
  cases gk with
  | zero => exact absurd HA.out (by simp [mg_unsatisfied.l0])
  | succ k1 =>
   have H := HA.out;clear HA;simp only [mg_unsatisfied.l0] at H;by_cases c5 : x13_1 < (l0_0.length : Int)
   ·rw [if_pos c5] at H;have c5b0 : decide (x13_1 < (l0_0.length : Int)) = true := decide_eq_true c5;clear c5;by_cases c6 : 0 ≤ x13_1
    ·rw [if_pos c6] at H;have c6b0 : decide (0 ≤ x13_1) = true := decide_eq_true c6;clear c6;by_cases c7 : x13_1 < (l0_0.length : Int)
     ·rw [if_pos c7] at H;have c7b0 : decide (x13_1 < (l0_0.length : Int)) = true := decide_eq_true c7;clear c7;replace H := Option.bind_eq_some_iff.mp H;obtain ⟨t274, A80, H⟩ := H;replace H : (if t274 = true then (if x5_1.length < 17592186044416 then (mg_unsatisfied.l0 k1 l1 (x5_1 ++ [x13_1]) l0_0 (l0_0.length : Int) (wrap64 (x13_1 + 1))) else (none)) else (mg_unsatisfied.l0 k1 l1 x5_1 l0_0 (l0_0.length : Int) (wrap64 (x13_1 + 1)))) = some r := H;have A8 := Ai0.mk A80;clear A80;by_cases c9 : t274 = true
      ·subst c9;(have H1 : (if x5_1.length < 17592186044416 then (mg_unsatisfied.l0 k1 l1 (x5_1 ++ [x13_1]) l0_0 (l0_0.length : Int) (wrap64 (x13_1 + 1))) else (none)) = some r := by rw [if_pos rfl] at H; exact H);clear H;have H := H1;clear H1;by_cases c10 : x5_1.length < 17592186044416
       ·rw [if_pos c10] at H;have LMc10 := Ai0.mk c10;clear c10;(obtain ⟨y275, hy275⟩ : ∃ y_ : List Int, y_ = (x5_1 ++ [x13_1]) := ⟨_, rfl⟩);(replace H : (mg_unsatisfied.l0 k1 l1 y275 l0_0 (l0_0.length : Int) (wrap64 (x13_1 + 1))) = some r := by first | (rw [hy275]; with_reducible exact H) | (have H2_ := (Option.bind_some _ _).symm.trans H; rw [hy275]; with_reducible exact H2_) | (have H2_ := (Option.bind_some _ _).symm.trans H; with_reducible exact H2_) | with_reducible exact H | (rw [hy275]; exact H) | exact H);have Ny275 := Ai0.mk hy275;clear hy275;have H' := Ai0.mk H;clear H;have p273 : 0 ≤ (x13_1 : Int) := of_decide_eq_true (by first | (with_reducible assumption) | assumption);have q273 : x13_1 < (l0_0.length : Int) := of_decide_eq_true (by first | (with_reducible assumption) | assumption);obtain ⟨ad273, A273_0, c273_0, e273, hx273_0, hl273_0, hi273_0⟩ := at_L1 HR0_0.out x13_1 p273 q273;cases e273;replace hx273_0 := (HB.out.cell (World.block_lt_of_cell? w _ hx273_0)).trans hx273_0;have HR273_0 := Ai0.mk hi273_0;have HC273_0 := Ai0.mk hl273_0;clear hi273_0 hl273_0;replace p273 := eq_true p273;replace q273 := eq_true q273
        go_wp2_with (first | ((with_reducible refine gate_callee (f := 70) rfl ?_); refine goesL_ (some 20) rfl rfl Try.func70 (by kernel_rfl) rfl #[.slice A273_0 (rd_L1 l0_0 x13_1).length c273_0, .slice A1 l1.length c1] rfl (by (try simp only [List.map_toArray, List.map_cons, List.map_nil]); first | done | rfl | (simp only [List.length_drop, List.length_take]; rfl)) ?_; (with_reducible refine (message_odd.calls k1 _ _ (rd_L1 l0_0 x13_1) _ _ l1 true _ ?side1 ?side2 ?side3 ?side4 A8.out).mono ?_); (case side1 => repeat (first | exact (Kd.C_below HR273_0.out HB.out) | (with_reducible refine Kd.C_alloc ?_ _) | (with_reducible refine Kd.C_drewN ?_ _) | (with_reducible refine Kd.C_drew ?_))); (case side2 => exact HC273_0.out); (case side3 => repeat (first | exact (Kd.C_below HR1.out HB.out) | (with_reducible refine Kd.C_alloc ?_ _) | (with_reducible refine Kd.C_drewN ?_ _) | (with_reducible refine Kd.C_drew ?_))); (case side4 => exact HC1.out); rintro e w' ⟨rfl, ⟨nd, rfl⟩⟩; refine ⟨_, rfl, ?_⟩) | ((with_reducible refine gate_builtin (b := .append) (xs := #[.tmp 21, .tmp 23]) rfl ?_); at_builtin; refine Kd.R_append (Kd.int .i64) (w0 := w) w.heap.size rfl (.tmp 21) (.tmp 23) 25 3 (.int .i64 0) 8 rfl Try.underlying25 info3 rfl (by decide) (by omega) u5 x5_1 x13_1 [.int .i64 x13_1] (fun _ => True) (fun _ => False) rfl rfl ?aP (fun _ hk => hk.elim) ?aF ?aO ?aB ?aS ?aL ?_; (case aP => exact rfl); (case aB => exact (by repeat (first | (with_reducible first | exact HB.out | apply ba1 | apply pbN | apply bw1) | exact HB.out))); (case aF => exact (fun _ _ => trivial)); (case aO => exact (by (with_reducible repeat (first | apply Kd.Ra1 | apply Kd.Rn1 | apply Kd.Rd1)); exact HO_5.out)); (case aS => exact (bz1 (by repeat (first | (with_reducible first | exact HB.out | apply ba1 | apply pbN | apply bw1) | exact HB.out)))); (case aL => have := LMc10.out; omega); intro v276 w11 ho hb hg hat; rw [← Ny275.out] at ho; have n0_ := Ai0.mk (blk_grown (g := gG) (o := .cells #[.slice (some ad273) l0_0.length c0_0, .slice A0_1 l0_1.length c0_1] 73 (0, 0)) (by (with_reducible repeat (first | refine kn1 ?_ _ | refine kd1 ?_ | refine ka1 ?_ _)); exact BK272.out) hg (Kd.R_ne HO_5.out BK272.out (by decide))); have n1_ := Ai0.mk (hb); have n2_ := Ai0.mk (ho); clear BK272; clear HB; clear HO_5; have BK272 := n0_; have HB := n1_; have HO277 := n2_; clear n0_ n1_ n2_; clear ho hb hg hat))
        go_roundg k1
        case measure => have := HK1.out; omega
        case rel => exact ⟨(y275), (wrap64 (x13_1 + 1)), (by first | rfl | (simp; done) | (simp [*]; done)), H', ⟨by have := HK1.out; omega⟩, ⟨by (with_reducible repeat (first | apply Kd.Ra1 | apply Kd.Rn1 | apply Kd.Rd1)); exact HO277.out⟩, ⟨by (with_reducible repeat (first | refine kn1 ?_ _ | refine kd1 ?_ | refine ka1 ?_ _)); exact BK272.out⟩, ⟨by repeat (first | (with_reducible first | exact HB.out | apply ba1 | apply pbN | apply bw1) | exact HB.out)⟩⟩
       ·rw [if_neg c10] at H;exact absurd H (by simp)
      ·replace c9 := Bool.eq_false_iff.mpr c9;subst c9;(have H1 : (mg_unsatisfied.l0 k1 l1 x5_1 l0_0 (l0_0.length : Int) (wrap64 (x13_1 + 1))) = some r := by rw [if_neg (show ¬ (false = true) by decide)] at H; exact H);clear H;have H := H1;clear H1;have H' := Ai0.mk H;clear H;have p273 : 0 ≤ (x13_1 : Int) := of_decide_eq_true (by first | (with_reducible assumption) | assumption);have q273 : x13_1 < (l0_0.length : Int) := of_decide_eq_true (by first | (with_reducible assumption) | assumption);obtain ⟨ad273, A273_0, c273_0, e273, hx273_0, hl273_0, hi273_0⟩ := at_L1 HR0_0.out x13_1 p273 q273;cases e273;replace hx273_0 := (HB.out.cell (World.block_lt_of_cell? w _ hx273_0)).trans hx273_0;have HR273_0 := Ai0.mk hi273_0;have HC273_0 := Ai0.mk hl273_0;clear hi273_0 hl273_0;replace p273 := eq_true p273;replace q273 := eq_true q273
       go_wp2_with (first | ((with_reducible refine gate_callee (f := 70) rfl ?_); refine goesL_ (some 20) rfl rfl Try.func70 (by kernel_rfl) rfl #[.slice A273_0 (rd_L1 l0_0 x13_1).length c273_0, .slice A1 l1.length c1] rfl (by (try simp only [List.map_toArray, List.map_cons, List.map_nil]); first | done | rfl | (simp only [List.length_drop, List.length_take]; rfl)) ?_; (with_reducible refine (message_odd.calls k1 _ _ (rd_L1 l0_0 x13_1) _ _ l1 false _ ?side1 ?side2 ?side3 ?side4 A8.out).mono ?_); (case side1 => repeat (first | exact (Kd.C_below HR273_0.out HB.out) | (with_reducible refine Kd.C_alloc ?_ _) | (with_reducible refine Kd.C_drewN ?_ _) | (with_reducible refine Kd.C_drew ?_))); (case side2 => exact HC273_0.out); (case side3 => repeat (first | exact (Kd.C_below HR1.out HB.out) | (with_reducible refine Kd.C_alloc ?_ _) | (with_reducible refine Kd.C_drewN ?_ _) | (with_reducible refine Kd.C_drew ?_))); (case side4 => exact HC1.out); rintro e w' ⟨rfl, ⟨nd, rfl⟩⟩; refine ⟨_, rfl, ?_⟩))
       go_roundg k1
       case measure => have := HK1.out; omega
       case rel => exact ⟨(x5_1), (wrap64 (x13_1 + 1)), (by first | rfl | (simp; done) | (simp [*]; done)), H', ⟨by have := HK1.out; omega⟩, ⟨by (with_reducible repeat (first | apply Kd.Ra1 | apply Kd.Rn1 | apply Kd.Rd1)); exact HO_5.out⟩, ⟨by (with_reducible repeat (first | refine kn1 ?_ _ | refine kd1 ?_ | refine ka1 ?_ _)); exact BK272.out⟩, ⟨by repeat (first | (with_reducible first | exact HB.out | apply ba1 | apply pbN | apply bw1) | exact HB.out)⟩⟩
     ·rw [if_neg c7] at H;exact absurd H (by simp)
    ·rw [if_neg c6] at H;exact absurd H (by simp)
   ·rw [if_neg c5] at H;have c5b0 : decide (x13_1 < (l0_0.length : Int)) = false := decide_eq_false c5;clear c5;obtain rfl := Option.some.inj H
    go_wp2
    go_ret
    exact ⟨_, by first | rfl | (simp [eW0, eW1] <;> rfl) | (simp [*, eW0, eW1] <;> rfl), by (with_reducible repeat (first | apply Kd.Ra1 | apply Kd.Rn1 | apply Kd.Rd1)); exact HO_5.out, by repeat (first | (with_reducible first | exact HB.out | apply ba1 | apply pbN | apply bw1) | exact HB.out)⟩
def message_bitsOf.l0 : Nat → List Int → Int → Int → Option (Int)
 | 0, _, _, _ => none
 | k + 1, x12, x13, x14 => if x14 < x13 then (if 0 ≤ x14 then (if x14 < (x12.length : Int) then (if (rd x12 x14) = 0 then (message_bitsOf.l0 k x12 x13 (wrap64 (x14 + 1))) else (if (rd x12 x14) = 1 then (message_bitsOf.l0 k x12 x13 (wrap64 (x14 + 1))) else (some 2))) else (none)) else (none)) else (some 0)
def message_bitsOf.f (k : Nat) (a0_0 : Int) (l0_1 : List (List Int)) (l1 : List Int) : Option (Int) := if (l1.length : Int) = a0_0 then (message_bitsOf.l0 k l1 (l1.length : Int) 0) else (some 4)
theorem message_bitsOf.mono_l : ∀ k, (∀ y0 y1 y2, LeO (message_bitsOf.l0 k y0 y1 y2) (message_bitsOf.l0 (k + 1) y0 y1 y2))
 | 0 => fun _ _ _ r h => by simp [message_bitsOf.l0] at h
 | k + 1 => by
  have ih0 := message_bitsOf.mono_l k
  ·intro y0 y1 y2;unfold message_bitsOf.l0
   repeat' first
   | (with_reducible exact ih0 _ _ _)
   | (with_reducible exact LeO.refl _)
   | (with_reducible exact LeO.none _)
   | (with_reducible refine LeO.ite ?_ ?_)
   | (with_reducible refine LeO.bind ?_ (fun _ => ?_))
   | exact ih0 _ _ _
   | exact LeO.none _
   | refine LeO.ite ?_ ?_
   | refine LeO.bind ?_ (fun _ => ?_)
theorem message_bitsOf.mono : ∀ a0 a1 a2 k, LeO (message_bitsOf.f k a0 a1 a2) (message_bitsOf.f (k + 1) a0 a1 a2) := by
 intro a0 a1 a2 k;have ih0 := message_bitsOf.mono_l k;unfold message_bitsOf.f
 repeat' first
   | (with_reducible exact ih0 _ _ _)
   | (with_reducible exact LeO.refl _)
   | (with_reducible exact LeO.none _)
   | (with_reducible refine LeO.ite ?_ ?_)
   | (with_reducible refine LeO.bind ?_ (fun _ => ?_))
   | exact ih0 _ _ _
   | exact LeO.none _
   | refine LeO.ite ?_ ?_
   | refine LeO.bind ?_ (fun _ => ?_)
set_option maxHeartbeats 8000000 in
set_option maxRecDepth 100000 in
theorem message_bitsOf.calls (k : Nat) (a0_0 : Int) (A0_1 : Option Addr) (c0_1 : Nat) (l0_1 : List (List Int)) (A1 : Option Addr) (c1 : Nat) (l1 : List Int) (r : Int) (w : World) (hr0_1 : Kd.C (Kd.slice 3 (Kd.int .i64)) w A0_1 l0_1.length l0_1) (hc0_1 : l0_1.length ≤ c0_1) (hr1 : Kd.C (Kd.int .i64) w A1 l1.length l1) (hc1 : l1.length ≤ c1) (h : message_bitsOf.f k a0_0 l0_1 l1 = some r) :
  Calls Try.prog 52 #[.agg #[.int .i64 a0_0, .slice A0_1 l0_1.length c0_1], .slice A1 l1.length c1] w fun e w' => e = .returned (.int .i64 r) ∧ Below w.heap.size w w' := by
 have hu24 := Try.underlying24;have HR0_1 := Ai0.mk hr0_1;have HC0_1 := Ai0.mk hc0_1;clear hr0_1 hc0_1;have HR1 := Ai0.mk hr1;have HC1 := Ai0.mk hc1;clear hr1 hc1;have HB := Ai0.mk (Below.refl w.heap.size w);have H : (if (l1.length : Int) = a0_0 then (message_bitsOf.l0 k l1 (l1.length : Int) 0) else (some 4)) = some r := h;clear h;by_cases c3 : (l1.length : Int) = a0_0
 ·rw [if_pos c3] at H;have c3b0 : ((l1.length : Int) == a0_0) = true := beq_iff_eq.mpr c3;have c3b1 : ((l1.length : Int) != a0_0) = false := bne_eq_false_iff_eq.mpr c3;clear c3;have H' := Ai0.mk H;clear H;go_enter Try.func52, Try.ntmps52
  go_wp2_with (first | ((with_reducible refine gate_dst (N := 2) rfl ?_); refine box_event ?hg (N := 2) ?hd (cs := #[.int .i64 a0_0, .slice A0_1 l0_1.length c0_1]) (t := 24) ?hr ?_; (case hd => rfl); (case hg => rfl); (case hr => first | (go_simp; done) | (go_simp; rfl)); intro gb416 hg w4 hbox hb; have n0_ := Ai0.mk (bt1 (by repeat (first | (with_reducible first | exact HB.out | apply ba1 | apply pbN | apply bw1) | exact HB.out)) hb); have n1_ := Ai0.mk (hbox); have n2_ := Ai0.mk ((by rw [hg]; exact (bz1 (by repeat (first | (with_reducible first | exact HB.out | apply ba1 | apply pbN | apply bw1) | exact HB.out))) : w.heap.size ≤ gb416)); have n3_ := Ai0.mk ((by rw [hg]; exact (bz1 (by repeat (first | (with_reducible first | exact HB.out | apply ba1 | apply pbN | apply bw1) | exact HB.out))) : w.heap.size ≤ gb416)); clear HB; have HB := n0_; have BK416 := n1_; have GW416 := n2_; have GE416 := n3_; clear n0_ n1_ n2_ n3_; clear hb hbox hg; have hcz5_0 : w4.cell? ⟨gb416, 0, none⟩ = some (.int .i64 a0_0) := (kc1 BK416.out 0).trans rfl; have hcz5_1 : w4.cell? ⟨gb416, 1, none⟩ = some (.slice A0_1 l0_1.length c0_1) := (kc1 BK416.out 1).trans rfl; have hfz5_0 := kf1 BK416.out 0; have hfz5_1 := kf1 BK416.out 1))
  go_loopg [14] k (fun kq v14 w' => ∃ (x14_1 : Int), v14 = .int .i64 x14_1 ∧ Ai0 (message_bitsOf.l0 kq l1 (l1.length : Int) x14_1 = some r) ∧ Ai0 (kq ≤ k) ∧ Ai0 (w'.heap[gb416]? = some (.cells #[.int .i64 a0_0, (.slice A0_1 l0_1.length c0_1)] 24 (0, 0))) ∧ Ai0 (Below w.heap.size w w'))
  case atStart => exact ⟨(0), (by first | rfl | (simp; done) | (simp [*]; done)), H', ⟨Nat.le_refl _⟩, ⟨by (with_reducible repeat (first | refine kn1 ?_ _ | refine kd1 ?_ | refine ka1 ?_ _)); exact BK416.out⟩, ⟨by repeat (first | (with_reducible first | exact HB.out | apply ba1 | apply pbN | apply bw1 | refine bs1 ?_ GE416.out) | exact HB.out)⟩⟩
  case round =>
   clear H'
   try clear c1
   try clear p2
   try clear c3
   try clear c3b0
   try clear c3b1
   try clear c5
   try clear hcz5_0
   try clear hcz5_1
   try clear hfz5_0
   try clear hfz5_1
   obtain ⟨x14_1, rfl, HA, HK1, BK416, HB⟩ := hrel
   cases gk with
   | zero => exact absurd HA.out (by simp [message_bitsOf.l0])
   | succ k1 =>
    have H := HA.out;clear HA;simp only [message_bitsOf.l0] at H;by_cases c6 : x14_1 < (l1.length : Int)
    ·rw [if_pos c6] at H;have c6b0 : decide (x14_1 < (l1.length : Int)) = true := decide_eq_true c6;clear c6;by_cases c7 : 0 ≤ x14_1
     ·rw [if_pos c7] at H;have c7b0 : decide (0 ≤ x14_1) = true := decide_eq_true c7;clear c7;by_cases c8 : x14_1 < (l1.length : Int)
      ·rw [if_pos c8] at H;have c8b0 : decide (x14_1 < (l1.length : Int)) = true := decide_eq_true c8;clear c8;by_cases c9 : (rd l1 x14_1) = 0
       ·rw [if_pos c9] at H;have c9b0 : ((rd l1 x14_1) == 0) = true := beq_iff_eq.mpr c9;have c9b1 : ((rd l1 x14_1) != 0) = false := bne_eq_false_iff_eq.mpr c9;clear c9;have H' := Ai0.mk H;clear H;have p417 : 0 ≤ (x14_1 : Int) := of_decide_eq_true (by first | (with_reducible assumption) | assumption);have q417 : x14_1 < (l1.length : Int) := of_decide_eq_true (by first | (with_reducible assumption) | assumption);obtain ⟨ad417, e417, hx417_0⟩ := Kd.at_int HR1.out x14_1 p417 q417;cases e417;replace hx417_0 := (HB.out.cell (World.block_lt_of_cell? w _ hx417_0)).trans hx417_0;replace p417 := eq_true p417;replace q417 := eq_true q417
        go_wp2
        go_roundg k1
        case measure => have := HK1.out; omega
        case rel => exact ⟨(wrap64 (x14_1 + 1)), (by first | rfl | (simp; done) | (simp [*]; done)), H', ⟨by have := HK1.out; omega⟩, ⟨by (with_reducible repeat (first | refine kn1 ?_ _ | refine kd1 ?_ | refine ka1 ?_ _)); exact BK416.out⟩, ⟨by repeat (first | (with_reducible first | exact HB.out | apply ba1 | apply pbN | apply bw1 | refine bs1 ?_ GE416.out) | exact HB.out)⟩⟩
       ·rw [if_neg c9] at H;have c9b0 : ((rd l1 x14_1) == 0) = false := beq_eq_false_iff_ne.mpr c9;have c9b1 : ((rd l1 x14_1) != 0) = true := bne_iff_ne.mpr c9;by_cases c10 : (rd l1 x14_1) = 1
        ·rw [if_pos c10] at H;have c10b0 : ((rd l1 x14_1) == 1) = true := beq_iff_eq.mpr c10;have c10b1 : ((rd l1 x14_1) != 1) = false := bne_eq_false_iff_eq.mpr c10;clear c10;have H' := Ai0.mk H;clear H;have p417 : 0 ≤ (x14_1 : Int) := of_decide_eq_true (by first | (with_reducible assumption) | assumption);have q417 : x14_1 < (l1.length : Int) := of_decide_eq_true (by first | (with_reducible assumption) | assumption);obtain ⟨ad417, e417, hx417_0⟩ := Kd.at_int HR1.out x14_1 p417 q417;cases e417;replace hx417_0 := (HB.out.cell (World.block_lt_of_cell? w _ hx417_0)).trans hx417_0;replace p417 := eq_true p417;replace q417 := eq_true q417
         go_wp2
         go_roundg k1
         case measure => have := HK1.out; omega
         case rel => exact ⟨(wrap64 (x14_1 + 1)), (by first | rfl | (simp; done) | (simp [*]; done)), H', ⟨by have := HK1.out; omega⟩, ⟨by (with_reducible repeat (first | refine kn1 ?_ _ | refine kd1 ?_ | refine ka1 ?_ _)); exact BK416.out⟩, ⟨by repeat (first | (with_reducible first | exact HB.out | apply ba1 | apply pbN | apply bw1 | refine bs1 ?_ GE416.out) | exact HB.out)⟩⟩
        ·rw [if_neg c10] at H;have c10b0 : ((rd l1 x14_1) == 1) = false := beq_eq_false_iff_ne.mpr c10;have c10b1 : ((rd l1 x14_1) != 1) = true := bne_iff_ne.mpr c10;obtain rfl := Option.some.inj H;have p417 : 0 ≤ (x14_1 : Int) := of_decide_eq_true (by first | (with_reducible assumption) | assumption);have q417 : x14_1 < (l1.length : Int) := of_decide_eq_true (by first | (with_reducible assumption) | assumption);obtain ⟨ad417, e417, hx417_0⟩ := Kd.at_int HR1.out x14_1 p417 q417;cases e417;replace hx417_0 := (HB.out.cell (World.block_lt_of_cell? w _ hx417_0)).trans hx417_0;replace p417 := eq_true p417;replace q417 := eq_true q417
         go_wp2
         go_ret
         exact ⟨by first | rfl | (simp [eW0, eW1] <;> rfl) | (simp [*, eW0, eW1] <;> rfl), by repeat (first | (with_reducible first | exact HB.out | apply ba1 | apply pbN | apply bw1 | refine bs1 ?_ GE416.out) | exact HB.out)⟩
      ·rw [if_neg c8] at H;exact absurd H (by simp)
     ·rw [if_neg c7] at H;exact absurd H (by simp)
    ·rw [if_neg c6] at H;have c6b0 : decide (x14_1 < (l1.length : Int)) = false := decide_eq_false c6;clear c6;obtain rfl := Option.some.inj H
     go_wp2
     go_ret
     exact ⟨by first | rfl | (simp [eW0, eW1] <;> rfl) | (simp [*, eW0, eW1] <;> rfl), by repeat (first | (with_reducible first | exact HB.out | apply ba1 | apply pbN | apply bw1 | refine bs1 ?_ GE416.out) | exact HB.out)⟩
 ·rw [if_neg c3] at H;have c3b0 : ((l1.length : Int) == a0_0) = false := beq_eq_false_iff_ne.mpr c3;have c3b1 : ((l1.length : Int) != a0_0) = true := bne_iff_ne.mpr c3;obtain rfl := Option.some.inj H;go_enter Try.func52, Try.ntmps52
  go_wp2_with (first | ((with_reducible refine gate_dst (N := 2) rfl ?_); refine box_event ?hg (N := 2) ?hd (cs := #[.int .i64 a0_0, .slice A0_1 l0_1.length c0_1]) (t := 24) ?hr ?_; (case hd => rfl); (case hg => rfl); (case hr => first | (go_simp; done) | (go_simp; rfl)); intro gb416 hg w11 hbox hb; have n0_ := Ai0.mk (bt1 (by repeat (first | (with_reducible first | exact HB.out | apply ba1 | apply pbN | apply bw1) | exact HB.out)) hb); have n1_ := Ai0.mk (hbox); have n2_ := Ai0.mk ((by rw [hg]; exact (bz1 (by repeat (first | (with_reducible first | exact HB.out | apply ba1 | apply pbN | apply bw1) | exact HB.out))) : w.heap.size ≤ gb416)); have n3_ := Ai0.mk ((by rw [hg]; exact (bz1 (by repeat (first | (with_reducible first | exact HB.out | apply ba1 | apply pbN | apply bw1) | exact HB.out))) : w.heap.size ≤ gb416)); clear HB; have HB := n0_; have BK416 := n1_; have GW416 := n2_; have GE416 := n3_; clear n0_ n1_ n2_ n3_; clear hb hbox hg; have hcz12_0 : w11.cell? ⟨gb416, 0, none⟩ = some (.int .i64 a0_0) := (kc1 BK416.out 0).trans rfl; have hcz12_1 : w11.cell? ⟨gb416, 1, none⟩ = some (.slice A0_1 l0_1.length c0_1) := (kc1 BK416.out 1).trans rfl; have hfz12_0 := kf1 BK416.out 0; have hfz12_1 := kf1 BK416.out 1))
  go_ret
  exact ⟨by first | rfl | (simp [eW0, eW1] <;> rfl) | (simp [*, eW0, eW1] <;> rfl), by repeat (first | (with_reducible first | exact HB.out | apply ba1 | apply pbN | apply bw1 | refine bs1 ?_ GE416.out) | exact HB.out)⟩
def message_Unsatisfied.f (k : Nat) (a0_0 : Int) (l0_1 : List (List Int)) (l1 : List Int) : Option (List Int × Int) := (message_build.f k a0_0 l0_1).bind fun bt321 => (if bt321.2.2 = 0 then ((message_bitsOf.f k a0_0 l0_1 l1).bind fun t329 => (if t329 = 0 then ((mg_unsatisfied.f k bt321.1 bt321.2.1 l1).bind fun t330 => (some (t330, 0))) else (some (([] : List Int), t329)))) else (some (([] : List Int), bt321.2.2)))
theorem message_Unsatisfied.mono : ∀ a0 a1 a2 k, LeO (message_Unsatisfied.f k a0 a1 a2) (message_Unsatisfied.f (k + 1) a0 a1 a2) := by
 intro a0 a1 a2 k;unfold message_Unsatisfied.f
 repeat' first
   | (with_reducible exact message_bitsOf.mono _ _ _ _)
   | (with_reducible exact message_build.mono _ _ _)
   | (with_reducible exact mg_unsatisfied.mono _ _ _ _)
   | (with_reducible exact LeO.refl _)
   | (with_reducible exact LeO.none _)
   | (with_reducible refine LeO.ite ?_ ?_)
   | (with_reducible refine LeO.bind ?_ (fun _ => ?_))
   | exact message_bitsOf.mono _ _ _ _
   | exact message_build.mono _ _ _
   | exact mg_unsatisfied.mono _ _ _ _
   | exact LeO.none _
   | refine LeO.ite ?_ ?_
   | refine LeO.bind ?_ (fun _ => ?_)
set_option maxHeartbeats 8000000 in
set_option maxRecDepth 100000 in
theorem message_Unsatisfied.calls (k : Nat) (a0_0 : Int) (A0_1 : Option Addr) (c0_1 : Nat) (l0_1 : List (List Int)) (A1 : Option Addr) (c1 : Nat) (l1 : List Int) (r1 : List Int) (r2 : Int) (w : World) (hr0_1 : Kd.C (Kd.slice 3 (Kd.int .i64)) w A0_1 l0_1.length l0_1) (hc0_1 : l0_1.length ≤ c0_1) (hr1 : Kd.C (Kd.int .i64) w A1 l1.length l1) (hc1 : l1.length ≤ c1) (h : message_Unsatisfied.f k a0_0 l0_1 l1 = some (r1, r2)) :
  Calls Try.prog 33 #[.agg #[.int .i64 a0_0, .slice A0_1 l0_1.length c0_1], .slice A1 l1.length c1] w fun e w' => ∃ v0_ : Value, e = .returned (.tuple #[v0_, .int .i64 r2]) ∧ Kd.R (Kd.int .i64) 3 w' w.heap.size (fun _ => True) v0_ r1 ∧ Below w.heap.size w w' := by
 have hu24 := Try.underlying24;have hu73 := Try.underlying73;have HR0_1 := Ai0.mk hr0_1;have HC0_1 := Ai0.mk hc0_1;clear hr0_1 hc0_1;have HR1 := Ai0.mk hr1;have HC1 := Ai0.mk hc1;clear hr1 hc1;have HB := Ai0.mk (Below.refl w.heap.size w);have H : ((message_build.f k a0_0 l0_1).bind fun bt321 => (if bt321.2.2 = 0 then ((message_bitsOf.f k a0_0 l0_1 l1).bind fun t329 => (if t329 = 0 then ((mg_unsatisfied.f k bt321.1 bt321.2.1 l1).bind fun t330 => (some (t330, 0))) else (some (([] : List Int), t329)))) else (some (([] : List Int), bt321.2.2)))) = some (r1, r2) := h;clear h;replace H := Option.bind_eq_some_iff.mp H;obtain ⟨⟨t321, t324, t327⟩, A30, H⟩ := H;replace H : (if t327 = 0 then ((message_bitsOf.f k a0_0 l0_1 l1).bind fun t329 => (if t329 = 0 then ((mg_unsatisfied.f k t321 t324 l1).bind fun t330 => (some (t330, 0))) else (some (([] : List Int), t329)))) else (some (([] : List Int), t327))) = some (r1, r2) := H;have A3 := Ai0.mk A30;clear A30;by_cases c4 : t327 = 0
 ·rw [if_pos c4] at H;have c4b0 : (t327 == 0) = true := beq_iff_eq.mpr c4;have c4b1 : (t327 != 0) = false := bne_eq_false_iff_eq.mpr c4;clear c4;replace H := Option.bind_eq_some_iff.mp H;obtain ⟨t329, A50, H⟩ := H;replace H : (if t329 = 0 then ((mg_unsatisfied.f k t321 t324 l1).bind fun t330 => (some (t330, 0))) else (some (([] : List Int), t329))) = some (r1, r2) := H;have A5 := Ai0.mk A50;clear A50;by_cases c6 : t329 = 0
  ·rw [if_pos c6] at H;have c6b0 : (t329 == 0) = true := beq_iff_eq.mpr c6;have c6b1 : (t329 != 0) = false := bne_eq_false_iff_eq.mpr c6;clear c6;replace H := Option.bind_eq_some_iff.mp H;obtain ⟨t330, A70, H⟩ := H;replace H : (some (t330, 0)) = some (r1, r2) := H;have A7 := Ai0.mk A70;clear A70;simp only [Option.some.injEq, Prod.mk.injEq] at H;obtain ⟨rfl, rfl⟩ := H;go_enter Try.func33, Try.ntmps33
   go_wp2_with (first | ((with_reducible refine gate_dst (N := 2) rfl ?_); refine box_event ?hg (N := 2) ?hd (cs := #[.int .i64 a0_0, .slice A0_1 l0_1.length c0_1]) (t := 24) ?hr ?_; (case hd => rfl); (case hg => rfl); (case hr => first | (go_simp; done) | (go_simp; rfl)); intro gb320 hg w8 hbox hb; have n0_ := Ai0.mk (bt1 (by repeat (first | (with_reducible first | exact HB.out | apply ba1 | apply pbN | apply bw1) | exact HB.out)) hb); have n1_ := Ai0.mk (hbox); have n2_ := Ai0.mk ((by rw [hg]; exact (bz1 (by repeat (first | (with_reducible first | exact HB.out | apply ba1 | apply pbN | apply bw1) | exact HB.out))) : w.heap.size ≤ gb320)); have n3_ := Ai0.mk ((by rw [hg]; exact (bz1 (by repeat (first | (with_reducible first | exact HB.out | apply ba1 | apply pbN | apply bw1) | exact HB.out))) : w.heap.size ≤ gb320)); clear HB; have HB := n0_; have BK320 := n1_; have GW320 := n2_; have GE320 := n3_; clear n0_ n1_ n2_ n3_; clear hb hbox hg; have hcz9_0 : w8.cell? ⟨gb320, 0, none⟩ = some (.int .i64 a0_0) := (kc1 BK320.out 0).trans rfl; have hcz9_1 : w8.cell? ⟨gb320, 1, none⟩ = some (.slice A0_1 l0_1.length c0_1) := (kc1 BK320.out 1).trans rfl; have hfz9_0 := kf1 BK320.out 0; have hfz9_1 := kf1 BK320.out 1) | ((with_reducible refine gate_callee (f := 44) rfl ?_); refine goesL_ (some 11) rfl rfl Try.func44 (by kernel_rfl) rfl #[.agg #[.int .i64 a0_0, .slice A0_1 l0_1.length c0_1]] rfl (by (try simp only [List.map_toArray, List.map_cons, List.map_nil]); first | done | rfl | (simp only [List.length_drop, List.length_take]; rfl)) ?_; (with_reducible refine (message_build.calls k a0_0 _ _ l0_1 t321 t324 t327 _ ?side1 ?side2 A3.out).mono ?_); (case side1 => repeat (first | exact (Kd.C_below HR0_1.out HB.out) | (with_reducible refine Kd.C_alloc ?_ _) | (with_reducible refine Kd.C_drewN ?_ _) | (with_reducible refine Kd.C_drew ?_))); (case side2 => exact HC0_1.out); rintro e w10 ⟨gg_, rfl, hb, hbu_⟩; obtain ⟨gb328, v322, v325, rfl, hge_, hbk_, ho0, ho1⟩ := Built.ok hbu_ (beq_iff_eq.mp c4b0); refine ⟨_, rfl, ?_⟩; have BK328 := Ai0.mk hbk_; have GE328 := Ai0.mk (Nat.le_trans (bz1 (by repeat (first | (with_reducible first | exact HB.out | apply ba1 | apply pbN | apply bw1 | refine bs1 ?_ GE320.out) | exact HB.out))) hge_); have GW328 := GE328; have NB320_328 := Ai0.mk (Nat.ne_of_lt (Nat.lt_of_lt_of_le (blk_lt (g := gb320) (o := .cells #[.int .i64 a0_0, .slice A0_1 l0_1.length c0_1] 24 (0, 0)) (by (with_reducible repeat (first | refine kn1 ?_ _ | refine kd1 ?_ | refine ka1 ?_ _)); exact BK320.out)) hge_)); have NB328_320 := Ai0.mk (Ne.symm NB320_328.out); clear hbk_ hge_ hbu_; have n0_ := Ai0.mk (Kd.S_lower ho0 (bz1 (by repeat (first | (with_reducible first | exact HB.out | apply ba1 | apply pbN | apply bw1 | refine bs1 ?_ GE320.out) | exact HB.out)))); have n1_ := Ai0.mk (Kd.S_lower ho1 (bz1 (by repeat (first | (with_reducible first | exact HB.out | apply ba1 | apply pbN | apply bw1 | refine bs1 ?_ GE320.out) | exact HB.out)))); have n2_ := Ai0.mk (kb1 (g := gb320) (o := .cells #[.int .i64 a0_0, .slice A0_1 l0_1.length c0_1] 24 (0, 0)) (by (with_reducible repeat (first | refine kn1 ?_ _ | refine kd1 ?_ | refine ka1 ?_ _)); exact BK320.out) hb); have n3_ := Ai0.mk (bt1 (by repeat (first | (with_reducible first | exact HB.out | apply ba1 | apply pbN | apply bw1 | refine bs1 ?_ GE320.out) | exact HB.out)) hb); clear BK320; clear HB; have HO323 := n0_; have HO326 := n1_; have BK320 := n2_; have HB := n3_; clear n0_ n1_ n2_ n3_; (try clear hb); (try clear hb2); (try clear hk); (try clear hi); (try clear ho0); (try clear ho1); obtain ⟨Ao11, co11, eo11⟩ := Kd.S_slice HO326.out; subst eo11; obtain ⟨Ao12, co12, eo12⟩ := Kd.S_slice HO323.out; subst eo12; have hnb14 := NB320_328.out; have hnc14 := NB328_320.out; have hcz15_0 : w10.cell? ⟨gb320, 0, none⟩ = some (.int .i64 a0_0) := (kc1 BK320.out 0).trans rfl; have hcz15_1 : w10.cell? ⟨gb320, 1, none⟩ = some (.slice A0_1 l0_1.length c0_1) := (kc1 BK320.out 1).trans rfl; have hfz15_0 := kf1 BK320.out 0; have hfz15_1 := kf1 BK320.out 1) | ((with_reducible refine gate_callee (f := 52) rfl ?_); refine goesL_ (some 19) rfl rfl Try.func52 (by kernel_rfl) rfl #[.agg #[.int .i64 a0_0, .slice A0_1 l0_1.length c0_1], .slice A1 l1.length c1] rfl (by (try simp only [List.map_toArray, List.map_cons, List.map_nil]); first | done | rfl | (simp only [List.length_drop, List.length_take]; rfl)) ?_; (with_reducible refine (message_bitsOf.calls k a0_0 _ _ l0_1 _ _ l1 t329 _ ?side1 ?side2 ?side3 ?side4 A5.out).mono ?_); (case side1 => repeat (first | exact (Kd.C_below HR0_1.out HB.out) | (with_reducible refine Kd.C_alloc ?_ _) | (with_reducible refine Kd.C_drewN ?_ _) | (with_reducible refine Kd.C_drew ?_))); (case side2 => exact HC0_1.out); (case side3 => repeat (first | exact (Kd.C_below HR1.out HB.out) | (with_reducible refine Kd.C_alloc ?_ _) | (with_reducible refine Kd.C_drewN ?_ _) | (with_reducible refine Kd.C_drew ?_))); (case side4 => exact HC1.out); rintro e w16 ⟨rfl, hb⟩; refine ⟨_, rfl, ?_⟩; have n0_ := Ai0.mk (Kd.S_below (by (with_reducible repeat (first | apply Kd.S_alloc | apply Kd.S_drewN | apply Kd.S_drew)); exact HO323.out) hb); have n1_ := Ai0.mk (Kd.S_below (by (with_reducible repeat (first | apply Kd.S_alloc | apply Kd.S_drewN | apply Kd.S_drew)); exact HO326.out) hb); have n2_ := Ai0.mk (kb1 (g := gb320) (o := .cells #[.int .i64 a0_0, .slice A0_1 l0_1.length c0_1] 24 (0, 0)) (by (with_reducible repeat (first | refine kn1 ?_ _ | refine kd1 ?_ | refine ka1 ?_ _)); exact BK320.out) hb); have n3_ := Ai0.mk (kb1 (g := gb328) (o := .cells #[.slice Ao12 t321.length co12, .slice Ao11 t324.length co11] 73 (0, 0)) (by (with_reducible repeat (first | refine kn1 ?_ _ | refine kd1 ?_ | refine ka1 ?_ _)); exact BK328.out) hb); have n4_ := Ai0.mk (bt1 (by repeat (first | (with_reducible first | exact HB.out | apply ba1 | apply pbN | apply bw1 | refine bs1 ?_ GE320.out | refine bs1 ?_ GE328.out) | exact HB.out)) hb); clear HO323; clear HO326; clear BK320; clear BK328; clear HB; have HO323 := n0_; have HO326 := n1_; have BK320 := n2_; have BK328 := n3_; have HB := n4_; clear n0_ n1_ n2_ n3_ n4_; (try clear hb); (try clear hb2); (try clear hk); (try clear hi); have hcz17_0 : w16.cell? ⟨gb328, 0, none⟩ = some (.slice Ao12 t321.length co12) := (kc1 BK328.out 0).trans rfl; have hcz17_1 : w16.cell? ⟨gb328, 1, none⟩ = some (.slice Ao11 t324.length co11) := (kc1 BK328.out 1).trans rfl; have hfz17_0 := kf1 BK328.out 0; have hfz17_1 := kf1 BK328.out 1) | ((with_reducible refine gate_callee (f := 49) rfl ?_); refine goesL_ (some 25) rfl rfl Try.func49 (by kernel_rfl) rfl #[.pointer (some ⟨gb328, 0, none⟩), .slice A1 l1.length c1] rfl (by (try simp only [List.map_toArray, List.map_cons, List.map_nil]); first | done | rfl | (simp only [List.length_drop, List.length_take]; rfl)) ?_; (with_reducible refine (mg_unsatisfied.calls k Ao12 co12 t321 Ao11 co11 t324 _ _ l1 t330 gb328 _ ?side1 ?side2 ?side3 ?side4 ?side5 ?side6 ?sideG A7.out).mono ?_); (case sideG => (with_reducible repeat (first | refine kn1 ?_ _ | refine kd1 ?_ | refine ka1 ?_ _)); exact BK328.out); (case side1 => repeat (first | exact (Kd.S_reads' HO323.out).2.2 | (with_reducible refine Kd.C_alloc ?_ _) | (with_reducible refine Kd.C_drewN ?_ _) | (with_reducible refine Kd.C_drew ?_))); (case side2 => exact (Kd.S_reads' HO323.out).2.1); (case side3 => repeat (first | exact (Kd.S_reads' HO326.out).2.2 | (with_reducible refine Kd.C_alloc ?_ _) | (with_reducible refine Kd.C_drewN ?_ _) | (with_reducible refine Kd.C_drew ?_))); (case side4 => exact (Kd.S_reads' HO326.out).2.1); (case side5 => repeat (first | exact (Kd.C_below HR1.out HB.out) | (with_reducible refine Kd.C_alloc ?_ _) | (with_reducible refine Kd.C_drewN ?_ _) | (with_reducible refine Kd.C_drew ?_))); (case side6 => exact HC1.out); rintro e w18 ⟨v331, rfl, ho0, hb⟩; refine ⟨_, rfl, ?_⟩; have n0_ := Ai0.mk (Kd.S_elder' (by (with_reducible repeat (first | apply Kd.S_alloc | apply Kd.S_drewN | apply Kd.S_drew)); exact HO323.out) (Kd.R_base ho0) hb); have n1_ := Ai0.mk (Kd.S_below (by (with_reducible repeat (first | apply Kd.S_alloc | apply Kd.S_drewN | apply Kd.S_drew)); exact HO326.out) hb); have n2_ := Ai0.mk (Kd.R_lower ho0 (bz1 (by repeat (first | (with_reducible first | exact HB.out | apply ba1 | apply pbN | apply bw1 | refine bs1 ?_ GE320.out | refine bs1 ?_ GE328.out) | exact HB.out)))); have n3_ := Ai0.mk (kb1 (g := gb320) (o := .cells #[.int .i64 a0_0, .slice A0_1 l0_1.length c0_1] 24 (0, 0)) (by (with_reducible repeat (first | refine kn1 ?_ _ | refine kd1 ?_ | refine ka1 ?_ _)); exact BK320.out) hb); have n4_ := Ai0.mk (kb1 (g := gb328) (o := .cells #[.slice Ao12 t321.length co12, .slice Ao11 t324.length co11] 73 (0, 0)) (by (with_reducible repeat (first | refine kn1 ?_ _ | refine kd1 ?_ | refine ka1 ?_ _)); exact BK328.out) hb); have n5_ := Ai0.mk (bt1 (by repeat (first | (with_reducible first | exact HB.out | apply ba1 | apply pbN | apply bw1 | refine bs1 ?_ GE320.out | refine bs1 ?_ GE328.out) | exact HB.out)) hb); clear HO323; clear HO326; clear BK320; clear BK328; clear HB; have HO323 := n0_; have HO326 := n1_; have HO332 := n2_; have BK320 := n3_; have BK328 := n4_; have HB := n5_; clear n0_ n1_ n2_ n3_ n4_ n5_; (try clear hb); (try clear hb2); (try clear hk); (try clear hi); (try clear ho0)))
   go_ret2
   exact ⟨_, by first | rfl | (simp [eW0, eW1] <;> rfl) | (simp [*, eW0, eW1] <;> rfl), by (with_reducible repeat (first | apply Kd.Ra1 | apply Kd.Rn1 | apply Kd.Rd1)); exact HO332.out, by repeat (first | (with_reducible first | exact HB.out | apply ba1 | apply pbN | apply bw1 | refine bs1 ?_ GE320.out | refine bs1 ?_ GE328.out) | exact HB.out)⟩
  ·rw [if_neg c6] at H;have c6b0 : (t329 == 0) = false := beq_eq_false_iff_ne.mpr c6;have c6b1 : (t329 != 0) = true := bne_iff_ne.mpr c6;simp only [Option.some.injEq, Prod.mk.injEq] at H;obtain ⟨rfl, rfl⟩ := H;go_enter Try.func33, Try.ntmps33
   go_wp2_with (first | ((with_reducible refine gate_dst (N := 2) rfl ?_); refine box_event ?hg (N := 2) ?hd (cs := #[.int .i64 a0_0, .slice A0_1 l0_1.length c0_1]) (t := 24) ?hr ?_; (case hd => rfl); (case hg => rfl); (case hr => first | (go_simp; done) | (go_simp; rfl)); intro gb320 hg w19 hbox hb; have n0_ := Ai0.mk (bt1 (by repeat (first | (with_reducible first | exact HB.out | apply ba1 | apply pbN | apply bw1) | exact HB.out)) hb); have n1_ := Ai0.mk (hbox); have n2_ := Ai0.mk ((by rw [hg]; exact (bz1 (by repeat (first | (with_reducible first | exact HB.out | apply ba1 | apply pbN | apply bw1) | exact HB.out))) : w.heap.size ≤ gb320)); have n3_ := Ai0.mk ((by rw [hg]; exact (bz1 (by repeat (first | (with_reducible first | exact HB.out | apply ba1 | apply pbN | apply bw1) | exact HB.out))) : w.heap.size ≤ gb320)); clear HB; have HB := n0_; have BK320 := n1_; have GW320 := n2_; have GE320 := n3_; clear n0_ n1_ n2_ n3_; clear hb hbox hg; have hcz20_0 : w19.cell? ⟨gb320, 0, none⟩ = some (.int .i64 a0_0) := (kc1 BK320.out 0).trans rfl; have hcz20_1 : w19.cell? ⟨gb320, 1, none⟩ = some (.slice A0_1 l0_1.length c0_1) := (kc1 BK320.out 1).trans rfl; have hfz20_0 := kf1 BK320.out 0; have hfz20_1 := kf1 BK320.out 1) | ((with_reducible refine gate_callee (f := 44) rfl ?_); refine goesL_ (some 11) rfl rfl Try.func44 (by kernel_rfl) rfl #[.agg #[.int .i64 a0_0, .slice A0_1 l0_1.length c0_1]] rfl (by (try simp only [List.map_toArray, List.map_cons, List.map_nil]); first | done | rfl | (simp only [List.length_drop, List.length_take]; rfl)) ?_; (with_reducible refine (message_build.calls k a0_0 _ _ l0_1 t321 t324 t327 _ ?side1 ?side2 A3.out).mono ?_); (case side1 => repeat (first | exact (Kd.C_below HR0_1.out HB.out) | (with_reducible refine Kd.C_alloc ?_ _) | (with_reducible refine Kd.C_drewN ?_ _) | (with_reducible refine Kd.C_drew ?_))); (case side2 => exact HC0_1.out); rintro e w21 ⟨gg_, rfl, hb, hbu_⟩; obtain ⟨gb328, v322, v325, rfl, hge_, hbk_, ho0, ho1⟩ := Built.ok hbu_ (beq_iff_eq.mp c4b0); refine ⟨_, rfl, ?_⟩; have BK328 := Ai0.mk hbk_; have GE328 := Ai0.mk (Nat.le_trans (bz1 (by repeat (first | (with_reducible first | exact HB.out | apply ba1 | apply pbN | apply bw1 | refine bs1 ?_ GE320.out) | exact HB.out))) hge_); have GW328 := GE328; have NB320_328 := Ai0.mk (Nat.ne_of_lt (Nat.lt_of_lt_of_le (blk_lt (g := gb320) (o := .cells #[.int .i64 a0_0, .slice A0_1 l0_1.length c0_1] 24 (0, 0)) (by (with_reducible repeat (first | refine kn1 ?_ _ | refine kd1 ?_ | refine ka1 ?_ _)); exact BK320.out)) hge_)); have NB328_320 := Ai0.mk (Ne.symm NB320_328.out); clear hbk_ hge_ hbu_; have n0_ := Ai0.mk (Kd.S_lower ho0 (bz1 (by repeat (first | (with_reducible first | exact HB.out | apply ba1 | apply pbN | apply bw1 | refine bs1 ?_ GE320.out) | exact HB.out)))); have n1_ := Ai0.mk (Kd.S_lower ho1 (bz1 (by repeat (first | (with_reducible first | exact HB.out | apply ba1 | apply pbN | apply bw1 | refine bs1 ?_ GE320.out) | exact HB.out)))); have n2_ := Ai0.mk (kb1 (g := gb320) (o := .cells #[.int .i64 a0_0, .slice A0_1 l0_1.length c0_1] 24 (0, 0)) (by (with_reducible repeat (first | refine kn1 ?_ _ | refine kd1 ?_ | refine ka1 ?_ _)); exact BK320.out) hb); have n3_ := Ai0.mk (bt1 (by repeat (first | (with_reducible first | exact HB.out | apply ba1 | apply pbN | apply bw1 | refine bs1 ?_ GE320.out) | exact HB.out)) hb); clear BK320; clear HB; have HO323 := n0_; have HO326 := n1_; have BK320 := n2_; have HB := n3_; clear n0_ n1_ n2_ n3_; (try clear hb); (try clear hb2); (try clear hk); (try clear hi); (try clear ho0); (try clear ho1); obtain ⟨Ao22, co22, eo22⟩ := Kd.S_slice HO326.out; subst eo22; obtain ⟨Ao23, co23, eo23⟩ := Kd.S_slice HO323.out; subst eo23; have hnb25 := NB320_328.out; have hnc25 := NB328_320.out; have hcz26_0 : w21.cell? ⟨gb320, 0, none⟩ = some (.int .i64 a0_0) := (kc1 BK320.out 0).trans rfl; have hcz26_1 : w21.cell? ⟨gb320, 1, none⟩ = some (.slice A0_1 l0_1.length c0_1) := (kc1 BK320.out 1).trans rfl; have hfz26_0 := kf1 BK320.out 0; have hfz26_1 := kf1 BK320.out 1) | ((with_reducible refine gate_callee (f := 52) rfl ?_); refine goesL_ (some 19) rfl rfl Try.func52 (by kernel_rfl) rfl #[.agg #[.int .i64 a0_0, .slice A0_1 l0_1.length c0_1], .slice A1 l1.length c1] rfl (by (try simp only [List.map_toArray, List.map_cons, List.map_nil]); first | done | rfl | (simp only [List.length_drop, List.length_take]; rfl)) ?_; (with_reducible refine (message_bitsOf.calls k a0_0 _ _ l0_1 _ _ l1 t329 _ ?side1 ?side2 ?side3 ?side4 A5.out).mono ?_); (case side1 => repeat (first | exact (Kd.C_below HR0_1.out HB.out) | (with_reducible refine Kd.C_alloc ?_ _) | (with_reducible refine Kd.C_drewN ?_ _) | (with_reducible refine Kd.C_drew ?_))); (case side2 => exact HC0_1.out); (case side3 => repeat (first | exact (Kd.C_below HR1.out HB.out) | (with_reducible refine Kd.C_alloc ?_ _) | (with_reducible refine Kd.C_drewN ?_ _) | (with_reducible refine Kd.C_drew ?_))); (case side4 => exact HC1.out); rintro e w27 ⟨rfl, hb⟩; refine ⟨_, rfl, ?_⟩; have n0_ := Ai0.mk (Kd.S_below (by (with_reducible repeat (first | apply Kd.S_alloc | apply Kd.S_drewN | apply Kd.S_drew)); exact HO323.out) hb); have n1_ := Ai0.mk (Kd.S_below (by (with_reducible repeat (first | apply Kd.S_alloc | apply Kd.S_drewN | apply Kd.S_drew)); exact HO326.out) hb); have n2_ := Ai0.mk (kb1 (g := gb320) (o := .cells #[.int .i64 a0_0, .slice A0_1 l0_1.length c0_1] 24 (0, 0)) (by (with_reducible repeat (first | refine kn1 ?_ _ | refine kd1 ?_ | refine ka1 ?_ _)); exact BK320.out) hb); have n3_ := Ai0.mk (kb1 (g := gb328) (o := .cells #[.slice Ao23 t321.length co23, .slice Ao22 t324.length co22] 73 (0, 0)) (by (with_reducible repeat (first | refine kn1 ?_ _ | refine kd1 ?_ | refine ka1 ?_ _)); exact BK328.out) hb); have n4_ := Ai0.mk (bt1 (by repeat (first | (with_reducible first | exact HB.out | apply ba1 | apply pbN | apply bw1 | refine bs1 ?_ GE320.out | refine bs1 ?_ GE328.out) | exact HB.out)) hb); clear HO323; clear HO326; clear BK320; clear BK328; clear HB; have HO323 := n0_; have HO326 := n1_; have BK320 := n2_; have BK328 := n3_; have HB := n4_; clear n0_ n1_ n2_ n3_ n4_; (try clear hb); (try clear hb2); (try clear hk); (try clear hi)))
   go_ret2
   exact ⟨_, by first | rfl | (simp [eW0, eW1] <;> rfl) | (simp [*, eW0, eW1] <;> rfl), by first | exact Kd.R_nil _ _ _ _ _ | exact Kd.N_nil _ _ _ _ _ | exact Kd.V_nil _ _ _ _ _ | exact Kd.Q_nil _ _ _ _ _ | exact Kd.S_nil _ _ _ _ _, by repeat (first | (with_reducible first | exact HB.out | apply ba1 | apply pbN | apply bw1 | refine bs1 ?_ GE320.out | refine bs1 ?_ GE328.out) | exact HB.out)⟩
 ·rw [if_neg c4] at H;have c4b0 : (t327 == 0) = false := beq_eq_false_iff_ne.mpr c4;have c4b1 : (t327 != 0) = true := bne_iff_ne.mpr c4;simp only [Option.some.injEq, Prod.mk.injEq] at H;obtain ⟨rfl, rfl⟩ := H;go_enter Try.func33, Try.ntmps33
  go_wp2_with (first | ((with_reducible refine gate_dst (N := 2) rfl ?_); refine box_event ?hg (N := 2) ?hd (cs := #[.int .i64 a0_0, .slice A0_1 l0_1.length c0_1]) (t := 24) ?hr ?_; (case hd => rfl); (case hg => rfl); (case hr => first | (go_simp; done) | (go_simp; rfl)); intro gb320 hg w28 hbox hb; have n0_ := Ai0.mk (bt1 (by repeat (first | (with_reducible first | exact HB.out | apply ba1 | apply pbN | apply bw1) | exact HB.out)) hb); have n1_ := Ai0.mk (hbox); have n2_ := Ai0.mk ((by rw [hg]; exact (bz1 (by repeat (first | (with_reducible first | exact HB.out | apply ba1 | apply pbN | apply bw1) | exact HB.out))) : w.heap.size ≤ gb320)); have n3_ := Ai0.mk ((by rw [hg]; exact (bz1 (by repeat (first | (with_reducible first | exact HB.out | apply ba1 | apply pbN | apply bw1) | exact HB.out))) : w.heap.size ≤ gb320)); clear HB; have HB := n0_; have BK320 := n1_; have GW320 := n2_; have GE320 := n3_; clear n0_ n1_ n2_ n3_; clear hb hbox hg; have hcz29_0 : w28.cell? ⟨gb320, 0, none⟩ = some (.int .i64 a0_0) := (kc1 BK320.out 0).trans rfl; have hcz29_1 : w28.cell? ⟨gb320, 1, none⟩ = some (.slice A0_1 l0_1.length c0_1) := (kc1 BK320.out 1).trans rfl; have hfz29_0 := kf1 BK320.out 0; have hfz29_1 := kf1 BK320.out 1) | ((with_reducible refine gate_callee (f := 44) rfl ?_); refine goesL_ (some 11) rfl rfl Try.func44 (by kernel_rfl) rfl #[.agg #[.int .i64 a0_0, .slice A0_1 l0_1.length c0_1]] rfl (by (try simp only [List.map_toArray, List.map_cons, List.map_nil]); first | done | rfl | (simp only [List.length_drop, List.length_take]; rfl)) ?_; (with_reducible refine (message_build.calls k a0_0 _ _ l0_1 t321 t324 t327 _ ?side1 ?side2 A3.out).mono ?_); (case side1 => repeat (first | exact (Kd.C_below HR0_1.out HB.out) | (with_reducible refine Kd.C_alloc ?_ _) | (with_reducible refine Kd.C_drewN ?_ _) | (with_reducible refine Kd.C_drew ?_))); (case side2 => exact HC0_1.out); rintro e w30 ⟨gg_, rfl, hb, hbu_⟩; obtain rfl := Built.no hbu_ (beq_eq_false_iff_ne.mp c4b0); clear hbu_; refine ⟨_, rfl, ?_⟩; have n2_ := Ai0.mk (kb1 (g := gb320) (o := .cells #[.int .i64 a0_0, .slice A0_1 l0_1.length c0_1] 24 (0, 0)) (by (with_reducible repeat (first | refine kn1 ?_ _ | refine kd1 ?_ | refine ka1 ?_ _)); exact BK320.out) hb); have n3_ := Ai0.mk (bt1 (by repeat (first | (with_reducible first | exact HB.out | apply ba1 | apply pbN | apply bw1 | refine bs1 ?_ GE320.out) | exact HB.out)) hb); clear BK320; clear HB; have BK320 := n2_; have HB := n3_; clear n2_ n3_; (try clear hb); (try clear hb2); (try clear hk); (try clear hi); (try clear ho0); (try clear ho1)))
  go_ret2
  exact ⟨_, by first | rfl | (simp [eW0, eW1] <;> rfl) | (simp [*, eW0, eW1] <;> rfl), by first | exact Kd.R_nil _ _ _ _ _ | exact Kd.N_nil _ _ _ _ _ | exact Kd.V_nil _ _ _ _ _ | exact Kd.Q_nil _ _ _ _ _ | exact Kd.S_nil _ _ _ _ _, by repeat (first | (with_reducible first | exact HB.out | apply ba1 | apply pbN | apply bw1 | refine bs1 ?_ GE320.out | refine bs1 ?_ GE328.out) | exact HB.out)⟩
def crM_Odd.l0 : Nat → List Int → List Int → Int → Int → Option (Bool)
 | 0, _, _, _, _ => none
 | k + 1, x0, x1, x5, x6 => if x6 < (x0.length : Int) then (if 0 ≤ x6 then (if x6 < (x1.length : Int) then (crM_Odd.l0 k x0 x1 (wrap64 (x5 + (wrap64 ((rd x0 x6) * (rd x1 x6))))) (wrap64 (x6 + 1))) else (none)) else (none)) else (some ((Int.tmod x5 2) == 1))
def crM_Odd.f (k : Nat) (l0 : List Int) (l1 : List Int) : Option (Bool) := crM_Odd.l0 k l0 l1 0 0
theorem crM_Odd.mono_l : ∀ k, (∀ y0 y1 y2 y3, LeO (crM_Odd.l0 k y0 y1 y2 y3) (crM_Odd.l0 (k + 1) y0 y1 y2 y3))
 | 0 => fun _ _ _ _ r h => by simp [crM_Odd.l0] at h
 | k + 1 => by
  have ih0 := crM_Odd.mono_l k
  ·intro y0 y1 y2 y3;unfold crM_Odd.l0
   repeat' first
   | (with_reducible exact ih0 _ _ _ _)
   | (with_reducible exact LeO.refl _)
   | (with_reducible exact LeO.none _)
   | (with_reducible refine LeO.ite ?_ ?_)
   | (with_reducible refine LeO.bind ?_ (fun _ => ?_))
   | exact ih0 _ _ _ _
   | exact LeO.none _
   | refine LeO.ite ?_ ?_
   | refine LeO.bind ?_ (fun _ => ?_)
theorem crM_Odd.mono : ∀ a0 a1 k, LeO (crM_Odd.f k a0 a1) (crM_Odd.f (k + 1) a0 a1) := by
 intro a0 a1 k;have ih0 := crM_Odd.mono_l k;unfold crM_Odd.f
 repeat' first
   | (with_reducible exact ih0 _ _ _ _)
   | (with_reducible exact LeO.refl _)
   | (with_reducible exact LeO.none _)
   | (with_reducible refine LeO.ite ?_ ?_)
   | (with_reducible refine LeO.bind ?_ (fun _ => ?_))
   | exact ih0 _ _ _ _
   | exact LeO.none _
   | refine LeO.ite ?_ ?_
   | refine LeO.bind ?_ (fun _ => ?_)
set_option maxHeartbeats 8000000 in
set_option maxRecDepth 100000 in
theorem crM_Odd.calls (k : Nat) (A0 : Option Addr) (c0 : Nat) (l0 : List Int) (A1 : Option Addr) (c1 : Nat) (l1 : List Int) (r : Bool) (w : World) (hr0 : Kd.C (Kd.int .i64) w A0 l0.length l0) (hc0 : l0.length ≤ c0) (hr1 : Kd.C (Kd.int .i64) w A1 l1.length l1) (hc1 : l1.length ≤ c1) (h : crM_Odd.f k l0 l1 = some r) :
  Calls Try.prog 50 #[.slice A0 l0.length c0, .slice A1 l1.length c1] w fun e w' => e = .returned (.bool r) ∧ Drawn0 w w' := by
 have HR0 := Ai0.mk hr0;have HC0 := Ai0.mk hc0;clear hr0 hc0;have HR1 := Ai0.mk hr1;have HC1 := Ai0.mk hc1;clear hr1 hc1;have H : (crM_Odd.l0 k l0 l1 0 0) = some r := h;clear h;have H' := Ai0.mk H;clear H;go_enter Try.func50, Try.ntmps50
 go_wp2
 repeat (go_quiet (fail); try go_wp2)
 go_loopg [5, 6] k (fun kq v5 v6 w' => ∃ (x5_1 : Int) (x6_1 : Int), v5 = .int .i64 x5_1 ∧ v6 = .int .i64 x6_1 ∧ Ai0 (crM_Odd.l0 kq l0 l1 x5_1 x6_1 = some r) ∧ Ai0 (kq ≤ k) ∧ Drawn0 w w')
 case atStart => exact ⟨(0), (0), (by first | rfl | (simp; done) | (simp [*]; done)), (by first | rfl | (simp; done) | (simp [*]; done)), H', ⟨Nat.le_refl _⟩, by repeat (first | exact Drawn0.refl _ | apply Drawn0.step)⟩
 case round =>
  clear H'
  try clear c1
  try clear p2
  obtain ⟨x5_1, x6_1, rfl, rfl, HA, HK1, ⟨m1, rfl⟩⟩ := hrel
  cases gk with
  | zero => exact absurd HA.out (by simp [crM_Odd.l0])
  | succ k1 =>
   have H := HA.out;clear HA;simp only [crM_Odd.l0] at H;by_cases c3 : x6_1 < (l0.length : Int)
   ·rw [if_pos c3] at H;have c3b0 : decide (x6_1 < (l0.length : Int)) = true := decide_eq_true c3;clear c3;by_cases c4 : 0 ≤ x6_1
    ·rw [if_pos c4] at H;have c4b0 : decide (0 ≤ x6_1) = true := decide_eq_true c4;clear c4;by_cases c5 : x6_1 < (l1.length : Int)
     ·rw [if_pos c5] at H;have c5b0 : decide (x6_1 < (l1.length : Int)) = true := decide_eq_true c5;clear c5;have H' := Ai0.mk H;clear H;have p218 : 0 ≤ (x6_1 : Int) := of_decide_eq_true (by first | (with_reducible assumption) | assumption);have q218 : x6_1 < (l0.length : Int) := of_decide_eq_true (by first | (with_reducible assumption) | assumption);obtain ⟨ad218, e218, hx218_0⟩ := Kd.at_int HR0.out x6_1 p218 q218;cases e218;replace p218 := eq_true p218;replace q218 := eq_true q218;have p219 : 0 ≤ (x6_1 : Int) := of_decide_eq_true (by first | (with_reducible assumption) | assumption);have q219 : x6_1 < (l1.length : Int) := of_decide_eq_true (by first | (with_reducible assumption) | assumption);obtain ⟨ad219, e219, hx219_0⟩ := Kd.at_int HR1.out x6_1 p219 q219;cases e219;replace p219 := eq_true p219;replace q219 := eq_true q219
      go_wp2
      repeat (go_quiet (fail); try go_wp2)
      go_roundg k1
      case measure => have := HK1.out; omega
      case rel => exact ⟨(wrap64 (x5_1 + (wrap64 ((rd l0 x6_1) * (rd l1 x6_1))))), (wrap64 (x6_1 + 1)), (by first | rfl | (simp; done) | (simp [*]; done)), (by first | rfl | (simp; done) | (simp [*]; done)), H', ⟨by have := HK1.out; omega⟩, by repeat (first | exact Drawn0.refl _ | apply Drawn0.step)⟩
     ·rw [if_neg c5] at H;exact absurd H (by simp)
    ·rw [if_neg c4] at H;exact absurd H (by simp)
   ·rw [if_neg c3] at H;have c3b0 : decide (x6_1 < (l0.length : Int)) = false := decide_eq_false c3;clear c3;obtain rfl := Option.some.inj H
    go_wp2
    repeat (go_quiet (fail); try go_wp2)
    go_ret
    exact ⟨by first | rfl | (simp; done) | (simp [*]; done), by repeat (first | exact Drawn0.refl _ | apply Drawn0.step)⟩
def crM_Unsatisfied.l0 : Nat → List Int → List Int → Int → Int → List (List Int) → Option (List Int)
 | 0, _, _, _, _, _ => none
 | k + 1, x1, x5, x6, x221000, x221001 => if x6 < (x221001.length : Int) then (if 0 ≤ x6 then ((crM_Odd.f k (rd_L1 x221001 x6) x1).bind fun t222 => (if t222 = true then (if x5.length < 17592186044416 then (crM_Unsatisfied.l0 k x1 (x5 ++ [x6]) (wrap64 (x6 + 1)) x221000 x221001) else (none)) else (crM_Unsatisfied.l0 k x1 x5 (wrap64 (x6 + 1)) x221000 x221001))) else (none)) else (some x5)
def crM_Unsatisfied.f (k : Nat) (a0_0 : Int) (l0_1 : List (List Int)) (l1 : List Int) : Option (List Int) := crM_Unsatisfied.l0 k l1 ([] : List Int) 0 a0_0 l0_1
theorem crM_Unsatisfied.mono_l : ∀ k, (∀ y0 y1 y2 y3 y4, LeO (crM_Unsatisfied.l0 k y0 y1 y2 y3 y4) (crM_Unsatisfied.l0 (k + 1) y0 y1 y2 y3 y4))
 | 0 => fun _ _ _ _ _ r h => by simp [crM_Unsatisfied.l0] at h
 | k + 1 => by
  have ih0 := crM_Unsatisfied.mono_l k
  ·intro y0 y1 y2 y3 y4;unfold crM_Unsatisfied.l0
   repeat' first
   | (with_reducible exact ih0 _ _ _ _ _)
   | (with_reducible exact crM_Odd.mono _ _ _)
   | (with_reducible exact LeO.refl _)
   | (with_reducible exact LeO.none _)
   | (with_reducible refine LeO.ite ?_ ?_)
   | (with_reducible refine LeO.bind ?_ (fun _ => ?_))
   | exact ih0 _ _ _ _ _
   | exact crM_Odd.mono _ _ _
   | exact LeO.none _
   | refine LeO.ite ?_ ?_
   | refine LeO.bind ?_ (fun _ => ?_)
theorem crM_Unsatisfied.mono : ∀ a0 a1 a2 k, LeO (crM_Unsatisfied.f k a0 a1 a2) (crM_Unsatisfied.f (k + 1) a0 a1 a2) := by
 intro a0 a1 a2 k;have ih0 := crM_Unsatisfied.mono_l k;unfold crM_Unsatisfied.f
 repeat' first
   | (with_reducible exact ih0 _ _ _ _ _)
   | (with_reducible exact crM_Odd.mono _ _ _)
   | (with_reducible exact LeO.refl _)
   | (with_reducible exact LeO.none _)
   | (with_reducible refine LeO.ite ?_ ?_)
   | (with_reducible refine LeO.bind ?_ (fun _ => ?_))
   | exact ih0 _ _ _ _ _
   | exact crM_Odd.mono _ _ _
   | exact LeO.none _
   | refine LeO.ite ?_ ?_
   | refine LeO.bind ?_ (fun _ => ?_)
set_option maxHeartbeats 8000000 in
set_option maxRecDepth 100000 in
theorem crM_Unsatisfied.calls (k : Nat) (a0_0 : Int) (A0_1 : Option Addr) (c0_1 : Nat) (l0_1 : List (List Int)) (A1 : Option Addr) (c1 : Nat) (l1 : List Int) (r : List Int) (w : World) (hr0_1 : Kd.C (Kd.slice 3 (Kd.int .i64)) w A0_1 l0_1.length l0_1) (hc0_1 : l0_1.length ≤ c0_1) (hr1 : Kd.C (Kd.int .i64) w A1 l1.length l1) (hc1 : l1.length ≤ c1) (h : crM_Unsatisfied.f k a0_0 l0_1 l1 = some r) :
  Calls Try.prog 22 #[.agg #[.int .i64 a0_0, .slice A0_1 l0_1.length c0_1], .slice A1 l1.length c1] w fun e w' => ∃ v0_ : Value, e = .returned (v0_) ∧ Kd.R (Kd.int .i64) 3 w' w.heap.size (fun _ => True) v0_ r ∧ Below w.heap.size w w' := by
 have hu24 := Try.underlying24;have HR0_1 := Ai0.mk hr0_1;have HC0_1 := Ai0.mk hc0_1;clear hr0_1 hc0_1;have HR1 := Ai0.mk hr1;have HC1 := Ai0.mk hc1;clear hr1 hc1;have HB := Ai0.mk (Below.refl w.heap.size w);have H : (crM_Unsatisfied.l0 k l1 ([] : List Int) 0 a0_0 l0_1) = some r := h;clear h;have H' := Ai0.mk H;clear H;go_enter Try.func22, Try.ntmps22
 go_wp2_with (first | ((with_reducible refine gate_dst (N := 2) rfl ?_); refine box_event ?hg (N := 2) ?hd (cs := #[.int .i64 a0_0, .slice A0_1 l0_1.length c0_1]) (t := 24) ?hr ?_; (case hd => rfl); (case hg => rfl); (case hr => first | (go_simp; done) | (go_simp; rfl)); intro gb220 hg w3 hbox hb; have n0_ := Ai0.mk (bt1 (by repeat (first | (with_reducible first | exact HB.out | apply ba1 | apply pbN | apply bw1) | exact HB.out)) hb); have n1_ := Ai0.mk (hbox); have n2_ := Ai0.mk ((by rw [hg]; exact (bz1 (by repeat (first | (with_reducible first | exact HB.out | apply ba1 | apply pbN | apply bw1) | exact HB.out))) : w.heap.size ≤ gb220)); have n3_ := Ai0.mk ((by rw [hg]; exact (bz1 (by repeat (first | (with_reducible first | exact HB.out | apply ba1 | apply pbN | apply bw1) | exact HB.out))) : w.heap.size ≤ gb220)); clear HB; have HB := n0_; have BK220 := n1_; have GW220 := n2_; have GE220 := n3_; clear n0_ n1_ n2_ n3_; clear hb hbox hg))
 go_loopg [5, 6] k (fun kq v5 v6 w' => ∃ (x5_1 : List Int) (x6_1 : Int), v6 = .int .i64 x6_1 ∧ Ai0 (crM_Unsatisfied.l0 kq l1 x5_1 x6_1 a0_0 l0_1 = some r) ∧ Ai0 (kq ≤ k) ∧ Ai0 (Kd.R (Kd.int .i64) 3 w' w.heap.size (fun _ => True) v5 x5_1) ∧ Ai0 (w'.heap[gb220]? = some (.cells #[.int .i64 a0_0, (.slice A0_1 l0_1.length c0_1)] 24 (0, 0))) ∧ Ai0 (Below w.heap.size w w'))
 case atStart => exact ⟨(([] : List Int)), (0), (by first | rfl | (simp; done) | (simp [*]; done)), H', ⟨Nat.le_refl _⟩, ⟨by first | exact Kd.R_nil _ _ _ _ _ | exact Kd.N_nil _ _ _ _ _ | exact Kd.V_nil _ _ _ _ _ | exact Kd.Q_nil _ _ _ _ _ | exact Kd.S_nil _ _ _ _ _⟩, ⟨by (with_reducible repeat (first | refine kn1 ?_ _ | refine kd1 ?_ | refine ka1 ?_ _)); exact BK220.out⟩, ⟨by repeat (first | (with_reducible first | exact HB.out | apply ba1 | apply pbN | apply bw1 | refine bs1 ?_ GE220.out) | exact HB.out)⟩⟩
 case round =>
  clear H'
  try clear c1
  try clear c2
  try clear p2
  obtain ⟨x5_1, x6_1, rfl, HA, HK1, HO_5, BK220, HB⟩ := hrel
  cases gk with
  | zero => exact absurd HA.out (by simp [crM_Unsatisfied.l0])
  | succ k1 =>
   have H := HA.out;clear HA;simp only [crM_Unsatisfied.l0] at H;by_cases c4 : x6_1 < (l0_1.length : Int)
   ·rw [if_pos c4] at H;have c4b0 : decide (x6_1 < (l0_1.length : Int)) = true := decide_eq_true c4;clear c4;by_cases c5 : 0 ≤ x6_1
    ·rw [if_pos c5] at H;have c5b0 : decide (0 ≤ x6_1) = true := decide_eq_true c5;clear c5;replace H := Option.bind_eq_some_iff.mp H;obtain ⟨t222, A60, H⟩ := H;replace H : (if t222 = true then (if x5_1.length < 17592186044416 then (crM_Unsatisfied.l0 k1 l1 (x5_1 ++ [x6_1]) (wrap64 (x6_1 + 1)) a0_0 l0_1) else (none)) else (crM_Unsatisfied.l0 k1 l1 x5_1 (wrap64 (x6_1 + 1)) a0_0 l0_1)) = some r := H;have A6 := Ai0.mk A60;clear A60;by_cases c7 : t222 = true
     ·subst c7;(have H1 : (if x5_1.length < 17592186044416 then (crM_Unsatisfied.l0 k1 l1 (x5_1 ++ [x6_1]) (wrap64 (x6_1 + 1)) a0_0 l0_1) else (none)) = some r := by rw [if_pos rfl] at H; exact H);clear H;have H := H1;clear H1;by_cases c8 : x5_1.length < 17592186044416
      ·rw [if_pos c8] at H;have LMc8 := Ai0.mk c8;clear c8;(obtain ⟨y223, hy223⟩ : ∃ y_ : List Int, y_ = (x5_1 ++ [x6_1]) := ⟨_, rfl⟩);(replace H : (crM_Unsatisfied.l0 k1 l1 y223 (wrap64 (x6_1 + 1)) a0_0 l0_1) = some r := by first | (rw [hy223]; with_reducible exact H) | (have H2_ := (Option.bind_some _ _).symm.trans H; rw [hy223]; with_reducible exact H2_) | (have H2_ := (Option.bind_some _ _).symm.trans H; with_reducible exact H2_) | with_reducible exact H | (rw [hy223]; exact H) | exact H);have Ny223 := Ai0.mk hy223;clear hy223;have H' := Ai0.mk H;clear H;have hcz9_0 : wr.cell? ⟨gb220, 0, none⟩ = some (.int .i64 a0_0) := (kc1 BK220.out 0).trans rfl;have hcz9_1 : wr.cell? ⟨gb220, 1, none⟩ = some (.slice A0_1 l0_1.length c0_1) := (kc1 BK220.out 1).trans rfl;have hfz9_0 := kf1 BK220.out 0;have hfz9_1 := kf1 BK220.out 1;have p221 : 0 ≤ (x6_1 : Int) := of_decide_eq_true (by first | (with_reducible assumption) | assumption);have q221 : x6_1 < (l0_1.length : Int) := of_decide_eq_true (by first | (with_reducible assumption) | assumption);obtain ⟨ad221, A221_0, c221_0, e221, hx221_0, hl221_0, hi221_0⟩ := at_L1 HR0_1.out x6_1 p221 q221;cases e221;replace hx221_0 := (HB.out.cell (World.block_lt_of_cell? w _ hx221_0)).trans hx221_0;have HR221_0 := Ai0.mk hi221_0;have HC221_0 := Ai0.mk hl221_0;clear hi221_0 hl221_0;replace p221 := eq_true p221;replace q221 := eq_true q221
       go_wp2_with (first | ((with_reducible refine gate_callee (f := 50) rfl ?_); refine goesL_ (some 20) rfl rfl Try.func50 (by kernel_rfl) rfl #[.slice A221_0 (rd_L1 l0_1 x6_1).length c221_0, .slice A1 l1.length c1] rfl (by (try simp only [List.map_toArray, List.map_cons, List.map_nil]); first | done | rfl | (simp only [List.length_drop, List.length_take]; rfl)) ?_; (with_reducible refine (crM_Odd.calls k1 _ _ (rd_L1 l0_1 x6_1) _ _ l1 true _ ?side1 ?side2 ?side3 ?side4 A6.out).mono ?_); (case side1 => repeat (first | exact (Kd.C_below HR221_0.out HB.out) | (with_reducible refine Kd.C_alloc ?_ _) | (with_reducible refine Kd.C_drewN ?_ _) | (with_reducible refine Kd.C_drew ?_))); (case side2 => exact HC221_0.out); (case side3 => repeat (first | exact (Kd.C_below HR1.out HB.out) | (with_reducible refine Kd.C_alloc ?_ _) | (with_reducible refine Kd.C_drewN ?_ _) | (with_reducible refine Kd.C_drew ?_))); (case side4 => exact HC1.out); rintro e w' ⟨rfl, ⟨nd, rfl⟩⟩; refine ⟨_, rfl, ?_⟩) | ((with_reducible refine gate_builtin (b := .append) (xs := #[.tmp 21, .tmp 23]) rfl ?_); at_builtin; refine Kd.R_append (Kd.int .i64) (w0 := w) w.heap.size rfl (.tmp 21) (.tmp 23) 25 3 (.int .i64 0) 8 rfl Try.underlying25 info3 rfl (by decide) (by omega) u5 x5_1 x6_1 [.int .i64 x6_1] (fun _ => True) (fun _ => False) rfl rfl ?aP (fun _ hk => hk.elim) ?aF ?aO ?aB ?aS ?aL ?_; (case aP => exact rfl); (case aB => exact (by repeat (first | (with_reducible first | exact HB.out | apply ba1 | apply pbN | apply bw1 | refine bs1 ?_ GE220.out) | exact HB.out))); (case aF => exact (fun _ _ => trivial)); (case aO => exact (by (with_reducible repeat (first | apply Kd.Ra1 | apply Kd.Rn1 | apply Kd.Rd1)); exact HO_5.out)); (case aS => exact (bz1 (by repeat (first | (with_reducible first | exact HB.out | apply ba1 | apply pbN | apply bw1 | refine bs1 ?_ GE220.out) | exact HB.out)))); (case aL => have := LMc8.out; omega); intro v224 w10 ho hb hg hat; rw [← Ny223.out] at ho; have n0_ := Ai0.mk (blk_grown (g := gb220) (o := .cells #[.int .i64 a0_0, .slice (some ad221) l0_1.length c0_1] 24 (0, 0)) (by (with_reducible repeat (first | refine kn1 ?_ _ | refine kd1 ?_ | refine ka1 ?_ _)); exact BK220.out) hg (Kd.R_ne HO_5.out BK220.out (by decide))); have n1_ := Ai0.mk (hb); have n2_ := Ai0.mk (ho); clear BK220; clear HB; clear HO_5; have BK220 := n0_; have HB := n1_; have HO225 := n2_; clear n0_ n1_ n2_; clear ho hb hg hat))
       go_roundg k1
       case measure => have := HK1.out; omega
       case rel => exact ⟨(y223), (wrap64 (x6_1 + 1)), (by first | rfl | (simp; done) | (simp [*]; done)), H', ⟨by have := HK1.out; omega⟩, ⟨by (with_reducible repeat (first | apply Kd.Ra1 | apply Kd.Rn1 | apply Kd.Rd1)); exact HO225.out⟩, ⟨by (with_reducible repeat (first | refine kn1 ?_ _ | refine kd1 ?_ | refine ka1 ?_ _)); exact BK220.out⟩, ⟨by repeat (first | (with_reducible first | exact HB.out | apply ba1 | apply pbN | apply bw1 | refine bs1 ?_ GE220.out) | exact HB.out)⟩⟩
      ·rw [if_neg c8] at H;exact absurd H (by simp)
     ·replace c7 := Bool.eq_false_iff.mpr c7;subst c7;(have H1 : (crM_Unsatisfied.l0 k1 l1 x5_1 (wrap64 (x6_1 + 1)) a0_0 l0_1) = some r := by rw [if_neg (show ¬ (false = true) by decide)] at H; exact H);clear H;have H := H1;clear H1;have H' := Ai0.mk H;clear H;have hcz11_0 : wr.cell? ⟨gb220, 0, none⟩ = some (.int .i64 a0_0) := (kc1 BK220.out 0).trans rfl;have hcz11_1 : wr.cell? ⟨gb220, 1, none⟩ = some (.slice A0_1 l0_1.length c0_1) := (kc1 BK220.out 1).trans rfl;have hfz11_0 := kf1 BK220.out 0;have hfz11_1 := kf1 BK220.out 1;have p221 : 0 ≤ (x6_1 : Int) := of_decide_eq_true (by first | (with_reducible assumption) | assumption);have q221 : x6_1 < (l0_1.length : Int) := of_decide_eq_true (by first | (with_reducible assumption) | assumption);obtain ⟨ad221, A221_0, c221_0, e221, hx221_0, hl221_0, hi221_0⟩ := at_L1 HR0_1.out x6_1 p221 q221;cases e221;replace hx221_0 := (HB.out.cell (World.block_lt_of_cell? w _ hx221_0)).trans hx221_0;have HR221_0 := Ai0.mk hi221_0;have HC221_0 := Ai0.mk hl221_0;clear hi221_0 hl221_0;replace p221 := eq_true p221;replace q221 := eq_true q221
      go_wp2_with (first | ((with_reducible refine gate_callee (f := 50) rfl ?_); refine goesL_ (some 20) rfl rfl Try.func50 (by kernel_rfl) rfl #[.slice A221_0 (rd_L1 l0_1 x6_1).length c221_0, .slice A1 l1.length c1] rfl (by (try simp only [List.map_toArray, List.map_cons, List.map_nil]); first | done | rfl | (simp only [List.length_drop, List.length_take]; rfl)) ?_; (with_reducible refine (crM_Odd.calls k1 _ _ (rd_L1 l0_1 x6_1) _ _ l1 false _ ?side1 ?side2 ?side3 ?side4 A6.out).mono ?_); (case side1 => repeat (first | exact (Kd.C_below HR221_0.out HB.out) | (with_reducible refine Kd.C_alloc ?_ _) | (with_reducible refine Kd.C_drewN ?_ _) | (with_reducible refine Kd.C_drew ?_))); (case side2 => exact HC221_0.out); (case side3 => repeat (first | exact (Kd.C_below HR1.out HB.out) | (with_reducible refine Kd.C_alloc ?_ _) | (with_reducible refine Kd.C_drewN ?_ _) | (with_reducible refine Kd.C_drew ?_))); (case side4 => exact HC1.out); rintro e w' ⟨rfl, ⟨nd, rfl⟩⟩; refine ⟨_, rfl, ?_⟩))
      go_roundg k1
      case measure => have := HK1.out; omega
      case rel => exact ⟨(x5_1), (wrap64 (x6_1 + 1)), (by first | rfl | (simp; done) | (simp [*]; done)), H', ⟨by have := HK1.out; omega⟩, ⟨by (with_reducible repeat (first | apply Kd.Ra1 | apply Kd.Rn1 | apply Kd.Rd1)); exact HO_5.out⟩, ⟨by (with_reducible repeat (first | refine kn1 ?_ _ | refine kd1 ?_ | refine ka1 ?_ _)); exact BK220.out⟩, ⟨by repeat (first | (with_reducible first | exact HB.out | apply ba1 | apply pbN | apply bw1 | refine bs1 ?_ GE220.out) | exact HB.out)⟩⟩
    ·rw [if_neg c5] at H;exact absurd H (by simp)
   ·rw [if_neg c4] at H;have c4b0 : decide (x6_1 < (l0_1.length : Int)) = false := decide_eq_false c4;clear c4;obtain rfl := Option.some.inj H;have hcz12_0 : wr.cell? ⟨gb220, 0, none⟩ = some (.int .i64 a0_0) := (kc1 BK220.out 0).trans rfl;have hcz12_1 : wr.cell? ⟨gb220, 1, none⟩ = some (.slice A0_1 l0_1.length c0_1) := (kc1 BK220.out 1).trans rfl;have hfz12_0 := kf1 BK220.out 0;have hfz12_1 := kf1 BK220.out 1
    go_wp2
    go_ret
    exact ⟨_, by first | rfl | (simp [eW0, eW1] <;> rfl) | (simp [*, eW0, eW1] <;> rfl), by (with_reducible repeat (first | apply Kd.Ra1 | apply Kd.Rn1 | apply Kd.Rd1)); exact HO_5.out, by repeat (first | (with_reducible first | exact HB.out | apply ba1 | apply pbN | apply bw1 | refine bs1 ?_ GE220.out) | exact HB.out)⟩
def crM_Two.f  : Option (Int × Int × List Int) := some (2, 1, ([] : List Int))
set_option maxHeartbeats 8000000 in
set_option maxRecDepth 100000 in
theorem crM_Two.calls  (r1 : Int) (r2 : Int) (r3 : List Int) (w : World) (h : crM_Two.f  = some (r1, r2, r3)) :
  Calls Try.prog 26 #[] w fun e w' => ∃ v2_ : Value, e = .returned (.agg #[.int .i64 r1, .int .i64 r2, v2_]) ∧ Kd.R (Kd.int .i64) 3 w' w.heap.size (fun _ => True) v2_ r3 ∧ Below w.heap.size w w' := by
 have hu44 := Try.underlying44;have HB := Ai0.mk (Below.refl w.heap.size w);have H : (some (2, 1, ([] : List Int))) = some (r1, r2, r3) := h;clear h;simp only [Option.some.injEq, Prod.mk.injEq] at H;obtain ⟨rfl, rfl, rfl⟩ := H;go_enter Try.func26, Try.ntmps26
 go_wp2_with (first | ((with_reducible refine gate_dst (N := 0) rfl ?_); refine box_event ?hg (N := 0) ?hd (cs := #[.int .i64 0, .int .i64 0, .slice none 0 0]) (t := 44) ?hr ?_; (case hd => rfl); (case hg => rfl); (case hr => first | (go_simp; done) | (go_simp; rfl)); intro gb156 hg w1 hbox hb; have n0_ := Ai0.mk (bt1 (by repeat (first | (with_reducible first | exact HB.out | apply ba1 | apply pbN | apply bw1) | exact HB.out)) hb); have n1_ := Ai0.mk (hbox); have n2_ := Ai0.mk ((by rw [hg]; exact (bz1 (by repeat (first | (with_reducible first | exact HB.out | apply ba1 | apply pbN | apply bw1) | exact HB.out))) : w.heap.size ≤ gb156)); have n3_ := Ai0.mk ((by rw [hg]; exact (bz1 (by repeat (first | (with_reducible first | exact HB.out | apply ba1 | apply pbN | apply bw1) | exact HB.out))) : w.heap.size ≤ gb156)); clear HB; have HB := n0_; have BK156 := n1_; have GW156 := n2_; have GE156 := n3_; clear n0_ n1_ n2_ n3_; clear hb hbox hg; have hcz2_0 : w1.cell? ⟨gb156, 0, none⟩ = some (.int .i64 0) := (kc1 BK156.out 0).trans rfl; have hcz2_1 : w1.cell? ⟨gb156, 1, none⟩ = some (.int .i64 0) := (kc1 BK156.out 1).trans rfl; have hcz2_2 : w1.cell? ⟨gb156, 2, none⟩ = some (.slice none 0 0) := (kc1 BK156.out 2).trans rfl; have hfz2_0 := kf1 BK156.out 0; have hfz2_1 := kf1 BK156.out 1; have hfz2_2 := kf1 BK156.out 2))
 refine bodyPost_ret (results_cell_row rfl _ _ gb156 44 #[.int .i64 2, .int .i64 1, .slice none 0 0] (0, 0) _ rfl (by (with_reducible repeat (first | refine kn1 ?_ _ | refine kd1 ?_ | refine ka1 ?_ _)); refine blk_put (cs := #[.int .i64 2, .int .i64 1, .slice none 0 0]) ?_ 2 _ rfl; (with_reducible repeat (first | refine kn1 ?_ _ | refine kd1 ?_ | refine ka1 ?_ _)); refine blk_put (cs := #[.int .i64 2, .int .i64 0, .slice none 0 0]) ?_ 1 _ rfl; (with_reducible repeat (first | refine kn1 ?_ _ | refine kd1 ?_ | refine ka1 ?_ _)); refine blk_put (cs := #[.int .i64 0, .int .i64 0, .slice none 0 0]) ?_ 0 _ rfl; (with_reducible repeat (first | refine kn1 ?_ _ | refine kd1 ?_ | refine ka1 ?_ _)); exact BK156.out) Try.underlying44 rfl (by kernel_rfl)) rfl ?_;exact ⟨_, by first | rfl | (simp [eW0, eW1] <;> rfl) | (simp [*, eW0, eW1] <;> rfl), by first | exact Kd.R_nil _ _ _ _ _ | exact Kd.N_nil _ _ _ _ _ | exact Kd.V_nil _ _ _ _ _ | exact Kd.Q_nil _ _ _ _ _ | exact Kd.S_nil _ _ _ _ _, by repeat (first | (with_reducible first | exact HB.out | apply ba1 | apply pbN | apply bw1 | refine bs1 ?_ GE156.out) | exact HB.out)⟩
def crM_Word.f (k : Nat) (a0_0 : Int) (l0_1 : List (List Int)) (l1 : List Int) : Option (Int) := (crM_Two.f).bind fun bt404 => ((cr9_Check.f k bt404.1 bt404.2.1 bt404.2.2 a0_0 l0_1).bind fun t409 => (if t409 = 0 then (if (l1.length : Int) = a0_0 then ((crM_Two.f).bind fun bt410 => ((cr9_Entries.f k bt410.1 bt410.2.1 bt410.2.2 l1).bind fun t415 => (some t415))) else (some 4)) else (some t409)))
theorem crM_Word.mono : ∀ a0 a1 a2 k, LeO (crM_Word.f k a0 a1 a2) (crM_Word.f (k + 1) a0 a1 a2) := by
 intro a0 a1 a2 k;unfold crM_Word.f
 repeat' first
   | (with_reducible exact cr9_Check.mono _ _ _ _ _ _)
   | (with_reducible exact cr9_Entries.mono _ _ _ _ _)
   | (with_reducible exact LeO.refl _)
   | (with_reducible exact LeO.none _)
   | (with_reducible refine LeO.ite ?_ ?_)
   | (with_reducible refine LeO.bind ?_ (fun _ => ?_))
   | exact cr9_Check.mono _ _ _ _ _ _
   | exact cr9_Entries.mono _ _ _ _ _
   | exact LeO.none _
   | refine LeO.ite ?_ ?_
   | refine LeO.bind ?_ (fun _ => ?_)
set_option maxHeartbeats 8000000 in
set_option maxRecDepth 100000 in
theorem crM_Word.calls (k : Nat) (a0_0 : Int) (A0_1 : Option Addr) (c0_1 : Nat) (l0_1 : List (List Int)) (A1 : Option Addr) (c1 : Nat) (l1 : List Int) (r : Int) (w : World) (hr0_1 : Kd.C (Kd.slice 3 (Kd.int .i64)) w A0_1 l0_1.length l0_1) (hc0_1 : l0_1.length ≤ c0_1) (hr1 : Kd.C (Kd.int .i64) w A1 l1.length l1) (hc1 : l1.length ≤ c1) (h : crM_Word.f k a0_0 l0_1 l1 = some r) :
  Calls Try.prog 23 #[.agg #[.int .i64 a0_0, .slice A0_1 l0_1.length c0_1], .slice A1 l1.length c1] w fun e w' => e = .returned (.int .i64 r) ∧ Below w.heap.size w w' := by
 have hu24 := Try.underlying24;have HR0_1 := Ai0.mk hr0_1;have HC0_1 := Ai0.mk hc0_1;clear hr0_1 hc0_1;have HR1 := Ai0.mk hr1;have HC1 := Ai0.mk hc1;clear hr1 hc1;have HB := Ai0.mk (Below.refl w.heap.size w);have H : ((crM_Two.f).bind fun bt404 => ((cr9_Check.f k bt404.1 bt404.2.1 bt404.2.2 a0_0 l0_1).bind fun t409 => (if t409 = 0 then (if (l1.length : Int) = a0_0 then ((crM_Two.f).bind fun bt410 => ((cr9_Entries.f k bt410.1 bt410.2.1 bt410.2.2 l1).bind fun t415 => (some t415))) else (some 4)) else (some t409)))) = some r := h;clear h;replace H := Option.bind_eq_some_iff.mp H;obtain ⟨⟨t404, t405, t406⟩, A30, H⟩ := H;replace H : ((cr9_Check.f k t404 t405 t406 a0_0 l0_1).bind fun t409 => (if t409 = 0 then (if (l1.length : Int) = a0_0 then ((crM_Two.f).bind fun bt410 => ((cr9_Entries.f k bt410.1 bt410.2.1 bt410.2.2 l1).bind fun t415 => (some t415))) else (some 4)) else (some t409))) = some r := H;have A3 := Ai0.mk A30;clear A30;replace H := Option.bind_eq_some_iff.mp H;obtain ⟨t409, A40, H⟩ := H;replace H : (if t409 = 0 then (if (l1.length : Int) = a0_0 then ((crM_Two.f).bind fun bt410 => ((cr9_Entries.f k bt410.1 bt410.2.1 bt410.2.2 l1).bind fun t415 => (some t415))) else (some 4)) else (some t409)) = some r := H;have A4 := Ai0.mk A40;clear A40;by_cases c5 : t409 = 0
 ·rw [if_pos c5] at H;have c5b0 : (t409 == 0) = true := beq_iff_eq.mpr c5;have c5b1 : (t409 != 0) = false := bne_eq_false_iff_eq.mpr c5;clear c5;by_cases c6 : (l1.length : Int) = a0_0
  case' pos =>
   rw [if_pos c6] at H;have c6b0 : ((l1.length : Int) == a0_0) = true := beq_iff_eq.mpr c6;have c6b1 : ((l1.length : Int) != a0_0) = false := bne_eq_false_iff_eq.mpr c6;clear c6;replace H := Option.bind_eq_some_iff.mp H;obtain ⟨⟨t410, t411, t412⟩, A70, H⟩ := H;replace H : ((cr9_Entries.f k t410 t411 t412 l1).bind fun t415 => (some t415)) = some r := H;have A7 := Ai0.mk A70;clear A70;replace H := Option.bind_eq_some_iff.mp H;obtain ⟨t415, A80, H⟩ := H;replace H : (some t415) = some r := H;have A8 := Ai0.mk A80;clear A80
  case' neg =>
   rw [if_neg c6] at H;have c6b0 : ((l1.length : Int) == a0_0) = false := beq_eq_false_iff_ne.mpr c6;have c6b1 : ((l1.length : Int) != a0_0) = true := bne_iff_ne.mpr c6
  all_goals
   obtain rfl := Option.some.inj H;go_enter Try.func23, Try.ntmps23
   try go_wp2_with (first | ((with_reducible refine gate_dst (N := 2) rfl ?_); refine box_event ?hg (N := 2) ?hd (cs := #[.int .i64 a0_0, .slice A0_1 l0_1.length c0_1]) (t := 24) ?hr ?_; (case hd => rfl); (case hg => rfl); (case hr => first | (go_simp; done) | (go_simp; rfl)); intro gb403 hg w9 hbox hb; have n0_ := Ai0.mk (bt1 (by repeat (first | (with_reducible first | exact HB.out | apply ba1 | apply pbN | apply bw1) | exact HB.out)) hb); have n1_ := Ai0.mk (hbox); have n2_ := Ai0.mk ((by rw [hg]; exact (bz1 (by repeat (first | (with_reducible first | exact HB.out | apply ba1 | apply pbN | apply bw1) | exact HB.out))) : w.heap.size ≤ gb403)); have n3_ := Ai0.mk ((by rw [hg]; exact (bz1 (by repeat (first | (with_reducible first | exact HB.out | apply ba1 | apply pbN | apply bw1) | exact HB.out))) : w.heap.size ≤ gb403)); clear HB; have HB := n0_; have BK403 := n1_; have GW403 := n2_; have GE403 := n3_; clear n0_ n1_ n2_ n3_; clear hb hbox hg))
   have n0_ := Ai0.mk (kd1 BK403.out);have n1_ := Ai0.mk (bw1 HB.out);clear BK403;clear HB;have BK403 := n0_;have HB := n1_;clear n0_ n1_;refine start_ (n := 4) (S := fun w' => w'.cell? ⟨gb403, 0, none⟩ = some (.int .i64 a0_0) ∧ w'.cell? ⟨gb403, 1, none⟩ = some (.slice A0_1 l0_1.length c0_1)) (ds := []) #[false, false, false, false] (by kernel_rfl) rfl rfl ⟨(kc1 BK403.out 0).trans rfl, (kc1 BK403.out 1).trans rfl⟩ (fun hHeld => ?_);generalize w9.drew = w10 at BK403 HB hHeld ⊢
   refine take_ (i := 1) (N := some 7) (v := ?_) (a' := ?_) #[false, true, false, false] rfl rfl (by kernel_rfl) (fun _ _ _ h => h) (Or.inl ⟨by rfl, ?_⟩) hHeld ?_ ?_;rotate_left
   ·rintro w' ⟨s0, s1⟩
    go_simp
    with_reducible rfl
   rotate_left
   ·simp only [Act.put, l01_, l02_, l03_, i64_w, i32_w]
    rfl
   refine one_ (i := 0) (N := some 6) #[true, true, false, false] rfl rfl (by kernel_rfl) (by decide) (fun K hK => ?_);refine goes_ Try.func26 (by kernel_rfl) rfl #[] (by rfl) rfl rfl (by (try simp only [List.map_toArray, List.map_cons, List.map_nil]); first | done | rfl | (simp only [List.length_drop, List.length_take]; rfl)) ?_
   with_reducible refine (crM_Two.calls  t404 t405 t406 _ A3.out).mono ?_
   rintro e w11 ⟨v407, rfl, ho0, hb⟩
   refine ⟨_, rfl, ?_⟩;have n0_ := Ai0.mk (Kd.R_lower ho0 (bz1 (by repeat (first | (with_reducible first | exact HB.out | apply ba1 | apply pbN | apply bw1 | refine bs1 ?_ GE403.out) | exact HB.out))));have n1_ := Ai0.mk (kb1 (g := gb403) (o := .cells #[.int .i64 a0_0, .slice A0_1 l0_1.length c0_1] 24 (0, 0)) (by (with_reducible repeat (first | refine kn1 ?_ _ | refine kd1 ?_ | refine ka1 ?_ _)); exact BK403.out) hb);have n2_ := Ai0.mk (bt1 (by repeat (first | (with_reducible first | exact HB.out | apply ba1 | apply pbN | apply bw1 | refine bs1 ?_ GE403.out) | exact HB.out)) hb);clear BK403;clear HB;have HO408 := n0_;have BK403 := n1_;have HB := n2_;clear n0_ n1_ n2_;(try clear hb);(try clear hb2);(try clear hk);(try clear hi);(try clear ho0);obtain ⟨Ao12, co12, eo12⟩ := Kd.R_slice HO408.out;(first | subst eo12 | (injection eo12 with f1_ f2_ f3_; have f4_ := f1_.symm; have f5_ := f3_.symm; clear f1_ f2_ f3_; subst f4_; subst f5_));refine hK.out _ _ ⟨(kc1 BK403.out 0).trans rfl, (kc1 BK403.out 1).trans rfl⟩ (fun hHeld => ?_);clear hK K;refine norm_ (a' := ?_) ?_ ?_;rotate_left
   ·show Act.put _ (some 6) _ = _;simp only [Act.put, l01_, l02_, l03_, i64_w, i32_w]
    rfl
   refine one_ (i := 2) (N := some 8) #[true, true, true, false] rfl rfl (by kernel_rfl) (by decide) (fun K hK => ?_);refine goes_ Try.func30 (by kernel_rfl) rfl #[.agg #[.int .i64 t404, .int .i64 t405, .slice Ao12 t406.length co12], .agg #[.int .i64 a0_0, .slice A0_1 l0_1.length c0_1]] (by rfl) rfl rfl (by (try simp only [List.map_toArray, List.map_cons, List.map_nil]); first | done | rfl | (simp only [List.length_drop, List.length_take]; rfl)) ?_
   with_reducible refine (cr9_Check.calls k t404 t405 _ _ t406 a0_0 _ _ l0_1 t409 _ ?side1 ?side2 ?side3 ?side4 A4.out).mono ?_
   (case side1 => repeat (first | exact (Kd.R_reads' HO408.out).2.2 | (with_reducible refine Kd.C_alloc ?_ _) | (with_reducible refine Kd.C_drewN ?_ _) | (with_reducible refine Kd.C_drew ?_)));(case side2 => exact (Kd.R_reads' HO408.out).2.1);(case side3 => repeat (first | exact (Kd.C_below HR0_1.out HB.out) | (with_reducible refine Kd.C_alloc ?_ _) | (with_reducible refine Kd.C_drewN ?_ _) | (with_reducible refine Kd.C_drew ?_)));(case side4 => exact HC0_1.out)
   rintro e w13 ⟨rfl, hb⟩
   refine ⟨_, rfl, ?_⟩;have n0_ := Ai0.mk (Kd.R_below (by (with_reducible repeat (first | apply Kd.Ra1 | apply Kd.Rn1 | apply Kd.Rd1)); exact HO408.out) hb);have n1_ := Ai0.mk (kb1 (g := gb403) (o := .cells #[.int .i64 a0_0, .slice A0_1 l0_1.length c0_1] 24 (0, 0)) (by (with_reducible repeat (first | refine kn1 ?_ _ | refine kd1 ?_ | refine ka1 ?_ _)); exact BK403.out) hb);have n2_ := Ai0.mk (bt1 (by repeat (first | (with_reducible first | exact HB.out | apply ba1 | apply pbN | apply bw1 | refine bs1 ?_ GE403.out) | exact HB.out)) hb);clear HO408;clear BK403;clear HB;have HO408 := n0_;have BK403 := n1_;have HB := n2_;clear n0_ n1_ n2_;(try clear hb);(try clear hb2);(try clear hk);(try clear hi);refine hK.out _ _ ⟨(kc1 BK403.out 0).trans rfl, (kc1 BK403.out 1).trans rfl⟩ (fun hHeld => ?_);clear hK K;refine norm_ (a' := ?_) ?_ ?_;rotate_left
   ·show Act.put _ (some 8) _ = _;simp only [Act.put, l01_, l02_, l03_, i64_w, i32_w]
    rfl
   refine pure_ (i := 3) (N := some 5) (v := ?_) (a' := ?_) #[true, true, true, true] rfl rfl (by kernel_rfl) (fun _ _ _ h => h) (Or.inl ⟨by rfl, ?_⟩) ?_ ?_;rotate_left
   ·intro w';go_simp
    with_reducible rfl
   rotate_left
   ·simp only [Act.put, l01_, l02_, l03_, i64_w, i32_w]
    rfl
   refine done_ (by kernel_rfl) ?_;have hcz14_0 : w13.cell? ⟨gb403, 0, none⟩ = some (.int .i64 a0_0) := (kc1 BK403.out 0).trans rfl;have hcz14_1 : w13.cell? ⟨gb403, 1, none⟩ = some (.slice A0_1 l0_1.length c0_1) := (kc1 BK403.out 1).trans rfl;have hfz14_0 := kf1 BK403.out 0;have hfz14_1 := kf1 BK403.out 1
  ·try go_wp2
   go_ret
   exact ⟨by first | rfl | (simp [eW0, eW1] <;> rfl) | (simp [*, eW0, eW1] <;> rfl), by repeat (first | (with_reducible first | exact HB.out | apply ba1 | apply pbN | apply bw1 | refine bs1 ?_ GE403.out) | exact HB.out)⟩
  ·try go_wp2_with (first | ((with_reducible refine gate_callee (f := 26) rfl ?_); refine goesL_ (some 17) rfl rfl Try.func26 (by kernel_rfl) rfl #[] rfl (by (try simp only [List.map_toArray, List.map_cons, List.map_nil]); first | done | rfl | (simp only [List.length_drop, List.length_take]; rfl)) ?_; (with_reducible refine (crM_Two.calls  t410 t411 t412 _ A7.out).mono ?_); rintro e w15 ⟨v413, rfl, ho0, hb⟩; refine ⟨_, rfl, ?_⟩; have n0_ := Ai0.mk (Kd.R_elder' (by (with_reducible repeat (first | apply Kd.Ra1 | apply Kd.Rn1 | apply Kd.Rd1)); exact HO408.out) (Kd.R_base ho0) hb); have n1_ := Ai0.mk (Kd.R_lower (Kd.R_new' ho0 (Kd.R_lt (by (with_reducible repeat (first | apply Kd.Ra1 | apply Kd.Rn1 | apply Kd.Rd1)); exact HO408.out))) (bz1 (by repeat (first | (with_reducible first | exact HB.out | apply ba1 | apply pbN | apply bw1 | refine bs1 ?_ GE403.out) | exact HB.out)))); have n2_ := Ai0.mk (kb1 (g := gb403) (o := .cells #[.int .i64 a0_0, .slice A0_1 l0_1.length c0_1] 24 (0, 0)) (by (with_reducible repeat (first | refine kn1 ?_ _ | refine kd1 ?_ | refine ka1 ?_ _)); exact BK403.out) hb); have n3_ := Ai0.mk (bt1 (by repeat (first | (with_reducible first | exact HB.out | apply ba1 | apply pbN | apply bw1 | refine bs1 ?_ GE403.out) | exact HB.out)) hb); clear HO408; clear BK403; clear HB; have HO408 := n0_; have HO414 := n1_; have BK403 := n2_; have HB := n3_; clear n0_ n1_ n2_ n3_; (try clear hb); (try clear hb2); (try clear hk); (try clear hi); (try clear ho0); obtain ⟨Ao16, co16, eo16⟩ := Kd.R_slice HO414.out; subst eo16) | ((with_reducible refine gate_callee (f := 51) rfl ?_); refine goesL_ (some 19) rfl rfl Try.func51 (by kernel_rfl) rfl #[.agg #[.int .i64 t410, .int .i64 t411, .slice Ao16 t412.length co16], .slice A1 l1.length c1] rfl (by (try simp only [List.map_toArray, List.map_cons, List.map_nil]); first | done | rfl | (simp only [List.length_drop, List.length_take]; rfl)) ?_; (with_reducible refine (cr9_Entries.calls k t410 t411 _ _ t412 _ _ l1 t415 _ ?side1 ?side2 ?side3 ?side4 A8.out).mono ?_); (case side1 => repeat (first | exact (Kd.R_reads' HO414.out).2.2 | (with_reducible refine Kd.C_alloc ?_ _) | (with_reducible refine Kd.C_drewN ?_ _) | (with_reducible refine Kd.C_drew ?_))); (case side2 => exact (Kd.R_reads' HO414.out).2.1); (case side3 => repeat (first | exact (Kd.C_below HR1.out HB.out) | (with_reducible refine Kd.C_alloc ?_ _) | (with_reducible refine Kd.C_drewN ?_ _) | (with_reducible refine Kd.C_drew ?_))); (case side4 => exact HC1.out); rintro e w17 ⟨rfl, hb⟩; refine ⟨_, rfl, ?_⟩; have n0_ := Ai0.mk (Kd.R_below (by (with_reducible repeat (first | apply Kd.Ra1 | apply Kd.Rn1 | apply Kd.Rd1)); exact HO408.out) hb); have n1_ := Ai0.mk (Kd.R_below (by (with_reducible repeat (first | apply Kd.Ra1 | apply Kd.Rn1 | apply Kd.Rd1)); exact HO414.out) hb); have n2_ := Ai0.mk (kb1 (g := gb403) (o := .cells #[.int .i64 a0_0, .slice A0_1 l0_1.length c0_1] 24 (0, 0)) (by (with_reducible repeat (first | refine kn1 ?_ _ | refine kd1 ?_ | refine ka1 ?_ _)); exact BK403.out) hb); have n3_ := Ai0.mk (bt1 (by repeat (first | (with_reducible first | exact HB.out | apply ba1 | apply pbN | apply bw1 | refine bs1 ?_ GE403.out) | exact HB.out)) hb); clear HO408; clear HO414; clear BK403; clear HB; have HO408 := n0_; have HO414 := n1_; have BK403 := n2_; have HB := n3_; clear n0_ n1_ n2_ n3_; (try clear hb); (try clear hb2); (try clear hk); (try clear hi)))
   go_ret
   exact ⟨by first | rfl | (simp [eW0, eW1] <;> rfl) | (simp [*, eW0, eW1] <;> rfl), by repeat (first | (with_reducible first | exact HB.out | apply ba1 | apply pbN | apply bw1 | refine bs1 ?_ GE403.out) | exact HB.out)⟩
 ·rw [if_neg c5] at H;have c5b0 : (t409 == 0) = false := beq_eq_false_iff_ne.mpr c5;have c5b1 : (t409 != 0) = true := bne_iff_ne.mpr c5;obtain rfl := Option.some.inj H;go_enter Try.func23, Try.ntmps23
  try go_wp2_with (first | ((with_reducible refine gate_dst (N := 2) rfl ?_); refine box_event ?hg (N := 2) ?hd (cs := #[.int .i64 a0_0, .slice A0_1 l0_1.length c0_1]) (t := 24) ?hr ?_; (case hd => rfl); (case hg => rfl); (case hr => first | (go_simp; done) | (go_simp; rfl)); intro gb403 hg w24 hbox hb; have n0_ := Ai0.mk (bt1 (by repeat (first | (with_reducible first | exact HB.out | apply ba1 | apply pbN | apply bw1) | exact HB.out)) hb); have n1_ := Ai0.mk (hbox); have n2_ := Ai0.mk ((by rw [hg]; exact (bz1 (by repeat (first | (with_reducible first | exact HB.out | apply ba1 | apply pbN | apply bw1) | exact HB.out))) : w.heap.size ≤ gb403)); have n3_ := Ai0.mk ((by rw [hg]; exact (bz1 (by repeat (first | (with_reducible first | exact HB.out | apply ba1 | apply pbN | apply bw1) | exact HB.out))) : w.heap.size ≤ gb403)); clear HB; have HB := n0_; have BK403 := n1_; have GW403 := n2_; have GE403 := n3_; clear n0_ n1_ n2_ n3_; clear hb hbox hg))
  have n0_ := Ai0.mk (kd1 BK403.out);have n1_ := Ai0.mk (bw1 HB.out);clear BK403;clear HB;have BK403 := n0_;have HB := n1_;clear n0_ n1_;refine start_ (n := 4) (S := fun w' => w'.cell? ⟨gb403, 0, none⟩ = some (.int .i64 a0_0) ∧ w'.cell? ⟨gb403, 1, none⟩ = some (.slice A0_1 l0_1.length c0_1)) (ds := []) #[false, false, false, false] (by kernel_rfl) rfl rfl ⟨(kc1 BK403.out 0).trans rfl, (kc1 BK403.out 1).trans rfl⟩ (fun hHeld => ?_);generalize w24.drew = w25 at BK403 HB hHeld ⊢
  refine take_ (i := 1) (N := some 7) (v := ?_) (a' := ?_) #[false, true, false, false] rfl rfl (by kernel_rfl) (fun _ _ _ h => h) (Or.inl ⟨by rfl, ?_⟩) hHeld ?_ ?_;rotate_left
  ·rintro w' ⟨s0, s1⟩
   go_simp
   with_reducible rfl
  rotate_left
  ·simp only [Act.put, l01_, l02_, l03_, i64_w, i32_w]
   rfl
  refine one_ (i := 0) (N := some 6) #[true, true, false, false] rfl rfl (by kernel_rfl) (by decide) (fun K hK => ?_);refine goes_ Try.func26 (by kernel_rfl) rfl #[] (by rfl) rfl rfl (by (try simp only [List.map_toArray, List.map_cons, List.map_nil]); first | done | rfl | (simp only [List.length_drop, List.length_take]; rfl)) ?_
  with_reducible refine (crM_Two.calls  t404 t405 t406 _ A3.out).mono ?_
  rintro e w26 ⟨v407, rfl, ho0, hb⟩
  refine ⟨_, rfl, ?_⟩;have n0_ := Ai0.mk (Kd.R_lower ho0 (bz1 (by repeat (first | (with_reducible first | exact HB.out | apply ba1 | apply pbN | apply bw1 | refine bs1 ?_ GE403.out) | exact HB.out))));have n1_ := Ai0.mk (kb1 (g := gb403) (o := .cells #[.int .i64 a0_0, .slice A0_1 l0_1.length c0_1] 24 (0, 0)) (by (with_reducible repeat (first | refine kn1 ?_ _ | refine kd1 ?_ | refine ka1 ?_ _)); exact BK403.out) hb);have n2_ := Ai0.mk (bt1 (by repeat (first | (with_reducible first | exact HB.out | apply ba1 | apply pbN | apply bw1 | refine bs1 ?_ GE403.out) | exact HB.out)) hb);clear BK403;clear HB;have HO408 := n0_;have BK403 := n1_;have HB := n2_;clear n0_ n1_ n2_;(try clear hb);(try clear hb2);(try clear hk);(try clear hi);(try clear ho0);obtain ⟨Ao27, co27, eo27⟩ := Kd.R_slice HO408.out;(first | subst eo27 | (injection eo27 with f1_ f2_ f3_; have f4_ := f1_.symm; have f5_ := f3_.symm; clear f1_ f2_ f3_; subst f4_; subst f5_));refine hK.out _ _ ⟨(kc1 BK403.out 0).trans rfl, (kc1 BK403.out 1).trans rfl⟩ (fun hHeld => ?_);clear hK K;refine norm_ (a' := ?_) ?_ ?_;rotate_left
  ·show Act.put _ (some 6) _ = _;simp only [Act.put, l01_, l02_, l03_, i64_w, i32_w]
   rfl
  refine one_ (i := 2) (N := some 8) #[true, true, true, false] rfl rfl (by kernel_rfl) (by decide) (fun K hK => ?_);refine goes_ Try.func30 (by kernel_rfl) rfl #[.agg #[.int .i64 t404, .int .i64 t405, .slice Ao27 t406.length co27], .agg #[.int .i64 a0_0, .slice A0_1 l0_1.length c0_1]] (by rfl) rfl rfl (by (try simp only [List.map_toArray, List.map_cons, List.map_nil]); first | done | rfl | (simp only [List.length_drop, List.length_take]; rfl)) ?_
  with_reducible refine (cr9_Check.calls k t404 t405 _ _ t406 a0_0 _ _ l0_1 t409 _ ?side1 ?side2 ?side3 ?side4 A4.out).mono ?_
  (case side1 => repeat (first | exact (Kd.R_reads' HO408.out).2.2 | (with_reducible refine Kd.C_alloc ?_ _) | (with_reducible refine Kd.C_drewN ?_ _) | (with_reducible refine Kd.C_drew ?_)));(case side2 => exact (Kd.R_reads' HO408.out).2.1);(case side3 => repeat (first | exact (Kd.C_below HR0_1.out HB.out) | (with_reducible refine Kd.C_alloc ?_ _) | (with_reducible refine Kd.C_drewN ?_ _) | (with_reducible refine Kd.C_drew ?_)));(case side4 => exact HC0_1.out)
  rintro e w28 ⟨rfl, hb⟩
  refine ⟨_, rfl, ?_⟩;have n0_ := Ai0.mk (Kd.R_below (by (with_reducible repeat (first | apply Kd.Ra1 | apply Kd.Rn1 | apply Kd.Rd1)); exact HO408.out) hb);have n1_ := Ai0.mk (kb1 (g := gb403) (o := .cells #[.int .i64 a0_0, .slice A0_1 l0_1.length c0_1] 24 (0, 0)) (by (with_reducible repeat (first | refine kn1 ?_ _ | refine kd1 ?_ | refine ka1 ?_ _)); exact BK403.out) hb);have n2_ := Ai0.mk (bt1 (by repeat (first | (with_reducible first | exact HB.out | apply ba1 | apply pbN | apply bw1 | refine bs1 ?_ GE403.out) | exact HB.out)) hb);clear HO408;clear BK403;clear HB;have HO408 := n0_;have BK403 := n1_;have HB := n2_;clear n0_ n1_ n2_;(try clear hb);(try clear hb2);(try clear hk);(try clear hi);refine hK.out _ _ ⟨(kc1 BK403.out 0).trans rfl, (kc1 BK403.out 1).trans rfl⟩ (fun hHeld => ?_);clear hK K;refine norm_ (a' := ?_) ?_ ?_;rotate_left
  ·show Act.put _ (some 8) _ = _;simp only [Act.put, l01_, l02_, l03_, i64_w, i32_w]
   rfl
  refine pure_ (i := 3) (N := some 5) (v := ?_) (a' := ?_) #[true, true, true, true] rfl rfl (by kernel_rfl) (fun _ _ _ h => h) (Or.inl ⟨by rfl, ?_⟩) ?_ ?_;rotate_left
  ·intro w';go_simp
   with_reducible rfl
  rotate_left
  ·simp only [Act.put, l01_, l02_, l03_, i64_w, i32_w]
   rfl
  refine done_ (by kernel_rfl) ?_
  try go_wp2
  go_ret
  exact ⟨by first | rfl | (simp [eW0, eW1] <;> rfl) | (simp [*, eW0, eW1] <;> rfl), by repeat (first | (with_reducible first | exact HB.out | apply ba1 | apply pbN | apply bw1 | refine bs1 ?_ GE403.out) | exact HB.out)⟩
def cr9_SameInts.l0 : Nat → List Int → List Int → Int → Option (Bool)
 | 0, _, _, _ => none
 | k + 1, x0, x1, x5 => if x5 < (x0.length : Int) then (if 0 ≤ x5 then (if x5 < (x1.length : Int) then (if (rd x0 x5) = (rd x1 x5) then (cr9_SameInts.l0 k x0 x1 (wrap64 (x5 + 1))) else (some false)) else (none)) else (none)) else (some true)
def cr9_SameInts.f (k : Nat) (l0 : List Int) (l1 : List Int) : Option (Bool) := if (l0.length : Int) = (l1.length : Int) then (cr9_SameInts.l0 k l0 l1 0) else (some false)
theorem cr9_SameInts.mono_l : ∀ k, (∀ y0 y1 y2, LeO (cr9_SameInts.l0 k y0 y1 y2) (cr9_SameInts.l0 (k + 1) y0 y1 y2))
 | 0 => fun _ _ _ r h => by simp [cr9_SameInts.l0] at h
 | k + 1 => by
  have ih0 := cr9_SameInts.mono_l k
  ·intro y0 y1 y2;unfold cr9_SameInts.l0
   repeat' first
   | (with_reducible exact ih0 _ _ _)
   | (with_reducible exact LeO.refl _)
   | (with_reducible exact LeO.none _)
   | (with_reducible refine LeO.ite ?_ ?_)
   | (with_reducible refine LeO.bind ?_ (fun _ => ?_))
   | exact ih0 _ _ _
   | exact LeO.none _
   | refine LeO.ite ?_ ?_
   | refine LeO.bind ?_ (fun _ => ?_)
theorem cr9_SameInts.mono : ∀ a0 a1 k, LeO (cr9_SameInts.f k a0 a1) (cr9_SameInts.f (k + 1) a0 a1) := by
 intro a0 a1 k;have ih0 := cr9_SameInts.mono_l k;unfold cr9_SameInts.f
 repeat' first
   | (with_reducible exact ih0 _ _ _)
   | (with_reducible exact LeO.refl _)
   | (with_reducible exact LeO.none _)
   | (with_reducible refine LeO.ite ?_ ?_)
   | (with_reducible refine LeO.bind ?_ (fun _ => ?_))
   | exact ih0 _ _ _
   | exact LeO.none _
   | refine LeO.ite ?_ ?_
   | refine LeO.bind ?_ (fun _ => ?_)
set_option maxHeartbeats 8000000 in
set_option maxRecDepth 100000 in
theorem cr9_SameInts.calls (k : Nat) (A0 : Option Addr) (c0 : Nat) (l0 : List Int) (A1 : Option Addr) (c1 : Nat) (l1 : List Int) (r : Bool) (w : World) (hr0 : Kd.C (Kd.int .i64) w A0 l0.length l0) (hc0 : l0.length ≤ c0) (hr1 : Kd.C (Kd.int .i64) w A1 l1.length l1) (hc1 : l1.length ≤ c1) (h : cr9_SameInts.f k l0 l1 = some r) :
  Calls Try.prog 27 #[.slice A0 l0.length c0, .slice A1 l1.length c1] w fun e w' => e = .returned (.bool r) ∧ Drawn0 w w' := by
 have HR0 := Ai0.mk hr0;have HC0 := Ai0.mk hc0;clear hr0 hc0;have HR1 := Ai0.mk hr1;have HC1 := Ai0.mk hc1;clear hr1 hc1;have H : (if (l0.length : Int) = (l1.length : Int) then (cr9_SameInts.l0 k l0 l1 0) else (some false)) = some r := h;clear h;by_cases c3 : (l0.length : Int) = (l1.length : Int)
 ·rw [if_pos c3] at H;have c3b0 : ((l0.length : Int) == (l1.length : Int)) = true := beq_iff_eq.mpr c3;have c3b1 : ((l0.length : Int) != (l1.length : Int)) = false := bne_eq_false_iff_eq.mpr c3;have c3b2 : (l0.length == l1.length) = true := by first | simpa using c3 | (simp at c3 ⊢; omega)
  clear c3;have H' := Ai0.mk H;clear H;go_enter Try.func27, Try.ntmps27
  go_wp2
  repeat (go_quiet (fail); try go_wp2)
  go_loopg [5] k (fun kq v5 w' => ∃ (x5_1 : Int), v5 = .int .i64 x5_1 ∧ Ai0 (cr9_SameInts.l0 kq l0 l1 x5_1 = some r) ∧ Ai0 (kq ≤ k) ∧ Drawn0 w w')
  case atStart => exact ⟨(0), (by first | rfl | (simp; done) | (simp [*]; done)), H', ⟨Nat.le_refl _⟩, by repeat (first | exact Drawn0.refl _ | apply Drawn0.step)⟩
  case round =>
   clear H'
   try clear c1
   try clear c2
   try clear p2
   try clear c3
   try clear c3b0
   try clear c3b1
   try clear c3b2
   obtain ⟨x5_1, rfl, HA, HK1, ⟨m1, rfl⟩⟩ := hrel
   cases gk with
   | zero => exact absurd HA.out (by simp [cr9_SameInts.l0])
   | succ k1 =>
    have H := HA.out;clear HA;simp only [cr9_SameInts.l0] at H;by_cases c4 : x5_1 < (l0.length : Int)
    ·rw [if_pos c4] at H;have c4b0 : decide (x5_1 < (l0.length : Int)) = true := decide_eq_true c4;clear c4;by_cases c5 : 0 ≤ x5_1
     ·rw [if_pos c5] at H;have c5b0 : decide (0 ≤ x5_1) = true := decide_eq_true c5;clear c5;by_cases c6 : x5_1 < (l1.length : Int)
      ·rw [if_pos c6] at H;have c6b0 : decide (x5_1 < (l1.length : Int)) = true := decide_eq_true c6;clear c6;by_cases c7 : (rd l0 x5_1) = (rd l1 x5_1)
       ·rw [if_pos c7] at H;have c7b0 : ((rd l0 x5_1) == (rd l1 x5_1)) = true := beq_iff_eq.mpr c7;have c7b1 : ((rd l0 x5_1) != (rd l1 x5_1)) = false := bne_eq_false_iff_eq.mpr c7;clear c7;have H' := Ai0.mk H;clear H;have p127 : 0 ≤ (x5_1 : Int) := of_decide_eq_true (by first | (with_reducible assumption) | assumption);have q127 : x5_1 < (l0.length : Int) := of_decide_eq_true (by first | (with_reducible assumption) | assumption);obtain ⟨ad127, e127, hx127_0⟩ := Kd.at_int HR0.out x5_1 p127 q127;cases e127;replace p127 := eq_true p127;replace q127 := eq_true q127;have p128 : 0 ≤ (x5_1 : Int) := of_decide_eq_true (by first | (with_reducible assumption) | assumption);have q128 : x5_1 < (l1.length : Int) := of_decide_eq_true (by first | (with_reducible assumption) | assumption);obtain ⟨ad128, e128, hx128_0⟩ := Kd.at_int HR1.out x5_1 p128 q128;cases e128;replace p128 := eq_true p128;replace q128 := eq_true q128
        go_wp2
        repeat (go_quiet (fail); try go_wp2)
        go_roundg k1
        case measure => have := HK1.out; omega
        case rel => exact ⟨(wrap64 (x5_1 + 1)), (by first | rfl | (simp; done) | (simp [*]; done)), H', ⟨by have := HK1.out; omega⟩, by repeat (first | exact Drawn0.refl _ | apply Drawn0.step)⟩
       ·rw [if_neg c7] at H;have c7b0 : ((rd l0 x5_1) == (rd l1 x5_1)) = false := beq_eq_false_iff_ne.mpr c7;have c7b1 : ((rd l0 x5_1) != (rd l1 x5_1)) = true := bne_iff_ne.mpr c7;obtain rfl := Option.some.inj H;have p127 : 0 ≤ (x5_1 : Int) := of_decide_eq_true (by first | (with_reducible assumption) | assumption);have q127 : x5_1 < (l0.length : Int) := of_decide_eq_true (by first | (with_reducible assumption) | assumption);obtain ⟨ad127, e127, hx127_0⟩ := Kd.at_int HR0.out x5_1 p127 q127;cases e127;replace p127 := eq_true p127;replace q127 := eq_true q127;have p128 : 0 ≤ (x5_1 : Int) := of_decide_eq_true (by first | (with_reducible assumption) | assumption);have q128 : x5_1 < (l1.length : Int) := of_decide_eq_true (by first | (with_reducible assumption) | assumption);obtain ⟨ad128, e128, hx128_0⟩ := Kd.at_int HR1.out x5_1 p128 q128;cases e128;replace p128 := eq_true p128;replace q128 := eq_true q128
        go_wp2
        repeat (go_quiet (fail); try go_wp2)
        go_ret
        exact ⟨by first | rfl | (simp; done) | (simp [*]; done), by repeat (first | exact Drawn0.refl _ | apply Drawn0.step)⟩
      ·rw [if_neg c6] at H;exact absurd H (by simp)
     ·rw [if_neg c5] at H;exact absurd H (by simp)
    ·rw [if_neg c4] at H;have c4b0 : decide (x5_1 < (l0.length : Int)) = false := decide_eq_false c4;clear c4;obtain rfl := Option.some.inj H
     go_wp2
     repeat (go_quiet (fail); try go_wp2)
     go_ret
     exact ⟨by first | rfl | (simp; done) | (simp [*]; done), by repeat (first | exact Drawn0.refl _ | apply Drawn0.step)⟩
 ·rw [if_neg c3] at H;have c3b0 : ((l0.length : Int) == (l1.length : Int)) = false := beq_eq_false_iff_ne.mpr c3;have c3b1 : ((l0.length : Int) != (l1.length : Int)) = true := bne_iff_ne.mpr c3;have c3b2 : (l0.length == l1.length) = false := by first | simpa using c3 | (simp at c3 ⊢; omega)
  obtain rfl := Option.some.inj H;go_enter Try.func27, Try.ntmps27
  go_wp2
  repeat (go_quiet (fail); try go_wp2)
  go_ret
  exact ⟨by first | rfl | (simp; done) | (simp [*]; done), by repeat (first | exact Drawn0.refl _ | apply Drawn0.step)⟩
end Go.Proofs.Ytmclalniilkjiaa.Q
/- What the printed odd, Unsatisfied and the document's Odd, Unsatisfied, Word compute. Condition: Check finds no fault, the word has one bit for each column. -/
namespace Go.Proofs.Ytmclalniilkjiaa.Un
open Go.RowKit Go.Proofs.Ytmclalniilkjiaa.Q Go.Proofs.YtmclalniilkjiaaW.PrintWords Go.Proofs.YtmclalniilkjiaaW.PrintLast Go.Proofs.Ytmclalniilkjiaa.Ba Go.Proofs.Ytmclalniilkjiaa.Ck Go.Proofs.Ytmclalniilkjiaa.Gr

theorem same_self (a : List Int) (ha : a.length ≤ 4611686018427387904) : Ev (fun k => cr9_SameInts.f k a a) true := by
 have loop : ∀ d i : Nat, i + d = a.length → Ev (fun k => cr9_SameInts.l0 k a a (i : Int)) true := by
  intro d
  induction d with
  | zero => exact fun i h => Ev.step (f := fun _ => some true) (fun k => by simp only [cr9_SameInts.l0]; rw [if_neg (by omega)]) (Ev.now _)
  | succ d ih =>
   intro i h
   refine Ev.step (fun k => ?_) (ih (i + 1) (by omega))
   simp only [cr9_SameInts.l0]
   rw [if_pos (by omega), if_pos (by omega), if_pos (by omega), if_pos True.intro, w64_id (by omega) (by omega)]
   rfl
 exact Ev.congr (fun k => by unfold cr9_SameInts.f; rw [if_pos rfl]; rfl) (loop a.length 0 (by omega))

/-- The number of positions of check j at which the word has 1. -/
def par (rows : List (List Int)) (w : List Int) (C j : Nat) : Int := sumTo (fun i => if bit rows j i = true then rd w (i : Int) else 0) C
def od (rows : List (List Int)) (w : List Int) (C j : Nat) : Bool := Int.tmod (par rows w C j) 2 == 1
def uns (rows : List (List Int)) (w : List Int) (C n : Nat) : List Int := PG (fun j => (j : Int)) (od rows w C) n
theorem par_bound (rows : List (List Int)) {w : List Int} (hw : okb w = true) (C j : Nat) : 0 ≤ par rows w C j ∧ par rows w C j ≤ (C : Int) :=
 sumTo_01 _ _ (fun i _ => by rcases okb_at hw i with h | h <;> split <;> omega)
theorem odd_l0 {w : List Int} (hw : okb w = true) (l : List Int) (hl : l.length ≤ 256) (hin : ∀ t, t < l.length → 0 ≤ rd l (t : Int) ∧ rd l (t : Int) < (w.length : Int)) : ∀ d i : Nat, i + d = l.length →
  Ev (fun k => message_odd.l0 k w (sumTo (fun t => rd w (rd l (t : Int))) i) l (l.length : Int) (i : Int)) (Int.tmod (sumTo (fun t => rd w (rd l (t : Int))) l.length) 2 == 1)
 | 0, i, h => by
  obtain rfl : i = l.length := by omega
  refine Ev.step (f := fun _ => some _) (fun k => ?_) (Ev.now _)
  simp only [message_odd.l0]
  rw [if_neg (by omega)]
 | d + 1, i, h => by
  have ih := odd_l0 hw l hl hin d (i + 1) (by omega)
  have h1 := hin i (by omega)
  have hb : ∀ t, 0 ≤ rd w (rd l (t : Int)) ∧ rd w (rd l (t : Int)) ≤ 1 := by
   intro t
   by_cases ht : 0 ≤ rd l (t : Int)
   ·obtain ⟨m, hm⟩ := Int.eq_ofNat_of_zero_le ht
    rw [hm]
    rcases okb_at hw m with h | h
    ·show 0 ≤ rd w ((m : Nat) : Int) ∧ _; rw [h]; omega
    ·show 0 ≤ rd w ((m : Nat) : Int) ∧ _; rw [h]; omega
   ·have e : rd w (rd l (t : Int)) = rd w ((0 : Nat) : Int) := by
     show w.getD (rd l (t : Int)).toNat 0 = w.getD ((0 : Nat) : Int).toNat 0
     rw [Int.toNat_of_nonpos (by omega : rd l (t : Int) ≤ 0)]; rfl
    rw [e]
    rcases okb_at hw 0 with h | h
    ·rw [h]; omega
    ·rw [h]; omega
  have h2 := sumTo_01 (fun t => rd w (rd l (t : Int))) i (fun t _ => hb t)
  have h3 := hb i
  refine Ev.step (fun k => ?_) ih
  simp only [message_odd.l0]
  rw [if_pos (by omega), if_pos (by omega), if_pos (by omega), if_pos h1.1, if_pos h1.2, w64_id (n := (i : Int) + 1) (by omega) (by omega), w64_id (by omega) (by omega)]
  rfl
theorem one_in (rows : List (List Int)) (j C : Nat) (t : Nat) (h : t < (one rows j C).length) : 0 ≤ rd (one rows j C) (t : Int) ∧ rd (one rows j C) (t : Int) < (C : Int) := by
 obtain ⟨i, h1, _, h3⟩ := PG_mem _ _ _ _ (getD_mem (one rows j C) 0 t h)
 rw [rd_nat, h3]
 omega
theorem odd_ev (rows : List (List Int)) {w : List Int} (hw : okb w = true) (C j : Nat) (hC : C ≤ 256) (hlen : w.length = C) : Ev (fun k => message_odd.f k (one rows j C) w) (od rows w C j) := by
 have h := odd_l0 hw (one rows j C) (Nat.le_trans (one_le rows j C) hC) (fun t ht => by have := one_in rows j C t ht; omega) (one rows j C).length 0 (by omega)
 have e : sumTo (fun t => rd w (rd (one rows j C) (t : Int))) (one rows j C).length = par rows w C j := by
  have := sum_PG (fun x => rd w x) 0 (fun i => (i : Int)) (bit rows j) C
  rw [show par rows w C j = sumTo (fun i => if bit rows j i = true then rd w (i : Int) else 0) C from rfl, ← this]
  exact sumTo_congr _ _ _ (fun t _ => by rw [rd_nat]; rfl)
 rw [e] at h
 exact h
theorem rodd_l0 {w row : List Int} (hw : okb w = true) (hrow : okb row = true) (hn : row.length ≤ 256) (hlen : w.length = row.length) : ∀ d i : Nat, i + d = row.length →
  Ev (fun k => crM_Odd.l0 k row w (sumTo (fun t => rd row (t : Int) * rd w (t : Int)) i) (i : Int)) (Int.tmod (sumTo (fun t => rd row (t : Int) * rd w (t : Int)) row.length) 2 == 1)
 | 0, i, h => by
  obtain rfl : i = row.length := by omega
  refine Ev.step (f := fun _ => some _) (fun k => ?_) (Ev.now _)
  simp only [crM_Odd.l0]
  rw [if_neg (by omega)]
 | d + 1, i, h => by
  have ih := rodd_l0 hw hrow hn hlen d (i + 1) (by omega)
  have hb : ∀ t : Nat, 0 ≤ rd row (t : Int) * rd w (t : Int) ∧ rd row (t : Int) * rd w (t : Int) ≤ 1 := by
   intro t
   rcases okb_at hrow t with h | h <;> rcases okb_at hw t with h' | h' <;> rw [h, h'] <;> omega
  have h2 := sumTo_01 (fun t => rd row (t : Int) * rd w (t : Int)) i (fun t _ => hb t)
  have h3 := hb i
  refine Ev.step (fun k => ?_) ih
  simp only [crM_Odd.l0]
  rw [if_pos (by omega), if_pos (by omega), if_pos (by omega), w64_id (n := (i : Int) + 1) (by omega) (by omega), w64_id (n := rd row (i : Int) * rd w (i : Int)) (by omega) (by omega), w64_id (by omega) (by omega)]
  rfl
theorem rodd_ev (rows : List (List Int)) {w : List Int} (hw : okb w = true) (C j : Nat) (hC : C ≤ 256) (hlen : w.length = C) (hrow : okb (rows.getD j []) = true) (hrl : (rows.getD j []).length = C) :
  Ev (fun k => crM_Odd.f k (rows.getD j []) w) (od rows w C j) := by
 have h := rodd_l0 hw hrow (by omega) (by omega) (rows.getD j []).length 0 (by omega)
 have e : sumTo (fun t => rd (rows.getD j []) (t : Int) * rd w (t : Int)) (rows.getD j []).length = par rows w C j := by
  rw [hrl]
  refine sumTo_congr _ _ _ (fun t _ => ?_)
  rcases okb_at hrow t with h | h
  ·rw [h, if_neg (by unfold bit; rw [h]; decide)]; omega
  ·rw [h, if_pos (by unfold bit; rw [h]; rfl)]; omega
 rw [e] at h
 exact h
theorem uns_le (rows : List (List Int)) (w : List Int) (C n : Nat) : (uns rows w C n).length ≤ n := PG_le _ _ n
theorem checks_at (rows : List (List Int)) (C n j : Nat) (h : j < n) : rd_L1 (checks rows C n) (j : Int) = one rows j C := by rw [rd_L1_nat]; exact LL_at _ _ _ _ h
section
variable (rows : List (List Int)) {w : List Int} (hw : okb w = true) (C : Nat) (hC : C ≤ 256) (hlen : w.length = C) (hr : rows.length ≤ 256)
include hw hC hlen hr
theorem unsat_l0 : ∀ d j : Nat, j + d = rows.length → Ev (fun k => mg_unsatisfied.l0 k w (uns rows w C j) (checks rows C rows.length) (rows.length : Int) (j : Int)) (uns rows w C rows.length)
 | 0, j, h => by
  obtain rfl : j = rows.length := by omega
  refine Ev.step (f := fun _ => some _) (fun k => ?_) (Ev.now _)
  simp only [mg_unsatisfied.l0]
  rw [if_neg (by omega)]
 | d + 1, j, h => by
  have ih := unsat_l0 d (j + 1) (by omega)
  have hcl : (checks rows C rows.length).length = rows.length := LL_length _ _
  have hu := uns_le rows w C j
  refine Ev.step (f := fun k => (message_odd.f k (one rows j C) w).bind fun t => if t = true then (if (uns rows w C j).length < 17592186044416 then mg_unsatisfied.l0 k w (uns rows w C j ++ [(j : Int)]) (checks rows C rows.length) (rows.length : Int) (wrap64 ((j : Int) + 1)) else none) else mg_unsatisfied.l0 k w (uns rows w C j) (checks rows C rows.length) (rows.length : Int) (wrap64 ((j : Int) + 1))) (fun k => ?_) ?_
  ·simp only [mg_unsatisfied.l0]
   rw [if_pos (by omega), if_pos (by omega), if_pos (by omega), checks_at _ _ _ _ (by omega)]
  refine (odd_ev rows hw C j hC hlen).bind ?_
  rw [w64_id (by omega) (by omega)]
  by_cases ho : od rows w C j = true
  ·refine Ev.congr (fun k => if_pos ho) (Ev.congr (fun k => if_pos (by omega)) ?_)
   have e : uns rows w C (j + 1) = uns rows w C j ++ [(j : Int)] := by show (if od rows w C j = true then _ else _) = _; rw [if_pos ho]; rfl
   rw [← e]; exact ih
  ·refine Ev.congr (fun k => if_neg ho) ?_
   have e : uns rows w C (j + 1) = uns rows w C j := by show (if od rows w C j = true then _ else _) = _; rw [if_neg ho]; rfl
   rw [← e]; exact ih
theorem unsat_ev (ats : List (List S77)) : Ev (fun k => mg_unsatisfied.f k (checks rows C rows.length) ats w) (uns rows w C rows.length) := by
 have h := unsat_l0 rows hw C hC hlen hr rows.length 0 (by omega)
 have hcl : (checks rows C rows.length).length = rows.length := LL_length _ _
 refine Ev.congr (fun k => ?_) h
 unfold mg_unsatisfied.f
 rw [hcl]; rfl
theorem runsat_l0 (c : Int) (hrow : ∀ j, j < rows.length → okb (rows.getD j []) = true) (hrl : ∀ j, j < rows.length → (rows.getD j []).length = C) : ∀ d j : Nat, j + d = rows.length →
  Ev (fun k => crM_Unsatisfied.l0 k w (uns rows w C j) (j : Int) c rows) (uns rows w C rows.length)
 | 0, j, h => by
  obtain rfl : j = rows.length := by omega
  refine Ev.step (f := fun _ => some _) (fun k => ?_) (Ev.now _)
  simp only [crM_Unsatisfied.l0]
  rw [if_neg (by omega)]
 | d + 1, j, h => by
  have ih := runsat_l0 c hrow hrl d (j + 1) (by omega)
  have hu := uns_le rows w C j
  refine Ev.step (f := fun k => (crM_Odd.f k (rows.getD j []) w).bind fun t => if t = true then (if (uns rows w C j).length < 17592186044416 then crM_Unsatisfied.l0 k w (uns rows w C j ++ [(j : Int)]) (wrap64 ((j : Int) + 1)) c rows else none) else crM_Unsatisfied.l0 k w (uns rows w C j) (wrap64 ((j : Int) + 1)) c rows) (fun k => ?_) ?_
  ·simp only [crM_Unsatisfied.l0, rd_L1_nat]
   rw [if_pos (by omega), if_pos (by omega)]
  refine (rodd_ev rows hw C j hC hlen (hrow j (by omega)) (hrl j (by omega))).bind ?_
  rw [w64_id (by omega) (by omega)]
  by_cases ho : od rows w C j = true
  ·refine Ev.congr (fun k => if_pos ho) (Ev.congr (fun k => if_pos (by omega)) ?_)
   have e : uns rows w C (j + 1) = uns rows w C j ++ [(j : Int)] := by show (if od rows w C j = true then _ else _) = _; rw [if_pos ho]; rfl
   rw [← e]; exact ih
  ·refine Ev.congr (fun k => if_neg ho) ?_
   have e : uns rows w C (j + 1) = uns rows w C j := by show (if od rows w C j = true then _ else _) = _; rw [if_neg ho]; rfl
   rw [← e]; exact ih
theorem runsat_ev (c : Int) (hrow : ∀ j, j < rows.length → okb (rows.getD j []) = true) (hrl : ∀ j, j < rows.length → (rows.getD j []).length = C) : Ev (fun k => crM_Unsatisfied.f k c rows w) (uns rows w C rows.length) :=
 runsat_l0 rows hw C hC hlen hr c hrow hrl rows.length 0 (by omega)
end
theorem bits_l0 (l : List Int) (hl : l.length ≤ 256) : ∀ d i : Nat, i + d = l.length → Ev (fun k => message_bitsOf.l0 k l (l.length : Int) (i : Int)) (ent (l.drop i))
 | 0, i, h => by
  refine Ev.step (f := fun _ => some (ent (l.drop i))) (fun k => ?_) (Ev.now _)
  simp only [message_bitsOf.l0]
  rw [if_neg (by omega), List.drop_of_length_le (by omega)]; rfl
 | d + 1, i, h => by
  have ih := bits_l0 l hl d (i + 1) (by omega)
  by_cases hx : 0 ≤ rd l (i : Int) ∧ rd l (i : Int) < 2
  ·have e : ent (l.drop i) = ent (l.drop (i + 1)) := by
    unfold ent okb
    rw [drop_cons l 0 i (by omega), List.all_cons, ← rd_nat, decide_eq_true hx, Bool.true_and]
   rw [e]
   refine Ev.step (fun k => ?_) ih
   simp only [message_bitsOf.l0]
   rw [if_pos (by omega), if_pos (by omega), if_pos (by omega), w64_id (by omega) (by omega)]
   by_cases h0 : rd l (i : Int) = 0
   ·rw [if_pos h0]; rfl
   ·rw [if_neg h0, if_pos (by omega)]; rfl
  ·have e : ent (l.drop i) = 2 := by
    unfold ent okb
    rw [drop_cons l 0 i (by omega), List.all_cons, ← rd_nat, decide_eq_false hx, Bool.false_and]; rfl
   rw [e]
   refine Ev.step (f := fun _ => some 2) (fun k => ?_) (Ev.now _)
   simp only [message_bitsOf.l0]
   rw [if_pos (by omega), if_pos (by omega), if_pos (by omega), if_neg (by omega), if_neg (by omega)]
def wb (c : Int) (w : List Int) : Int := if (w.length : Int) = c then ent w else 4
theorem bitsOf_ev (c : Int) (hc : c ≤ 256) (rows : List (List Int)) (w : List Int) : Ev (fun k => message_bitsOf.f k c rows w) (wb c w) := by
 unfold message_bitsOf.f wb
 by_cases h : (w.length : Int) = c
 ·rw [if_pos h]; exact Ev.congr (fun k => if_pos h) (bits_l0 w (by omega) w.length 0 (by omega))
 ·rw [if_neg h]; exact Ev.congr (fun k => if_neg h) (Ev.now _)
/-- The error of a matrix and a word. -/
def wrd (c : Int) (rows : List (List Int)) (w : List Int) : Int := if chk c rows = 0 then wb c w else chk c rows
theorem word_ev (c : Int) (rows : List (List Int)) (w : List Int) : Ev (fun k => crM_Word.f k c rows w) (wrd c rows w) := by
 unfold crM_Word.f wrd wb
 refine Ev.bind (a := ((2 : Int), (1 : Int), ([] : List Int))) (Ev.now _) ?_
 refine (rCheck_ev c rows).bind ?_
 by_cases h : chk c rows = 0
 ·rw [if_pos h]
  have hk := chk_ok h
  refine Ev.congr (fun k => if_pos h) ?_
  by_cases h2 : (w.length : Int) = c
  ·rw [if_pos h2]
   refine Ev.congr (fun k => if_pos h2) (Ev.bind (a := ((2 : Int), (1 : Int), ([] : List Int))) (Ev.now _) ?_)
   exact Ev.bind (rentries_ev w (by omega)) (Ev.now _)
  ·rw [if_neg h2]; exact Ev.congr (fun k => if_neg h2) (Ev.now _)
 ·rw [if_neg h]; exact Ev.congr (fun k => if_neg h) (Ev.now _)
/-- What a matrix and a word without fault look like. -/
structure Ok (c : Int) (rows : List (List Int)) (w : List Int) (C : Nat) : Prop where
 k : chk c rows = 0
 c : c = (C : Int)
 hC : C ≤ 256
 hr : rows.length ≤ 256
 hrl : ∀ j, j < rows.length → (rows.getD j []).length = C
 hrow : ∀ j, j < rows.length → okb (rows.getD j []) = true
 hlen : w.length = C
 hw : okb w = true
theorem wrd_ok {c : Int} {rows : List (List Int)} {w : List Int} (h : wrd c rows w = 0) : ∃ C : Nat, Ok c rows w C := by
 unfold wrd at h
 split at h
 ·next hk =>
  obtain ⟨h0, h1, h2, h3, h4⟩ := chk_ok hk
  unfold wb at h
  split at h
  ·next hl =>
   unfold ent at h
   split at h
   ·next hb => exact ⟨c.toNat, hk, by omega, by omega, h2, fun j hj => by have := h3 j hj; omega, h4, by omega, hb⟩
   ·omega
  ·omega
 ·next hk => exact absurd h hk
theorem build_C {c : Int} {rows : List (List Int)} {w : List Int} {C : Nat} (h : Ok c rows w C) : Ev (fun k => message_build.f k c rows) (checks rows C rows.length, at_ rows C rows.length, 0) := by
 have := build_ok h.k
 rwa [show c.toNat = C by have := h.c; omega] at this
theorem bitsOf_C {c : Int} {rows : List (List Int)} {w : List Int} {C : Nat} (h : Ok c rows w C) : Ev (fun k => message_bitsOf.f k c rows w) 0 := by
 have e : wb c w = 0 := by unfold wb; rw [if_pos (by have := h.c; have := h.hlen; omega)]; unfold ent; rw [if_pos h.hw]
 rw [← e]
 exact bitsOf_ev c (by have := h.c; have := h.hC; omega) rows w
theorem Unsat_ok {c : Int} {rows : List (List Int)} {w : List Int} {C : Nat} (h : Ok c rows w C) : Ev (fun k => message_Unsatisfied.f k c rows w) (uns rows w C rows.length, 0) := by
 unfold message_Unsatisfied.f
 refine (build_C h).bind (Ev.congr (fun k => if_pos rfl) ((bitsOf_C h).bind (Ev.congr (fun k => if_pos rfl) ?_)))
 exact Ev.bind (unsat_ev rows h.hw C h.hC h.hlen h.hr _) (Ev.now _)
theorem rUnsat_ok {c : Int} {rows : List (List Int)} {w : List Int} {C : Nat} (h : Ok c rows w C) : Ev (fun k => crM_Unsatisfied.f k c rows w) (uns rows w C rows.length) :=
 runsat_ev rows h.hw C h.hC h.hlen h.hr c h.hrow h.hrl
end Go.Proofs.Ytmclalniilkjiaa.Un
namespace Go.Proofs.Ytmclalniilkjiaa.Q
open Go.RowKit Go.Proofs.YtmclalniilkjiaaW.PrintWords Go.Proofs.YtmclalniilkjiaaW.PrintLast Go.Proofs.YtmclalniilkjiaaW.PrintMore
open List renaming setIfInBounds_toArray → l01_, set_cons_zero → l02_, set_cons_succ → l03_
attribute [local go_sem] max2_int min2_int max_two min_two max_three min_three max_four min_four
set_option linter.unusedVariables false
set_option linter.unusedSimpArgs false
mutual
def mg_worst.l0 : Nat → List Bool → List (List (S77)) → Int → Int → Option (Int)
 | 0, _, _, _, _ => none
 | k + 1, x1, x13, x14, x15 => if x15 < x14 then (if 0 ≤ x15 then (if x15 < (x13.length : Int) then (mg_worst.l1 k x1 x15 0 x13 x14 x15 (rd_L9 x13 x15) ((rd_L9 x13 x15).length : Int) 0) else (none)) else (none)) else (some (-1))
def mg_worst.l1 : Nat → List Bool → Int → Int → List (List (S77)) → Int → Int → List (S77) → Int → Int → Option (Int)
 | 0, _, _, _, _, _, _, _, _, _ => none
 | k + 1, x1, x5, x7, x13, x14, x15, x20, x21, x22 => if x22 < x21 then (if 0 ≤ x22 then (if x22 < (x20.length : Int) then (if 0 ≤ ((rd_T77 x20 x22).f0) then (if ((rd_T77 x20 x22).f0) < (x1.length : Int) then (if rdOf false x1 ((rd_T77 x20 x22).f0) = true then (mg_worst.l1 k x1 x5 (wrap64 (x7 + 1)) x13 x14 x15 x20 x21 (wrap64 (x22 + 1))) else (mg_worst.l1 k x1 x5 (wrap64 (x7 - 1)) x13 x14 x15 x20 x21 (wrap64 (x22 + 1)))) else (none)) else (none)) else (none)) else (none)) else (if x7 > 0 then (some x5) else (mg_worst.l0 k x1 x13 x14 (wrap64 (x15 + 1))))
end
def mg_worst.f (k : Nat) (l0_0 : List (List Int)) (l0_1 : List (List (S77))) (l1 : List Bool) : Option (Int) := mg_worst.l0 k l1 l0_1 (l0_1.length : Int) 0
theorem mg_worst.mono_l : ∀ k, (∀ y0 y1 y2 y3, LeO (mg_worst.l0 k y0 y1 y2 y3) (mg_worst.l0 (k + 1) y0 y1 y2 y3)) ∧ (∀ y0 y1 y2 y3 y4 y5 y6 y7 y8, LeO (mg_worst.l1 k y0 y1 y2 y3 y4 y5 y6 y7 y8) (mg_worst.l1 (k + 1) y0 y1 y2 y3 y4 y5 y6 y7 y8))
 | 0 => ⟨fun _ _ _ _ r h => by simp [mg_worst.l0] at h, fun _ _ _ _ _ _ _ _ _ r h => by simp [mg_worst.l1] at h⟩
 | k + 1 => by
  obtain ⟨ih0, ih1⟩ := mg_worst.mono_l k;refine ⟨?_, ?_⟩
  ·intro y0 y1 y2 y3;unfold mg_worst.l0
   repeat' first
   | (with_reducible exact ih0 _ _ _ _)
   | (with_reducible exact ih1 _ _ _ _ _ _ _ _ _)
   | (with_reducible exact LeO.refl _)
   | (with_reducible exact LeO.none _)
   | (with_reducible refine LeO.ite ?_ ?_)
   | (with_reducible refine LeO.bind ?_ (fun _ => ?_))
   | exact ih0 _ _ _ _
   | exact ih1 _ _ _ _ _ _ _ _ _
   | exact LeO.none _
   | refine LeO.ite ?_ ?_
   | refine LeO.bind ?_ (fun _ => ?_)
  ·intro y0 y1 y2 y3 y4 y5 y6 y7 y8;unfold mg_worst.l1
   repeat' first
   | (with_reducible exact ih0 _ _ _ _)
   | (with_reducible exact ih1 _ _ _ _ _ _ _ _ _)
   | (with_reducible exact LeO.refl _)
   | (with_reducible exact LeO.none _)
   | (with_reducible refine LeO.ite ?_ ?_)
   | (with_reducible refine LeO.bind ?_ (fun _ => ?_))
   | exact ih0 _ _ _ _
   | exact ih1 _ _ _ _ _ _ _ _ _
   | exact LeO.none _
   | refine LeO.ite ?_ ?_
   | refine LeO.bind ?_ (fun _ => ?_)
theorem mg_worst.mono : ∀ a0 a1 a2 k, LeO (mg_worst.f k a0 a1 a2) (mg_worst.f (k + 1) a0 a1 a2) := by
 intro a0 a1 a2 k;obtain ⟨ih0, ih1⟩ := mg_worst.mono_l k;unfold mg_worst.f
 repeat' first
   | (with_reducible exact ih0 _ _ _ _)
   | (with_reducible exact ih1 _ _ _ _ _ _ _ _ _)
   | (with_reducible exact LeO.refl _)
   | (with_reducible exact LeO.none _)
   | (with_reducible refine LeO.ite ?_ ?_)
   | (with_reducible refine LeO.bind ?_ (fun _ => ?_))
   | exact ih0 _ _ _ _
   | exact ih1 _ _ _ _ _ _ _ _ _
   | exact LeO.none _
   | refine LeO.ite ?_ ?_
   | refine LeO.bind ?_ (fun _ => ?_)
set_option maxHeartbeats 8000000 in
set_option maxRecDepth 100000 in
theorem mg_worst.calls (k : Nat) (A0_0 : Option Addr) (c0_0 : Nat) (l0_0 : List (List Int)) (A0_1 : Option Addr) (c0_1 : Nat) (l0_1 : List (List (S77))) (A1 : Option Addr) (c1 : Nat) (l1 : List Bool) (r : Int) (gG : Nat) (w : World) (hr0_0 : Kd.C (Kd.slice 3 (Kd.int .i64)) w A0_0 l0_0.length l0_0) (hc0_0 : l0_0.length ≤ c0_0) (hr0_1 : Kd.C (Kd.slice 77 k77) w A0_1 l0_1.length l0_1) (hc0_1 : l0_1.length ≤ c0_1) (hr1 : Kd.C Kd.bool w A1 l1.length l1) (hc1 : l1.length ≤ c1) (hG : w.heap[gG]? = some (.cells #[.slice A0_0 l0_0.length c0_0, .slice A0_1 l0_1.length c0_1] 73 (0, 0))) (h : mg_worst.f k l0_0 l0_1 l1 = some r) :
  Calls Try.prog 53 #[.pointer (some ⟨gG, 0, none⟩), .slice A1 l1.length c1] w fun e w' => e = .returned (.int .i64 r) ∧ Below w.heap.size w w' := by
 have hu73 := Try.underlying73;have hu77 := Try.underlying77;have HR0_0 := Ai0.mk hr0_0;have HC0_0 := Ai0.mk hc0_0;clear hr0_0 hc0_0;have HR0_1 := Ai0.mk hr0_1;have HC0_1 := Ai0.mk hc0_1;clear hr0_1 hc0_1;have HR1 := Ai0.mk hr1;have HC1 := Ai0.mk hc1;clear hr1 hc1;have HB := Ai0.mk (Below.refl w.heap.size w);have H : (mg_worst.l0 k l1 l0_1 (l0_1.length : Int) 0) = some r := h;clear h;have H' := Ai0.mk H;clear H;have BK280 := Ai0.mk hG;have hcz4_0 : w.cell? ⟨gG, 0, none⟩ = some (.slice A0_0 l0_0.length c0_0) := (kc1 BK280.out 0).trans rfl;have hcz4_1 : w.cell? ⟨gG, 1, none⟩ = some (.slice A0_1 l0_1.length c0_1) := (kc1 BK280.out 1).trans rfl;have hfz4_0 := kf1 BK280.out 0;have hfz4_1 := kf1 BK280.out 1;go_enter Try.func53, Try.ntmps53
 go_wp2
 go_loopg [15] k (fun kq v15 w' => ∃ (x15_1 : Int), v15 = .int .i64 x15_1 ∧ Ai0 (mg_worst.l0 kq l1 l0_1 (l0_1.length : Int) x15_1 = some r) ∧ Ai0 (kq ≤ k) ∧ Ai0 (w'.heap[gG]? = some (.cells #[(.slice A0_0 l0_0.length c0_0), (.slice A0_1 l0_1.length c0_1)] 73 (0, 0))) ∧ Ai0 (Below w.heap.size w w'))
 case atStart => exact ⟨(0), (by first | rfl | (simp; done) | (simp [*]; done)), H', ⟨Nat.le_refl _⟩, ⟨by (with_reducible repeat (first | refine kn1 ?_ _ | refine kd1 ?_ | refine ka1 ?_ _)); exact BK280.out⟩, ⟨by repeat (first | (with_reducible first | exact HB.out | apply ba1 | apply pbN | apply bw1) | exact HB.out)⟩⟩
 case round =>
  clear H'
  try clear c1
  try clear p2
  try clear hcz4_0
  try clear hcz4_1
  try clear hfz4_0
  try clear hfz4_1
  obtain ⟨x15_1, rfl, HA, HK1, BK280, HB⟩ := hrel
  cases gk with
  | zero => exact absurd HA.out (by simp [mg_worst.l0])
  | succ k1 =>
   have H := HA.out;clear HA;simp only [mg_worst.l0] at H;by_cases c5 : x15_1 < (l0_1.length : Int)
   ·rw [if_pos c5] at H;have c5b0 : decide (x15_1 < (l0_1.length : Int)) = true := decide_eq_true c5;clear c5;by_cases c6 : 0 ≤ x15_1
    ·rw [if_pos c6] at H;have c6b0 : decide (0 ≤ x15_1) = true := decide_eq_true c6;clear c6;by_cases c7 : x15_1 < (l0_1.length : Int)
     ·rw [if_pos c7] at H;have c7b0 : decide (x15_1 < (l0_1.length : Int)) = true := decide_eq_true c7;clear c7;have H' := Ai0.mk H;clear H;have p281 : 0 ≤ (x15_1 : Int) := of_decide_eq_true (by first | (with_reducible assumption) | assumption);have q281 : x15_1 < (l0_1.length : Int) := of_decide_eq_true (by first | (with_reducible assumption) | assumption);obtain ⟨ad281, A281_0, c281_0, e281, hx281_0, hl281_0, hi281_0⟩ := at_L9 HR0_1.out x15_1 p281 q281;cases e281;replace hx281_0 := (HB.out.cell (World.block_lt_of_cell? w _ hx281_0)).trans hx281_0;have HR281_0 := Ai0.mk hi281_0;have HC281_0 := Ai0.mk hl281_0;clear hi281_0 hl281_0;replace p281 := eq_true p281;replace q281 := eq_true q281
      go_wp2
      go_loopg [7, 22] k1 (fun kq v7 v22 w' => ∃ (x7_2 : Int) (x22_2 : Int), v7 = .int .i64 x7_2 ∧ v22 = .int .i64 x22_2 ∧ Ai0 (mg_worst.l1 kq l1 x15_1 x7_2 l0_1 (l0_1.length : Int) x15_1 (rd_L9 l0_1 x15_1) ((rd_L9 l0_1 x15_1).length : Int) x22_2 = some r) ∧ Ai0 (kq ≤ k1) ∧ Ai0 (w'.heap[gG]? = some (.cells #[(.slice A0_0 l0_0.length c0_0), (.slice (some ad281) l0_1.length c0_1)] 73 (0, 0))) ∧ Ai0 (Below w.heap.size w w'))
      case atStart => exact ⟨(0), (0), (by first | rfl | (simp; done) | (simp [*]; done)), (by first | rfl | (simp; done) | (simp [*]; done)), H', ⟨Nat.le_refl _⟩, ⟨by (with_reducible repeat (first | refine kn1 ?_ _ | refine kd1 ?_ | refine ka1 ?_ _)); exact BK280.out⟩, ⟨by repeat (first | (with_reducible first | exact HB.out | apply ba1 | apply pbN | apply bw1) | exact HB.out)⟩⟩
      case round =>
       clear H'
       try clear c1
       try clear c2
       try clear p2
       try clear q2
       try clear hx2
       try clear c5
       try clear c5b0
       try clear c6
       try clear c6b0
       try clear c7
       try clear c7b0
       try clear hcz4_0
       try clear hcz4_1
       try clear hfz4_0
       try clear hfz4_1
       try clear hx281_0
       try clear p2
       try clear p281
       try clear q281
       obtain ⟨x7_2, x22_2, rfl, rfl, HA, HK2, BK280, HB⟩ := hrel
       cases gk with
       | zero => exact absurd HA.out (by simp [mg_worst.l1])
       | succ k2 =>
        have H := HA.out;clear HA;simp only [mg_worst.l1] at H;by_cases c8 : x22_2 < ((rd_L9 l0_1 x15_1).length : Int)
        ·rw [if_pos c8] at H;have c8b0 : decide (x22_2 < ((rd_L9 l0_1 x15_1).length : Int)) = true := decide_eq_true c8;clear c8;by_cases c9 : 0 ≤ x22_2
         ·rw [if_pos c9] at H;have c9b0 : decide (0 ≤ x22_2) = true := decide_eq_true c9;clear c9;by_cases c10 : x22_2 < ((rd_L9 l0_1 x15_1).length : Int)
          ·rw [if_pos c10] at H;have c10b0 : decide (x22_2 < ((rd_L9 l0_1 x15_1).length : Int)) = true := decide_eq_true c10;clear c10;by_cases c11 : 0 ≤ ((rd_T77 (rd_L9 l0_1 x15_1) x22_2).f0)
           ·rw [if_pos c11] at H;have c11b0 : decide (0 ≤ ((rd_T77 (rd_L9 l0_1 x15_1) x22_2).f0)) = true := decide_eq_true c11;clear c11;by_cases c12 : ((rd_T77 (rd_L9 l0_1 x15_1) x22_2).f0) < (l1.length : Int)
            ·rw [if_pos c12] at H;have c12b0 : decide (((rd_T77 (rd_L9 l0_1 x15_1) x22_2).f0) < (l1.length : Int)) = true := decide_eq_true c12;clear c12;(obtain ⟨bq13, hbq13⟩ : ∃ b_ : Bool, b_ = (rdOf false l1 ((rd_T77 (rd_L9 l0_1 x15_1) x22_2).f0)) := ⟨_, rfl⟩);(replace H : (if bq13 = true then (mg_worst.l1 k2 l1 x15_1 (wrap64 (x7_2 + 1)) l0_1 (l0_1.length : Int) x15_1 (rd_L9 l0_1 x15_1) ((rd_L9 l0_1 x15_1).length : Int) (wrap64 (x22_2 + 1))) else (mg_worst.l1 k2 l1 x15_1 (wrap64 (x7_2 - 1)) l0_1 (l0_1.length : Int) x15_1 (rd_L9 l0_1 x15_1) ((rd_L9 l0_1 x15_1).length : Int) (wrap64 (x22_2 + 1)))) = some r := by rw [← hbq13] at H; exact H);have Nbq13 := Ai0.mk hbq13;clear hbq13;by_cases c14 : bq13 = true
             case' pos =>
              subst c14;have H1 : (mg_worst.l1 k2 l1 x15_1 (wrap64 (x7_2 + 1)) l0_1 (l0_1.length : Int) x15_1 (rd_L9 l0_1 x15_1) ((rd_L9 l0_1 x15_1).length : Int) (wrap64 (x22_2 + 1))) = some r := by rw [if_pos rfl] at H; exact H
             case' neg =>
              replace c14 := Bool.eq_false_iff.mpr c14;subst c14;have H1 : (mg_worst.l1 k2 l1 x15_1 (wrap64 (x7_2 - 1)) l0_1 (l0_1.length : Int) x15_1 (rd_L9 l0_1 x15_1) ((rd_L9 l0_1 x15_1).length : Int) (wrap64 (x22_2 + 1))) = some r := by rw [if_neg (show ¬ (false = true) by decide)] at H; exact H
             all_goals
              clear H;have H := H1;clear H1;have H' := Ai0.mk H;clear H;have p282 : 0 ≤ (x22_2 : Int) := of_decide_eq_true (by first | (with_reducible assumption) | assumption);have q282 : x22_2 < ((rd_L9 l0_1 x15_1).length : Int) := of_decide_eq_true (by first | (with_reducible assumption) | assumption);obtain ⟨ad282, e282, hx282_0, hx282_1⟩ := at_T77 HR281_0.out x22_2 p282 q282;cases e282;replace hx282_0 := (HB.out.cell (World.block_lt_of_cell? w _ hx282_0)).trans hx282_0;replace hx282_1 := (HB.out.cell (World.block_lt_of_cell? w _ hx282_1)).trans hx282_1;replace p282 := eq_true p282;replace q282 := eq_true q282
              go_wp2_with (first | ((with_reducible refine gate_dst (N := 9) rfl ?_); refine box_event ?hg (N := 9) ?hd (cs := #[.int .i64 0, .int .i64 0]) (t := 77) ?hr ?_; (case hd => rfl); (case hg => rfl); (case hr => first | (go_simp; done) | (go_simp; rfl)); intro gb283 hg w15 hbox hb; have n0_ := Ai0.mk (kb1 (g := gG) (o := .cells #[.slice A0_0 l0_0.length c0_0, .slice (some ad281) l0_1.length c0_1] 73 (0, 0)) (by (with_reducible repeat (first | refine kn1 ?_ _ | refine kd1 ?_ | refine ka1 ?_ _)); exact BK280.out) hb); have n1_ := Ai0.mk (bt1 (by repeat (first | (with_reducible first | exact HB.out | apply ba1 | apply pbN | apply bw1) | exact HB.out)) hb); have n2_ := Ai0.mk (hbox); have n3_ := Ai0.mk ((by rw [hg]; exact (bz1 (by repeat (first | (with_reducible first | exact HB.out | apply ba1 | apply pbN | apply bw1) | exact HB.out))) : w.heap.size ≤ gb283)); have n4_ := Ai0.mk ((by rw [hg]; exact (bz1 (by repeat (first | (with_reducible first | exact HB.out | apply ba1 | apply pbN | apply bw1) | exact HB.out))) : w.heap.size ≤ gb283)); have n5_ := Ai0.mk ((by rw [hg]; exact Nat.ne_of_lt (blk_lt (g := gG) (o := .cells #[.slice A0_0 l0_0.length c0_0, .slice (some ad281) l0_1.length c0_1] 73 (0, 0)) (by (with_reducible repeat (first | refine kn1 ?_ _ | refine kd1 ?_ | refine ka1 ?_ _)); exact BK280.out)) : gG ≠ gb283)); have n6_ := Ai0.mk ((by rw [hg]; exact Nat.ne_of_gt (blk_lt (g := gG) (o := .cells #[.slice A0_0 l0_0.length c0_0, .slice (some ad281) l0_1.length c0_1] 73 (0, 0)) (by (with_reducible repeat (first | refine kn1 ?_ _ | refine kd1 ?_ | refine ka1 ?_ _)); exact BK280.out)) : gb283 ≠ gG)); clear BK280; clear HB; have BK280 := n0_; have HB := n1_; have BK283 := n2_; have GW283 := n3_; have GE283 := n4_; have NB280_283 := n5_; have NB283_280 := n6_; clear n0_ n1_ n2_ n3_ n4_ n5_ n6_; clear hb hbox hg; have hnb16 := NB283_280.out; have hnc16 := NB280_283.out; have hcz17_0 : w15.cell? ⟨gb283, 0, none⟩ = some (.int .i64 0) := (kc1 BK283.out 0).trans rfl; have hcz17_1 : w15.cell? ⟨gb283, 1, none⟩ = some (.int .i64 0) := (kc1 BK283.out 1).trans rfl; have hfz17_0 := kf1 BK283.out 0; have hfz17_1 := kf1 BK283.out 1; have p284 : 0 ≤ (((rd_T77 (rd_L9 l0_1 x15_1) x22_2).f0) : Int) := of_decide_eq_true (by first | (with_reducible assumption) | assumption); have q284 : ((rd_T77 (rd_L9 l0_1 x15_1) x22_2).f0) < (l1.length : Int) := of_decide_eq_true (by first | (with_reducible assumption) | assumption); obtain ⟨ad284, e284, hx284_0⟩ := Kd.at_bool HR1.out ((rd_T77 (rd_L9 l0_1 x15_1) x22_2).f0) p284 q284; (try rw [← Nbq13.out] at hx284_0); cases e284; have hn284_0 : ad284.block ≠ gb283 := Nat.ne_of_lt (Nat.lt_of_lt_of_le (by have := World.block_lt_of_cell? _ _ hx284_0; first | rwa [add_block] at this | exact this) GW283.out); have hn284_1 : ad284.block ≠ gb283 := Nat.ne_of_lt (Nat.lt_of_lt_of_le (by have := World.block_lt_of_cell? _ _ hx284_0; first | rwa [add_block] at this | exact this) GW283.out); replace hx284_0 := (HB.out.cell (World.block_lt_of_cell? w _ hx284_0)).trans hx284_0; replace hx284_0 := (cell_far (p := ⟨gb283, 0, none⟩) (by first | (rw [add_block]; exact hn284_0) | (show (Addr.add _ _).block ≠ _; rw [add_block]; exact hn284_0) | exact hn284_0) (.int .i64 ((rd_T77 (rd_L9 l0_1 x15_1) x22_2).f0))).trans hx284_0; replace hx284_0 := (cell_far (p := ⟨gb283, 1, none⟩) (by first | (rw [add_block]; exact hn284_1) | (show (Addr.add _ _).block ≠ _; rw [add_block]; exact hn284_1) | exact hn284_1) (.int .i64 ((rd_T77 (rd_L9 l0_1 x15_1) x22_2).f1))).trans hx284_0; clear hn284_0; clear hn284_1; replace p284 := eq_true p284; replace q284 := eq_true q284))
             ·go_roundg k2
              case measure => have := HK1.out; have := HK2.out; omega
              case rel => exact ⟨(wrap64 (x7_2 - 1)), (wrap64 (x22_2 + 1)), (by first | rfl | (simp; done) | (simp [*]; done)), (by first | rfl | (simp; done) | (simp [*]; done)), H', ⟨by have := HK1.out; have := HK2.out; omega⟩, ⟨by (with_reducible repeat (first | refine kn1 ?_ _ | refine kd1 ?_ | refine ka1 ?_ _)); refine blk_far ?_ NB280_283.out _; (with_reducible repeat (first | refine kn1 ?_ _ | refine kd1 ?_ | refine ka1 ?_ _)); refine blk_far ?_ NB280_283.out _; (with_reducible repeat (first | refine kn1 ?_ _ | refine kd1 ?_ | refine ka1 ?_ _)); exact BK280.out⟩, ⟨by repeat (first | (with_reducible first | exact HB.out | apply ba1 | apply pbN | apply bw1 | refine bs1 ?_ GE283.out) | exact HB.out)⟩⟩
             ·go_roundg k2
              case measure => have := HK1.out; have := HK2.out; omega
              case rel => exact ⟨(wrap64 (x7_2 + 1)), (wrap64 (x22_2 + 1)), (by first | rfl | (simp; done) | (simp [*]; done)), (by first | rfl | (simp; done) | (simp [*]; done)), H', ⟨by have := HK1.out; have := HK2.out; omega⟩, ⟨by (with_reducible repeat (first | refine kn1 ?_ _ | refine kd1 ?_ | refine ka1 ?_ _)); refine blk_far ?_ NB280_283.out _; (with_reducible repeat (first | refine kn1 ?_ _ | refine kd1 ?_ | refine ka1 ?_ _)); refine blk_far ?_ NB280_283.out _; (with_reducible repeat (first | refine kn1 ?_ _ | refine kd1 ?_ | refine ka1 ?_ _)); exact BK280.out⟩, ⟨by repeat (first | (with_reducible first | exact HB.out | apply ba1 | apply pbN | apply bw1 | refine bs1 ?_ GE283.out) | exact HB.out)⟩⟩
            ·rw [if_neg c12] at H;exact absurd H (by simp)
           ·rw [if_neg c11] at H;exact absurd H (by simp)
          ·rw [if_neg c10] at H;exact absurd H (by simp)
         ·rw [if_neg c9] at H;exact absurd H (by simp)
        ·rw [if_neg c8] at H;have c8b0 : decide (x22_2 < ((rd_L9 l0_1 x15_1).length : Int)) = false := decide_eq_false c8;clear c8;by_cases c21 : x7_2 > 0
         ·rw [if_pos c21] at H;have c21b0 : decide (0 < x7_2) = true := decide_eq_true c21;clear c21;obtain rfl := Option.some.inj H
          go_wp2
          go_ret
          exact ⟨by first | rfl | (simp [eW0, eW1] <;> rfl) | (simp [*, eW0, eW1] <;> rfl), by repeat (first | (with_reducible first | exact HB.out | apply ba1 | apply pbN | apply bw1) | exact HB.out)⟩
         ·rw [if_neg c21] at H;have c21b0 : decide (0 < x7_2) = false := decide_eq_false c21;clear c21;have H' := Ai0.mk H;clear H
          go_wp2
          go_roundg k2
          case measure => have := HK1.out; have := HK2.out; omega
          case rel => exact ⟨(wrap64 (x15_1 + 1)), (by first | rfl | (simp; done) | (simp [*]; done)), H', ⟨by have := HK1.out; have := HK2.out; omega⟩, ⟨by (with_reducible repeat (first | refine kn1 ?_ _ | refine kd1 ?_ | refine ka1 ?_ _)); exact BK280.out⟩, ⟨by repeat (first | (with_reducible first | exact HB.out | apply ba1 | apply pbN | apply bw1) | exact HB.out)⟩⟩
     ·rw [if_neg c7] at H;exact absurd H (by simp)
    ·rw [if_neg c6] at H;exact absurd H (by simp)
   ·rw [if_neg c5] at H;have c5b0 : decide (x15_1 < (l0_1.length : Int)) = false := decide_eq_false c5;clear c5;obtain rfl := Option.some.inj H
    go_wp2
    go_ret
    exact ⟨by first | rfl | (simp [eW0, eW1] <;> rfl) | (simp [*, eW0, eW1] <;> rfl), by repeat (first | (with_reducible first | exact HB.out | apply ba1 | apply pbN | apply bw1) | exact HB.out)⟩
end Go.Proofs.Ytmclalniilkjiaa.Q
