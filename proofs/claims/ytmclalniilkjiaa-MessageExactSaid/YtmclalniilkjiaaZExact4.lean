-- Joined by pack.py, a program of this work: Rp Qx37 Be Qx41 Qx42 Ex Qx38 Ff Qx26 Fw Qx24 Qx25 Qx88 PureMessageExact
import Derived.Test.YtmclalniilkjiaaZExact3
import Derived.Test.YtmclalniilkjiaaZExact0
import Derived.Test.YtmclalniilkjiaaZExact2
/- What the printed messages, round, beliefs and Beliefs compute. Condition: the matrix and the inputs have no fault. -/
namespace Go.Proofs.Ytmclalniilkjiaa.Rp
open Go.RowKit Go.Proofs.Ytmclalniilkjiaa.Q Go.Proofs.YtmclalniilkjiaaW.PrintWords Go.Proofs.YtmclalniilkjiaaW.PrintLast Go.Proofs.YtmclalniilkjiaaW.PrintMore Go.Proofs.Ytmclalniilkjiaa.Ba Go.Proofs.Ytmclalniilkjiaa.Ck Go.Proofs.Ytmclalniilkjiaa.Gr Go.Proofs.Ytmclalniilkjiaa.Un Go.Proofs.Ytmclalniilkjiaa.Fl Go.Proofs.Ytmclalniilkjiaa.Ms Go.Proofs.Ytmclalniilkjiaa.Rv

theorem checks_len (rows : List (List Int)) (C n : Nat) : (checks rows C n).length = n := LL_length _ _
section
variable (rows : List (List Int)) (C : Nat) (hr : rows.length ≤ 256) (hC : C ≤ 256)
include hr hC
theorem messages_l0 : ∀ d j : Nat, j + d = rows.length →
  Ev (fun k => mg_messages.l0 k (LL j (fun j => PG (fun _ => 0) (bit rows j) C)) (checks rows C rows.length) (rows.length : Int) (j : Int)) (dn rows C (fun _ _ => 0))
 | 0, j, h => by
  obtain rfl : j = rows.length := by omega
  refine Ev.step (f := fun _ => some _) (fun k => ?_) (Ev.now _)
  simp only [mg_messages.l0]
  rw [if_neg (by omega)]
  rfl
 | d + 1, j, h => by
  have ih := messages_l0 d (j + 1) (by omega)
  have hcl := checks_len rows C rows.length
  have h1 := checks_at rows C rows.length j (by omega)
  have hle := one_le rows j C
  have hll : (LL j (fun j => PG (fun _ => (0 : Int)) (bit rows j) C)).length = j := LL_length _ _
  rw [LL_succ] at ih
  refine Ev.step (fun k => ?_) ih
  simp only [mg_messages.l0]
  rw [if_pos (by omega), if_pos (by omega), if_pos (by omega), h1, if_pos (by omega), if_pos (by omega), if_pos (by omega), w64_id (by omega) (by omega), Int.toNat_natCast]
  rw [show (one rows j C).length = (PG (fun _ => (0 : Int)) (bit rows j) C).length from PG_lenp _ _ _ _, PG_rep]
  rfl
theorem messages_ev (ats : List (List S77)) : Ev (fun k => mg_messages.f k (checks rows C rows.length) ats) (dn rows C (fun _ _ => 0)) := by
 have h := messages_l0 rows C hr hC rows.length 0 (by omega)
 refine Ev.congr (fun k => ?_) h
 unfold mg_messages.f
 rw [checks_len]
 rfl
end
section
variable (rows : List (List Int)) (C : Nat) (inp : List Int) (F : Nat → Nat → Int) (hr : rows.length ≤ 256) (hC : C ≤ 256) (hlen : inp.length = C) (hB : Bd F) (hI : Bi inp)
/-- Row j's messages, those of the positions below n. -/
def pre (rows : List (List Int)) (C : Nat) (v : Nat → Int) (j n : Nat) : List Int := PG (fun i => if i < n then v i else 0) (bit rows j) C
theorem pre_len (v : Nat → Int) (j n : Nat) : (pre rows C v j n).length = (one rows j C).length := PG_lenp _ _ _ _
theorem pre_skip (v : Nat → Int) (j n : Nat) (hb : ¬ bit rows j n = true) : pre rows C v j (n + 1) = pre rows C v j n :=
 PG_ext _ _ _ _ (fun i _ hi => by
  by_cases h : i < n
  ·rw [if_pos h, if_pos (by omega)]
  ·have : i ≠ n := fun e => hb (e ▸ hi)
   rw [if_neg h, if_neg (by omega)])
theorem pre_set (v : Nat → Int) (j n : Nat) (hn : n < C) (hb : bit rows j n = true) : (pre rows C v j n).set (one rows j n).length (v n) = pre rows C v j (n + 1) := by
 have hl : (one rows j n).length = (PG (fun i => if i < n then v i else 0) (bit rows j) n).length := PG_lenp _ _ _ _
 unfold pre
 rw [hl, PG_set _ _ n (v n) hb C hn]
 refine PG_ext _ _ _ _ (fun i _ _ => ?_)
 show (if i = n then v n else if i < n then v i else 0) = if i < n + 1 then v i else 0
 by_cases e : i = n
 ·subst e; rw [if_pos rfl, if_pos (by omega)]
 ·rw [if_neg e]
  by_cases h : i < n
  ·rw [if_pos h, if_pos (by omega)]
  ·rw [if_neg h, if_neg (by omega)]
theorem pre_0 (v : Nat → Int) (j : Nat) : pre rows C v j 0 = PG (fun _ => 0) (bit rows j) C := PG_ext _ _ _ _ (fun _ _ _ => if_neg (by omega))
theorem pre_C (v : Nat → Int) (j : Nat) : pre rows C v j C = PG v (bit rows j) C := PG_ext _ _ _ _ (fun _ hi _ => if_pos hi)
theorem idx_lt (j n : Nat) (hn : n < C) (hb : bit rows j n = true) : (one rows j n).length < (one rows j C).length := PG_lt _ _ n hb C hn
theorem idx_succ (j n : Nat) (hb : bit rows j n = true) : (one rows j (n + 1)).length = (one rows j n).length + 1 := by
 show (PG _ _ (n + 1)).length = _
 rw [PG_succ hb, List.length_append, List.length_singleton]; rfl
theorem idx_skip (j n : Nat) (hb : ¬ bit rows j n = true) : one rows j (n + 1) = one rows j n := PG_skip hb
include hr hC
/-- The signs and sizes are written into row j. -/
theorem rnd_l2 {r : List (List Int)} (j : Nat) (hj : j < rows.length) (down : List (List Int)) (base : List (List Int)) (hbl : base.length = rows.length) (u : Nat → Int) (f s a m : Int) (hS : Stt rows u j C f s a m) (hu : ∀ i, -1099511627776 ≤ u i ∧ u i ≤ 1099511627776)
  (ih : Ev (fun k => mg_round.l0 k inp down (base.set j (PG (fun i => rv u (bit rows j) i C) (bit rows j) C)) (checks rows C rows.length) (rows.length : Int) ((j + 1 : Nat) : Int) (checks rows C rows.length) (at_ rows C rows.length)) r) : ∀ d n : Nat, n + d = C →
  Ev (fun k => mg_round.l2 k inp down (base.set j (pre rows C (fun i => rv u (bit rows j) i C) j n)) (j : Int) f s a m (PG u (bit rows j) C) (checks rows C rows.length) (rows.length : Int) (j : Int) ((one rows j C).length : Int) ((one rows j n).length : Int) (checks rows C rows.length) (at_ rows C rows.length)) r
 | 0, n, h => by
  obtain rfl : n = C := by omega
  rw [pre_C]
  refine Ev.step (fun k => ?_) ih
  simp only [mg_round.l2]
  rw [if_neg (by omega), w64_id (by omega) (by omega)]
  rfl
 | d + 1, n, h => by
  have ih2 := rnd_l2 j hj down base hbl u f s a m hS hu ih d (n + 1) (by omega)
  by_cases hb : bit rows j n = true
  ·have hlt := idx_lt rows C j n (by omega) hb
   have hle := one_le rows j C
   have hul : (PG u (bit rows j) C).length = (one rows j C).length := PG_lenp _ _ _ _
   have hv : rd (PG u (bit rows j) C) ((one rows j n).length : Int) = u n := by
    rw [rd_nat, show (one rows j n).length = (PG u (bit rows j) n).length from PG_lenp _ _ _ _]
    exact PG_at 0 _ _ n hb C (by omega)
   obtain ⟨h1, h2⟩ := Stt_out hS n (by omega) hb
   have h3 := mg_bound u (bit rows j) n C
   have h4 := ng_bound u (bit rows j) n C
   have h5 := rv_eq u (bit rows j) n C
   rw [idx_succ rows j n hb] at ih2
   have hsl : (base.set j (pre rows C (fun i => rv u (bit rows j) i C) j n)).length = rows.length := by rw [List.length_set]; exact hbl
   have hrow : rd_L1 (base.set j (pre rows C (fun i => rv u (bit rows j) i C) j n)) (j : Int) = pre rows C (fun i => rv u (bit rows j) i C) j n := by
    rw [rd_L1_nat, List.getD_eq_getElem?_getD, List.getElem?_set_self (by omega)]; rfl
   have hpl := pre_len rows C (fun i => rv u (bit rows j) i C) j n
   have hset : (base.set j (pre rows C (fun i => rv u (bit rows j) i C) j n)).set j ((pre rows C (fun i => rv u (bit rows j) i C) j n).set (one rows j n).length (rv u (bit rows j) n C)) = base.set j (pre rows C (fun i => rv u (bit rows j) i C) j (n + 1)) := by
    rw [List.set_set, pre_set rows C (fun i => rv u (bit rows j) i C) j n (by omega) hb]
   rw [← hset] at ih2
   have hj5 : Ev (fun k => mg_round.j5 k inp down (base.set j (pre rows C (fun i => rv u (bit rows j) i C) j n)) (j : Int) f s a m (PG u (bit rows j) C) ((one rows j n).length : Int) (mg u (bit rows j) n C) m (checks rows C rows.length) (rows.length : Int) (j : Int) ((one rows j C).length : Int) ((one rows j n).length : Int) (checks rows C rows.length) (at_ rows C rows.length)) r := by
    refine Ev.step (fun k => ?_) ih2
    simp only [mg_round.j5]
    rw [if_pos (by omega), if_pos (by omega), hv]
    by_cases hx : u n < 0
    ·rw [if_pos hx] at h2 ⊢
     rw [h2, w64_id (n := ng u (bit rows j) n C) (by omega) (by omega), Int.tmod_eq_emod_of_nonneg (by omega)]
     by_cases hN : ng u (bit rows j) n C % 2 = 1
     ·rw [if_pos hN] at h5 ⊢
      rw [if_pos (by omega), if_pos (by omega), hrow, if_pos (by omega), w64_id (n := -(mg u (bit rows j) n C)) (by omega) (by omega), w64_id (by omega) (by omega), h5, Int.toNat_natCast, Int.toNat_natCast]
      rfl
     ·rw [if_neg hN] at h5 ⊢
      rw [if_pos (by omega), if_pos (by omega), hrow, if_pos (by omega), w64_id (by omega) (by omega), h5, Int.toNat_natCast, Int.toNat_natCast]
      rfl
    ·rw [if_neg hx] at h2 ⊢
     rw [Int.sub_zero] at h2
     rw [h2, Int.tmod_eq_emod_of_nonneg (by omega)]
     by_cases hN : ng u (bit rows j) n C % 2 = 1
     ·rw [if_pos hN] at h5 ⊢
      rw [if_pos (by omega), if_pos (by omega), hrow, if_pos (by omega), w64_id (n := -(mg u (bit rows j) n C)) (by omega) (by omega), w64_id (by omega) (by omega), h5, Int.toNat_natCast, Int.toNat_natCast]
      rfl
     ·rw [if_neg hN] at h5 ⊢
      rw [if_pos (by omega), if_pos (by omega), hrow, if_pos (by omega), w64_id (by omega) (by omega), h5, Int.toNat_natCast, Int.toNat_natCast]
      rfl
   refine Ev.step (fun k => ?_) hj5
   simp only [mg_round.l2]
   rw [if_pos (by omega)]
   by_cases ha : ((one rows j n).length : Int) = a
   ·rw [if_pos ha] at h1 ⊢; rw [h1]
   ·rw [if_neg ha] at h1 ⊢; rw [h1]
  ·rw [idx_skip rows j n hb, pre_skip rows C _ j n hb] at ih2
   exact ih2
include hlen hB hI
/-- The positions of row j are gone through. -/
theorem rnd_l1 {r : List (List Int)} (j : Nat) (hj : j < rows.length) (base : List (List Int))
  (hfin : ∀ f s a m, Stt rows (fun k => smv rows inp F (j : Int) k) j C f s a m → Ev (fun k => mg_round.l2 k inp (dn rows C F) base (j : Int) f s a m (PG (fun k => smv rows inp F (j : Int) k) (bit rows j) C) (checks rows C rows.length) (rows.length : Int) (j : Int) ((one rows j C).length : Int) 0 (checks rows C rows.length) (at_ rows C rows.length)) r) : ∀ d n : Nat, n + d = C → ∀ f s a m, Stt rows (fun k => smv rows inp F (j : Int) k) j n f s a m →
  Ev (fun k => mg_round.l1 k inp (dn rows C F) base (j : Int) (one rows j C) f s a m (pre rows C (fun k => smv rows inp F (j : Int) k) j n) (checks rows C rows.length) (rows.length : Int) (j : Int) (one rows j C) ((one rows j C).length : Int) ((one rows j n).length : Int) (checks rows C rows.length) (at_ rows C rows.length)) r
 | 0, n, h, f, s, a, m, hS => by
  obtain rfl : n = C := by omega
  rw [pre_C]
  refine Ev.step (fun k => ?_) (hfin f s a m hS)
  simp only [mg_round.l1]
  rw [if_neg (by omega)]
 | d + 1, n, h, f, s, a, m, hS => by
  have ih := rnd_l1 j hj base hfin d (n + 1) (by omega)
  by_cases hb : bit rows j n = true
  ·have hlt := idx_lt rows C j n (by omega) hb
   have hle := one_le rows j C
   have hpl := pre_len rows C (fun k => smv rows inp F (j : Int) k) j n
   have hub := smv_bound rows inp F (j : Int) n
   have hur : mx (smv rows inp F (j : Int) n) (-(smv rows inp F (j : Int) n)) ≤ 1099511627776 := by rw [mx_abs]; split <;> omega
   obtain ⟨hra, hrf, hrs, hrt⟩ := Stt_range hS
   have hnb := nga_bound (fun k => smv rows inp F (j : Int) k) (bit rows j) n
   have hm := hS.1
   have hrd : rd (one rows j C) ((one rows j n).length : Int) = (n : Int) := by
    rw [rd_nat]; exact PG_at 0 (fun i => (i : Int)) (bit rows j) n hb C (by omega)
   have hps := pre_set rows C (fun k => smv rows inp F (j : Int) k) j n (by omega) hb
   have hpv : rd (pre rows C (fun k => smv rows inp F (j : Int) k) j (n + 1)) ((one rows j n).length : Int) = smv rows inp F (j : Int) n := by
    unfold pre
    rw [rd_nat, show (one rows j n).length = (PG (fun i => if i < n + 1 then smv rows inp F (j : Int) i else 0) (bit rows j) n).length from PG_lenp _ _ _ _]
    rw [PG_at 0 _ _ n hb C (by omega), if_pos (by omega)]
   rw [idx_succ rows j n hb] at ih
   have hsum := sum_ev rows inp F (j : Int) n C hr hB hI (by omega) hC hlen
   have hnew := fun hlt => Stt_new hS hb hur hlt
   have hold := fun h1 h2 => Stt_old hS hb h1 h2
   have hj3 : ∀ (M : Int), M = (if smv rows inp F (j : Int) n < 0 then m + 1 else m) → ∀ (b : Bool), (b = true → a < 0 ∨ mx (smv rows inp F (j : Int) n) (-(smv rows inp F (j : Int) n)) < f) → (b = false → ¬ a < 0 ∧ ¬ mx (smv rows inp F (j : Int) n) (-(smv rows inp F (j : Int) n)) < f) →
     Ev (fun k => mg_round.j3 k inp (dn rows C F) base (j : Int) (one rows j C) f s a M (pre rows C (fun k => smv rows inp F (j : Int) k) j (n + 1)) ((one rows j n).length : Int) (mx (smv rows inp F (j : Int) n) (-(smv rows inp F (j : Int) n))) (checks rows C rows.length) (rows.length : Int) (j : Int) (one rows j C) ((one rows j C).length : Int) ((one rows j n).length : Int) b (checks rows C rows.length) (at_ rows C rows.length)) r := by
    intro M hM b hbt hbf
    cases b with
    | true =>
     have ih2 := ih _ _ _ _ (hnew (hbt rfl))
     rw [← hM] at ih2
     refine Ev.step (fun k => ?_) ih2
     simp only [mg_round.j3]
     rw [if_pos trivial, w64_id (by omega) (by omega)]
     rfl
    | false =>
     obtain ⟨h1, h2⟩ := hbf rfl
     have ih2 := ih _ _ _ _ (hold h1 h2)
     rw [← hM] at ih2
     refine Ev.step (fun k => ?_) ih2
     simp only [mg_round.j3]
     rw [if_neg Bool.false_ne_true, w64_id (by omega) (by omega)]
     by_cases h3 : mx (smv rows inp F (j : Int) n) (-(smv rows inp F (j : Int) n)) < s
     ·rw [if_pos h3, if_pos h3]; rfl
     ·rw [if_neg h3, if_neg h3]; rfl
   have hj2 : ∀ (M : Int), M = (if smv rows inp F (j : Int) n < 0 then m + 1 else m) →
     Ev (fun k => mg_round.j2 k inp (dn rows C F) base (j : Int) (one rows j C) f s a M (pre rows C (fun k => smv rows inp F (j : Int) k) j (n + 1)) ((one rows j n).length : Int) (mx (smv rows inp F (j : Int) n) (-(smv rows inp F (j : Int) n))) (checks rows C rows.length) (rows.length : Int) (j : Int) (one rows j C) ((one rows j C).length : Int) ((one rows j n).length : Int) (checks rows C rows.length) (at_ rows C rows.length)) r := by
    intro M hM
    by_cases ha : a < 0
    ·refine Ev.step (fun k => ?_) (hj3 M hM true (fun _ => Or.inl ha) (fun e => by cases e))
     simp only [mg_round.j2]
     rw [if_pos ha]
    ·refine Ev.step (fun k => ?_) (hj3 M hM (decide (mx (smv rows inp F (j : Int) n) (-(smv rows inp F (j : Int) n)) < f)) (fun e => Or.inr (of_decide_eq_true e)) (fun e => ⟨ha, of_decide_eq_false e⟩))
     simp only [mg_round.j2]
     rw [if_neg ha]
   have hab := mx_abs (smv rows inp F (j : Int) n)
   have hbody : Ev (fun k => (mg_sum.f k (checks rows C rows.length) (at_ rows C rows.length) inp (dn rows C F) (n : Int) (j : Int)).bind fun t411 => (if ((one rows j n).length : Int) < ((pre rows C (fun k => smv rows inp F (j : Int) k) j n).length : Int) then ((some ((pre rows C (fun k => smv rows inp F (j : Int) k) j n).set (one rows j n).length t411 : List Int)).bind fun y412 => (if (rd y412 ((one rows j n).length : Int)) < 0 then (mg_round.j2 k inp (dn rows C F) base (j : Int) (one rows j C) f s a (wrap64 (m + 1)) y412 ((one rows j n).length : Int) (wrap64 (-(rd y412 ((one rows j n).length : Int)))) (checks rows C rows.length) (rows.length : Int) (j : Int) (one rows j C) ((one rows j C).length : Int) ((one rows j n).length : Int) (checks rows C rows.length) (at_ rows C rows.length)) else (mg_round.j2 k inp (dn rows C F) base (j : Int) (one rows j C) f s a m y412 ((one rows j n).length : Int) (rd y412 ((one rows j n).length : Int)) (checks rows C rows.length) (rows.length : Int) (j : Int) (one rows j C) ((one rows j C).length : Int) ((one rows j n).length : Int) (checks rows C rows.length) (at_ rows C rows.length)))) else (none))) r := by
    refine hsum.bind (Ev.congr (fun k => if_pos (by omega)) ?_)
    rw [hps]
    refine Ev.congr (fun k => by rw [Option.bind_some, hpv]) ?_
    by_cases hx : smv rows inp F (j : Int) n < 0
    ·have h6 := hj2 (m + 1) (if_pos hx).symm
     rw [if_pos hx] at hab
     rw [hab] at h6
     refine Ev.congr (fun k => ?_) h6
     rw [if_pos hx, w64_id (n := m + 1) (by omega) (by omega), w64_id (by omega) (by omega)]
    ·have h6 := hj2 m (if_neg hx).symm
     rw [if_neg hx] at hab
     rw [hab] at h6
     refine Ev.congr (fun k => ?_) h6
     rw [if_neg hx]
   refine Ev.step (fun k => ?_) hbody
   simp only [mg_round.l1]
   rw [if_pos (by omega), if_pos (by omega), if_pos (by omega), hrd, Int.toNat_natCast]
  ·rw [idx_skip rows j n hb, pre_skip rows C _ j n hb] at ih
   exact ih f s a m (Stt_skip hS hb)
theorem rnd_l0 : ∀ d j : Nat, j + d = rows.length →
  Ev (fun k => mg_round.l0 k inp (dn rows C F) (LL rows.length (fun t => if t < j then PG (nxF rows C inp F t) (bit rows t) C else PG (fun _ => 0) (bit rows t) C)) (checks rows C rows.length) (rows.length : Int) (j : Int) (checks rows C rows.length) (at_ rows C rows.length)) (dn rows C (nxF rows C inp F))
 | 0, j, h => by
  obtain rfl : j = rows.length := by omega
  refine Ev.step (f := fun _ => some _) (fun k => ?_) (Ev.now _)
  simp only [mg_round.l0]
  rw [if_neg (by omega)]
  exact congrArg some (LL_congr _ _ _ (fun t ht => if_pos ht))
 | d + 1, j, h => by
  have ih := rnd_l0 d (j + 1) (by omega)
  have hcl := checks_len rows C rows.length
  have hca := checks_at rows C rows.length j (by omega)
  have hle := one_le rows j C
  have e1 : (LL rows.length (fun t => if t < j then PG (nxF rows C inp F t) (bit rows t) C else PG (fun _ => 0) (bit rows t) C)).set j (PG (fun i => rv (fun k => smv rows inp F (j : Int) k) (bit rows j) i C) (bit rows j) C) = LL rows.length (fun t => if t < j + 1 then PG (nxF rows C inp F t) (bit rows t) C else PG (fun _ => 0) (bit rows t) C) := by
   rw [LL_set]
   refine LL_congr _ _ _ (fun t _ => ?_)
   by_cases e : t = j
   ·subst e; rw [if_pos rfl, if_pos (by omega)]; rfl
   ·rw [if_neg e]
    by_cases h2 : t < j
    ·rw [if_pos h2, if_pos (by omega)]
    ·rw [if_neg h2, if_neg (by omega)]
  have e2 : (LL rows.length (fun t => if t < j then PG (nxF rows C inp F t) (bit rows t) C else PG (fun _ => 0) (bit rows t) C)).set j (pre rows C (fun i => rv (fun k => smv rows inp F (j : Int) k) (bit rows j) i C) j 0) = LL rows.length (fun t => if t < j then PG (nxF rows C inp F t) (bit rows t) C else PG (fun _ => 0) (bit rows t) C) := by
   rw [LL_set, pre_0]
   refine LL_congr _ _ _ (fun t _ => ?_)
   by_cases e : t = j
   ·subst e; rw [if_pos rfl, if_neg (by omega)]
   ·rw [if_neg e]
  have h1 := rnd_l1 rows C inp F hr hC hlen hB hI (r := dn rows C (nxF rows C inp F)) j (by omega) (LL rows.length (fun t => if t < j then PG (nxF rows C inp F t) (bit rows t) C else PG (fun _ => 0) (bit rows t) C)) (fun f s a m hS => by
   have h2 := rnd_l2 rows C inp hr hC (r := dn rows C (nxF rows C inp F)) j (by omega) (dn rows C F) (LL rows.length (fun t => if t < j then PG (nxF rows C inp F t) (bit rows t) C else PG (fun _ => 0) (bit rows t) C)) (LL_length _ _) (fun k => smv rows inp F (j : Int) k) f s a m hS (fun i => smv_bound _ _ _ _ _) (by rw [e1]; exact ih) C 0 (by omega)
   rw [e2] at h2
   exact h2) C 0 (by omega) _ _ _ _ (Stt_0 _ _ _)
  rw [pre_0] at h1
  refine Ev.step (fun k => ?_) h1
  simp only [mg_round.l0]
  rw [if_pos (by omega), if_pos (by omega), if_pos (by omega), hca, if_pos (by omega), if_pos (by omega), Int.toNat_natCast]
  rw [show (one rows j C).length = (PG (fun _ => (0 : Int)) (bit rows j) C).length from PG_lenp _ _ _ _, PG_rep]
  rfl
theorem round_ev : Ev (fun k => mg_round.f k (checks rows C rows.length) (at_ rows C rows.length) inp (dn rows C F)) (dn rows C (nxF rows C inp F)) := by
 have h := rnd_l0 rows C inp F hr hC hlen hB hI rows.length 0 (by omega)
 have e : LL rows.length (fun t => if t < 0 then PG (nxF rows C inp F t) (bit rows t) C else PG (fun _ => 0) (bit rows t) C) = dn rows C (fun _ _ => 0) := LL_congr _ _ _ (fun t _ => if_neg (by omega))
 rw [e] at h
 unfold mg_round.f
 refine (messages_ev rows C hr hC _).bind ?_
 rw [checks_len]
 exact h
theorem beliefs_l0 : ∀ d p : Nat, p + d = C →
  Ev (fun k => mg_beliefs.l0 k inp (dn rows C F) (LL C (fun t => if t < p then smv rows inp F (-1) t else 0)) (C : Int) (p : Int) (checks rows C rows.length) (at_ rows C rows.length)) (LL C (fun t => smv rows inp F (-1) t))
 | 0, p, h => by
  obtain rfl : p = C := by omega
  refine Ev.step (f := fun _ => some _) (fun k => ?_) (Ev.now _)
  simp only [mg_beliefs.l0]
  rw [if_neg (by omega)]
  exact congrArg some (LL_congr _ _ _ (fun t ht => if_pos ht))
 | d + 1, p, h => by
  have ih := beliefs_l0 d (p + 1) (by omega)
  have hll : (LL C (fun t => if t < p then smv rows inp F (-1) t else 0)).length = C := LL_length _ _
  have e1 : (LL C (fun t => if t < p then smv rows inp F (-1) t else 0)).set p (smv rows inp F (-1) p) = LL C (fun t => if t < p + 1 then smv rows inp F (-1) t else 0) := by
   rw [LL_set]
   refine LL_congr _ _ _ (fun t _ => ?_)
   by_cases e : t = p
   ·subst e; rw [if_pos rfl, if_pos (by omega)]
   ·rw [if_neg e]
    by_cases h2 : t < p
    ·rw [if_pos h2, if_pos (by omega)]
    ·rw [if_neg h2, if_neg (by omega)]
  rw [← e1] at ih
  refine Ev.step (f := fun k => (mg_sum.f k (checks rows C rows.length) (at_ rows C rows.length) inp (dn rows C F) (p : Int) (-1)).bind fun t439 => (if 0 ≤ (p : Int) then (if (p : Int) < ((LL C (fun t => if t < p then smv rows inp F (-1) t else 0)).length : Int) then (mg_beliefs.l0 k inp (dn rows C F) ((LL C (fun t => if t < p then smv rows inp F (-1) t else 0)).set p t439) (C : Int) ((p + 1 : Nat) : Int) (checks rows C rows.length) (at_ rows C rows.length)) else (none)) else (none))) (fun k => ?_) ((sum_ev rows inp F (-1) p C hr hB hI (by omega) hC hlen).bind (Ev.congr (fun k => if_pos (by omega)) (Ev.congr (fun k => if_pos (by omega)) ih)))
  simp only [mg_beliefs.l0]
  rw [if_pos (by omega), Int.toNat_natCast, w64_id (by omega) (by omega)]
  rfl
theorem beliefs_ev : Ev (fun k => mg_beliefs.f k (checks rows C rows.length) (at_ rows C rows.length) inp (dn rows C F)) (LL C (fun t => smv rows inp F (-1) t)) := by
 have h := beliefs_l0 rows C inp F hr hC hlen hB hI C 0 (by omega)
 have e : LL C (fun t => if t < 0 then smv rows inp F (-1) t else 0) = List.replicate C 0 := by rw [LL_rep]; exact LL_congr _ _ _ (fun t _ => if_neg (by omega))
 rw [e] at h
 refine Ev.congr (fun k => ?_) h
 unfold mg_beliefs.f
 rw [if_pos (by omega), if_pos (by omega), hlen, Int.toNat_natCast]
 rfl
end
end Go.Proofs.Ytmclalniilkjiaa.Rp
namespace Go.Proofs.Ytmclalniilkjiaa.Q
open Go.RowKit Go.Proofs.YtmclalniilkjiaaW.PrintWords Go.Proofs.YtmclalniilkjiaaW.PrintLast Go.Proofs.YtmclalniilkjiaaW.PrintMore
open List renaming setIfInBounds_toArray → l01_, set_cons_zero → l02_, set_cons_succ → l03_
attribute [local go_sem] max2_int min2_int max_two min_two max_three min_three max_four min_four
set_option linter.unusedVariables false
set_option linter.unusedSimpArgs false
def crM_Args.l0 : Nat → List Int → Int → Int → Option (Int)
 | 0, _, _, _ => none
 | k + 1, x1, x2, x8 => if x8 < (x1.length : Int) then (if 0 ≤ x8 then (if (rd x1 x8) < (-1048576) then (some 6) else (if (rd x1 x8) > 1048576 then (some 6) else (crM_Args.l0 k x1 x2 (wrap64 (x8 + 1))))) else (none)) else (if x2 < 0 then (some 6) else (if x2 > 256 then (some 6) else (some 0)))
def crM_Args.f (k : Nat) (a0_0 : Int) (l0_1 : List (List Int)) (l1 : List Int) (a2 : Int) : Option (Int) := (crM_Two.f).bind fun bt199 => ((cr9_Check.f k bt199.1 bt199.2.1 bt199.2.2 a0_0 l0_1).bind fun t204 => (if t204 = 0 then (if (l1.length : Int) = a0_0 then (crM_Args.l0 k l1 a2 0) else (some 4)) else (some t204)))
theorem crM_Args.mono_l : ∀ k, (∀ y0 y1 y2, LeO (crM_Args.l0 k y0 y1 y2) (crM_Args.l0 (k + 1) y0 y1 y2))
 | 0 => fun _ _ _ r h => by simp [crM_Args.l0] at h
 | k + 1 => by
  have ih0 := crM_Args.mono_l k
  ·intro y0 y1 y2;unfold crM_Args.l0
   repeat' first
   | (with_reducible exact ih0 _ _ _)
   | (with_reducible exact cr9_Check.mono _ _ _ _ _ _)
   | (with_reducible exact LeO.refl _)
   | (with_reducible exact LeO.none _)
   | (with_reducible refine LeO.ite ?_ ?_)
   | (with_reducible refine LeO.bind ?_ (fun _ => ?_))
   | exact ih0 _ _ _
   | exact cr9_Check.mono _ _ _ _ _ _
   | exact LeO.none _
   | refine LeO.ite ?_ ?_
   | refine LeO.bind ?_ (fun _ => ?_)
theorem crM_Args.mono : ∀ a0 a1 a2 a3 k, LeO (crM_Args.f k a0 a1 a2 a3) (crM_Args.f (k + 1) a0 a1 a2 a3) := by
 intro a0 a1 a2 a3 k;have ih0 := crM_Args.mono_l k;unfold crM_Args.f
 repeat' first
   | (with_reducible exact ih0 _ _ _)
   | (with_reducible exact cr9_Check.mono _ _ _ _ _ _)
   | (with_reducible exact LeO.refl _)
   | (with_reducible exact LeO.none _)
   | (with_reducible refine LeO.ite ?_ ?_)
   | (with_reducible refine LeO.bind ?_ (fun _ => ?_))
   | exact ih0 _ _ _
   | exact cr9_Check.mono _ _ _ _ _ _
   | exact LeO.none _
   | refine LeO.ite ?_ ?_
   | refine LeO.bind ?_ (fun _ => ?_)
set_option maxHeartbeats 8000000 in
set_option maxRecDepth 100000 in
theorem crM_Args.calls (k : Nat) (a0_0 : Int) (A0_1 : Option Addr) (c0_1 : Nat) (l0_1 : List (List Int)) (A1 : Option Addr) (c1 : Nat) (l1 : List Int) (a2 : Int) (r : Int) (w : World) (hr0_1 : Kd.C (Kd.slice 3 (Kd.int .i64)) w A0_1 l0_1.length l0_1) (hc0_1 : l0_1.length ≤ c0_1) (hr1 : Kd.C (Kd.int .i64) w A1 l1.length l1) (hc1 : l1.length ≤ c1) (h : crM_Args.f k a0_0 l0_1 l1 a2 = some r) :
  Calls Try.prog 15 #[.agg #[.int .i64 a0_0, .slice A0_1 l0_1.length c0_1], .slice A1 l1.length c1, .int .i64 a2] w fun e w' => e = .returned (.int .i64 r) ∧ Below w.heap.size w w' := by
 have hu24 := Try.underlying24;have HR0_1 := Ai0.mk hr0_1;have HC0_1 := Ai0.mk hc0_1;clear hr0_1 hc0_1;have HR1 := Ai0.mk hr1;have HC1 := Ai0.mk hc1;clear hr1 hc1;have HB := Ai0.mk (Below.refl w.heap.size w);have H : ((crM_Two.f).bind fun bt199 => ((cr9_Check.f k bt199.1 bt199.2.1 bt199.2.2 a0_0 l0_1).bind fun t204 => (if t204 = 0 then (if (l1.length : Int) = a0_0 then (crM_Args.l0 k l1 a2 0) else (some 4)) else (some t204)))) = some r := h;clear h;replace H := Option.bind_eq_some_iff.mp H;obtain ⟨⟨t199, t200, t201⟩, A40, H⟩ := H;replace H : ((cr9_Check.f k t199 t200 t201 a0_0 l0_1).bind fun t204 => (if t204 = 0 then (if (l1.length : Int) = a0_0 then (crM_Args.l0 k l1 a2 0) else (some 4)) else (some t204))) = some r := H;have A4 := Ai0.mk A40;clear A40;replace H := Option.bind_eq_some_iff.mp H;obtain ⟨t204, A50, H⟩ := H;replace H : (if t204 = 0 then (if (l1.length : Int) = a0_0 then (crM_Args.l0 k l1 a2 0) else (some 4)) else (some t204)) = some r := H;have A5 := Ai0.mk A50;clear A50;by_cases c6 : t204 = 0
 ·rw [if_pos c6] at H;have c6b0 : (t204 == 0) = true := beq_iff_eq.mpr c6;have c6b1 : (t204 != 0) = false := bne_eq_false_iff_eq.mpr c6;clear c6;by_cases c7 : (l1.length : Int) = a0_0
  case' pos =>
   rw [if_pos c7] at H;have c7b0 : ((l1.length : Int) == a0_0) = true := beq_iff_eq.mpr c7;have c7b1 : ((l1.length : Int) != a0_0) = false := bne_eq_false_iff_eq.mpr c7;clear c7;have H' := Ai0.mk H;clear H
  case' neg =>
   rw [if_neg c7] at H;have c7b0 : ((l1.length : Int) == a0_0) = false := beq_eq_false_iff_ne.mpr c7;have c7b1 : ((l1.length : Int) != a0_0) = true := bne_iff_ne.mpr c7;obtain rfl := Option.some.inj H
  all_goals
   go_enter Try.func15, Try.ntmps15
   try go_wp2_with (first | ((with_reducible refine gate_dst (N := 3) rfl ?_); refine box_event ?hg (N := 3) ?hd (cs := #[.int .i64 a0_0, .slice A0_1 l0_1.length c0_1]) (t := 24) ?hr ?_; (case hd => rfl); (case hg => rfl); (case hr => first | (go_simp; done) | (go_simp; rfl)); intro gb198 hg w8 hbox hb; have n0_ := Ai0.mk (bt1 bl_ hb); have n1_ := Ai0.mk (hbox); have n2_ := Ai0.mk ((by rw [hg]; exact (bz1 bl_) : w.heap.size ≤ gb198)); have n3_ := Ai0.mk ((by rw [hg]; exact (bz1 bl_) : w.heap.size ≤ gb198)); clear HB; have HB := n0_; have BK198 := n1_; have GW198 := n2_; have GE198 := n3_; clear n0_ n1_ n2_ n3_; clear hb hbox hg))
   have n0_ := Ai0.mk (kd1 BK198.out);have n1_ := Ai0.mk (bw1 HB.out);clear BK198;clear HB;have BK198 := n0_;have HB := n1_;clear n0_ n1_;refine start_ (n := 4) (S := fun w' => w'.cell? ⟨gb198, 0, none⟩ = some (.int .i64 a0_0) ∧ w'.cell? ⟨gb198, 1, none⟩ = some (.slice A0_1 l0_1.length c0_1)) (ds := []) #[false, false, false, false] (by kernel_rfl) rfl rfl ⟨(kc1 BK198.out 0).trans rfl, (kc1 BK198.out 1).trans rfl⟩ (fun hHeld => ?_);generalize w8.drew = w9 at BK198 HB hHeld ⊢
   refine take_ (i := 1) (N := some 10) (v := ?_) (a' := ?_) #[false, true, false, false] rfl rfl (by kernel_rfl) (fun _ _ _ h => h) (Or.inl ⟨by rfl, ?_⟩) hHeld ?_ ?_;rotate_left
   ·rintro w' ⟨s0, s1⟩
    go_simp
    with_reducible rfl
   rotate_left
   ·simp only [Act.put, l01_, l02_, l03_, i64_w, i32_w]
    rfl
   refine one_ (i := 0) (N := some 9) #[true, true, false, false] rfl rfl (by kernel_rfl) (by decide) (fun K hK => ?_);refine goes_ Try.func26 (by kernel_rfl) rfl #[] (by rfl) rfl rfl (by (try simp only [List.map_toArray, List.map_cons, List.map_nil]); first | done | rfl | (simp only [List.length_drop, List.length_take]; rfl)) ?_
   with_reducible refine (crM_Two.calls  t199 t200 t201 _ A4.out).mono ?_
   rintro e w10 ⟨v202, rfl, ho0, hb⟩
   refine ⟨_, rfl, ?_⟩;have n0_ := Ai0.mk (Kd.R_lower ho0 (bz1 bl_));have n1_ := Ai0.mk (kb1 (g := gb198) (o := .cells #[.int .i64 a0_0, .slice A0_1 l0_1.length c0_1] 24 (0, 0)) (kk_ BK198.out) hb);have n2_ := Ai0.mk (bt1 bl_ hb);clear BK198;clear HB;have HO203 := n0_;have BK198 := n1_;have HB := n2_;clear n0_ n1_ n2_;(try clear hb);(try clear hb2);(try clear hk);(try clear hi);(try clear ho0);obtain ⟨Ao11, co11, eo11⟩ := Kd.R_slice HO203.out;(first | subst eo11 | (injection eo11 with f1_ f2_ f3_; have f4_ := f1_.symm; have f5_ := f3_.symm; clear f1_ f2_ f3_; subst f4_; subst f5_));refine hK.out _ _ ⟨(kc1 BK198.out 0).trans rfl, (kc1 BK198.out 1).trans rfl⟩ (fun hHeld => ?_);clear hK K;refine norm_ (a' := ?_) ?_ ?_;rotate_left
   ·show Act.put _ (some 9) _ = _;simp only [Act.put, l01_, l02_, l03_, i64_w, i32_w]
    rfl
   refine one_ (i := 2) (N := some 11) #[true, true, true, false] rfl rfl (by kernel_rfl) (by decide) (fun K hK => ?_);refine goes_ Try.func30 (by kernel_rfl) rfl #[.agg #[.int .i64 t199, .int .i64 t200, .slice Ao11 t201.length co11], .agg #[.int .i64 a0_0, .slice A0_1 l0_1.length c0_1]] (by rfl) rfl rfl (by (try simp only [List.map_toArray, List.map_cons, List.map_nil]); first | done | rfl | (simp only [List.length_drop, List.length_take]; rfl)) ?_
   with_reducible refine (cr9_Check.calls k t199 t200 _ _ t201 a0_0 _ _ l0_1 t204 _ ?side1 ?side2 ?side3 ?side4 A5.out).mono ?_
   (case side1 => repeat (first | exact (Kd.R_reads' HO203.out).2.2 | (with_reducible refine Kd.C_alloc ?_ _) | (with_reducible refine Kd.C_drewN ?_ _) | (with_reducible refine Kd.C_drew ?_)));(case side2 => exact (Kd.R_reads' HO203.out).2.1);(case side3 => exact kc_ HR0_1.out);(case side4 => exact HC0_1.out)
   rintro e w12 ⟨rfl, hb⟩
   refine ⟨_, rfl, ?_⟩;have n0_ := Ai0.mk (Kd.R_below (kr_ HO203.out) hb);have n1_ := Ai0.mk (kb1 (g := gb198) (o := .cells #[.int .i64 a0_0, .slice A0_1 l0_1.length c0_1] 24 (0, 0)) (kk_ BK198.out) hb);have n2_ := Ai0.mk (bt1 bl_ hb);clear HO203;clear BK198;clear HB;have HO203 := n0_;have BK198 := n1_;have HB := n2_;clear n0_ n1_ n2_;(try clear hb);(try clear hb2);(try clear hk);(try clear hi);refine hK.out _ _ ⟨(kc1 BK198.out 0).trans rfl, (kc1 BK198.out 1).trans rfl⟩ (fun hHeld => ?_);clear hK K;refine norm_ (a' := ?_) ?_ ?_;rotate_left
   ·show Act.put _ (some 11) _ = _;simp only [Act.put, l01_, l02_, l03_, i64_w, i32_w]
    rfl
   refine pure_ (i := 3) (N := some 7) (v := ?_) (a' := ?_) #[true, true, true, true] rfl rfl (by kernel_rfl) (fun _ _ _ h => h) (Or.inl ⟨by rfl, ?_⟩) ?_ ?_;rotate_left
   ·intro w';go_simp
    with_reducible rfl
   rotate_left
   ·simp only [Act.put, l01_, l02_, l03_, i64_w, i32_w]
    rfl
   refine done_ (by kernel_rfl) ?_;have hcz13_0 : w12.cell? ⟨gb198, 0, none⟩ = some (.int .i64 a0_0) := (kc1 BK198.out 0).trans rfl;have hcz13_1 : w12.cell? ⟨gb198, 1, none⟩ = some (.slice A0_1 l0_1.length c0_1) := (kc1 BK198.out 1).trans rfl;have hfz13_0 := kf1 BK198.out 0;have hfz13_1 := kf1 BK198.out 1
   try go_wp2
  ·go_ret
   exact ⟨by first | rfl | (simp [eW0, eW1] <;> rfl) | (simp [*, eW0, eW1] <;> rfl), bl_⟩
  ·go_loopg [8] k (fun kq v8 w' => ∃ (x8_1 : Int), v8 = .int .i64 x8_1 ∧ Ai0 (crM_Args.l0 kq l1 a2 x8_1 = some r) ∧ Ai0 (kq ≤ k) ∧ Ai0 (w'.heap[gb198]? = some (.cells #[.int .i64 a0_0, (.slice A0_1 l0_1.length c0_1)] 24 (0, 0))) ∧ Ai0 (Below w.heap.size w w'))
   case atStart => exact ⟨(0), rf_, H', ⟨Nat.le_refl _⟩, ⟨kk_ BK198.out⟩, ⟨bl_⟩⟩
   case round =>
    clear H'
    try clear c1
    try clear c2
    try clear p2
    try clear c3
    try clear c6
    try clear c6b0
    try clear c6b1
    try clear c7
    try clear c7b0
    try clear c7b1
    try clear hcz13_0
    try clear hcz13_1
    try clear hfz13_0
    try clear hfz13_1
    obtain ⟨x8_1, rfl, HA, HK1, BK198, HB⟩ := hrel
    cases gk with
    | zero => exact absurd HA.out (by simp [crM_Args.l0])
    | succ k1 =>
     have H := HA.out;clear HA;simp only [crM_Args.l0] at H;by_cases c14 : x8_1 < (l1.length : Int)
     ·rw [if_pos c14] at H;have c14b0 : decide (x8_1 < (l1.length : Int)) = true := decide_eq_true c14;clear c14;by_cases c15 : 0 ≤ x8_1
      ·rw [if_pos c15] at H;have c15b0 : decide (0 ≤ x8_1) = true := decide_eq_true c15;clear c15;by_cases c16 : (rd l1 x8_1) < (-1048576)
       ·rw [if_pos c16] at H;have c16b0 : decide ((rd l1 x8_1) < (-1048576)) = true := decide_eq_true c16;clear c16;obtain rfl := Option.some.inj H;have p205 : 0 ≤ (x8_1 : Int) := od_;have q205 : x8_1 < (l1.length : Int) := od_;obtain ⟨ad205, e205, hx205_0⟩ := Kd.at_int HR1.out x8_1 p205 q205;cases e205;replace hx205_0 := (HB.out.cell (World.block_lt_of_cell? w _ hx205_0)).trans hx205_0;replace p205 := eq_true p205;replace q205 := eq_true q205
        go_wp2
        go_ret
        exact ⟨by first | rfl | (simp [eW0, eW1] <;> rfl) | (simp [*, eW0, eW1] <;> rfl), bl_⟩
       ·rw [if_neg c16] at H;have c16b0 : decide ((rd l1 x8_1) < (-1048576)) = false := decide_eq_false c16;clear c16;by_cases c17 : (rd l1 x8_1) > 1048576
        ·rw [if_pos c17] at H;have c17b0 : decide (1048576 < (rd l1 x8_1)) = true := decide_eq_true c17;clear c17;obtain rfl := Option.some.inj H;have p205 : 0 ≤ (x8_1 : Int) := od_;have q205 : x8_1 < (l1.length : Int) := od_;obtain ⟨ad205, e205, hx205_0⟩ := Kd.at_int HR1.out x8_1 p205 q205;cases e205;replace hx205_0 := (HB.out.cell (World.block_lt_of_cell? w _ hx205_0)).trans hx205_0;replace p205 := eq_true p205;replace q205 := eq_true q205;have p206 : 0 ≤ (x8_1 : Int) := od_;have q206 : x8_1 < (l1.length : Int) := od_;obtain ⟨ad206, e206, hx206_0⟩ := Kd.at_int HR1.out x8_1 p206 q206;obtain rfl : ad205 = ad206 := (by injection e206);replace hx206_0 := (HB.out.cell (World.block_lt_of_cell? w _ hx206_0)).trans hx206_0;replace p206 := eq_true p206;replace q206 := eq_true q206
         go_wp2
         go_ret
         exact ⟨by first | rfl | (simp [eW0, eW1] <;> rfl) | (simp [*, eW0, eW1] <;> rfl), bl_⟩
        ·rw [if_neg c17] at H;have c17b0 : decide (1048576 < (rd l1 x8_1)) = false := decide_eq_false c17;clear c17;have H' := Ai0.mk H;clear H;have p205 : 0 ≤ (x8_1 : Int) := od_;have q205 : x8_1 < (l1.length : Int) := od_;obtain ⟨ad205, e205, hx205_0⟩ := Kd.at_int HR1.out x8_1 p205 q205;cases e205;replace hx205_0 := (HB.out.cell (World.block_lt_of_cell? w _ hx205_0)).trans hx205_0;replace p205 := eq_true p205;replace q205 := eq_true q205;have p206 : 0 ≤ (x8_1 : Int) := od_;have q206 : x8_1 < (l1.length : Int) := od_;obtain ⟨ad206, e206, hx206_0⟩ := Kd.at_int HR1.out x8_1 p206 q206;obtain rfl : ad205 = ad206 := (by injection e206);replace hx206_0 := (HB.out.cell (World.block_lt_of_cell? w _ hx206_0)).trans hx206_0;replace p206 := eq_true p206;replace q206 := eq_true q206
         go_wp2
         go_roundg k1
         case measure => have := HK1.out; omega
         case rel => exact ⟨(wrap64 (x8_1 + 1)), rf_, H', ⟨by have := HK1.out; omega⟩, ⟨kk_ BK198.out⟩, ⟨bl_⟩⟩
      ·rw [if_neg c15] at H;exact absurd H (by simp)
     ·rw [if_neg c14] at H;have c14b0 : decide (x8_1 < (l1.length : Int)) = false := decide_eq_false c14;clear c14;by_cases c18 : a2 < 0
      ·rw [if_pos c18] at H;have c18b0 : decide (a2 < 0) = true := decide_eq_true c18;clear c18;obtain rfl := Option.some.inj H
       go_wp2
       go_ret
       exact ⟨by first | rfl | (simp [eW0, eW1] <;> rfl) | (simp [*, eW0, eW1] <;> rfl), bl_⟩
      ·rw [if_neg c18] at H;have c18b0 : decide (a2 < 0) = false := decide_eq_false c18;clear c18;by_cases c19 : a2 > 256
       ·rw [if_pos c19] at H;have c19b0 : decide (256 < a2) = true := decide_eq_true c19;clear c19;obtain rfl := Option.some.inj H
        go_wp2
        go_ret
        exact ⟨by first | rfl | (simp [eW0, eW1] <;> rfl) | (simp [*, eW0, eW1] <;> rfl), bl_⟩
       ·rw [if_neg c19] at H;have c19b0 : decide (256 < a2) = false := decide_eq_false c19;clear c19;obtain rfl := Option.some.inj H
        go_wp2
        go_ret
        exact ⟨by first | rfl | (simp [eW0, eW1] <;> rfl) | (simp [*, eW0, eW1] <;> rfl), bl_⟩
 ·rw [if_neg c6] at H;have c6b0 : (t204 == 0) = false := beq_eq_false_iff_ne.mpr c6;have c6b1 : (t204 != 0) = true := bne_iff_ne.mpr c6;obtain rfl := Option.some.inj H;go_enter Try.func15, Try.ntmps15
  try go_wp2_with (first | ((with_reducible refine gate_dst (N := 3) rfl ?_); refine box_event ?hg (N := 3) ?hd (cs := #[.int .i64 a0_0, .slice A0_1 l0_1.length c0_1]) (t := 24) ?hr ?_; (case hd => rfl); (case hg => rfl); (case hr => first | (go_simp; done) | (go_simp; rfl)); intro gb198 hg w26 hbox hb; have n0_ := Ai0.mk (bt1 bl_ hb); have n1_ := Ai0.mk (hbox); have n2_ := Ai0.mk ((by rw [hg]; exact (bz1 bl_) : w.heap.size ≤ gb198)); have n3_ := Ai0.mk ((by rw [hg]; exact (bz1 bl_) : w.heap.size ≤ gb198)); clear HB; have HB := n0_; have BK198 := n1_; have GW198 := n2_; have GE198 := n3_; clear n0_ n1_ n2_ n3_; clear hb hbox hg))
  have n0_ := Ai0.mk (kd1 BK198.out);have n1_ := Ai0.mk (bw1 HB.out);clear BK198;clear HB;have BK198 := n0_;have HB := n1_;clear n0_ n1_;refine start_ (n := 4) (S := fun w' => w'.cell? ⟨gb198, 0, none⟩ = some (.int .i64 a0_0) ∧ w'.cell? ⟨gb198, 1, none⟩ = some (.slice A0_1 l0_1.length c0_1)) (ds := []) #[false, false, false, false] (by kernel_rfl) rfl rfl ⟨(kc1 BK198.out 0).trans rfl, (kc1 BK198.out 1).trans rfl⟩ (fun hHeld => ?_);generalize w26.drew = w27 at BK198 HB hHeld ⊢
  refine take_ (i := 1) (N := some 10) (v := ?_) (a' := ?_) #[false, true, false, false] rfl rfl (by kernel_rfl) (fun _ _ _ h => h) (Or.inl ⟨by rfl, ?_⟩) hHeld ?_ ?_;rotate_left
  ·rintro w' ⟨s0, s1⟩
   go_simp
   with_reducible rfl
  rotate_left
  ·simp only [Act.put, l01_, l02_, l03_, i64_w, i32_w]
   rfl
  refine one_ (i := 0) (N := some 9) #[true, true, false, false] rfl rfl (by kernel_rfl) (by decide) (fun K hK => ?_);refine goes_ Try.func26 (by kernel_rfl) rfl #[] (by rfl) rfl rfl (by (try simp only [List.map_toArray, List.map_cons, List.map_nil]); first | done | rfl | (simp only [List.length_drop, List.length_take]; rfl)) ?_
  with_reducible refine (crM_Two.calls  t199 t200 t201 _ A4.out).mono ?_
  rintro e w28 ⟨v202, rfl, ho0, hb⟩
  refine ⟨_, rfl, ?_⟩;have n0_ := Ai0.mk (Kd.R_lower ho0 (bz1 bl_));have n1_ := Ai0.mk (kb1 (g := gb198) (o := .cells #[.int .i64 a0_0, .slice A0_1 l0_1.length c0_1] 24 (0, 0)) (kk_ BK198.out) hb);have n2_ := Ai0.mk (bt1 bl_ hb);clear BK198;clear HB;have HO203 := n0_;have BK198 := n1_;have HB := n2_;clear n0_ n1_ n2_;(try clear hb);(try clear hb2);(try clear hk);(try clear hi);(try clear ho0);obtain ⟨Ao29, co29, eo29⟩ := Kd.R_slice HO203.out;(first | subst eo29 | (injection eo29 with f1_ f2_ f3_; have f4_ := f1_.symm; have f5_ := f3_.symm; clear f1_ f2_ f3_; subst f4_; subst f5_));refine hK.out _ _ ⟨(kc1 BK198.out 0).trans rfl, (kc1 BK198.out 1).trans rfl⟩ (fun hHeld => ?_);clear hK K;refine norm_ (a' := ?_) ?_ ?_;rotate_left
  ·show Act.put _ (some 9) _ = _;simp only [Act.put, l01_, l02_, l03_, i64_w, i32_w]
   rfl
  refine one_ (i := 2) (N := some 11) #[true, true, true, false] rfl rfl (by kernel_rfl) (by decide) (fun K hK => ?_);refine goes_ Try.func30 (by kernel_rfl) rfl #[.agg #[.int .i64 t199, .int .i64 t200, .slice Ao29 t201.length co29], .agg #[.int .i64 a0_0, .slice A0_1 l0_1.length c0_1]] (by rfl) rfl rfl (by (try simp only [List.map_toArray, List.map_cons, List.map_nil]); first | done | rfl | (simp only [List.length_drop, List.length_take]; rfl)) ?_
  with_reducible refine (cr9_Check.calls k t199 t200 _ _ t201 a0_0 _ _ l0_1 t204 _ ?side1 ?side2 ?side3 ?side4 A5.out).mono ?_
  (case side1 => repeat (first | exact (Kd.R_reads' HO203.out).2.2 | (with_reducible refine Kd.C_alloc ?_ _) | (with_reducible refine Kd.C_drewN ?_ _) | (with_reducible refine Kd.C_drew ?_)));(case side2 => exact (Kd.R_reads' HO203.out).2.1);(case side3 => exact kc_ HR0_1.out);(case side4 => exact HC0_1.out)
  rintro e w30 ⟨rfl, hb⟩
  refine ⟨_, rfl, ?_⟩;have n0_ := Ai0.mk (Kd.R_below (kr_ HO203.out) hb);have n1_ := Ai0.mk (kb1 (g := gb198) (o := .cells #[.int .i64 a0_0, .slice A0_1 l0_1.length c0_1] 24 (0, 0)) (kk_ BK198.out) hb);have n2_ := Ai0.mk (bt1 bl_ hb);clear HO203;clear BK198;clear HB;have HO203 := n0_;have BK198 := n1_;have HB := n2_;clear n0_ n1_ n2_;(try clear hb);(try clear hb2);(try clear hk);(try clear hi);refine hK.out _ _ ⟨(kc1 BK198.out 0).trans rfl, (kc1 BK198.out 1).trans rfl⟩ (fun hHeld => ?_);clear hK K;refine norm_ (a' := ?_) ?_ ?_;rotate_left
  ·show Act.put _ (some 11) _ = _;simp only [Act.put, l01_, l02_, l03_, i64_w, i32_w]
   rfl
  refine pure_ (i := 3) (N := some 7) (v := ?_) (a' := ?_) #[true, true, true, true] rfl rfl (by kernel_rfl) (fun _ _ _ h => h) (Or.inl ⟨by rfl, ?_⟩) ?_ ?_;rotate_left
  ·intro w';go_simp
   with_reducible rfl
  rotate_left
  ·simp only [Act.put, l01_, l02_, l03_, i64_w, i32_w]
   rfl
  refine done_ (by kernel_rfl) ?_
  try go_wp2
  go_ret
  exact ⟨by first | rfl | (simp [eW0, eW1] <;> rfl) | (simp [*, eW0, eW1] <;> rfl), bl_⟩
end Go.Proofs.Ytmclalniilkjiaa.Q
/- The printed Beliefs and the document's Beliefs answer alike, the errors too; Decide. No condition on the arguments. -/
namespace Go.Proofs.Ytmclalniilkjiaa.Be
open Go.RowKit Go.Proofs.Ytmclalniilkjiaa.Q Go.Proofs.YtmclalniilkjiaaW.PrintWords Go.Proofs.YtmclalniilkjiaaW.PrintLast Go.Proofs.YtmclalniilkjiaaW.PrintMore Go.Proofs.Ytmclalniilkjiaa.Ba Go.Proofs.Ytmclalniilkjiaa.Ck Go.Proofs.Ytmclalniilkjiaa.Gr Go.Proofs.Ytmclalniilkjiaa.Un Go.Proofs.Ytmclalniilkjiaa.Fl Go.Proofs.Ytmclalniilkjiaa.Ms Go.Proofs.Ytmclalniilkjiaa.Rv Go.Proofs.Ytmclalniilkjiaa.Rp

theorem LL_up {α : Type} (n i : Nat) (f : Nat → α) (z : α) : (LL n (fun t => if t < i then f t else z)).set i (f i) = LL n (fun t => if t < i + 1 then f t else z) := by
 rw [LL_set]
 refine LL_congr _ _ _ (fun t _ => ?_)
 by_cases e : t = i
 ·subst e; rw [if_pos rfl, if_pos (by omega : t < t + 1)]
 ·rw [if_neg e]
  by_cases h2 : t < i
  ·rw [if_pos h2, if_pos (by omega : t < i + 1)]
  ·rw [if_neg h2, if_neg (by omega : ¬ t < i + 1)]
def ib (l : List Int) : Bool := l.all (fun x => decide (-1048576 ≤ x ∧ x ≤ 1048576))
def rg (n : Int) : Int := if n < 0 then 6 else if n > 256 then 6 else 0
def ie (l : List Int) (n : Int) : Int := if ib l = true then rg n else 6
def iv (c : Int) (inp : List Int) (n : Int) : Int := if (inp.length : Int) = c then ie inp n else 4
def args (c : Int) (rows : List (List Int)) (inp : List Int) (n : Int) : Int := if chk c rows = 0 then iv c inp n else chk c rows
theorem ie_cons (x : Int) (l : List Int) (n : Int) : ie (x :: l) n = if x < -1048576 then 6 else if x > 1048576 then 6 else ie l n := by
 unfold ie ib
 rw [List.all_cons]
 by_cases h1 : x < -1048576
 ·rw [if_pos h1, decide_eq_false (by omega)]; rfl
 ·rw [if_neg h1]
  by_cases h2 : x > 1048576
  ·rw [if_pos h2, decide_eq_false (by omega)]; rfl
  ·rw [if_neg h2, decide_eq_true (by omega)]; rfl
theorem inputs_l0 (l : List Int) (n : Int) (hl : l.length ≤ 256) : ∀ d i : Nat, i + d = l.length → Ev (fun k => message_inputs.l0 k n l (l.length : Int) (i : Int)) (ie (l.drop i) n)
 | 0, i, h => by
  rw [List.drop_eq_nil_of_le (by omega)]
  refine Ev.step (f := fun _ => some (rg n)) (fun k => ?_) (Ev.now _)
  simp only [message_inputs.l0]
  rw [if_neg (by omega)]
  unfold rg
  split
  ·rfl
  ·split <;> rfl
 | d + 1, i, h => by
  have ih := inputs_l0 l n hl d (i + 1) (by omega)
  rw [drop_cons l 0 i (by omega), ie_cons, ← rd_nat]
  by_cases h1 : rd l (i : Int) < -1048576
  ·rw [if_pos h1]
   refine Ev.step (f := fun _ => some 6) (fun k => ?_) (Ev.now _)
   simp only [message_inputs.l0]
   rw [if_pos (by omega), if_pos (by omega), if_pos (by omega), if_pos h1]
  ·rw [if_neg h1]
   by_cases h2 : rd l (i : Int) > 1048576
   ·rw [if_pos h2]
    refine Ev.step (f := fun _ => some 6) (fun k => ?_) (Ev.now _)
    simp only [message_inputs.l0]
    rw [if_pos (by omega), if_pos (by omega), if_pos (by omega), if_neg h1, if_pos h2]
   ·rw [if_neg h2]
    refine Ev.step (fun k => ?_) ih
    simp only [message_inputs.l0]
    rw [if_pos (by omega), if_pos (by omega), if_pos (by omega), if_neg h1, if_neg h2, w64_id (by omega) (by omega)]
    rfl
theorem inputs_ev (c : Int) (hc : c ≤ 256) (rows : List (List Int)) (l : List Int) (n : Int) : Ev (fun k => message_inputs.f k c rows l n) (iv c l n) := by
 unfold message_inputs.f iv
 by_cases h : (l.length : Int) = c
 ·rw [if_pos h]; exact Ev.congr (fun k => if_pos h) (inputs_l0 l n (by omega) l.length 0 (by omega))
 ·rw [if_neg h]; exact Ev.congr (fun k => if_neg h) (Ev.now _)
theorem rargs_l0 (l : List Int) (n : Int) (hl : l.length ≤ 256) : ∀ d i : Nat, i + d = l.length → Ev (fun k => crM_Args.l0 k l n (i : Int)) (ie (l.drop i) n)
 | 0, i, h => by
  rw [List.drop_eq_nil_of_le (by omega)]
  refine Ev.step (f := fun _ => some (rg n)) (fun k => ?_) (Ev.now _)
  simp only [crM_Args.l0]
  rw [if_neg (by omega)]
  unfold rg
  split
  ·rfl
  ·split <;> rfl
 | d + 1, i, h => by
  have ih := rargs_l0 l n hl d (i + 1) (by omega)
  rw [drop_cons l 0 i (by omega), ie_cons, ← rd_nat]
  by_cases h1 : rd l (i : Int) < -1048576
  ·rw [if_pos h1]
   refine Ev.step (f := fun _ => some 6) (fun k => ?_) (Ev.now _)
   simp only [crM_Args.l0]
   rw [if_pos (by omega), if_pos (by omega), if_pos h1]
  ·rw [if_neg h1]
   by_cases h2 : rd l (i : Int) > 1048576
   ·rw [if_pos h2]
    refine Ev.step (f := fun _ => some 6) (fun k => ?_) (Ev.now _)
    simp only [crM_Args.l0]
    rw [if_pos (by omega), if_pos (by omega), if_neg h1, if_pos h2]
   ·rw [if_neg h2]
    refine Ev.step (fun k => ?_) ih
    simp only [crM_Args.l0]
    rw [if_pos (by omega), if_pos (by omega), if_neg h1, if_neg h2, w64_id (by omega) (by omega)]
    rfl
theorem args_ev (c : Int) (rows : List (List Int)) (l : List Int) (n : Int) : Ev (fun k => crM_Args.f k c rows l n) (args c rows l n) := by
 unfold crM_Args.f args
 refine Ev.congr (f := fun k => (cr9_Check.f k 2 1 [] c rows).bind fun t204 => (if t204 = 0 then (if (l.length : Int) = c then (crM_Args.l0 k l n 0) else (some 4)) else (some t204))) (fun k => rfl) ((rCheck_ev c rows).bind ?_)
 by_cases h : chk c rows = 0
 ·rw [if_pos h]
  refine Ev.congr (fun k => if_pos h) ?_
  have hk := chk_ok h
  unfold iv
  by_cases h2 : (l.length : Int) = c
  ·rw [if_pos h2]; exact Ev.congr (fun k => if_pos h2) (rargs_l0 l n (by omega) l.length 0 (by omega))
  ·rw [if_neg h2]; exact Ev.congr (fun k => if_neg h2) (Ev.now _)
 ·rw [if_neg h]; exact Ev.congr (fun k => if_neg h) (Ev.now _)
/-- What a matrix and inputs without fault look like. -/
structure OkI (c : Int) (rows : List (List Int)) (inp : List Int) (C : Nat) : Prop where
 k : chk c rows = 0
 c : c = (C : Int)
 hC : C ≤ 256
 hr : rows.length ≤ 256
 hrl : ∀ j, j < rows.length → (rows.getD j []).length = C
 hrow : ∀ j, j < rows.length → okb (rows.getD j []) = true
 hlen : inp.length = C
 hI : Bi inp
theorem ib_at {l : List Int} (h : ib l = true) : Bi l := by
 intro i
 by_cases hi : i.toNat < l.length
 ·have := List.all_eq_true.1 h _ (getD_mem l 0 i.toNat hi)
  exact of_decide_eq_true this
 ·unfold rd
  rw [List.getD_eq_getElem?_getD, List.getElem?_eq_none (by omega)]
  simp
theorem args_ok {c : Int} {rows : List (List Int)} {inp : List Int} {n : Int} (h : args c rows inp n = 0) : ∃ C : Nat, OkI c rows inp C ∧ ∃ R : Nat, n = (R : Int) ∧ R ≤ 256 := by
 unfold args at h
 split at h
 ·next hk =>
  obtain ⟨h0, h1, h2, h3, h4⟩ := chk_ok hk
  unfold iv at h
  split at h
  ·next hl =>
   unfold ie at h
   split at h
   ·next hb =>
    refine ⟨c.toNat, ⟨hk, by omega, by omega, h2, fun j hj => by have := h3 j hj; omega, h4, by omega, ib_at hb⟩, n.toNat, ?_⟩
    unfold rg at h
    split at h
    ·omega
    ·split at h <;> omega
   ·omega
  ·omega
 ·next hk => exact absurd h hk
section
variable {c : Int} {rows : List (List Int)} {inp : List Int} {C : Nat}
theorem build_I (h : OkI c rows inp C) : Ev (fun k => message_build.f k c rows) (checks rows C rows.length, at_ rows C rows.length, 0) := by
 have := build_ok h.k
 rwa [show c.toNat = C by have := h.c; omega] at this
theorem Beliefs_l0 (ok : OkI c rows inp C) (R : Nat) (hR : R ≤ 256) : ∀ d r : Nat, r + d = R →
  Ev (fun k => message_Beliefs.l0 k inp (dn rows C (msF rows C inp r)) (R : Int) (r : Int) (checks rows C rows.length) (at_ rows C rows.length)) (bel rows C inp R, 0)
 | 0, r, h => by
  obtain rfl : r = R := by omega
  refine Ev.step (f := fun k => (mg_beliefs.f k (checks rows C rows.length) (at_ rows C rows.length) inp (dn rows C (msF rows C inp r))).bind fun t559 => (some (t559, 0))) (fun k => ?_) ((beliefs_ev rows C inp _ ok.hr ok.hC ok.hlen (msF_bd _ _ _ _) ok.hI).bind (Ev.now _))
  simp only [message_Beliefs.l0]
  rw [if_neg (by omega)]
 | d + 1, r, h => by
  have ih := Beliefs_l0 ok R hR d (r + 1) (by omega)
  refine Ev.step (f := fun k => (mg_round.f k (checks rows C rows.length) (at_ rows C rows.length) inp (dn rows C (msF rows C inp r))).bind fun t556 => (message_Beliefs.l0 k inp t556 (R : Int) ((r + 1 : Nat) : Int) (checks rows C rows.length) (at_ rows C rows.length))) (fun k => ?_) ((round_ev rows C inp _ ok.hr ok.hC ok.hlen (msF_bd _ _ _ _) ok.hI).bind ih)
  simp only [message_Beliefs.l0]
  rw [if_pos (by omega), w64_id (by omega) (by omega)]
  rfl
theorem iv_0 (ok : OkI c rows inp C) {n : Int} (h : args c rows inp n = 0) : iv c inp n = 0 := by
 unfold args at h
 rwa [if_pos ok.k] at h
theorem Beliefs_ok (ok : OkI c rows inp C) (R : Nat) (hR : R ≤ 256) (h : args c rows inp (R : Int) = 0) : Ev (fun k => message_Beliefs.f k c rows inp (R : Int)) (bel rows C inp R, 0) := by
 unfold message_Beliefs.f
 refine (build_I ok).bind (Ev.congr (fun k => if_pos rfl) ((inputs_ev c (by have := ok.c; have := ok.hC; omega) rows inp R).bind (Ev.congr (fun k => if_pos (iv_0 ok h)) ?_)))
 exact (messages_ev rows C ok.hr ok.hC _).bind (Beliefs_l0 ok R hR R 0 (by omega))
end
section
variable (l : List Int) (hl : l.length ≤ 256)
include hl
end
end Go.Proofs.Ytmclalniilkjiaa.Be
namespace Go.Proofs.Ytmclalniilkjiaa.Q
open Go.RowKit Go.Proofs.YtmclalniilkjiaaW.PrintWords Go.Proofs.YtmclalniilkjiaaW.PrintLast Go.Proofs.YtmclalniilkjiaaW.PrintMore
open List renaming setIfInBounds_toArray → l01_, set_cons_zero → l02_, set_cons_succ → l03_
attribute [local go_sem] max2_int min2_int max_two min_two max_three min_three max_four min_four
set_option linter.unusedVariables false
set_option linter.unusedSimpArgs false
def crM_Word01.l0 : Nat → Int → Int → List Int → Int → Option (List Int)
 | 0, _, _, _, _ => none
 | k + 1, x0, x1, x5, x6 => if x6 < x0 then (if 0 ≤ x6 then (if x6 < (x5.length : Int) then (crM_Word01.l0 k x0 (wrap64 (Int.tdiv x1 2)) (x5.set (x6 : Int).toNat (Int.tmod x1 2)) (wrap64 (x6 + 1))) else (none)) else (none)) else (some x5)
def crM_Word01.f (k : Nat) (a0 : Int) (a1 : Int) : Option (List Int) := if 0 ≤ a0 then (if (a0 : Int).toNat ≤ 35184372088832 then (crM_Word01.l0 k a0 a1 (List.replicate (a0 : Int).toNat 0) 0) else (none)) else (none)
theorem crM_Word01.mono_l : ∀ k, (∀ y0 y1 y2 y3, LeO (crM_Word01.l0 k y0 y1 y2 y3) (crM_Word01.l0 (k + 1) y0 y1 y2 y3))
 | 0 => fun _ _ _ _ r h => by simp [crM_Word01.l0] at h
 | k + 1 => by
  have ih0 := crM_Word01.mono_l k
  ·intro y0 y1 y2 y3;unfold crM_Word01.l0
   repeat' first
   | (with_reducible exact ih0 _ _ _ _)
   | (with_reducible exact LeO.refl _)
   | (with_reducible exact LeO.none _)
   | (with_reducible refine LeO.ite ?_ ?_)
   | (with_reducible refine LeO.bind ?_ (fun _ => ?_))
   | exact ih0 _ _ _ _
   | exact LeO.none _
   | refine LeO.ite ?_ ?_
   | refine LeO.bind ?_ (fun _ => ?_)
theorem crM_Word01.mono : ∀ a0 a1 k, LeO (crM_Word01.f k a0 a1) (crM_Word01.f (k + 1) a0 a1) := by
 intro a0 a1 k;have ih0 := crM_Word01.mono_l k;unfold crM_Word01.f
 repeat' first
   | (with_reducible exact ih0 _ _ _ _)
   | (with_reducible exact LeO.refl _)
   | (with_reducible exact LeO.none _)
   | (with_reducible refine LeO.ite ?_ ?_)
   | (with_reducible refine LeO.bind ?_ (fun _ => ?_))
   | exact ih0 _ _ _ _
   | exact LeO.none _
   | refine LeO.ite ?_ ?_
   | refine LeO.bind ?_ (fun _ => ?_)
set_option maxHeartbeats 8000000 in
set_option maxRecDepth 100000 in
theorem crM_Word01.calls (k : Nat) (a0 : Int) (a1 : Int) (r : List Int) (w : World) (h : crM_Word01.f k a0 a1 = some r) :
  Calls Try.prog 43 #[.int .i64 a0, .int .i64 a1] w fun e w' => ∃ v0_ : Value, e = .returned (v0_) ∧ Kd.R (Kd.int .i64) 3 w' w.heap.size (fun _ => True) v0_ r ∧ Below w.heap.size w w' := by
 have HB := Ai0.mk (Below.refl w.heap.size w);have H : (if 0 ≤ a0 then (if (a0 : Int).toNat ≤ 35184372088832 then (crM_Word01.l0 k a0 a1 (List.replicate (a0 : Int).toNat 0) 0) else (none)) else (none)) = some r := h;clear h;by_cases c3 : 0 ≤ a0
 ·rw [if_pos c3] at H;have c3b0 := eq_true c3;have c3b1 : decide (0 ≤ a0) = true := decide_eq_true c3;clear c3;by_cases c4 : (a0 : Int).toNat ≤ 35184372088832
  ·rw [if_pos c4] at H;have c4b0 := eq_true c4;have c4b1 : decide ((a0 : Int).toNat ≤ 35184372088832) = true := decide_eq_true c4;clear c4;obtain ⟨y226, hy226⟩ : ∃ y_ : List Int, y_ = (List.replicate (a0 : Int).toNat 0) := ⟨_, rfl⟩
   replace H : (crM_Word01.l0 k a0 a1 y226 0) = some r := by first | (rw [hy226]; with_reducible exact H) | (have H2_ := (Option.bind_some _ _).symm.trans H; rw [hy226]; with_reducible exact H2_) | (have H2_ := (Option.bind_some _ _).symm.trans H; with_reducible exact H2_) | with_reducible exact H | (rw [hy226]; exact H) | exact H
   have Ny226 := Ai0.mk hy226;clear hy226;have H' := Ai0.mk H;clear H;go_enter Try.func43, Try.ntmps43
   go_wp2_with (first | ((with_reducible refine gate_dst (N := 8) rfl ?_); refine Kd.R_make (Kd.int .i64) _ 3 rfl (N := 8) rfl 25 _ _ rfl a0 rfl rfl Try.underlying25 (.int .i64 0) 8 info3 rfl (by decide) (by omega) 0 (ok := fun _ => True) (okp := fun _ => True) rfl (fun _ hk => hk) trivial od_ (Nat.le_trans (Nat.mul_le_mul_right _ (od_ : a0.toNat ≤ 35184372088832)) (by omega)) (Below.refl _ _) (Nat.le_refl _) ?_; intro v227 w5 ho6 hb hg_ hnew_; clear hg_ hnew_; (first | rw [← Ny226.out] at ho6 | (simp only [Int.reduceToNat] at ho6; rw [← Ny226.out] at ho6)); have n0_ := Ai0.mk (Kd.R_lower ho6 (bz1 bl_)); have n1_ := Ai0.mk (bt1 bl_ hb); clear HB; have HO228 := n0_; have HB := n1_; clear n0_ n1_; clear hb ho6))
   go_loopg [1, 6] k (fun kq v1 v6 w' => ∃ (x1_1 : Int) (x5_1 : List Int) (x6_1 : Int), v1 = .int .i64 x1_1 ∧ v6 = .int .i64 x6_1 ∧ Ai0 (crM_Word01.l0 kq a0 x1_1 x5_1 x6_1 = some r) ∧ Ai0 (kq ≤ k) ∧ Ai0 (Kd.R (Kd.int .i64) 3 w' w.heap.size (fun _ => True) v227 x5_1) ∧ Ai0 (Below w.heap.size w w'))
   case atStart => exact ⟨(a1), (y226), (0), rf_, rf_, H', ⟨Nat.le_refl _⟩, ⟨kr_ HO228.out⟩, ⟨bl_⟩⟩
   case round =>
    clear H'
    try clear p2
    try clear c3
    try clear c3b0
    try clear c3b1
    try clear c4
    try clear c4b0
    try clear c4b1
    obtain ⟨x1_1, x5_1, x6_1, rfl, rfl, HA, HK1, HO_5, HB⟩ := hrel
    cases gk with
    | zero => exact absurd HA.out (by simp [crM_Word01.l0])
    | succ k1 =>
     have H := HA.out;clear HA;simp only [crM_Word01.l0] at H;by_cases c7 : x6_1 < a0
     ·rw [if_pos c7] at H;have c7b0 : decide (x6_1 < a0) = true := decide_eq_true c7;clear c7;by_cases c8 : 0 ≤ x6_1
      ·rw [if_pos c8] at H;have c8b0 : decide (0 ≤ x6_1) = true := decide_eq_true c8;clear c8;by_cases c9 : x6_1 < (x5_1.length : Int)
       ·rw [if_pos c9] at H;have c9b0 : decide (x6_1 < (x5_1.length : Int)) = true := decide_eq_true c9;clear c9;(obtain ⟨y229, hy229⟩ : ∃ y_ : List Int, y_ = (x5_1.set (x6_1 : Int).toNat (Int.tmod x1_1 2)) := ⟨_, rfl⟩);(replace H : (crM_Word01.l0 k1 a0 (wrap64 (Int.tdiv x1_1 2)) y229 (wrap64 (x6_1 + 1))) = some r := by first | (rw [hy229]; with_reducible exact H) | (have H2_ := (Option.bind_some _ _).symm.trans H; rw [hy229]; with_reducible exact H2_) | (have H2_ := (Option.bind_some _ _).symm.trans H; with_reducible exact H2_) | with_reducible exact H | (rw [hy229]; exact H) | exact H);have Ny229 := Ai0.mk hy229;clear hy229;have H' := Ai0.mk H;clear H;have p10 : 0 ≤ (x6_1 : Int) := od_;have q10 : (x6_1 : Int) < ((x5_1.length : Int) : Int) := od_;obtain ⟨go10, co10, eo10, gb10, gl10, cl10, HG10⟩ := Kd.R_form HO_5.out (by omega);(first | cases eo10 | (injection eo10 with ea_ en_ ec_; (first | subst ea_ | (injection ea_ with ea_; subst ea_)); subst ec_; clear en_));have GB10 := Ai0.mk gb10;have GG10 := Ai0.mk HG10;clear gb10 gl10 HG10;obtain ⟨hx10_0, hf10_0⟩ := Kd.R_celln 0 HO_5.out (x6_1 : Int) p10 q10;replace p10 := eq_true p10;replace q10 := eq_true q10;have HP11 := Kd.R_putg HO_5.out (x6_1 : Int) (Int.tmod x1_1 2)
        go_wp2_with (first | ((with_reducible refine gate_store (t := 3) (p := 18) rfl ?_); refine store_event (t := 3) (p := 18) (v := ?vo_w12) (w1 := (wr.setCell ⟨go10, (x6_1 : Int).toNat, none⟩ (.int .i64 (Int.tmod x1_1 2)))) ?hg ?ho ?hn ?hr ?_; (case ho => rfl); (case hg => rfl); (case hn => rfl); (case hr => first | (go_simp; done) | (go_simp; rfl)); intro w12 hw; have hg : wr.grownBy w12 (some go10) := (by rw [hw]; exact HP11.2); have hp_ : Kd.R (Kd.int .i64) 3 w12 w.heap.size (fun _ => True) (.slice (some ⟨go10, 0, none⟩) x5_1.length co10) y229 := (by rw [hw, Ny229.out]; exact HP11.1); clear HP11; have n0_ := Ai0.mk (hp_); have n1_ := Ai0.mk ((by rw [hw]; exact bs1 (HB.out) GB10.out : Below w.heap.size w w12)); clear HO_5; clear HB; have HO_5 := n0_; have HB := n1_; clear n0_ n1_; clear hg hw hp_))
        go_roundg k1
        case measure => have := HK1.out; omega
        case rel => exact ⟨(wrap64 (Int.tdiv x1_1 2)), (y229), (wrap64 (x6_1 + 1)), rf_, rf_, H', ⟨by have := HK1.out; omega⟩, ⟨kr_ HO_5.out⟩, ⟨bl_⟩⟩
       ·rw [if_neg c9] at H;exact absurd H (by simp)
      ·rw [if_neg c8] at H;exact absurd H (by simp)
     ·rw [if_neg c7] at H;have c7b0 : decide (x6_1 < a0) = false := decide_eq_false c7;clear c7;obtain rfl := Option.some.inj H
      go_wp2
      go_ret
      exact ⟨_, by first | rfl | (simp [eW0, eW1] <;> rfl) | (simp [*, eW0, eW1] <;> rfl), by (with_reducible repeat (first | apply Kd.Ra1 | apply Kd.Rn1 | apply Kd.Rd1)); exact HO_5.out, bl_⟩
  ·rw [if_neg c4] at H;exact absurd H (by simp)
 ·rw [if_neg c3] at H;exact absurd H (by simp)
mutual
def crM_Exact.l0 : Nat → List Int → Int → List Int → Int → Int → Int → List (List Int) → Option (Int)
 | 0, _, _, _, _, _, _, _ => none
 | k + 1, x1, x2, x7, x8, x9, x231000, x231001 => if x9 < x231000 then (crM_Exact.l0 k x1 x2 x7 (wrap64 (x8 * 2)) (wrap64 (x9 + 1)) x231000 x231001) else (crM_Exact.l1 k x1 x2 x7 x8 0 x231000 x231001)
def crM_Exact.l1 : Nat → List Int → Int → List Int → Int → Int → Int → List (List Int) → Option (Int)
 | 0, _, _, _, _, _, _, _ => none
 | k + 1, x1, x2, x7, x8, x10, x231000, x231001 => if x10 < x8 then ((crM_Word01.f k x231000 x10).bind fun t237 => ((crM_Unsatisfied.f k x231000 x231001 t237).bind fun t240 => (if (t240.length : Int) > 0 then (crM_Exact.l1 k x1 x2 x7 x8 (wrap64 (x10 + 1)) x231000 x231001) else (crM_Exact.l2 k x1 x2 x7 x8 x10 t237 0 0 x231000 x231001)))) else (if 1 < (x7.length : Int) then (if (rd x7 1) = 1125899906842624 then (some 1099511627776) else (if 0 < (x7.length : Int) then (some (wrap64 ((rd x7 1) - (rd x7 0)))) else (none))) else (none))
def crM_Exact.l2 : Nat → List Int → Int → List Int → Int → Int → List Int → Int → Int → Int → List (List Int) → Option (Int)
 | 0, _, _, _, _, _, _, _, _, _, _ => none
 | k + 1, x1, x2, x7, x8, x10, x11, x12, x13, x231000, x231001 => if x13 < x231000 then (if 0 ≤ x13 then (if x13 < (x11.length : Int) then (if x13 < (x1.length : Int) then (crM_Exact.l2 k x1 x2 x7 x8 x10 x11 (wrap64 (x12 + (wrap64 ((rd x11 x13) * (rd x1 x13))))) (wrap64 (x13 + 1)) x231000 x231001) else (none)) else (none)) else (none)) else (if 0 ≤ x2 then (if x2 < (x11.length : Int) then (if 0 ≤ (rd x11 x2) then (if (rd x11 x2) < (x7.length : Int) then (crM_Exact.l1 k x1 x2 (x7.set ((rd x11 x2) : Int).toNat (mn (rd x7 (rd x11 x2)) x12)) x8 (wrap64 (x10 + 1)) x231000 x231001) else (none)) else (none)) else (none)) else (none))
end
def crM_Exact.f (k : Nat) (a0_0 : Int) (l0_1 : List (List Int)) (l1 : List Int) (a2 : Int) : Option (Int) := crM_Exact.l0 k l1 a2 (([1125899906842624, 1125899906842624] : List Int)) 1 0 a0_0 l0_1
theorem crM_Exact.mono_l : ∀ k, (∀ y0 y1 y2 y3 y4 y5 y6, LeO (crM_Exact.l0 k y0 y1 y2 y3 y4 y5 y6) (crM_Exact.l0 (k + 1) y0 y1 y2 y3 y4 y5 y6)) ∧ (∀ y0 y1 y2 y3 y4 y5 y6, LeO (crM_Exact.l1 k y0 y1 y2 y3 y4 y5 y6) (crM_Exact.l1 (k + 1) y0 y1 y2 y3 y4 y5 y6)) ∧ (∀ y0 y1 y2 y3 y4 y5 y6 y7 y8 y9, LeO (crM_Exact.l2 k y0 y1 y2 y3 y4 y5 y6 y7 y8 y9) (crM_Exact.l2 (k + 1) y0 y1 y2 y3 y4 y5 y6 y7 y8 y9))
 | 0 => ⟨fun _ _ _ _ _ _ _ r h => by simp [crM_Exact.l0] at h, fun _ _ _ _ _ _ _ r h => by simp [crM_Exact.l1] at h, fun _ _ _ _ _ _ _ _ _ _ r h => by simp [crM_Exact.l2] at h⟩
 | k + 1 => by
  obtain ⟨ih0, ih1, ih2⟩ := crM_Exact.mono_l k;refine ⟨?_, ?_, ?_⟩
  ·intro y0 y1 y2 y3 y4 y5 y6;unfold crM_Exact.l0
   repeat' first
   | (with_reducible exact ih0 _ _ _ _ _ _ _)
   | (with_reducible exact ih1 _ _ _ _ _ _ _)
   | (with_reducible exact ih2 _ _ _ _ _ _ _ _ _ _)
   | (with_reducible exact crM_Unsatisfied.mono _ _ _ _)
   | (with_reducible exact crM_Word01.mono _ _ _)
   | (with_reducible exact LeO.refl _)
   | (with_reducible exact LeO.none _)
   | (with_reducible refine LeO.ite ?_ ?_)
   | (with_reducible refine LeO.bind ?_ (fun _ => ?_))
   | exact ih0 _ _ _ _ _ _ _
   | exact ih1 _ _ _ _ _ _ _
   | exact ih2 _ _ _ _ _ _ _ _ _ _
   | exact crM_Unsatisfied.mono _ _ _ _
   | exact crM_Word01.mono _ _ _
   | exact LeO.none _
   | refine LeO.ite ?_ ?_
   | refine LeO.bind ?_ (fun _ => ?_)
  ·intro y0 y1 y2 y3 y4 y5 y6;unfold crM_Exact.l1
   repeat' first
   | (with_reducible exact ih0 _ _ _ _ _ _ _)
   | (with_reducible exact ih1 _ _ _ _ _ _ _)
   | (with_reducible exact ih2 _ _ _ _ _ _ _ _ _ _)
   | (with_reducible exact crM_Unsatisfied.mono _ _ _ _)
   | (with_reducible exact crM_Word01.mono _ _ _)
   | (with_reducible exact LeO.refl _)
   | (with_reducible exact LeO.none _)
   | (with_reducible refine LeO.ite ?_ ?_)
   | (with_reducible refine LeO.bind ?_ (fun _ => ?_))
   | exact ih0 _ _ _ _ _ _ _
   | exact ih1 _ _ _ _ _ _ _
   | exact ih2 _ _ _ _ _ _ _ _ _ _
   | exact crM_Unsatisfied.mono _ _ _ _
   | exact crM_Word01.mono _ _ _
   | exact LeO.none _
   | refine LeO.ite ?_ ?_
   | refine LeO.bind ?_ (fun _ => ?_)
  ·intro y0 y1 y2 y3 y4 y5 y6 y7 y8 y9;unfold crM_Exact.l2
   repeat' first
   | (with_reducible exact ih0 _ _ _ _ _ _ _)
   | (with_reducible exact ih1 _ _ _ _ _ _ _)
   | (with_reducible exact ih2 _ _ _ _ _ _ _ _ _ _)
   | (with_reducible exact crM_Unsatisfied.mono _ _ _ _)
   | (with_reducible exact crM_Word01.mono _ _ _)
   | (with_reducible exact LeO.refl _)
   | (with_reducible exact LeO.none _)
   | (with_reducible refine LeO.ite ?_ ?_)
   | (with_reducible refine LeO.bind ?_ (fun _ => ?_))
   | exact ih0 _ _ _ _ _ _ _
   | exact ih1 _ _ _ _ _ _ _
   | exact ih2 _ _ _ _ _ _ _ _ _ _
   | exact crM_Unsatisfied.mono _ _ _ _
   | exact crM_Word01.mono _ _ _
   | exact LeO.none _
   | refine LeO.ite ?_ ?_
   | refine LeO.bind ?_ (fun _ => ?_)
theorem crM_Exact.mono : ∀ a0 a1 a2 a3 k, LeO (crM_Exact.f k a0 a1 a2 a3) (crM_Exact.f (k + 1) a0 a1 a2 a3) := by
 intro a0 a1 a2 a3 k;obtain ⟨ih0, ih1, ih2⟩ := crM_Exact.mono_l k;unfold crM_Exact.f
 repeat' first
   | (with_reducible exact ih0 _ _ _ _ _ _ _)
   | (with_reducible exact ih1 _ _ _ _ _ _ _)
   | (with_reducible exact ih2 _ _ _ _ _ _ _ _ _ _)
   | (with_reducible exact crM_Unsatisfied.mono _ _ _ _)
   | (with_reducible exact crM_Word01.mono _ _ _)
   | (with_reducible exact LeO.refl _)
   | (with_reducible exact LeO.none _)
   | (with_reducible refine LeO.ite ?_ ?_)
   | (with_reducible refine LeO.bind ?_ (fun _ => ?_))
   | exact ih0 _ _ _ _ _ _ _
   | exact ih1 _ _ _ _ _ _ _
   | exact ih2 _ _ _ _ _ _ _ _ _ _
   | exact crM_Unsatisfied.mono _ _ _ _
   | exact crM_Word01.mono _ _ _
   | exact LeO.none _
   | refine LeO.ite ?_ ?_
   | refine LeO.bind ?_ (fun _ => ?_)
def crM_Exact.T16 : Bool × List (List Nat × List Nat) := (true, [([], []), ([], []), ([], []), ([1, 2], [1, 2]), ([3], [3]), ([], []), ([], []), ([5, 6], [5, 6]), ([7], [7]), ([4, 8], [4, 8]), ([0, 9], [0, 9]), ([10, 0, 1, 2, 3, 4, 5, 6, 7, 8, 9, 10], [0, 10])])
def crM_Exact.B16 : List Nat := [0, 0, 0, 6, 14, 0, 0, 96, 224, 510, 1023, 2047]
theorem crM_Exact.tab16 : rtab .any (opsOf Try.f17 16) = crM_Exact.T16 := by kernel_rfl
theorem crM_Exact.bits16 : waitsOk crM_Exact.T16.2 crM_Exact.B16 = true := by kernel_rfl
def crM_Exact.T17 : Bool × List (List Nat × List Nat) := (true, [([], []), ([], []), ([], []), ([1, 2], [1, 2]), ([3], [3]), ([], []), ([], []), ([], []), ([6, 7], [6, 7]), ([8], [8]), ([5, 9], [5, 9]), ([10], [10]), ([], []), ([11, 12], [11, 12]), ([0, 4, 0, 1, 2, 3, 4, 5, 6, 7, 8, 9, 10, 11, 12, 13], [0, 4]), ([14, 13, 0, 1, 2, 3, 4, 5, 6, 7, 8, 9, 10, 11, 12, 13], [13, 14])])
def crM_Exact.B17 : List Nat := [0, 0, 0, 6, 14, 0, 0, 0, 192, 448, 992, 2016, 0, 8160, 16383, 32767]
theorem crM_Exact.tab17 : rtab .any (opsOf Try.f17 17) = crM_Exact.T17 := by kernel_rfl
theorem crM_Exact.bits17 : waitsOk crM_Exact.T17.2 crM_Exact.B17 = true := by kernel_rfl
def crM_Exact.T20 : Bool × List (List Nat × List Nat) := (true, [([], []), ([0], [0]), ([1], [1]), ([], []), ([3], [3]), ([4], [4]), ([2, 5], [2, 5]), ([6, 0, 1, 2, 3, 4, 5, 6], [6])])
def crM_Exact.B20 : List Nat := [0, 1, 3, 0, 8, 24, 63, 127]
theorem crM_Exact.tab20 : rtab .any (opsOf Try.f17 20) = crM_Exact.T20 := by kernel_rfl
theorem crM_Exact.bits20 : waitsOk crM_Exact.T20.2 crM_Exact.B20 = true := by kernel_rfl
set_option maxHeartbeats 8000000 in
set_option maxRecDepth 100000 in
theorem crM_Exact.calls (k : Nat) (a0_0 : Int) (A0_1 : Option Addr) (c0_1 : Nat) (l0_1 : List (List Int)) (A1 : Option Addr) (c1 : Nat) (l1 : List Int) (a2 : Int) (r : Int) (w : World) (hr0_1 : Kd.C (Kd.slice 3 (Kd.int .i64)) w A0_1 l0_1.length l0_1) (hc0_1 : l0_1.length ≤ c0_1) (hr1 : Kd.C (Kd.int .i64) w A1 l1.length l1) (hc1 : l1.length ≤ c1) (h : crM_Exact.f k a0_0 l0_1 l1 a2 = some r) :
  Calls Try.prog 17 #[.agg #[.int .i64 a0_0, .slice A0_1 l0_1.length c0_1], .slice A1 l1.length c1, .int .i64 a2] w fun e w' => e = .returned (.int .i64 r) ∧ Below w.heap.size w w' := by
 have hu24 := Try.underlying24;have HR0_1 := Ai0.mk hr0_1;have HC0_1 := Ai0.mk hc0_1;clear hr0_1 hc0_1;have HR1 := Ai0.mk hr1;have HC1 := Ai0.mk hc1;clear hr1 hc1;have HB := Ai0.mk (Below.refl w.heap.size w);have H : (crM_Exact.l0 k l1 a2 (([1125899906842624, 1125899906842624] : List Int)) 1 0 a0_0 l0_1) = some r := h;clear h;obtain ⟨y231, hy231⟩ : ∃ y_ : List Int, y_ = (([1125899906842624, 1125899906842624] : List Int)) := ⟨_, rfl⟩
 replace H : (crM_Exact.l0 k l1 a2 y231 1 0 a0_0 l0_1) = some r := by first | (rw [hy231]; with_reducible exact H) | (have H2_ := (Option.bind_some _ _).symm.trans H; rw [hy231]; with_reducible exact H2_) | (have H2_ := (Option.bind_some _ _).symm.trans H; with_reducible exact H2_) | with_reducible exact H | (rw [hy231]; exact H) | exact H
 have Ny231 := Ai0.mk hy231;clear hy231;have H' := Ai0.mk H;clear H;go_enter Try.func17, Try.ntmps17
 go_wp2_with (first | ((with_reducible refine gate_dst (N := 3) rfl ?_); refine box_event ?hg (N := 3) ?hd (cs := #[.int .i64 a0_0, .slice A0_1 l0_1.length c0_1]) (t := 24) ?hr ?_; (case hd => rfl); (case hg => rfl); (case hr => first | (go_simp; done) | (go_simp; rfl)); intro gb230 hg w4 hbox hb; have n0_ := Ai0.mk (bt1 bl_ hb); have n1_ := Ai0.mk (hbox); have n2_ := Ai0.mk ((by rw [hg]; exact (bz1 bl_) : w.heap.size ≤ gb230)); have n3_ := Ai0.mk ((by rw [hg]; exact (bz1 bl_) : w.heap.size ≤ gb230)); clear HB; have HB := n0_; have BK230 := n1_; have GW230 := n2_; have GE230 := n3_; clear n0_ n1_ n2_ n3_; clear hb hbox hg) | ((with_reducible refine gate_dst (N := 14) rfl ?_); refine Kd.R_lit (Kd.int .i64) _ 3 ?hg (N := 14) ?hd (xs := ([1125899906842624, 1125899906842624] : List Int)) (inner := [.int .i64 1125899906842624, .int .i64 1125899906842624]) (ok := fun _ => True) (okp := fun _ => True) ?hr ?hp (fun _ hk => hk) trivial (Below.refl _ _) (Nat.le_refl _) (by simp) ?_; (case hd => rfl); (case hg => rfl); (case hr => first | (go_simp; done) | (go_simp; rfl)); (case hp => exact (Reps.one (show Kd.M (Kd.int .i64) _ _ _ 1125899906842624 [.int .i64 1125899906842624] from rfl) (Reps.one (show Kd.M (Kd.int .i64) _ _ _ 1125899906842624 [.int .i64 1125899906842624] from rfl) (Reps.none _ _)))); intro v232 w5 ho6 hb hg_ hnew_; clear hg_ hnew_; (first | rw [← Ny231.out] at ho6 | (simp only [Int.reduceToNat] at ho6; rw [← Ny231.out] at ho6)); have n0_ := Ai0.mk (Kd.R_lower ho6 (bz1 bl_)); have n1_ := Ai0.mk (kb1 (g := gb230) (o := .cells #[.int .i64 a0_0, .slice A0_1 l0_1.length c0_1] 24 (0, 0)) (kk_ BK230.out) hb); have n2_ := Ai0.mk (bt1 bl_ hb); clear BK230; clear HB; have HO233 := n0_; have BK230 := n1_; have HB := n2_; clear n0_ n1_ n2_; clear hb ho6))
 go_loopg [8, 9] k (fun kq v8 v9 w' => ∃ (x8_1 : Int) (x9_1 : Int), v8 = .int .i64 x8_1 ∧ v9 = .int .i64 x9_1 ∧ Ai0 (crM_Exact.l0 kq l1 a2 y231 x8_1 x9_1 a0_0 l0_1 = some r) ∧ Ai0 (kq ≤ k) ∧ Ai0 (Kd.R (Kd.int .i64) 3 w' w.heap.size (fun _ => True) v232 y231) ∧ Ai0 (w'.heap[gb230]? = some (.cells #[.int .i64 a0_0, (.slice A0_1 l0_1.length c0_1)] 24 (0, 0))) ∧ Ai0 (Below w.heap.size w w'))
 case atStart => exact ⟨(1), (0), rf_, rf_, H', ⟨Nat.le_refl _⟩, ⟨kr_ HO233.out⟩, ⟨kk_ BK230.out⟩, ⟨bl_⟩⟩
 case round =>
  clear H'
  try clear c1
  try clear p2
  obtain ⟨x8_1, x9_1, rfl, rfl, HA, HK1, HO_7, BK230, HB⟩ := hrel
  cases gk with
  | zero => exact absurd HA.out (by simp [crM_Exact.l0])
  | succ k1 =>
   have H := HA.out;clear HA;simp only [crM_Exact.l0] at H;by_cases c7 : x9_1 < a0_0
   ·rw [if_pos c7] at H;have c7b0 : decide (x9_1 < a0_0) = true := decide_eq_true c7;clear c7;have H' := Ai0.mk H;clear H;have hcz8_0 : wr.cell? ⟨gb230, 0, none⟩ = some (.int .i64 a0_0) := (kc1 BK230.out 0).trans rfl;have hcz8_1 : wr.cell? ⟨gb230, 1, none⟩ = some (.slice A0_1 l0_1.length c0_1) := (kc1 BK230.out 1).trans rfl;have hfz8_0 := kf1 BK230.out 0;have hfz8_1 := kf1 BK230.out 1
    go_wp2
    go_roundg k1
    case measure => have := HK1.out; omega
    case rel => exact ⟨(wrap64 (x8_1 * 2)), (wrap64 (x9_1 + 1)), rf_, rf_, H', ⟨by have := HK1.out; omega⟩, ⟨kr_ HO_7.out⟩, ⟨kk_ BK230.out⟩, ⟨bl_⟩⟩
   ·rw [if_neg c7] at H;have c7b0 : decide (x9_1 < a0_0) = false := decide_eq_false c7;clear c7;have H' := Ai0.mk H;clear H;have hcz9_0 : wr.cell? ⟨gb230, 0, none⟩ = some (.int .i64 a0_0) := (kc1 BK230.out 0).trans rfl;have hcz9_1 : wr.cell? ⟨gb230, 1, none⟩ = some (.slice A0_1 l0_1.length c0_1) := (kc1 BK230.out 1).trans rfl;have hfz9_0 := kf1 BK230.out 0;have hfz9_1 := kf1 BK230.out 1
    go_wp2
    go_loopg [10] k1 (fun kq v10 w' => ∃ (x7_2 : List Int) (x10_2 : Int), v10 = .int .i64 x10_2 ∧ Ai0 (crM_Exact.l1 kq l1 a2 x7_2 x8_1 x10_2 a0_0 l0_1 = some r) ∧ Ai0 (kq ≤ k1) ∧ Ai0 (Kd.R (Kd.int .i64) 3 w' w.heap.size (fun _ => True) v232 x7_2) ∧ Ai0 (w'.heap[gb230]? = some (.cells #[.int .i64 a0_0, (.slice A0_1 l0_1.length c0_1)] 24 (0, 0))) ∧ Ai0 (Below w.heap.size w w'))
    case atStart => exact ⟨(y231), (0), rf_, H', ⟨Nat.le_refl _⟩, ⟨kr_ HO_7.out⟩, ⟨kk_ BK230.out⟩, ⟨bl_⟩⟩
    case round =>
     clear H'
     try clear c1
     try clear p2
     try clear p6
     try clear c7
     try clear c7b0
     try clear hcz8_0
     try clear hcz8_1
     try clear hcz9_0
     try clear hcz9_1
     try clear hfz8_0
     try clear hfz8_1
     try clear hfz9_0
     try clear hfz9_1
     try clear p2
     obtain ⟨x7_2, x10_2, rfl, HA, HK2, HO_7, BK230, HB⟩ := hrel
     cases gk with
     | zero => exact absurd HA.out (by simp [crM_Exact.l1])
     | succ k2 =>
      have H := HA.out;clear HA;simp only [crM_Exact.l1] at H;by_cases c10 : x10_2 < x8_1
      ·rw [if_pos c10] at H;have c10b0 : decide (x10_2 < x8_1) = true := decide_eq_true c10;clear c10;replace H := Option.bind_eq_some_iff.mp H;obtain ⟨t237, A110, H⟩ := H;replace H : ((crM_Unsatisfied.f k2 a0_0 l0_1 t237).bind fun t240 => (if (t240.length : Int) > 0 then (crM_Exact.l1 k2 l1 a2 x7_2 x8_1 (wrap64 (x10_2 + 1)) a0_0 l0_1) else (crM_Exact.l2 k2 l1 a2 x7_2 x8_1 x10_2 t237 0 0 a0_0 l0_1))) = some r := H;have A11 := Ai0.mk A110;clear A110;replace H := Option.bind_eq_some_iff.mp H;obtain ⟨t240, A120, H⟩ := H;replace H : (if (t240.length : Int) > 0 then (crM_Exact.l1 k2 l1 a2 x7_2 x8_1 (wrap64 (x10_2 + 1)) a0_0 l0_1) else (crM_Exact.l2 k2 l1 a2 x7_2 x8_1 x10_2 t237 0 0 a0_0 l0_1)) = some r := H;have A12 := Ai0.mk A120;clear A120;by_cases c13 : (t240.length : Int) > 0
       ·rw [if_pos c13] at H;have c13b0 : decide (0 < (t240.length : Int)) = true := decide_eq_true c13;have c13b1 : decide (0 < t240.length) = true := decide_eq_true (by omega);clear c13;have H' := Ai0.mk H;clear H;have hcz14_0 : wr.cell? ⟨gb230, 0, none⟩ = some (.int .i64 a0_0) := (kc1 BK230.out 0).trans rfl;have hcz14_1 : wr.cell? ⟨gb230, 1, none⟩ = some (.slice A0_1 l0_1.length c0_1) := (kc1 BK230.out 1).trans rfl;have hfz14_0 := kf1 BK230.out 0;have hfz14_1 := kf1 BK230.out 1
        go_wp2_with (first | ((with_reducible refine gate_callee (f := 43) rfl ?_); refine goesL_ (some 31) rfl rfl Try.func43 (by kernel_rfl) rfl #[.int .i64 a0_0, .int .i64 x10_2] rfl (by (try simp only [List.map_toArray, List.map_cons, List.map_nil]); first | done | rfl | (simp only [List.length_drop, List.length_take]; rfl)) ?_; (with_reducible refine (crM_Word01.calls k2 a0_0 x10_2 t237 _ A11.out).mono ?_); rintro e w15 ⟨v238, rfl, ho0, hb⟩; refine ⟨_, rfl, ?_⟩; have n0_ := Ai0.mk (Kd.R_elder' (kr_ HO_7.out) (Kd.R_base ho0) hb); have n1_ := Ai0.mk (Kd.R_lower (Kd.R_new' ho0 (Kd.R_lt (kr_ HO_7.out))) (bz1 bl_)); have n2_ := Ai0.mk (kb1 (g := gb230) (o := .cells #[.int .i64 a0_0, .slice A0_1 l0_1.length c0_1] 24 (0, 0)) (kk_ BK230.out) hb); have n3_ := Ai0.mk (bt1 bl_ hb); clear HO_7; clear BK230; clear HB; have HO_7 := n0_; have HO239 := n1_; have BK230 := n2_; have HB := n3_; clear n0_ n1_ n2_ n3_; (try clear hb); (try clear hb2); (try clear hk); (try clear hi); (try clear ho0); have hcz16_0 : w15.cell? ⟨gb230, 0, none⟩ = some (.int .i64 a0_0) := (kc1 BK230.out 0).trans rfl; have hcz16_1 : w15.cell? ⟨gb230, 1, none⟩ = some (.slice A0_1 l0_1.length c0_1) := (kc1 BK230.out 1).trans rfl; have hfz16_0 := kf1 BK230.out 0; have hfz16_1 := kf1 BK230.out 1; obtain ⟨Ao17, co17, eo17⟩ := Kd.R_slice HO239.out; subst eo17) | ((with_reducible refine gate_callee (f := 22) rfl ?_); refine goesL_ (some 34) rfl rfl Try.func22 (by kernel_rfl) rfl #[.agg #[.int .i64 a0_0, .slice A0_1 l0_1.length c0_1], .slice Ao17 t237.length co17] rfl (by (try simp only [List.map_toArray, List.map_cons, List.map_nil]); first | done | rfl | (simp only [List.length_drop, List.length_take]; rfl)) ?_; (with_reducible refine (crM_Unsatisfied.calls k2 a0_0 _ _ l0_1 _ _ t237 t240 _ ?side1 ?side2 ?side3 ?side4 A12.out).mono ?_); (case side1 => exact kc_ HR0_1.out); (case side2 => exact HC0_1.out); (case side3 => repeat (first | exact (Kd.R_reads' HO239.out).2.2 | (with_reducible refine Kd.C_alloc ?_ _) | (with_reducible refine Kd.C_drewN ?_ _) | (with_reducible refine Kd.C_drew ?_))); (case side4 => exact (Kd.R_reads' HO239.out).2.1); rintro e w18 ⟨v241, rfl, ho0, hb⟩; refine ⟨_, rfl, ?_⟩; have n0_ := Ai0.mk (Kd.R_elder' (kr_ HO_7.out) (Kd.R_base ho0) hb); have n1_ := Ai0.mk (Kd.R_elder' (kr_ HO239.out) (Kd.R_base ho0) hb); have n2_ := Ai0.mk (Kd.R_lower (Kd.R_new' (Kd.R_new' ho0 (Kd.R_lt (kr_ HO_7.out))) (Kd.R_lt (kr_ HO239.out))) (bz1 bl_)); have n3_ := Ai0.mk (kb1 (g := gb230) (o := .cells #[.int .i64 a0_0, .slice A0_1 l0_1.length c0_1] 24 (0, 0)) (kk_ BK230.out) hb); have n4_ := Ai0.mk (bt1 bl_ hb); clear HO_7; clear HO239; clear BK230; clear HB; have HO_7 := n0_; have HO239 := n1_; have HO242 := n2_; have BK230 := n3_; have HB := n4_; clear n0_ n1_ n2_ n3_ n4_; (try clear hb); (try clear hb2); (try clear hk); (try clear hi); (try clear ho0); obtain ⟨Ao19, co19, eo19⟩ := Kd.R_slice HO242.out; subst eo19))
        go_roundg k2
        case measure => have := HK1.out; have := HK2.out; omega
        case rel => exact ⟨(x7_2), (wrap64 (x10_2 + 1)), rf_, H', ⟨by have := HK1.out; have := HK2.out; omega⟩, ⟨by (with_reducible repeat (first | apply Kd.Ra1 | apply Kd.Rn1 | apply Kd.Rd1)); exact Kd.R_mono HO_7.out (fun _ hk => trivial)⟩, ⟨kk_ BK230.out⟩, ⟨bl_⟩⟩
       ·rw [if_neg c13] at H;have c13b0 : decide (0 < (t240.length : Int)) = false := decide_eq_false c13;have c13b1 : decide (0 < t240.length) = false := decide_eq_false (by omega);clear c13;have H' := Ai0.mk H;clear H;have hcz20_0 : wr.cell? ⟨gb230, 0, none⟩ = some (.int .i64 a0_0) := (kc1 BK230.out 0).trans rfl;have hcz20_1 : wr.cell? ⟨gb230, 1, none⟩ = some (.slice A0_1 l0_1.length c0_1) := (kc1 BK230.out 1).trans rfl;have hfz20_0 := kf1 BK230.out 0;have hfz20_1 := kf1 BK230.out 1
        go_wp2_with (first | ((with_reducible refine gate_callee (f := 43) rfl ?_); refine goesL_ (some 31) rfl rfl Try.func43 (by kernel_rfl) rfl #[.int .i64 a0_0, .int .i64 x10_2] rfl (by (try simp only [List.map_toArray, List.map_cons, List.map_nil]); first | done | rfl | (simp only [List.length_drop, List.length_take]; rfl)) ?_; (with_reducible refine (crM_Word01.calls k2 a0_0 x10_2 t237 _ A11.out).mono ?_); rintro e w21 ⟨v238, rfl, ho0, hb⟩; refine ⟨_, rfl, ?_⟩; have n0_ := Ai0.mk (Kd.R_elder' (kr_ HO_7.out) (Kd.R_base ho0) hb); have n1_ := Ai0.mk (Kd.R_lower (Kd.R_new' ho0 (Kd.R_lt (kr_ HO_7.out))) (bz1 bl_)); have n2_ := Ai0.mk (kb1 (g := gb230) (o := .cells #[.int .i64 a0_0, .slice A0_1 l0_1.length c0_1] 24 (0, 0)) (kk_ BK230.out) hb); have n3_ := Ai0.mk (bt1 bl_ hb); clear HO_7; clear BK230; clear HB; have HO_7 := n0_; have HO239 := n1_; have BK230 := n2_; have HB := n3_; clear n0_ n1_ n2_ n3_; (try clear hb); (try clear hb2); (try clear hk); (try clear hi); (try clear ho0); have hcz22_0 : w21.cell? ⟨gb230, 0, none⟩ = some (.int .i64 a0_0) := (kc1 BK230.out 0).trans rfl; have hcz22_1 : w21.cell? ⟨gb230, 1, none⟩ = some (.slice A0_1 l0_1.length c0_1) := (kc1 BK230.out 1).trans rfl; have hfz22_0 := kf1 BK230.out 0; have hfz22_1 := kf1 BK230.out 1; obtain ⟨Ao23, co23, eo23⟩ := Kd.R_slice HO239.out; subst eo23) | ((with_reducible refine gate_callee (f := 22) rfl ?_); refine goesL_ (some 34) rfl rfl Try.func22 (by kernel_rfl) rfl #[.agg #[.int .i64 a0_0, .slice A0_1 l0_1.length c0_1], .slice Ao23 t237.length co23] rfl (by (try simp only [List.map_toArray, List.map_cons, List.map_nil]); first | done | rfl | (simp only [List.length_drop, List.length_take]; rfl)) ?_; (with_reducible refine (crM_Unsatisfied.calls k2 a0_0 _ _ l0_1 _ _ t237 t240 _ ?side1 ?side2 ?side3 ?side4 A12.out).mono ?_); (case side1 => exact kc_ HR0_1.out); (case side2 => exact HC0_1.out); (case side3 => repeat (first | exact (Kd.R_reads' HO239.out).2.2 | (with_reducible refine Kd.C_alloc ?_ _) | (with_reducible refine Kd.C_drewN ?_ _) | (with_reducible refine Kd.C_drew ?_))); (case side4 => exact (Kd.R_reads' HO239.out).2.1); rintro e w24 ⟨v241, rfl, ho0, hb⟩; refine ⟨_, rfl, ?_⟩; have n0_ := Ai0.mk (Kd.R_elder' (kr_ HO_7.out) (Kd.R_base ho0) hb); have n1_ := Ai0.mk (Kd.R_elder' (kr_ HO239.out) (Kd.R_base ho0) hb); have n2_ := Ai0.mk (Kd.R_lower (Kd.R_new' (Kd.R_new' ho0 (Kd.R_lt (kr_ HO_7.out))) (Kd.R_lt (kr_ HO239.out))) (bz1 bl_)); have n3_ := Ai0.mk (kb1 (g := gb230) (o := .cells #[.int .i64 a0_0, .slice A0_1 l0_1.length c0_1] 24 (0, 0)) (kk_ BK230.out) hb); have n4_ := Ai0.mk (bt1 bl_ hb); clear HO_7; clear HO239; clear BK230; clear HB; have HO_7 := n0_; have HO239 := n1_; have HO242 := n2_; have BK230 := n3_; have HB := n4_; clear n0_ n1_ n2_ n3_ n4_; (try clear hb); (try clear hb2); (try clear hk); (try clear hi); (try clear ho0); obtain ⟨Ao25, co25, eo25⟩ := Kd.R_slice HO242.out; subst eo25))
        go_loopg [12, 13] k2 (fun kq v12 v13 w' => ∃ (x12_3 : Int) (x13_3 : Int), v12 = .int .i64 x12_3 ∧ v13 = .int .i64 x13_3 ∧ Ai0 (crM_Exact.l2 kq l1 a2 x7_2 x8_1 x10_2 t237 x12_3 x13_3 a0_0 l0_1 = some r) ∧ Ai0 (kq ≤ k2) ∧ Ai0 (Kd.R (Kd.int .i64) 3 w' w.heap.size (fun k_ => some k_ ≠ ((.slice Ao23 t237.length co23) : Value).ownBlock) v232 x7_2) ∧ Ai0 (Kd.R (Kd.int .i64) 3 w' w.heap.size (fun k_ => some k_ ≠ (v232 : Value).ownBlock) (.slice Ao23 t237.length co23) t237) ∧ Ai0 (w'.heap[gb230]? = some (.cells #[.int .i64 a0_0, (.slice A0_1 l0_1.length c0_1)] 24 (0, 0))) ∧ Ai0 (Below w.heap.size w w'))
        case atStart => exact ⟨(0), (0), rf_, rf_, H', ⟨Nat.le_refl _⟩, ⟨by (with_reducible repeat (first | apply Kd.Ra1 | apply Kd.Rn1 | apply Kd.Rd1)); exact Kd.R_mono HO_7.out (fun _ hk => hk.1.2)⟩, ⟨by (with_reducible repeat (first | apply Kd.Ra1 | apply Kd.Rn1 | apply Kd.Rd1)); exact Kd.R_mono HO239.out (fun _ hk => hk.1.2)⟩, ⟨kk_ BK230.out⟩, ⟨bl_⟩⟩
        case round =>
         clear H'
         try clear c1
         try clear c2
         try clear p2
         try clear c4
         try clear p6
         try clear c7
         try clear c7b0
         try clear c10
         try clear c10b0
         try clear c13
         try clear c13b0
         try clear c13b1
         try clear c17
         try clear c22
         try clear hcz14_0
         try clear hcz14_1
         try clear hcz16_0
         try clear hcz16_1
         try clear hcz20_0
         try clear hcz20_1
         try clear hcz22_0
         try clear hcz22_1
         try clear hcz8_0
         try clear hcz8_1
         try clear hcz9_0
         try clear hcz9_1
         try clear hfz14_0
         try clear hfz14_1
         try clear hfz16_0
         try clear hfz16_1
         try clear hfz20_0
         try clear hfz20_1
         try clear hfz22_0
         try clear hfz22_1
         try clear hfz8_0
         try clear hfz8_1
         try clear hfz9_0
         try clear hfz9_1
         try clear p2
         try clear p6
         obtain ⟨x12_3, x13_3, rfl, rfl, HA, HK3, HO_7, HO_11, BK230, HB⟩ := hrel
         cases gk with
         | zero => exact absurd HA.out (by simp [crM_Exact.l2])
         | succ k3 =>
          have H := HA.out;clear HA;simp only [crM_Exact.l2] at H;by_cases c26 : x13_3 < a0_0
          ·rw [if_pos c26] at H;have c26b0 : decide (x13_3 < a0_0) = true := decide_eq_true c26;clear c26;by_cases c27 : 0 ≤ x13_3
           ·rw [if_pos c27] at H;have c27b0 : decide (0 ≤ x13_3) = true := decide_eq_true c27;clear c27;by_cases c28 : x13_3 < (t237.length : Int)
            ·rw [if_pos c28] at H;have c28b0 : decide (x13_3 < (t237.length : Int)) = true := decide_eq_true c28;clear c28;by_cases c29 : x13_3 < (l1.length : Int)
             ·rw [if_pos c29] at H;have c29b0 : decide (x13_3 < (l1.length : Int)) = true := decide_eq_true c29;clear c29;have H' := Ai0.mk H;clear H;have hcz30_0 : wr.cell? ⟨gb230, 0, none⟩ = some (.int .i64 a0_0) := (kc1 BK230.out 0).trans rfl;have hcz30_1 : wr.cell? ⟨gb230, 1, none⟩ = some (.slice A0_1 l0_1.length c0_1) := (kc1 BK230.out 1).trans rfl;have hfz30_0 := kf1 BK230.out 0;have hfz30_1 := kf1 BK230.out 1
              try go_wp2
              have n0_ := Ai0.mk (Kd.Rd1 HO_7.out);have n1_ := Ai0.mk (Kd.Rd1 HO_11.out);have n2_ := Ai0.mk (kd1 BK230.out);have n3_ := Ai0.mk (bw1 HB.out);clear HO_7;clear HO_11;clear BK230;clear HB;have HO_7 := n0_;have HO_11 := n1_;have BK230 := n2_;have HB := n3_;clear n0_ n1_ n2_ n3_;have p243 : 0 ≤ (x13_3 : Int) := od_;have q243 : x13_3 < (t237.length : Int) := od_;obtain ⟨ad243, e243, hx243_0⟩ := Kd.at_int (Kd.R_reads' HO_11.out).2.2 x13_3 p243 q243;cases e243;replace p243 := eq_true p243;replace q243 := eq_true q243;have p244 : 0 ≤ (x13_3 : Int) := od_;have q244 : x13_3 < (l1.length : Int) := od_;obtain ⟨ad244, e244, hx244_0⟩ := Kd.at_int HR1.out x13_3 p244 q244;have hw244_0 := hx244_0;cases e244;replace hx244_0 := (HB.out.cell (World.block_lt_of_cell? w _ hx244_0)).trans hx244_0;replace p244 := eq_true p244;replace q244 := eq_true q244;refine start_ (n := 12) (S := fun w' => w'.cell? (ad243.add (x13_3).toNat) = some (.int .i64 (rd t237 x13_3)) ∧ w'.cell? (ad244.add (x13_3).toNat) = some (.int .i64 (rd l1 x13_3))) (ds := []) #[false, false, false, false, false, false, false, false, false, false, false, false] (by kernel_rfl) rfl rfl ⟨hx243_0, ((HB.out.cell (World.block_lt_of_cell? w _ hw244_0)).trans hw244_0)⟩ (fun hHeld => ?_); refine with_tabW crM_Exact.tab16 crM_Exact.bits16 (fun HT_ HW_ => ?_);(generalize wr.drew = w31 at HO_7 HO_11 BK230 HB hx243_0 hx244_0 hHeld ⊢);refine pure_ (i := 0) (N := some 43) (v := ?_) (a' := ?_) #[true, false, false, false, false, false, false, false, false, false, false, false] rfl rfl (any_of HT_.out (by kernel_rfl)) (fun _ _ _ h => h) (Or.inl ⟨by rfl, ?_⟩) ?_ ?_;rotate_left
              ·intro w';go_simp
               with_reducible rfl
              rotate_left
              ·simp only [Act.put, l01_, l02_, l03_, i64_w, i32_w]
               rfl
              refine pure_ (i := 1) (N := some 44) (v := ?_) (a' := ?_) #[true, true, false, false, false, false, false, false, false, false, false, false] rfl rfl (any_of HT_.out (by kernel_rfl)) (fun _ _ _ h => h) (Or.inl ⟨by rfl, ?_⟩) ?_ ?_;rotate_left
              ·intro w';go_simp
               with_reducible rfl
              rotate_left
              ·simp only [Act.put, l01_, l02_, l03_, i64_w, i32_w]
               rfl
              refine pure_ (i := 2) (N := some 45) (v := ?_) (a' := ?_) #[true, true, true, false, false, false, false, false, false, false, false, false] rfl rfl (any_of HT_.out (by kernel_rfl)) (fun _ _ _ h => h) (Or.inl ⟨by rfl, ?_⟩) ?_ ?_;rotate_left
              ·intro w';go_simp
               with_reducible rfl
              rotate_left
              ·simp only [Act.put, l01_, l02_, l03_, i64_w, i32_w]
               rfl
              refine pure_ (i := 3) (N := some 46) (v := ?_) (a' := ?_) #[true, true, true, true, false, false, false, false, false, false, false, false] rfl rfl (any_of HT_.out (by kernel_rfl)) (fun _ _ _ h => h) (Or.inl ⟨by rfl, ?_⟩) ?_ ?_;rotate_left
              ·intro w';go_simp
               with_reducible rfl
              rotate_left
              ·simp only [Act.put, l01_, l02_, l03_, i64_w, i32_w]
               rfl
              refine pure_ (i := 5) (N := some 48) (v := ?_) (a' := ?_) #[true, true, true, true, false, true, false, false, false, false, false, false] rfl rfl (any_of HT_.out (by kernel_rfl)) (fun _ _ _ h => h) (Or.inl ⟨by rfl, ?_⟩) ?_ ?_;rotate_left
              ·intro w';go_simp
               with_reducible rfl
              rotate_left
              ·simp only [Act.put, l01_, l02_, l03_, i64_w, i32_w]
               rfl
              refine pure_ (i := 6) (N := some 49) (v := ?_) (a' := ?_) #[true, true, true, true, false, true, true, false, false, false, false, false] rfl rfl (any_of HT_.out (by kernel_rfl)) (fun _ _ _ h => h) (Or.inl ⟨by rfl, ?_⟩) ?_ ?_;rotate_left
              ·intro w';go_simp
               with_reducible rfl
              rotate_left
              ·simp only [Act.put, l01_, l02_, l03_, i64_w, i32_w]
               rfl
              refine pure_ (i := 7) (N := some 50) (v := ?_) (a' := ?_) #[true, true, true, true, false, true, true, true, false, false, false, false] rfl rfl (any_of HT_.out (by kernel_rfl)) (fun _ _ _ h => h) (Or.inl ⟨by rfl, ?_⟩) ?_ ?_;rotate_left
              ·intro w';go_simp
               with_reducible rfl
              rotate_left
              ·simp only [Act.put, l01_, l02_, l03_, i64_w, i32_w]
               rfl
              refine take_ (i := 4) (N := some 47) (v := ?_) (a' := ?_) #[true, true, true, true, true, true, true, true, false, false, false, false] rfl rfl (take_ofW HT_.out HW_.out (by kernel_rfl)) (fun _ _ _ h => h) (Or.inl ⟨by rfl, ?_⟩) hHeld ?_ ?_;rotate_left
              ·rintro w' ⟨s0, s1⟩
               go_simp
               with_reducible rfl
              rotate_left
              ·simp only [Act.put, l01_, l02_, l03_, i64_w, i32_w]
               rfl
              refine take_ (i := 8) (N := some 51) (v := ?_) (a' := ?_) #[true, true, true, true, true, true, true, true, true, false, false, false] rfl rfl (take_ofW HT_.out HW_.out (by kernel_rfl)) (fun _ _ _ h => h) (Or.inl ⟨by rfl, ?_⟩) hHeld ?_ ?_;rotate_left
              ·rintro w' ⟨s0, s1⟩
               go_simp
               with_reducible rfl
              rotate_left
              ·simp only [Act.put, l01_, l02_, l03_, i64_w, i32_w]
               rfl
              refine pure_ (i := 9) (N := some 52) (v := ?_) (a' := ?_) #[true, true, true, true, true, true, true, true, true, true, false, false] rfl rfl (any_of HT_.out (by kernel_rfl)) (fun _ _ _ h => h) (Or.inl ⟨by rfl, ?_⟩) ?_ ?_;rotate_left
              ·intro w';go_simp
               with_reducible rfl
              rotate_left
              ·simp only [Act.put, l01_, l02_, l03_, i64_w, i32_w]
               rfl
              refine pure_ (i := 10) (N := some 53) (v := ?_) (a' := ?_) #[true, true, true, true, true, true, true, true, true, true, true, false] rfl rfl (any_of HT_.out (by kernel_rfl)) (fun _ _ _ h => h) (Or.inl ⟨by rfl, ?_⟩) ?_ ?_;rotate_left
              ·intro w';go_simp
               with_reducible rfl
              rotate_left
              ·simp only [Act.put, l01_, l02_, l03_, i64_w, i32_w]
               rfl
              refine pure_ (i := 11) (N := some 12) (v := ?_) (a' := ?_) #[true, true, true, true, true, true, true, true, true, true, true, true] rfl rfl (any_of HT_.out (by kernel_rfl)) (fun _ _ _ h => h) (Or.inl ⟨by rfl, ?_⟩) ?_ ?_;rotate_left
              ·intro w';go_simp
               with_reducible rfl
              rotate_left
              ·simp only [Act.put, l01_, l02_, l03_, i64_w, i32_w]
               rfl
              refine done_ (done_of HT_.out (by kernel_rfl)) ?_
              try go_wp2
              go_roundg k3
              case measure => have := HK1.out; have := HK2.out; have := HK3.out; omega
              case rel => exact ⟨(wrap64 (x12_3 + (wrap64 ((rd t237 x13_3) * (rd l1 x13_3))))), (wrap64 (x13_3 + 1)), rf_, rf_, H', ⟨by have := HK1.out; have := HK2.out; have := HK3.out; omega⟩, ⟨kr_ HO_7.out⟩, ⟨kr_ HO_11.out⟩, ⟨kk_ BK230.out⟩, ⟨bl_⟩⟩
             ·rw [if_neg c29] at H;exact absurd H (by simp)
            ·rw [if_neg c28] at H;exact absurd H (by simp)
           ·rw [if_neg c27] at H;exact absurd H (by simp)
          ·rw [if_neg c26] at H;have c26b0 : decide (x13_3 < a0_0) = false := decide_eq_false c26;clear c26;by_cases c32 : 0 ≤ a2
           ·rw [if_pos c32] at H;have c32b0 : decide (0 ≤ a2) = true := decide_eq_true c32;clear c32;by_cases c33 : a2 < (t237.length : Int)
            ·rw [if_pos c33] at H;have c33b0 : decide (a2 < (t237.length : Int)) = true := decide_eq_true c33;clear c33;by_cases c34 : 0 ≤ (rd t237 a2)
             ·rw [if_pos c34] at H;have c34b0 : decide (0 ≤ (rd t237 a2)) = true := decide_eq_true c34;clear c34;by_cases c35 : (rd t237 a2) < (x7_2.length : Int)
              ·rw [if_pos c35] at H;have c35b0 : decide ((rd t237 a2) < (x7_2.length : Int)) = true := decide_eq_true c35;clear c35;(obtain ⟨ji36, hji36⟩ : ∃ j_ : Int, (mn (rd x7_2 (rd t237 a2)) x12_3) = j_ := ⟨_, rfl⟩);(replace H : (crM_Exact.l1 k3 l1 a2 (x7_2.set ((rd t237 a2) : Int).toNat (ji36)) x8_1 (wrap64 (x10_2 + 1)) a0_0 l0_1) = some r := by first | (rw [hji36] at H; exact H) | (simp only [hji36] at H ⊢; exact H));have hji36_ : (if x12_3 < (rd x7_2 (rd t237 a2)) then x12_3 else (rd x7_2 (rd t237 a2))) = ji36 := hji36;(obtain ⟨y248, hy248⟩ : ∃ y_ : List Int, y_ = (x7_2.set ((rd t237 a2) : Int).toNat (ji36)) := ⟨_, rfl⟩);(replace H : (crM_Exact.l1 k3 l1 a2 y248 x8_1 (wrap64 (x10_2 + 1)) a0_0 l0_1) = some r := by first | (rw [hy248]; with_reducible exact H) | (have H2_ := (Option.bind_some _ _).symm.trans H; rw [hy248]; with_reducible exact H2_) | (have H2_ := (Option.bind_some _ _).symm.trans H; with_reducible exact H2_) | with_reducible exact H | (rw [hy248]; exact H) | exact H);have Ny248 := Ai0.mk hy248;clear hy248;have H' := Ai0.mk H;clear H;have hcz38_0 : wr.cell? ⟨gb230, 0, none⟩ = some (.int .i64 a0_0) := (kc1 BK230.out 0).trans rfl;have hcz38_1 : wr.cell? ⟨gb230, 1, none⟩ = some (.slice A0_1 l0_1.length c0_1) := (kc1 BK230.out 1).trans rfl;have hfz38_0 := kf1 BK230.out 0;have hfz38_1 := kf1 BK230.out 1
               try go_wp2
               have n0_ := Ai0.mk (Kd.Rd1 HO_7.out);have n1_ := Ai0.mk (Kd.Rd1 HO_11.out);have n2_ := Ai0.mk (kd1 BK230.out);have n3_ := Ai0.mk (bw1 HB.out);clear HO_7;clear HO_11;clear BK230;clear HB;have HO_7 := n0_;have HO_11 := n1_;have BK230 := n2_;have HB := n3_;clear n0_ n1_ n2_ n3_;have p245 : 0 ≤ (a2 : Int) := od_;have q245 : a2 < (t237.length : Int) := od_;obtain ⟨ad245, e245, hx245_0⟩ := Kd.at_int (Kd.R_reads' HO_11.out).2.2 a2 p245 q245;cases e245;replace p245 := eq_true p245;replace q245 := eq_true q245;have p246 : 0 ≤ (a2 : Int) := od_;have q246 : a2 < (t237.length : Int) := od_;obtain ⟨ad246, e246, hx246_0⟩ := Kd.at_int (Kd.R_reads' HO_11.out).2.2 a2 p246 q246;obtain rfl : ad245 = ad246 := (by injection e246);replace p246 := eq_true p246;replace q246 := eq_true q246;obtain ⟨Ao40, co40, eo40⟩ := Kd.R_slice HO_7.out;(first | subst eo40 | (injection eo40 with f1_ f2_ f3_; have f4_ := f1_.symm; have f5_ := f3_.symm; clear f1_ f2_ f3_; subst f4_; subst f5_));have p247 : 0 ≤ ((rd t237 a2) : Int) := od_;have q247 : (rd t237 a2) < (x7_2.length : Int) := od_;obtain ⟨ad247, e247, hx247_0⟩ := Kd.at_int (Kd.R_reads' HO_7.out).2.2 (rd t237 a2) p247 q247;cases e247;replace p247 := eq_true p247;replace q247 := eq_true q247;have p37 : 0 ≤ ((rd t237 a2) : Int) := od_;have q37 : ((rd t237 a2) : Int) < ((x7_2.length : Int) : Int) := od_;obtain ⟨go37, co37, eo37, gb37, gl37, cl37, HG37⟩ := Kd.R_form HO_7.out (by omega);(first | cases eo37 | (injection eo37 with ea_ en_ ec_; (first | subst ea_ | (injection ea_ with ea_; subst ea_)); subst ec_; clear en_));have GB37 := Ai0.mk gb37;have GG37 := Ai0.mk HG37;clear gb37 gl37 HG37;(first | simp only [add_plain] at hx247_0 | skip);obtain ⟨hx37_0, hf37_0⟩ := Kd.R_celln 0 HO_7.out ((rd t237 a2) : Int) p37 q37;replace p37 := eq_true p37;replace q37 := eq_true q37;have HP41 := Kd.R_putn HO_7.out ((rd t237 a2) : Int) ji36;rw [← Ny248.out] at HP41;have HQ41 := Ai0.mk HP41;clear HP41;refine start_ (n := 16) (S := fun w' => w'.cell? (ad245.add (a2).toNat) = some (.int .i64 (rd t237 a2)) ∧ w'.cell? (ad245.add (a2).toNat) = some (.int .i64 (rd t237 a2)) ∧ w'.cell? ⟨go37, ((rd t237 a2)).toNat, none⟩ = some (.int .i64 (rd x7_2 (rd t237 a2)))) (ds := [15]) #[false, false, false, false, false, false, false, false, false, false, false, false, false, false, false, false] (by kernel_rfl) rfl rfl ⟨hx245_0, hx246_0, hx247_0⟩ (fun hHeld => ?_); refine with_tabW crM_Exact.tab17 crM_Exact.bits17 (fun HT_ HW_ => ?_);(generalize wr.drew = w39 at HO_7 HO_11 BK230 HB GG37 HQ41 hf37_0 hx245_0 hx246_0 hx247_0 hx37_0 hHeld ⊢);refine pure_ (i := 0) (N := some 54) (v := ?_) (a' := ?_) #[true, false, false, false, false, false, false, false, false, false, false, false, false, false, false, false] rfl rfl (any_of HT_.out (by kernel_rfl)) (fun _ _ _ h => h) (Or.inl ⟨by rfl, ?_⟩) ?_ ?_;rotate_left
               ·intro w';go_simp
                with_reducible rfl
               rotate_left
               ·simp only [Act.put, l01_, l02_, l03_, i64_w, i32_w]
                rfl
               refine pure_ (i := 1) (N := some 55) (v := ?_) (a' := ?_) #[true, true, false, false, false, false, false, false, false, false, false, false, false, false, false, false] rfl rfl (any_of HT_.out (by kernel_rfl)) (fun _ _ _ h => h) (Or.inl ⟨by rfl, ?_⟩) ?_ ?_;rotate_left
               ·intro w';go_simp
                with_reducible rfl
               rotate_left
               ·simp only [Act.put, l01_, l02_, l03_, i64_w, i32_w]
                rfl
               refine pure_ (i := 2) (N := some 56) (v := ?_) (a' := ?_) #[true, true, true, false, false, false, false, false, false, false, false, false, false, false, false, false] rfl rfl (any_of HT_.out (by kernel_rfl)) (fun _ _ _ h => h) (Or.inl ⟨by rfl, ?_⟩) ?_ ?_;rotate_left
               ·intro w';go_simp
                with_reducible rfl
               rotate_left
               ·simp only [Act.put, l01_, l02_, l03_, i64_w, i32_w]
                rfl
               refine pure_ (i := 3) (N := some 57) (v := ?_) (a' := ?_) #[true, true, true, true, false, false, false, false, false, false, false, false, false, false, false, false] rfl rfl (any_of HT_.out (by kernel_rfl)) (fun _ _ _ h => h) (Or.inl ⟨by rfl, ?_⟩) ?_ ?_;rotate_left
               ·intro w';go_simp
                with_reducible rfl
               rotate_left
               ·simp only [Act.put, l01_, l02_, l03_, i64_w, i32_w]
                rfl
               refine pure_ (i := 5) (N := some 59) (v := ?_) (a' := ?_) #[true, true, true, true, false, true, false, false, false, false, false, false, false, false, false, false] rfl rfl (any_of HT_.out (by kernel_rfl)) (fun _ _ _ h => h) (Or.inl ⟨by rfl, ?_⟩) ?_ ?_;rotate_left
               ·intro w';go_simp
                with_reducible rfl
               rotate_left
               ·simp only [Act.put, l01_, l02_, l03_, i64_w, i32_w]
                rfl
               refine pure_ (i := 6) (N := some 60) (v := ?_) (a' := ?_) #[true, true, true, true, false, true, true, false, false, false, false, false, false, false, false, false] rfl rfl (any_of HT_.out (by kernel_rfl)) (fun _ _ _ h => h) (Or.inl ⟨by rfl, ?_⟩) ?_ ?_;rotate_left
               ·intro w';go_simp
                with_reducible rfl
               rotate_left
               ·simp only [Act.put, l01_, l02_, l03_, i64_w, i32_w]
                rfl
               refine pure_ (i := 7) (N := some 61) (v := ?_) (a' := ?_) #[true, true, true, true, false, true, true, true, false, false, false, false, false, false, false, false] rfl rfl (any_of HT_.out (by kernel_rfl)) (fun _ _ _ h => h) (Or.inl ⟨by rfl, ?_⟩) ?_ ?_;rotate_left
               ·intro w';go_simp
                with_reducible rfl
               rotate_left
               ·simp only [Act.put, l01_, l02_, l03_, i64_w, i32_w]
                rfl
               refine pure_ (i := 8) (N := some 62) (v := ?_) (a' := ?_) #[true, true, true, true, false, true, true, true, true, false, false, false, false, false, false, false] rfl rfl (any_of HT_.out (by kernel_rfl)) (fun _ _ _ h => h) (Or.inl ⟨by rfl, ?_⟩) ?_ ?_;rotate_left
               ·intro w';go_simp
                with_reducible rfl
               rotate_left
               ·simp only [Act.put, l01_, l02_, l03_, i64_w, i32_w]
                rfl
               refine pure_ (i := 12) (N := some 66) (v := ?_) (a' := ?_) #[true, true, true, true, false, true, true, true, true, false, false, false, true, false, false, false] rfl rfl (any_of HT_.out (by kernel_rfl)) (fun _ _ _ h => h) (Or.inl ⟨by rfl, ?_⟩) ?_ ?_;rotate_left
               ·intro w';go_simp
                with_reducible rfl
               rotate_left
               ·simp only [Act.put, l01_, l02_, l03_, i64_w, i32_w]
                rfl
               refine take_ (i := 4) (N := some 58) (v := ?_) (a' := ?_) #[true, true, true, true, true, true, true, true, true, false, false, false, true, false, false, false] rfl rfl (take_ofW HT_.out HW_.out (by kernel_rfl)) (fun _ _ _ h => h) (Or.inl ⟨by rfl, ?_⟩) hHeld ?_ ?_;rotate_left
               ·rintro w' ⟨s0, s1, s2⟩
                go_simp
                with_reducible rfl
               rotate_left
               ·simp only [Act.put, l01_, l02_, l03_, i64_w, i32_w]
                rfl
               refine take_ (i := 9) (N := some 63) (v := ?_) (a' := ?_) #[true, true, true, true, true, true, true, true, true, true, false, false, true, false, false, false] rfl rfl (take_ofW HT_.out HW_.out (by kernel_rfl)) (fun _ _ _ h => h) (Or.inl ⟨by rfl, ?_⟩) hHeld ?_ ?_;rotate_left
               ·rintro w' ⟨s0, s1, s2⟩
                go_simp
                with_reducible rfl
               rotate_left
               ·simp only [Act.put, l01_, l02_, l03_, i64_w, i32_w]
                rfl
               refine pure_ (i := 10) (N := some 64) (v := ?_) (a' := ?_) #[true, true, true, true, true, true, true, true, true, true, true, false, true, false, false, false] rfl rfl (any_of HT_.out (by kernel_rfl)) (fun _ _ _ h => h) (Or.inl ⟨by rfl, ?_⟩) ?_ ?_;rotate_left
               ·intro w';go_simp
                with_reducible rfl
               rotate_left
               ·simp only [Act.put, l01_, l02_, l03_, i64_w, i32_w]
                rfl
               refine take_ (i := 11) (N := some 65) (v := ?_) (a' := ?_) #[true, true, true, true, true, true, true, true, true, true, true, true, true, false, false, false] rfl rfl (take_ofW HT_.out HW_.out (by kernel_rfl)) (fun _ _ _ h => h) (Or.inl ⟨by rfl, ?_⟩) hHeld ?_ ?_;rotate_left
               ·rintro w' ⟨s0, s1, s2⟩
                go_simp
                with_reducible rfl
               rotate_left
               ·simp only [Act.put, l01_, l02_, l03_, i64_w, i32_w]
                rfl
               refine pure_ (i := 13) (N := some 67) (v := ?_) (a' := ?_) #[true, true, true, true, true, true, true, true, true, true, true, true, true, true, false, false] rfl rfl (any_of HT_.out (by kernel_rfl)) (fun _ _ _ h => h) (Or.inl ⟨by rfl, ?_⟩) ?_ ?_;rotate_left
               ·intro w';go_simp
                with_reducible rfl
               rotate_left
               ·simp only [Act.put, l01_, l02_, l03_, i64_w, i32_w]
                rfl
               refine pure_ (i := 14) (N := some 68) (v := ?_) (a' := ?_) #[true, true, true, true, true, true, true, true, true, true, true, true, true, true, true, false] rfl rfl (any_of HT_.out (by kernel_rfl)) (fun _ _ _ h => h) (Or.inl ⟨by rfl, ?_⟩) ?_ ?_;rotate_left
               ·intro w';go_simp
                with_reducible rfl
               rotate_left
               ·simp only [Act.put, l01_, l02_, l03_, i64_w, i32_w]
                rfl
               refine last_ (i := 15) (N := none) #[true, true, true, true, true, true, true, true, true, true, true, true, true, true, true, true] rfl rfl (one_of HT_.out (by kernel_rfl)) (by decide) (fun K hK => ?_);refine skip_ (w1 := ?_) (by rfl) rfl ?_ ?_;rotate_left
               ·go_simp
                rfl
               refine hK.out _ _ ?_;clear hK K;refine done_ (done_of HT_.out (by kernel_rfl)) ?_
               try go_wp2
               go_roundg k3
               case measure => have := HK1.out; have := HK2.out; have := HK3.out; omega
               case rel => exact ⟨(y248), (wrap64 (x10_2 + 1)), rf_, H', ⟨by have := HK1.out; have := HK2.out; have := HK3.out; omega⟩, ⟨by (with_reducible repeat (first | apply Kd.Ra1 | apply Kd.Rn1 | apply Kd.Rd1)); exact Kd.R_mono HQ41.out (fun _ hk => trivial)⟩, ⟨by (with_reducible repeat (first | refine kn1 ?_ _ | refine kd1 ?_ | refine ka1 ?_ _)); refine blk_far ?_ (by have h_ := Kd.R_ne HO_7.out BK230.out (by decide); intro e_; exact h_ (by rw [e_]; rfl)) _; (with_reducible repeat (first | refine kn1 ?_ _ | refine kd1 ?_ | refine ka1 ?_ _)); exact BK230.out⟩, ⟨bl_⟩⟩
              ·rw [if_neg c35] at H;exact absurd H (by simp)
             ·rw [if_neg c34] at H;exact absurd H (by simp)
            ·rw [if_neg c33] at H;exact absurd H (by simp)
           ·rw [if_neg c32] at H;exact absurd H (by simp)
      ·rw [if_neg c10] at H;have c10b0 : decide (x10_2 < x8_1) = false := decide_eq_false c10;clear c10;by_cases c42 : 1 < (x7_2.length : Int)
       ·rw [if_pos c42] at H;have c42b0 : decide (1 < (x7_2.length : Int)) = true := decide_eq_true c42;have c42b1 : decide (1 < x7_2.length) = true := decide_eq_true (by omega);clear c42;by_cases c43 : (rd x7_2 1) = 1125899906842624
        ·rw [if_pos c43] at H;have c43b0 : ((rd x7_2 1) == 1125899906842624) = true := beq_iff_eq.mpr c43;have c43b1 : ((rd x7_2 1) != 1125899906842624) = false := bne_eq_false_iff_eq.mpr c43;clear c43;obtain rfl := Option.some.inj H;obtain ⟨Ao44, co44, eo44⟩ := Kd.R_slice HO_7.out;subst eo44;have p234 : 0 ≤ (1 : Int) := (by omega);have q234 : 1 < (x7_2.length : Int) := od_;obtain ⟨ad234, e234, hx234_0⟩ := Kd.at_int (Kd.R_reads' HO_7.out).2.2 1 p234 q234;cases e234;(try simp only [show (1 : Int).toNat = 1 from rfl, Nat.reduceMul, Nat.reduceEqDiff, Go.Addr.add, ↓reduceIte] at hx234_0);have qi234 : (1 < x7_2.length) = True := eq_true (by omega);(try rw [show ((1 : Int)).toNat = 1 from rfl] at hx234_0);replace p234 := eq_true p234;replace q234 := eq_true q234
         go_wp2
         go_ret
         exact ⟨by first | rfl | (simp [eW0, eW1] <;> rfl) | (simp [*, eW0, eW1] <;> rfl), bl_⟩
        ·rw [if_neg c43] at H;have c43b0 : ((rd x7_2 1) == 1125899906842624) = false := beq_eq_false_iff_ne.mpr c43;have c43b1 : ((rd x7_2 1) != 1125899906842624) = true := bne_iff_ne.mpr c43;by_cases c45 : 0 < (x7_2.length : Int)
         ·rw [if_pos c45] at H;have c45b0 : decide (0 < (x7_2.length : Int)) = true := decide_eq_true c45;have c45b1 : decide (0 < x7_2.length) = true := decide_eq_true (by omega);clear c45;obtain rfl := Option.some.inj H;obtain ⟨Ao46, co46, eo46⟩ := Kd.R_slice HO_7.out;subst eo46;have p234 : 0 ≤ (1 : Int) := (by omega);have q234 : 1 < (x7_2.length : Int) := od_;obtain ⟨ad234, e234, hx234_0⟩ := Kd.at_int (Kd.R_reads' HO_7.out).2.2 1 p234 q234;cases e234;(try simp only [show (1 : Int).toNat = 1 from rfl, Nat.reduceMul, Nat.reduceEqDiff, Go.Addr.add, ↓reduceIte] at hx234_0);have qi234 : (1 < x7_2.length) = True := eq_true (by omega);(try rw [show ((1 : Int)).toNat = 1 from rfl] at hx234_0);replace p234 := eq_true p234;replace q234 := eq_true q234
          try go_wp2
          have n0_ := Ai0.mk (Kd.Rd1 HO_7.out);have n1_ := Ai0.mk (kd1 BK230.out);have n2_ := Ai0.mk (bw1 HB.out);clear HO_7;clear BK230;clear HB;have HO_7 := n0_;have BK230 := n1_;have HB := n2_;clear n0_ n1_ n2_;have p235 : 0 ≤ (1 : Int) := (by omega);have q235 : 1 < (x7_2.length : Int) := od_;obtain ⟨ad235, e235, hx235_0⟩ := Kd.at_int (Kd.R_reads' HO_7.out).2.2 1 p235 q235;obtain rfl : ad234 = ad235 := (by injection e235);(try simp only [show (1 : Int).toNat = 1 from rfl, Nat.reduceMul, Nat.reduceEqDiff, Go.Addr.add, ↓reduceIte] at hx235_0);have qi235 : (1 < x7_2.length) = True := eq_true (by omega);(try rw [show ((1 : Int)).toNat = 1 from rfl] at hx235_0);replace p235 := eq_true p235;replace q235 := eq_true q235;have p236 : 0 ≤ (0 : Int) := (by omega);have q236 : 0 < (x7_2.length : Int) := od_;obtain ⟨ad236, e236, hx236_0⟩ := Kd.at_int (Kd.R_reads' HO_7.out).2.2 0 p236 q236;obtain rfl : ad234 = ad236 := (by injection e236);have qi236 : (0 < x7_2.length) = True := eq_true (by omega);(try rw [show ((0 : Int)).toNat = 0 from rfl] at hx236_0);(try rw [Addr.add_zero'] at hx236_0);replace p236 := eq_true p236;replace q236 := eq_true q236;refine start_ (n := 8) (S := fun w' => w'.cell? ⟨ad234.block, ad234.off + 1, none⟩ = some (.int .i64 (rd x7_2 1)) ∧ w'.cell? ad234 = some (.int .i64 (rd x7_2 0))) (ds := []) #[false, false, false, false, false, false, false, false] (by kernel_rfl) rfl rfl ⟨hx235_0, hx236_0⟩ (fun hHeld => ?_); refine with_tabW crM_Exact.tab20 crM_Exact.bits20 (fun HT_ HW_ => ?_);(generalize wr.drew = w47 at HO_7 BK230 HB hx235_0 hx236_0 hHeld ⊢);refine pure_ (i := 0) (N := some 73) (v := ?_) (a' := ?_) #[true, false, false, false, false, false, false, false] rfl rfl (any_of HT_.out (by kernel_rfl)) (fun _ _ _ h => h) (Or.inl ⟨by rfl, ?_⟩) ?_ ?_;rotate_left
          ·intro w';go_simp
           with_reducible rfl
          rotate_left
          ·simp only [Act.put, l01_, l02_, l03_, i64_w, i32_w]
           rfl
          refine pure_ (i := 1) (N := some 74) (v := ?_) (a' := ?_) #[true, true, false, false, false, false, false, false] rfl rfl (any_of HT_.out (by kernel_rfl)) (fun _ _ _ h => h) (Or.inl ⟨by rfl, ?_⟩) ?_ ?_;rotate_left
          ·intro w';go_simp
           with_reducible rfl
          rotate_left
          ·simp only [Act.put, l01_, l02_, l03_, i64_w, i32_w]
           rfl
          refine pure_ (i := 3) (N := some 76) (v := ?_) (a' := ?_) #[true, true, false, true, false, false, false, false] rfl rfl (any_of HT_.out (by kernel_rfl)) (fun _ _ _ h => h) (Or.inl ⟨by rfl, ?_⟩) ?_ ?_;rotate_left
          ·intro w';go_simp
           with_reducible rfl
          rotate_left
          ·simp only [Act.put, l01_, l02_, l03_, i64_w, i32_w]
           rfl
          refine pure_ (i := 4) (N := some 77) (v := ?_) (a' := ?_) #[true, true, false, true, true, false, false, false] rfl rfl (any_of HT_.out (by kernel_rfl)) (fun _ _ _ h => h) (Or.inl ⟨by rfl, ?_⟩) ?_ ?_;rotate_left
          ·intro w';go_simp
           with_reducible rfl
          rotate_left
          ·simp only [Act.put, l01_, l02_, l03_, i64_w, i32_w]
           rfl
          refine take_ (i := 2) (N := some 75) (v := ?_) (a' := ?_) #[true, true, true, true, true, false, false, false] rfl rfl (take_ofW HT_.out HW_.out (by kernel_rfl)) (fun _ _ _ h => h) (Or.inl ⟨by rfl, ?_⟩) hHeld ?_ ?_;rotate_left
          ·rintro w' ⟨s0, s1⟩
           go_simp
           with_reducible rfl
          rotate_left
          ·simp only [Act.put, l01_, l02_, l03_, i64_w, i32_w]
           rfl
          refine take_ (i := 5) (N := some 78) (v := ?_) (a' := ?_) #[true, true, true, true, true, true, false, false] rfl rfl (take_ofW HT_.out HW_.out (by kernel_rfl)) (fun _ _ _ h => h) (Or.inl ⟨by rfl, ?_⟩) hHeld ?_ ?_;rotate_left
          ·rintro w' ⟨s0, s1⟩
           go_simp
           with_reducible rfl
          rotate_left
          ·simp only [Act.put, l01_, l02_, l03_, i64_w, i32_w]
           rfl
          refine pure_ (i := 6) (N := some 79) (v := ?_) (a' := ?_) #[true, true, true, true, true, true, true, false] rfl rfl (any_of HT_.out (by kernel_rfl)) (fun _ _ _ h => h) (Or.inl ⟨by rfl, ?_⟩) ?_ ?_;rotate_left
          ·intro w';go_simp
           with_reducible rfl
          rotate_left
          ·simp only [Act.put, l01_, l02_, l03_, i64_w, i32_w]
           rfl
          refine pure_ (i := 7) (N := some 6) (v := ?_) (a' := ?_) #[true, true, true, true, true, true, true, true] rfl rfl (any_of HT_.out (by kernel_rfl)) (fun _ _ _ h => h) (Or.inl ⟨by rfl, ?_⟩) ?_ ?_;rotate_left
          ·intro w';go_simp
           with_reducible rfl
          rotate_left
          ·simp only [Act.put, l01_, l02_, l03_, i64_w, i32_w]
           rfl
          refine done_ (done_of HT_.out (by kernel_rfl)) ?_
          try go_wp2
          go_ret
          exact ⟨by first | rfl | (simp [eW0, eW1] <;> rfl) | (simp [*, eW0, eW1] <;> rfl), bl_⟩
         ·rw [if_neg c45] at H;exact absurd H (by simp)
       ·rw [if_neg c42] at H;exact absurd H (by simp)
end Go.Proofs.Ytmclalniilkjiaa.Q
/- What the printed Exact computes: the difference of the least costs. Condition: the matrix and the inputs have no fault; at most 16 columns. -/
namespace Go.Proofs.Ytmclalniilkjiaa.Ex
open Go.RowKit Go.Proofs.Ytmclalniilkjiaa.Q Go.Proofs.YtmclalniilkjiaaW.PrintWords Go.Proofs.YtmclalniilkjiaaW.PrintLast Go.Proofs.YtmclalniilkjiaaW.PrintMore Go.Proofs.Ytmclalniilkjiaa.Ba Go.Proofs.Ytmclalniilkjiaa.Ck Go.Proofs.Ytmclalniilkjiaa.Gr Go.Proofs.Ytmclalniilkjiaa.Un Go.Proofs.Ytmclalniilkjiaa.Ms Go.Proofs.Ytmclalniilkjiaa.Rv Go.Proofs.Ytmclalniilkjiaa.Be Go.Proofs.Ytmclalniilkjiaa.Mm Go.Proofs.Ytmclalniilkjiaa.Tr

/-- Binary digit t of x. -/
def dig (x t : Nat) : Bool := decide (x / 2 ^ t % 2 = 1)
/-- A word as a list. -/
def wl (C : Nat) (x : Nat → Bool) : List Int := LL C (fun t => if x t = true then 1 else 0)
theorem wl_len (C : Nat) (x : Nat → Bool) : (wl C x).length = C := LL_length _ _
theorem wl_at (C : Nat) (x : Nat → Bool) (i : Nat) (h : i < C) : rd (wl C x) (i : Int) = if x i = true then 1 else 0 := rd_LL _ _ _ h
theorem okb_wl (C : Nat) (x : Nat → Bool) : okb (wl C x) = true := by
 unfold okb
 refine List.all_eq_true.2 (fun y hy => decide_eq_true ?_)
 obtain ⟨i, _, rfl⟩ := List.mem_map.1 hy
 split <;> omega
theorem word_l0 (C : Nat) (x : Nat) (hC : C ≤ 256) (hx : x ≤ 4611686018427387904) : ∀ d t : Nat, t + d = C →
  Ev (fun k => crM_Word01.l0 k (C : Int) ((x / 2 ^ t : Nat) : Int) (LL C (fun s => if s < t then (if dig x s = true then 1 else 0) else 0)) (t : Int)) (wl C (dig x))
 | 0, t, h => by
  obtain rfl : t = C := by omega
  refine Ev.step (f := fun _ => some _) (fun k => ?_) (Ev.now _)
  simp only [crM_Word01.l0]
  rw [if_neg (by omega)]
  exact congrArg some (LL_congr _ _ _ (fun s hs => if_pos hs))
 | d + 1, t, h => by
  have ih := word_l0 C x hC hx d (t + 1) (by omega)
  have hup := LL_up C t (fun s => if dig x s = true then (1 : Int) else 0) 0
  have hll : (LL C (fun s => if s < t then (if dig x s = true then (1 : Int) else 0) else 0)).length = C := LL_length _ _
  have e1 : Int.tmod ((x / 2 ^ t : Nat) : Int) 2 = if dig x t = true then 1 else 0 := by
   unfold dig
   generalize x / 2 ^ t = q
   rw [Int.tmod_eq_emod_of_nonneg (by omega)]
   by_cases h2 : q % 2 = 1
   ·rw [decide_eq_true h2, if_pos rfl]; omega
   ·rw [decide_eq_false h2, if_neg Bool.false_ne_true]; omega
  have e2 : Int.tdiv ((x / 2 ^ t : Nat) : Int) 2 = ((x / 2 ^ (t + 1) : Nat) : Int) := by
   rw [Nat.pow_succ, ← Nat.div_div_eq_div_mul]
   generalize x / 2 ^ t = q
   rw [Int.tdiv_eq_ediv_of_nonneg (by omega)]
   omega
  have hle : x / 2 ^ (t + 1) ≤ x := Nat.div_le_self _ _
  rw [← hup] at ih
  generalize x / 2 ^ (t + 1) = q2 at ih e2 hle
  refine Ev.step (fun k => ?_) ih
  simp only [crM_Word01.l0]
  rw [if_pos (by omega), if_pos (by omega), if_pos (by omega), e1, e2, Int.toNat_natCast, w64_id (n := (q2 : Int)) (by omega) (by omega), w64_id (by omega) (by omega)]
  rfl
theorem word01_ev (C : Nat) (x : Nat) (hC : C ≤ 256) (hx : x ≤ 4611686018427387904) : Ev (fun k => crM_Word01.f k (C : Int) (x : Int)) (wl C (dig x)) := by
 have h := word_l0 C x hC hx C 0 (by omega)
 have e : LL C (fun s => if s < 0 then (if dig x s = true then (1 : Int) else 0) else 0) = List.replicate C 0 := by rw [LL_rep]; exact LL_congr _ _ _ (fun t _ => if_neg (by omega))
 rw [e, Nat.pow_zero, Nat.div_one] at h
 refine Ev.congr (fun k => ?_) h
 unfold crM_Word01.f
 rw [if_pos (by omega), if_pos (by omega), Int.toNat_natCast]
 rfl
/-! a word satisfies all checks -/
theorem PG_nil {α : Type} (e : Nat → α) (p : Nat → Bool) : ∀ n, (PG e p n).length = 0 ↔ ∀ i, i < n → p i = false
 | 0 => ⟨fun _ i h => by omega, fun _ => rfl⟩
 | n + 1 => by
  have ih := PG_nil e p n
  simp only [PG]
  by_cases h : p n = true
  ·rw [if_pos h, List.length_append, List.length_singleton]
   exact ⟨fun h2 => by omega, fun h2 => by have := h2 n (by omega); rw [h] at this; cases this⟩
  ·rw [if_neg h, ih]
   refine ⟨fun h2 i hi => ?_, fun h2 i hi => h2 i (by omega)⟩
   by_cases e : i = n
   ·subst e; cases h3 : p i <;> simp_all
   ·exact h2 i (by omega)
theorem xr_sum (f : Nat → Bool) : ∀ n, xr f n = decide (sumTo (fun i => if f i = true then 1 else 0) n % 2 = 1)
 | 0 => by simp [xr, sumTo]
 | n + 1 => by
  have ih := xr_sum f n
  have e : sumTo (fun i => if f i = true then (1 : Int) else 0) (n + 1) = sumTo (fun i => if f i = true then (1 : Int) else 0) n + (if f n = true then 1 else 0) := rfl
  show (xr f n != f n) = _
  rw [e, ih]
  generalize sumTo (fun i => if f i = true then (1 : Int) else 0) n = S
  by_cases h : S % 2 = 1
  ·rw [decide_eq_true h]
   cases f n with
   | true => rw [if_pos rfl, decide_eq_false (by omega)]; rfl
   | false => rw [if_neg Bool.false_ne_true, decide_eq_true (by omega)]; rfl
  ·rw [decide_eq_false h]
   cases f n with
   | true => rw [if_pos rfl, decide_eq_true (by omega)]; rfl
   | false => rw [if_neg Bool.false_ne_true, decide_eq_false (by omega)]; rfl
theorem od_wl (rows : List (List Int)) (C : Nat) (x : Nat → Bool) (j : Nat) : od rows (wl C x) C j = xr (fun p => bit rows j p && x p) C := by
 have hp := par_bound rows (okb_wl C x) C j
 have e : par rows (wl C x) C j = sumTo (fun p => if (bit rows j p && x p) = true then 1 else 0) C := by
  unfold par
  refine sumTo_congr _ _ _ (fun p hp => ?_)
  rw [wl_at _ _ _ hp]
  cases bit rows j p <;> cases x p <;> rfl
 unfold od
 rw [xr_sum, ← e, Int.tmod_eq_emod_of_nonneg hp.1]
 by_cases h : par rows (wl C x) C j % 2 = 1
 ·rw [decide_eq_true h, h]; rfl
 ·rw [decide_eq_false h]; exact beq_eq_false_iff_ne.2 h
theorem uns_wl (rows : List (List Int)) (C : Nat) (x : Nat → Bool) : (uns rows (wl C x) C rows.length).length = 0 ↔ code (bit rows) rows.length C x := by
 unfold uns
 rw [PG_nil]
 exact ⟨fun h j hj => by rw [← od_wl]; exact h j hj, fun h j hj => by rw [od_wl]; exact h j hj⟩
/-! the least costs -/
def good (rows : List (List Int)) (C i : Nat) (s : Bool) (x : Nat) : Bool := decide ((uns rows (wl C (dig x)) C rows.length).length = 0) && (dig x i == s)
def lst (rows : List (List Int)) (C : Nat) (a : Nat → Int) (i : Nat) (s : Bool) : Nat → Int
 | 0 => 1125899906842624
 | n + 1 => if good rows C i s n = true then mn (lst rows C a i s n) (co a C (dig n)) else lst rows C a i s n
theorem lst_spec (rows : List (List Int)) (C : Nat) (a : Nat → Int) (hcb : ∀ x, co a C x ≤ 268435456) (i : Nat) (s : Bool) : ∀ n, (lst rows C a i s n = 1125899906842624 ∧ ∀ m, m < n → good rows C i s m = false) ∨
  ((∃ m, m < n ∧ good rows C i s m = true ∧ co a C (dig m) = lst rows C a i s n) ∧ ∀ m, m < n → good rows C i s m = true → lst rows C a i s n ≤ co a C (dig m))
 | 0 => Or.inl ⟨rfl, fun m h => by omega⟩
 | n + 1 => by
  have ih := lst_spec rows C a hcb i s n
  have hn := hcb (dig n)
  simp only [lst]
  by_cases h : good rows C i s n = true
  ·rw [if_pos h]
   refine Or.inr ?_
   rcases ih with ⟨h1, h2⟩ | ⟨⟨m, h1, h2, h3⟩, h4⟩
   ·have e : mn (lst rows C a i s n) (co a C (dig n)) = co a C (dig n) := by rw [h1]; unfold mn; rw [if_pos (by omega)]
    rw [e]
    refine ⟨⟨n, by omega, h, rfl⟩, fun m hm hg => ?_⟩
    by_cases e2 : m = n
    ·subst e2; omega
    ·have := h2 m (by omega); rw [hg] at this; cases this
   ·by_cases h5 : co a C (dig n) < lst rows C a i s n
    ·have e : mn (lst rows C a i s n) (co a C (dig n)) = co a C (dig n) := by unfold mn; rw [if_pos h5]
     rw [e]
     refine ⟨⟨n, by omega, h, rfl⟩, fun m' hm hg => ?_⟩
     by_cases e2 : m' = n
     ·subst e2; omega
     ·have := h4 m' (by omega) hg; omega
    ·have e : mn (lst rows C a i s n) (co a C (dig n)) = lst rows C a i s n := by unfold mn; rw [if_neg h5]
     rw [e]
     refine ⟨⟨m, by omega, h2, h3⟩, fun m' hm hg => ?_⟩
     by_cases e2 : m' = n
     ·subst e2; omega
     ·exact h4 m' (by omega) hg
  ·rw [if_neg h]
   have h0 : good rows C i s n = false := by cases hg : good rows C i s n <;> simp_all
   rcases ih with ⟨h1, h2⟩ | ⟨⟨m, h1, h2, h3⟩, h4⟩
   ·refine Or.inl ⟨h1, fun m hm => ?_⟩
    by_cases e2 : m = n
    ·subst e2; exact h0
    ·exact h2 m (by omega)
   ·refine Or.inr ⟨⟨m, by omega, h2, h3⟩, fun m' hm hg => ?_⟩
    by_cases e2 : m' = n
    ·subst e2; rw [h0] at hg; cases hg
    ·exact h4 m' (by omega) hg
/-- Every word is the digits of a number. -/
theorem num_ex : ∀ (C : Nat) (x : Nat → Bool), ∃ n, n < 2 ^ C ∧ ∀ p, p < C → dig n p = x p
 | 0, _ => ⟨0, by simp, fun p h => by omega⟩
 | C + 1, x => by
  obtain ⟨m, h1, h2⟩ := num_ex C (fun p => x (p + 1))
  refine ⟨2 * m + (if x 0 = true then 1 else 0), ?_, fun p hp => ?_⟩
  ·rw [Nat.pow_succ]; split <;> omega
  ·cases p with
   | zero =>
    unfold dig
    rw [Nat.pow_zero, Nat.div_one]
    cases hx : x 0 with
    | true => rw [if_pos rfl]; exact decide_eq_true (by omega)
    | false => rw [if_neg Bool.false_ne_true]; exact decide_eq_false (by omega)
   | succ p =>
    have h3 := h2 p (by omega)
    have e : (2 * m + (if x 0 = true then 1 else 0)) / 2 ^ (p + 1) = m / 2 ^ p := by
     rw [Nat.pow_succ, Nat.mul_comm (2 ^ p) 2, ← Nat.div_div_eq_div_mul]
     congr 1
     split <;> omega
    unfold dig at h3 ⊢
    rw [e]; exact h3
def exv (rows : List (List Int)) (C : Nat) (a : Nat → Int) (i : Nat) : Int := if lst rows C a i true (2 ^ C) = 1125899906842624 then 1099511627776 else lst rows C a i true (2 ^ C) - lst rows C a i false (2 ^ C)
theorem code_congr {b : Nat → Nat → Bool} {R C : Nat} {x y : Nat → Bool} (h : ∀ p, p < C → x p = y p) : code b R C x ↔ code b R C y := by
 have e : ∀ j, xr (fun p => b j p && x p) C = xr (fun p => b j p && y p) C := fun j => xr_congr _ _ _ (fun p hp => by rw [h p hp])
 exact ⟨fun hx j hj => by rw [← e]; exact hx j hj, fun hy j hj => by rw [e]; exact hy j hj⟩
theorem co_congr {a : Nat → Int} {C : Nat} {x y : Nat → Bool} (h : ∀ p, p < C → x p = y p) : co a C x = co a C y :=
 sumTo_congr _ _ _ (fun p hp => by rw [h p hp])
theorem exv_df {a : Nat → Int} (ha : ∀ i, -1048576 ≤ a i ∧ a i ≤ 1048576) {C : Nat} (hC : C ≤ 256) (rows : List (List Int)) (i : Nat) (hi : i < C) :
  Df (co a C) (fun x => code (bit rows) rows.length C x ∧ x i = true) (fun x => code (bit rows) rows.length C x ∧ x i = false) (exv rows C a i) := by
 have hcb : ∀ x, co a C x ≤ 268435456 := fun x => (co_bound a ha C hC x).2
 have hg : ∀ s m, good rows C i s m = true ↔ code (bit rows) rows.length C (dig m) ∧ dig m i = s := by
  intro s m
  unfold good
  rw [Bool.and_eq_true, beq_iff_eq, ← uns_wl]
  exact ⟨fun h => ⟨of_decide_eq_true h.1, h.2⟩, fun h => ⟨decide_eq_true h.1, h.2⟩⟩
 have toMn : ∀ s, ((∃ m, m < 2 ^ C ∧ good rows C i s m = true ∧ co a C (dig m) = lst rows C a i s (2 ^ C)) ∧ ∀ m, m < 2 ^ C → good rows C i s m = true → lst rows C a i s (2 ^ C) ≤ co a C (dig m)) → Mn (co a C) (fun x => code (bit rows) rows.length C x ∧ x i = s) (lst rows C a i s (2 ^ C)) := by
  rintro s ⟨⟨m, _, h2, h3⟩, h4⟩
  refine ⟨⟨dig m, (hg s m).1 h2, h3⟩, fun x ⟨hx, hxs⟩ => ?_⟩
  obtain ⟨m', h5, h6⟩ := num_ex C x
  rw [← co_congr h6]
  exact h4 m' h5 ((hg s m').2 ⟨(code_congr h6).2 hx, by rw [h6 i hi]; exact hxs⟩)
 have none : ∀ s, (∀ m, m < 2 ^ C → good rows C i s m = false) → ¬ ∃ x, code (bit rows) rows.length C x ∧ x i = s := by
  rintro s h ⟨x, hx, hxs⟩
  obtain ⟨m', h5, h6⟩ := num_ex C x
  have h7 := (hg s m').2 ⟨(code_congr h6).2 hx, by rw [h6 i hi]; exact hxs⟩
  rw [h m' h5] at h7; cases h7
 have h0 : Mn (co a C) (fun x => code (bit rows) rows.length C x ∧ x i = false) (lst rows C a i false (2 ^ C)) := by
  rcases lst_spec rows C a hcb i false (2 ^ C) with ⟨_, h2⟩ | h
  ·exact absurd ⟨fun _ => false, code_0 _ _ _, rfl⟩ (none false h2)
  ·exact toMn false h
 unfold exv
 rcases lst_spec rows C a hcb i true (2 ^ C) with ⟨h1, h2⟩ | h
 ·rw [if_pos h1]
  exact Or.inl ⟨none true h2, rfl⟩
 ·have h1 := toMn true h
  obtain ⟨⟨x, _, ex⟩, _⟩ := h1
  have := hcb x
  rw [if_neg (by omega)]
  exact Or.inr ⟨_, _, toMn true h, h0, rfl⟩
/-! the function -/
section
variable {c : Int} {rows : List (List Int)} {inp : List Int} {C : Nat} (ok : OkI c rows inp C) (hC : C ≤ 16)
include ok
theorem ex_l2 (i : Nat) (hi : i < C) (x : Nat) (A B : Int) (total : Int) {r : Int}
  (ih : Ev (fun k => crM_Exact.l1 k inp (i : Int) (if dig x i = true then [A, mn B (co (fun p => rd inp (p : Int)) C (dig x))] else [mn A (co (fun p => rd inp (p : Int)) C (dig x)), B]) total (wrap64 ((x : Int) + 1)) c rows) r) : ∀ d p : Nat, p + d = C →
  Ev (fun k => crM_Exact.l2 k inp (i : Int) [A, B] total (x : Int) (wl C (dig x)) (co (fun p => rd inp (p : Int)) p (dig x)) (p : Int) c rows) r
 | 0, p, h => by
  obtain rfl : p = C := by omega
  have hc := ok.c
  have hwl := wl_len p (dig x)
  refine Ev.step (fun k => ?_) ih
  simp only [crM_Exact.l2]
  rw [if_neg (by omega), if_pos (by omega), if_pos (by omega), wl_at _ _ _ hi]
  by_cases h : dig x i = true
  ·rw [if_pos h, if_pos h]; rfl
  ·rw [if_neg h, if_neg h]; rfl
 | d + 1, p, h => by
  have ih2 := ex_l2 i hi x A B total ih d (p + 1) (by omega)
  have hc := ok.c
  have hlen := ok.hlen
  have hC := ok.hC
  have hwl := wl_len C (dig x)
  have hb := co_bound (fun p => rd inp (p : Int)) (fun i => ok.hI _) p (by omega) (dig x)
  have hI := ok.hI (p : Int)
  have e : co (fun p => rd inp (p : Int)) (p + 1) (dig x) = co (fun p => rd inp (p : Int)) p (dig x) + rd (wl C (dig x)) (p : Int) * rd inp (p : Int) := by
   rw [wl_at _ _ _ (by omega)]
   show sumTo _ p + (if dig x p = true then rd inp (p : Int) else 0) = sumTo _ p + _
   by_cases h : dig x p = true
   ·rw [if_pos h, if_pos h, Int.one_mul]
   ·rw [if_neg h, if_neg h, Int.zero_mul]
  have hm : -1048576 ≤ rd (wl C (dig x)) (p : Int) * rd inp (p : Int) ∧ rd (wl C (dig x)) (p : Int) * rd inp (p : Int) ≤ 1048576 := by
   rw [wl_at _ _ _ (by omega)]
   by_cases h : dig x p = true
   ·rw [if_pos h, Int.one_mul]; exact hI
   ·rw [if_neg h, Int.zero_mul]; omega
  rw [e] at ih2
  refine Ev.step (fun k => ?_) ih2
  simp only [crM_Exact.l2]
  rw [if_pos (by omega), if_pos (by omega), if_pos (by omega), if_pos (by omega), w64_id (n := rd (wl C (dig x)) (p : Int) * rd inp (p : Int)) (by omega) (by omega), w64_id (n := co (fun p => rd inp (p : Int)) p (dig x) + rd (wl C (dig x)) (p : Int) * rd inp (p : Int)) (by omega) (by omega), w64_id (by omega) (by omega)]
  rfl
include hC
theorem ex_l1 (i : Nat) (hi : i < C) : ∀ d n : Nat, n + d = 2 ^ C →
  Ev (fun k => crM_Exact.l1 k inp (i : Int) [lst rows C (fun p => rd inp (p : Int)) i false n, lst rows C (fun p => rd inp (p : Int)) i true n] ((2 ^ C : Nat) : Int) (n : Int) c rows) (exv rows C (fun p => rd inp (p : Int)) i)
 | 0, n, h => by
  obtain rfl : n = 2 ^ C := by omega
  have hcb : ∀ s m, -1125899906842624 ≤ lst rows C (fun p => rd inp (p : Int)) i s m ∧ lst rows C (fun p => rd inp (p : Int)) i s m ≤ 1125899906842624 := by
   intro s m
   induction m with
   | zero => simp only [lst]; omega
   | succ m ihm =>
    have := co_bound (fun p => rd inp (p : Int)) (fun i => ok.hI _) C ok.hC (dig m)
    simp only [lst]
    split
    ·unfold mn; split <;> omega
    ·exact ihm
  have h1 := hcb true (2 ^ C)
  have h2 := hcb false (2 ^ C)
  refine Ev.step (f := fun _ => some _) (fun k => ?_) (Ev.now _)
  simp only [crM_Exact.l1]
  rw [if_neg (by omega)]
  have e1 : rd [lst rows C (fun p => rd inp (p : Int)) i false (2 ^ C), lst rows C (fun p => rd inp (p : Int)) i true (2 ^ C)] 1 = lst rows C (fun p => rd inp (p : Int)) i true (2 ^ C) := rfl
  have e0 : rd [lst rows C (fun p => rd inp (p : Int)) i false (2 ^ C), lst rows C (fun p => rd inp (p : Int)) i true (2 ^ C)] 0 = lst rows C (fun p => rd inp (p : Int)) i false (2 ^ C) := rfl
  rw [e1, e0, if_pos (by show (1 : Int) < 2; omega)]
  unfold exv
  by_cases h3 : lst rows C (fun p => rd inp (p : Int)) i true (2 ^ C) = 1125899906842624
  ·rw [if_pos h3, if_pos h3]
  ·rw [if_neg h3, if_neg h3, if_pos (by show (0 : Int) < 2; omega), w64_id (by omega) (by omega)]
 | d + 1, n, h => by
  have ih := ex_l1 i hi d (n + 1) (by omega)
  have hc := ok.c
  have hp : 2 ^ C ≤ 65536 := Nat.le_trans (Nat.pow_le_pow_right (by omega) hC) (by decide)
  have okw : Ok c rows (wl C (dig n)) C := ⟨ok.k, ok.c, ok.hC, ok.hr, ok.hrl, ok.hrow, wl_len _ _, okb_wl _ _⟩
  have hu := rUnsat_ok okw
  have hw := word01_ev C n ok.hC (by omega)
  rw [← hc] at hw
  refine Ev.step (f := fun k => (crM_Word01.f k c (n : Int)).bind fun t237 => ((crM_Unsatisfied.f k c rows t237).bind fun t240 => (if (t240.length : Int) > 0 then (crM_Exact.l1 k inp (i : Int) [lst rows C (fun p => rd inp (p : Int)) i false n, lst rows C (fun p => rd inp (p : Int)) i true n] ((2 ^ C : Nat) : Int) (wrap64 ((n : Int) + 1)) c rows) else (crM_Exact.l2 k inp (i : Int) [lst rows C (fun p => rd inp (p : Int)) i false n, lst rows C (fun p => rd inp (p : Int)) i true n] ((2 ^ C : Nat) : Int) (n : Int) t237 0 0 c rows)))) (fun k => ?_) (hw.bind (hu.bind ?_))
  ·simp only [crM_Exact.l1]
   rw [if_pos (by omega)]
  by_cases h0 : (uns rows (wl C (dig n)) C rows.length).length = 0
  ·refine Ev.congr (fun k => if_neg (by omega)) (ex_l2 ok i hi n _ _ _ ?_ C 0 (by omega))
   rw [w64_id (by omega) (by omega)]
   cases hd : dig n i with
   | true =>
    have e1 : lst rows C (fun p => rd inp (p : Int)) i true (n + 1) = mn (lst rows C (fun p => rd inp (p : Int)) i true n) (co (fun p => rd inp (p : Int)) C (dig n)) := by simp only [lst]; unfold good; rw [if_pos (by rw [decide_eq_true h0, hd]; rfl)]
    have e0 : lst rows C (fun p => rd inp (p : Int)) i false (n + 1) = lst rows C (fun p => rd inp (p : Int)) i false n := by simp only [lst]; unfold good; rw [if_neg (by rw [decide_eq_true h0, hd]; decide)]
    rw [e1, e0] at ih
    exact ih
   | false =>
    have e1 : lst rows C (fun p => rd inp (p : Int)) i true (n + 1) = lst rows C (fun p => rd inp (p : Int)) i true n := by simp only [lst]; unfold good; rw [if_neg (by rw [decide_eq_true h0, hd]; decide)]
    have e0 : lst rows C (fun p => rd inp (p : Int)) i false (n + 1) = mn (lst rows C (fun p => rd inp (p : Int)) i false n) (co (fun p => rd inp (p : Int)) C (dig n)) := by simp only [lst]; unfold good; rw [if_pos (by rw [decide_eq_true h0, hd]; rfl)]
    rw [e1, e0] at ih
    exact ih
  ·refine Ev.congr (fun k => if_pos (by omega)) ?_
   have e : ∀ s, lst rows C (fun p => rd inp (p : Int)) i s (n + 1) = lst rows C (fun p => rd inp (p : Int)) i s n := fun s => by simp only [lst]; unfold good; rw [if_neg (by rw [decide_eq_false h0]; simp)]
   rw [e, e] at ih
   rw [w64_id (by omega) (by omega)]
   exact ih
theorem ex_l0 (i : Nat) (hi : i < C) : ∀ d t : Nat, t + d = C →
  Ev (fun k => crM_Exact.l0 k inp (i : Int) [1125899906842624, 1125899906842624] ((2 ^ t : Nat) : Int) (t : Int) c rows) (exv rows C (fun p => rd inp (p : Int)) i)
 | 0, t, h => by
  obtain rfl : t = C := by omega
  have hc := ok.c
  refine Ev.step (fun k => ?_) (ex_l1 ok hC i hi (2 ^ t) 0 (by omega))
  simp only [crM_Exact.l0]
  rw [if_neg (by omega)]
  rfl
 | d + 1, t, h => by
  have ih := ex_l0 i hi d (t + 1) (by omega)
  have hc := ok.c
  have hp : 2 ^ t ≤ 65536 := Nat.le_trans (Nat.pow_le_pow_right (by omega) (by omega : t ≤ 16)) (by decide)
  have e : ((2 ^ (t + 1) : Nat) : Int) = ((2 ^ t : Nat) : Int) * 2 := by rw [Nat.pow_succ, Int.natCast_mul]; rfl
  rw [e] at ih
  generalize 2 ^ t = q at ih hp ⊢
  refine Ev.step (fun k => ?_) ih
  simp only [crM_Exact.l0]
  rw [if_pos (by omega), w64_id (n := (q : Int) * 2) (by omega) (by omega), w64_id (by omega) (by omega)]
  rfl
theorem Exact_ev (i : Nat) (hi : i < C) : Ev (fun k => crM_Exact.f k c rows inp (i : Int)) (exv rows C (fun p => rd inp (p : Int)) i) :=
 ex_l0 ok hC i hi C 0 (by omega)
end
/-! the sums of messages as the law names them -/
theorem hs_eq (rows : List (List Int)) (F : Nat → Nat → Int) (w : Int) (p : Nat) : ∀ n, hasT rows F w p n = hs (bit rows) F w p n
 | 0 => rfl
 | n + 1 => by simp only [hasT, hs]; rw [hs_eq rows F w p n]; rfl
theorem sm_eq (rows : List (List Int)) (inp : List Int) (F : Nat → Nat → Int) (w : Int) (p : Nat) : smv rows inp F w p = sm (bit rows) rows.length (fun p => rd inp (p : Int)) F w p := by
 unfold smv sm
 rw [hs_eq]
 rfl
theorem Mb_eq (rows : List (List Int)) (C : Nat) (inp : List Int) : ∀ r, msF rows C inp r = Mb (bit rows) rows.length C (fun p => rd inp (p : Int)) r
 | 0 => rfl
 | r + 1 => by
  funext j i
  show rv (fun k => smv rows inp (msF rows C inp r) (j : Int) k) (bit rows j) i C = rv (fun k => sm (bit rows) rows.length (fun p => rd inp (p : Int)) (Mb (bit rows) rows.length C (fun p => rd inp (p : Int)) r) (j : Int) k) (bit rows j) i C
  rw [Mb_eq rows C inp r]
  exact rv_congr C (fun k _ _ => ⟨rfl, fun _ => sm_eq rows inp _ _ k⟩)
theorem bit_in {rows : List (List Int)} {C : Nat} (hrl : ∀ j, j < rows.length → (rows.getD j []).length = C) {j p : Nat} (h : bit rows j p = true) : j < rows.length ∧ p < C := by
 have h4 := of_decide_eq_true h
 have hj : j < rows.length := by
  refine Nat.lt_of_not_le (fun h3 => ?_)
  rw [List.getD_eq_getElem?_getD, List.getElem?_eq_none (by omega)] at h4
  simp [rd] at h4
 refine ⟨hj, Nat.lt_of_not_le (fun h3 => ?_)⟩
 have := hrl j hj
 rw [rd_nat, List.getD_eq_getElem?_getD, List.getElem?_eq_none (by omega)] at h4
 cases h4
/-- The beliefs are the differences of the least costs. -/
theorem belief_exact {c : Int} {rows : List (List Int)} {inp : List Int} {C : Nat} (ok : OkI c rows inp C) (hF : Fo (bit rows)) (r : Nat) (hr : rows.length ≤ r) (i : Nat) (hi : i < C) : rd (bel rows C inp r) (i : Int) = exv rows C (fun p => rd inp (p : Int)) i := by
 have ha : ∀ i : Nat, -1048576 ≤ rd inp (i : Int) ∧ rd inp (i : Int) ≤ 1048576 := fun i => ok.hI _
 have h1 := belief_df ha ok.hC (R := rows.length) rows.length (bit rows) (fun _ => true) hF (fun j p h => ⟨(bit_in ok.hrl h).1, (bit_in ok.hrl h).2, rfl⟩) (sumTo_01 _ _ (fun _ _ => by simp)).2 r hr i hi
 have h2 := exv_df ha ok.hC rows i hi
 have e : rd (bel rows C inp r) (i : Int) = sm (bit rows) rows.length (fun p => rd inp (p : Int)) (Mb (bit rows) rows.length C (fun p => rd inp (p : Int)) r) (-1) i := by
  unfold bel
  rw [rd_LL _ _ _ hi, sm_eq, Mb_eq]
 rw [e]
 exact Df_uniq h1 h2
end Go.Proofs.Ytmclalniilkjiaa.Ex
namespace Go.Proofs.Ytmclalniilkjiaa.Q
open Go.RowKit Go.Proofs.YtmclalniilkjiaaW.PrintWords Go.Proofs.YtmclalniilkjiaaW.PrintLast Go.Proofs.YtmclalniilkjiaaW.PrintMore
open List renaming setIfInBounds_toArray → l01_, set_cons_zero → l02_, set_cons_succ → l03_
attribute [local go_sem] max2_int min2_int max_two min_two max_three min_three max_four min_four
set_option linter.unusedVariables false
set_option linter.unusedSimpArgs false
mutual
def crM_Forest.l0 : Nat → List Int → Int → Int → List (List Int) → Option (Bool)
 | 0, _, _, _, _ => none
 | k + 1, x3, x4, x208000, x208001 => if x4 < (x3.length : Int) then (if 0 ≤ x4 then (crM_Forest.l0 k (x3.set (x4 : Int).toNat x4) (wrap64 (x4 + 1)) x208000 x208001) else (none)) else (crM_Forest.l1 k x3 0 x208000 x208001)
def crM_Forest.l1 : Nat → List Int → Int → Int → List (List Int) → Option (Bool)
 | 0, _, _, _, _ => none
 | k + 1, x3, x5, x208000, x208001 => if x5 < (x208001.length : Int) then (crM_Forest.l2 k x3 x5 0 x208000 x208001) else (some true)
def crM_Forest.l2 : Nat → List Int → Int → Int → Int → List (List Int) → Option (Bool)
 | 0, _, _, _, _, _ => none
 | k + 1, x3, x5, x6, x208000, x208001 => if x6 < x208000 then (if 0 ≤ x5 then (if x5 < (x208001.length : Int) then (if 0 ≤ x6 then (if x6 < ((rd_L1 x208001 x5).length : Int) then (if (rd (rd_L1 x208001 x5) x6) = 0 then (crM_Forest.l2 k x3 x5 (wrap64 (x6 + 1)) x208000 x208001) else (if x6 < (x3.length : Int) then (if 0 ≤ (wrap64 (x208000 + x5)) then (if (wrap64 (x208000 + x5)) < (x3.length : Int) then (if (rd x3 x6) = (rd x3 (wrap64 (x208000 + x5))) then (some false) else (crM_Forest.l3 k x3 x5 x6 (rd x3 x6) (rd x3 (wrap64 (x208000 + x5))) 0 x208000 x208001)) else (none)) else (none)) else (none))) else (none)) else (none)) else (none)) else (none)) else (crM_Forest.l1 k x3 (wrap64 (x5 + 1)) x208000 x208001)
def crM_Forest.l3 : Nat → List Int → Int → Int → Int → Int → Int → Int → List (List Int) → Option (Bool)
 | 0, _, _, _, _, _, _, _, _ => none
 | k + 1, x3, x5, x6, x7, x8, x9, x208000, x208001 => if x9 < (x3.length : Int) then (if 0 ≤ x9 then (if (rd x3 x9) = x7 then (crM_Forest.l3 k (x3.set (x9 : Int).toNat x8) x5 x6 x7 x8 (wrap64 (x9 + 1)) x208000 x208001) else (crM_Forest.l3 k x3 x5 x6 x7 x8 (wrap64 (x9 + 1)) x208000 x208001)) else (none)) else (crM_Forest.l2 k x3 x5 (wrap64 (x6 + 1)) x208000 x208001)
end
def crM_Forest.f (k : Nat) (a0_0 : Int) (l0_1 : List (List Int)) : Option (Bool) := if 0 ≤ (wrap64 (a0_0 + (l0_1.length : Int))) then (if (wrap64 (a0_0 + (l0_1.length : Int)) : Int).toNat ≤ 35184372088832 then (crM_Forest.l0 k (List.replicate (wrap64 (a0_0 + (l0_1.length : Int)) : Int).toNat 0) 0 a0_0 l0_1) else (none)) else (none)
theorem crM_Forest.mono_l : ∀ k, (∀ y0 y1 y2 y3, LeO (crM_Forest.l0 k y0 y1 y2 y3) (crM_Forest.l0 (k + 1) y0 y1 y2 y3)) ∧ (∀ y0 y1 y2 y3, LeO (crM_Forest.l1 k y0 y1 y2 y3) (crM_Forest.l1 (k + 1) y0 y1 y2 y3)) ∧ (∀ y0 y1 y2 y3 y4, LeO (crM_Forest.l2 k y0 y1 y2 y3 y4) (crM_Forest.l2 (k + 1) y0 y1 y2 y3 y4)) ∧ (∀ y0 y1 y2 y3 y4 y5 y6 y7, LeO (crM_Forest.l3 k y0 y1 y2 y3 y4 y5 y6 y7) (crM_Forest.l3 (k + 1) y0 y1 y2 y3 y4 y5 y6 y7))
 | 0 => ⟨fun _ _ _ _ r h => by simp [crM_Forest.l0] at h, fun _ _ _ _ r h => by simp [crM_Forest.l1] at h, fun _ _ _ _ _ r h => by simp [crM_Forest.l2] at h, fun _ _ _ _ _ _ _ _ r h => by simp [crM_Forest.l3] at h⟩
 | k + 1 => by
  obtain ⟨ih0, ih1, ih2, ih3⟩ := crM_Forest.mono_l k;refine ⟨?_, ?_, ?_, ?_⟩
  ·intro y0 y1 y2 y3;unfold crM_Forest.l0
   repeat' first
   | (with_reducible exact ih0 _ _ _ _)
   | (with_reducible exact ih1 _ _ _ _)
   | (with_reducible exact ih2 _ _ _ _ _)
   | (with_reducible exact ih3 _ _ _ _ _ _ _ _)
   | (with_reducible exact LeO.refl _)
   | (with_reducible exact LeO.none _)
   | (with_reducible refine LeO.ite ?_ ?_)
   | (with_reducible refine LeO.bind ?_ (fun _ => ?_))
   | exact ih0 _ _ _ _
   | exact ih1 _ _ _ _
   | exact ih2 _ _ _ _ _
   | exact ih3 _ _ _ _ _ _ _ _
   | exact LeO.none _
   | refine LeO.ite ?_ ?_
   | refine LeO.bind ?_ (fun _ => ?_)
  ·intro y0 y1 y2 y3;unfold crM_Forest.l1
   repeat' first
   | (with_reducible exact ih0 _ _ _ _)
   | (with_reducible exact ih1 _ _ _ _)
   | (with_reducible exact ih2 _ _ _ _ _)
   | (with_reducible exact ih3 _ _ _ _ _ _ _ _)
   | (with_reducible exact LeO.refl _)
   | (with_reducible exact LeO.none _)
   | (with_reducible refine LeO.ite ?_ ?_)
   | (with_reducible refine LeO.bind ?_ (fun _ => ?_))
   | exact ih0 _ _ _ _
   | exact ih1 _ _ _ _
   | exact ih2 _ _ _ _ _
   | exact ih3 _ _ _ _ _ _ _ _
   | exact LeO.none _
   | refine LeO.ite ?_ ?_
   | refine LeO.bind ?_ (fun _ => ?_)
  ·intro y0 y1 y2 y3 y4;unfold crM_Forest.l2
   repeat' first
   | (with_reducible exact ih0 _ _ _ _)
   | (with_reducible exact ih1 _ _ _ _)
   | (with_reducible exact ih2 _ _ _ _ _)
   | (with_reducible exact ih3 _ _ _ _ _ _ _ _)
   | (with_reducible exact LeO.refl _)
   | (with_reducible exact LeO.none _)
   | (with_reducible refine LeO.ite ?_ ?_)
   | (with_reducible refine LeO.bind ?_ (fun _ => ?_))
   | exact ih0 _ _ _ _
   | exact ih1 _ _ _ _
   | exact ih2 _ _ _ _ _
   | exact ih3 _ _ _ _ _ _ _ _
   | exact LeO.none _
   | refine LeO.ite ?_ ?_
   | refine LeO.bind ?_ (fun _ => ?_)
  ·intro y0 y1 y2 y3 y4 y5 y6 y7;unfold crM_Forest.l3
   repeat' first
   | (with_reducible exact ih0 _ _ _ _)
   | (with_reducible exact ih1 _ _ _ _)
   | (with_reducible exact ih2 _ _ _ _ _)
   | (with_reducible exact ih3 _ _ _ _ _ _ _ _)
   | (with_reducible exact LeO.refl _)
   | (with_reducible exact LeO.none _)
   | (with_reducible refine LeO.ite ?_ ?_)
   | (with_reducible refine LeO.bind ?_ (fun _ => ?_))
   | exact ih0 _ _ _ _
   | exact ih1 _ _ _ _
   | exact ih2 _ _ _ _ _
   | exact ih3 _ _ _ _ _ _ _ _
   | exact LeO.none _
   | refine LeO.ite ?_ ?_
   | refine LeO.bind ?_ (fun _ => ?_)
theorem crM_Forest.mono : ∀ a0 a1 k, LeO (crM_Forest.f k a0 a1) (crM_Forest.f (k + 1) a0 a1) := by
 intro a0 a1 k;obtain ⟨ih0, ih1, ih2, ih3⟩ := crM_Forest.mono_l k;unfold crM_Forest.f
 repeat' first
   | (with_reducible exact ih0 _ _ _ _)
   | (with_reducible exact ih1 _ _ _ _)
   | (with_reducible exact ih2 _ _ _ _ _)
   | (with_reducible exact ih3 _ _ _ _ _ _ _ _)
   | (with_reducible exact LeO.refl _)
   | (with_reducible exact LeO.none _)
   | (with_reducible refine LeO.ite ?_ ?_)
   | (with_reducible refine LeO.bind ?_ (fun _ => ?_))
   | exact ih0 _ _ _ _
   | exact ih1 _ _ _ _
   | exact ih2 _ _ _ _ _
   | exact ih3 _ _ _ _ _ _ _ _
   | exact LeO.none _
   | refine LeO.ite ?_ ?_
   | refine LeO.bind ?_ (fun _ => ?_)
set_option maxHeartbeats 8000000 in
set_option maxRecDepth 100000 in
theorem crM_Forest.calls (k : Nat) (a0_0 : Int) (A0_1 : Option Addr) (c0_1 : Nat) (l0_1 : List (List Int)) (r : Bool) (w : World) (hr0_1 : Kd.C (Kd.slice 3 (Kd.int .i64)) w A0_1 l0_1.length l0_1) (hc0_1 : l0_1.length ≤ c0_1) (h : crM_Forest.f k a0_0 l0_1 = some r) :
  Calls Try.prog 16 #[.agg #[.int .i64 a0_0, .slice A0_1 l0_1.length c0_1]] w fun e w' => e = .returned (.bool r) ∧ Below w.heap.size w w' := by
 have hu24 := Try.underlying24;have HR0_1 := Ai0.mk hr0_1;have HC0_1 := Ai0.mk hc0_1;clear hr0_1 hc0_1;have HB := Ai0.mk (Below.refl w.heap.size w);have H : (if 0 ≤ (wrap64 (a0_0 + (l0_1.length : Int))) then (if (wrap64 (a0_0 + (l0_1.length : Int)) : Int).toNat ≤ 35184372088832 then (crM_Forest.l0 k (List.replicate (wrap64 (a0_0 + (l0_1.length : Int)) : Int).toNat 0) 0 a0_0 l0_1) else (none)) else (none)) = some r := h;clear h;obtain ⟨ji2, hji2⟩ : ∃ j_ : Int, (wrap64 (a0_0 + (l0_1.length : Int))) = j_ := ⟨_, rfl⟩
 replace H : (if 0 ≤ (ji2) then (if (ji2 : Int).toNat ≤ 35184372088832 then (crM_Forest.l0 k (List.replicate (ji2 : Int).toNat 0) 0 a0_0 l0_1) else (none)) else (none)) = some r := by first | (rw [hji2] at H; exact H) | (simp only [hji2] at H ⊢; exact H)
 have hji2w : (IntKind.i64.wrap (a0_0 + (l0_1.length : Int))) = ji2 := (i64_w _).trans hji2;by_cases c3 : 0 ≤ (ji2)
 ·rw [if_pos c3] at H;have c3b0 := eq_true c3;have c3b1 : decide (0 ≤ (ji2)) = true := decide_eq_true c3;clear c3;by_cases c4 : (ji2 : Int).toNat ≤ 35184372088832
  ·rw [if_pos c4] at H;have c4b0 := eq_true c4;have c4b1 : decide ((ji2 : Int).toNat ≤ 35184372088832) = true := decide_eq_true c4;clear c4;obtain ⟨y208, hy208⟩ : ∃ y_ : List Int, y_ = (List.replicate (ji2 : Int).toNat 0) := ⟨_, rfl⟩
   replace H : (crM_Forest.l0 k y208 0 a0_0 l0_1) = some r := by first | (rw [hy208]; with_reducible exact H) | (have H2_ := (Option.bind_some _ _).symm.trans H; rw [hy208]; with_reducible exact H2_) | (have H2_ := (Option.bind_some _ _).symm.trans H; with_reducible exact H2_) | with_reducible exact H | (rw [hy208]; exact H) | exact H
   have Ny208 := Ai0.mk hy208;clear hy208;have H' := Ai0.mk H;clear H;go_enter Try.func16, Try.ntmps16
   go_wp2_with (first | ((with_reducible refine gate_dst (N := 1) rfl ?_); refine box_event ?hg (N := 1) ?hd (cs := #[.int .i64 a0_0, .slice A0_1 l0_1.length c0_1]) (t := 24) ?hr ?_; (case hd => rfl); (case hg => rfl); (case hr => first | (go_simp; done) | (go_simp; rfl)); intro gb207 hg w5 hbox hb; have n0_ := Ai0.mk (bt1 bl_ hb); have n1_ := Ai0.mk (hbox); have n2_ := Ai0.mk ((by rw [hg]; exact (bz1 bl_) : w.heap.size ≤ gb207)); have n3_ := Ai0.mk ((by rw [hg]; exact (bz1 bl_) : w.heap.size ≤ gb207)); clear HB; have HB := n0_; have BK207 := n1_; have GW207 := n2_; have GE207 := n3_; clear n0_ n1_ n2_ n3_; clear hb hbox hg; have hcz6_0 : w5.cell? ⟨gb207, 0, none⟩ = some (.int .i64 a0_0) := (kc1 BK207.out 0).trans rfl; have hcz6_1 : w5.cell? ⟨gb207, 1, none⟩ = some (.slice A0_1 l0_1.length c0_1) := (kc1 BK207.out 1).trans rfl; have hfz6_0 := kf1 BK207.out 0; have hfz6_1 := kf1 BK207.out 1) | ((with_reducible refine gate_dst (N := 16) rfl ?_); refine Kd.R_make (Kd.int .i64) _ 3 rfl (N := 16) rfl 25 _ _ rfl ji2 rfl rfl Try.underlying25 (.int .i64 0) 8 info3 rfl (by decide) (by omega) 0 (ok := fun _ => True) (okp := fun _ => True) rfl (fun _ hk => hk) trivial od_ (Nat.le_trans (Nat.mul_le_mul_right _ (od_ : ji2.toNat ≤ 35184372088832)) (by omega)) (Below.refl _ _) (Nat.le_refl _) ?_; intro v209 w7 ho8 hb hg_ hnew_; clear hg_ hnew_; (first | rw [← Ny208.out] at ho8 | (simp only [Int.reduceToNat] at ho8; rw [← Ny208.out] at ho8)); have n0_ := Ai0.mk (Kd.R_lower ho8 (bz1 bl_)); have n1_ := Ai0.mk (kb1 (g := gb207) (o := .cells #[.int .i64 a0_0, .slice A0_1 l0_1.length c0_1] 24 (0, 0)) (kk_ BK207.out) hb); have n2_ := Ai0.mk (bt1 bl_ hb); clear BK207; clear HB; have HO210 := n0_; have BK207 := n1_; have HB := n2_; clear n0_ n1_ n2_; clear hb ho8))
   go_loopg [4] k (fun kq v4 w' => ∃ (x3_1 : List Int) (x4_1 : Int), v4 = .int .i64 x4_1 ∧ Ai0 (crM_Forest.l0 kq x3_1 x4_1 a0_0 l0_1 = some r) ∧ Ai0 (kq ≤ k) ∧ Ai0 (Kd.R (Kd.int .i64) 3 w' w.heap.size (fun _ => True) v209 x3_1) ∧ Ai0 (w'.heap[gb207]? = some (.cells #[.int .i64 a0_0, (.slice A0_1 l0_1.length c0_1)] 24 (0, 0))) ∧ Ai0 (Below w.heap.size w w'))
   case atStart => exact ⟨(y208), (0), rf_, H', ⟨Nat.le_refl _⟩, ⟨kr_ HO210.out⟩, ⟨kk_ BK207.out⟩, ⟨bl_⟩⟩
   case round =>
    clear H'
    try clear c1
    try clear p2
    try clear c3
    try clear c3b0
    try clear c3b1
    try clear c4
    try clear c4b0
    try clear c4b1
    try clear p6
    try clear hcz6_0
    try clear hcz6_1
    try clear hfz6_0
    try clear hfz6_1
    obtain ⟨x3_1, x4_1, rfl, HA, HK1, HO_3, BK207, HB⟩ := hrel
    cases gk with
    | zero => exact absurd HA.out (by simp [crM_Forest.l0])
    | succ k1 =>
     have H := HA.out;clear HA;simp only [crM_Forest.l0] at H;by_cases c9 : x4_1 < (x3_1.length : Int)
     ·rw [if_pos c9] at H;have c9b0 : decide (x4_1 < (x3_1.length : Int)) = true := decide_eq_true c9;clear c9;by_cases c10 : 0 ≤ x4_1
      ·rw [if_pos c10] at H;have c10b0 : decide (0 ≤ x4_1) = true := decide_eq_true c10;clear c10;(obtain ⟨y211, hy211⟩ : ∃ y_ : List Int, y_ = (x3_1.set (x4_1 : Int).toNat x4_1) := ⟨_, rfl⟩);(replace H : (crM_Forest.l0 k1 y211 (wrap64 (x4_1 + 1)) a0_0 l0_1) = some r := by first | (rw [hy211]; with_reducible exact H) | (have H2_ := (Option.bind_some _ _).symm.trans H; rw [hy211]; with_reducible exact H2_) | (have H2_ := (Option.bind_some _ _).symm.trans H; with_reducible exact H2_) | with_reducible exact H | (rw [hy211]; exact H) | exact H);have Ny211 := Ai0.mk hy211;clear hy211;have H' := Ai0.mk H;clear H;obtain ⟨Ao12, co12, eo12⟩ := Kd.R_slice HO_3.out;subst eo12;have p11 : 0 ≤ (x4_1 : Int) := od_;have q11 : (x4_1 : Int) < ((x3_1.length : Int) : Int) := od_;obtain ⟨go11, co11, eo11, gb11, gl11, cl11, HG11⟩ := Kd.R_form HO_3.out (by omega);(first | cases eo11 | (injection eo11 with ea_ en_ ec_; (first | subst ea_ | (injection ea_ with ea_; subst ea_)); subst ec_; clear en_));have GB11 := Ai0.mk gb11;have GG11 := Ai0.mk HG11;clear gb11 gl11 HG11;obtain ⟨hx11_0, hf11_0⟩ := Kd.R_celln 0 HO_3.out (x4_1 : Int) p11 q11;replace p11 := eq_true p11;replace q11 := eq_true q11;have HP13 := Kd.R_putg HO_3.out (x4_1 : Int) x4_1
       go_wp2_with (first | ((with_reducible refine gate_store (t := 3) (p := 26) rfl ?_); refine store_event (t := 3) (p := 26) (v := ?vo_w14) (w1 := (wr.setCell ⟨go11, (x4_1 : Int).toNat, none⟩ (.int .i64 x4_1))) ?hg ?ho ?hn ?hr ?_; (case ho => rfl); (case hg => rfl); (case hn => rfl); (case hr => first | (go_simp; done) | (go_simp; rfl)); intro w14 hw; have hg : wr.grownBy w14 (some go11) := (by rw [hw]; exact HP13.2); have hp_ : Kd.R (Kd.int .i64) 3 w14 w.heap.size (fun _ => True) (.slice (some ⟨go11, 0, none⟩) x3_1.length co12) y211 := (by rw [hw, Ny211.out]; exact HP13.1); clear HP13; have n0_ := Ai0.mk (hp_); have n1_ := Ai0.mk (blk_grown (g := gb207) (o := .cells #[.int .i64 a0_0, .slice A0_1 l0_1.length c0_1] 24 (0, 0)) (kk_ BK207.out) hg (Kd.R_ne HO_3.out BK207.out (by decide))); have n2_ := Ai0.mk ((by rw [hw]; exact bs1 (HB.out) GB11.out : Below w.heap.size w w14)); clear HO_3; clear BK207; clear HB; have HO_3 := n0_; have BK207 := n1_; have HB := n2_; clear n0_ n1_ n2_; clear hg hw hp_))
       go_roundg k1
       case measure => have := HK1.out; omega
       case rel => exact ⟨(y211), (wrap64 (x4_1 + 1)), rf_, H', ⟨by have := HK1.out; omega⟩, ⟨kr_ HO_3.out⟩, ⟨kk_ BK207.out⟩, ⟨bl_⟩⟩
      ·rw [if_neg c10] at H;exact absurd H (by simp)
     ·rw [if_neg c9] at H;have c9b0 : decide (x4_1 < (x3_1.length : Int)) = false := decide_eq_false c9;clear c9;have H' := Ai0.mk H;clear H;obtain ⟨Ao15, co15, eo15⟩ := Kd.R_slice HO_3.out;subst eo15
      go_wp2
      go_loopg [5] k1 (fun kq v5 w' => ∃ (x3_2 : List Int) (x5_2 : Int), v5 = .int .i64 x5_2 ∧ Ai0 (crM_Forest.l1 kq x3_2 x5_2 a0_0 l0_1 = some r) ∧ Ai0 (kq ≤ k1) ∧ Ai0 (Kd.R (Kd.int .i64) 3 w' w.heap.size (fun _ => True) (.slice Ao15 x3_1.length co15) x3_2) ∧ Ai0 (w'.heap[gb207]? = some (.cells #[.int .i64 a0_0, (.slice A0_1 l0_1.length c0_1)] 24 (0, 0))) ∧ Ai0 (Below w.heap.size w w'))
      case atStart => exact ⟨(x3_1), (0), rf_, H', ⟨Nat.le_refl _⟩, ⟨kr_ HO_3.out⟩, ⟨kk_ BK207.out⟩, ⟨bl_⟩⟩
      case round =>
       clear H'
       try clear c1
       try clear p1
       try clear q1
       try clear hx1
       try clear hf1
       try clear p2
       try clear c3
       try clear c3b0
       try clear c3b1
       try clear c4
       try clear c4b0
       try clear c4b1
       try clear p6
       try clear c9
       try clear c9b0
       try clear c10
       try clear c10b0
       try clear p11
       try clear q11
       try clear hx11
       try clear hf11
       try clear hcz6_0
       try clear hcz6_1
       try clear hfz6_0
       try clear hfz6_1
       try clear hx11_0
       try clear p11
       try clear p2
       try clear p6
       try clear q11
       obtain ⟨x3_2, x5_2, rfl, HA, HK2, HO_3, BK207, HB⟩ := hrel;have hl3_2 := (Kd.R_reads' HO_3.out).1;rw [hl3_2] at HO_3;(try simp only [hl3_2]);(try simp only [hl3_2] at BK207)
       cases gk with
       | zero => exact absurd HA.out (by simp [crM_Forest.l1])
       | succ k2 =>
        have H := HA.out;clear HA;simp only [crM_Forest.l1] at H;by_cases c16 : x5_2 < (l0_1.length : Int)
        ·rw [if_pos c16] at H;have c16b0 : decide (x5_2 < (l0_1.length : Int)) = true := decide_eq_true c16;(try (have c16b0h0 := c16b0; simp only [hl3_2] at c16b0h0));clear c16;have H' := Ai0.mk H;clear H;have hcz17_0 : wr.cell? ⟨gb207, 0, none⟩ = some (.int .i64 a0_0) := (kc1 BK207.out 0).trans rfl;have hcz17_1 : wr.cell? ⟨gb207, 1, none⟩ = some (.slice A0_1 l0_1.length c0_1) := (kc1 BK207.out 1).trans rfl;have hfz17_0 := kf1 BK207.out 0;have hfz17_1 := kf1 BK207.out 1
         go_wp2
         go_loopg [6] k2 (fun kq v6 w' => ∃ (x3_3 : List Int) (x6_3 : Int), v6 = .int .i64 x6_3 ∧ Ai0 (crM_Forest.l2 kq x3_3 x5_2 x6_3 a0_0 l0_1 = some r) ∧ Ai0 (kq ≤ k2) ∧ Ai0 (Kd.R (Kd.int .i64) 3 w' w.heap.size (fun _ => True) (.slice Ao15 x3_2.length co15) x3_3) ∧ Ai0 (w'.heap[gb207]? = some (.cells #[.int .i64 a0_0, (.slice A0_1 l0_1.length c0_1)] 24 (0, 0))) ∧ Ai0 (Below w.heap.size w w'))
         case atStart => exact ⟨(x3_2), (0), rf_, H', ⟨Nat.le_refl _⟩, ⟨by (try simp only [hl3_2]); (with_reducible repeat (first | apply Kd.Ra1 | apply Kd.Rn1 | apply Kd.Rd1)); exact HO_3.out⟩, ⟨by (try simp only [hl3_2]); (with_reducible repeat (first | refine kn1 ?_ _ | refine kd1 ?_ | refine ka1 ?_ _)); exact BK207.out⟩, ⟨bl_⟩⟩
         case round =>
          clear H'
          try clear c1
          try clear p1
          try clear q1
          try clear hx1
          try clear hf1
          try clear p2
          try clear c3
          try clear c3b0
          try clear c3b1
          try clear c4
          try clear c4b0
          try clear c4b1
          try clear p6
          try clear c9
          try clear c9b0
          try clear c10
          try clear c10b0
          try clear p11
          try clear q11
          try clear hx11
          try clear hf11
          try clear c16
          try clear c16b0
          try clear hcz17_0
          try clear hcz17_1
          try clear hcz6_0
          try clear hcz6_1
          try clear hfz17_0
          try clear hfz17_1
          try clear hfz6_0
          try clear hfz6_1
          try clear hx11_0
          try clear p1
          try clear p11
          try clear p2
          try clear p6
          try clear q1
          try clear q11
          obtain ⟨x3_3, x6_3, rfl, HA, HK3, HO_3, BK207, HB⟩ := hrel;have hl3_3 := (Kd.R_reads' HO_3.out).1;rw [hl3_3] at HO_3;(try simp only [hl3_3]);(try simp only [hl3_3] at BK207)
          cases gk with
          | zero => exact absurd HA.out (by simp [crM_Forest.l2])
          | succ k3 =>
           have H := HA.out;clear HA;simp only [crM_Forest.l2] at H;by_cases c18 : x6_3 < a0_0
           ·rw [if_pos c18] at H;have c18b0 : decide (x6_3 < a0_0) = true := decide_eq_true c18;clear c18;by_cases c19 : 0 ≤ x5_2
            ·rw [if_pos c19] at H;have c19b0 : decide (0 ≤ x5_2) = true := decide_eq_true c19;clear c19;by_cases c20 : x5_2 < (l0_1.length : Int)
             ·rw [if_pos c20] at H;have c20b0 : decide (x5_2 < (l0_1.length : Int)) = true := decide_eq_true c20;(try (have c20b0h0 := c20b0; simp only [hl3_2] at c20b0h0));(try (have c20b0h1 := c20b0; simp only [hl3_3] at c20b0h1));clear c20;by_cases c21 : 0 ≤ x6_3
              ·rw [if_pos c21] at H;have c21b0 : decide (0 ≤ x6_3) = true := decide_eq_true c21;clear c21;by_cases c22 : x6_3 < ((rd_L1 l0_1 x5_2).length : Int)
               ·rw [if_pos c22] at H;have c22b0 : decide (x6_3 < ((rd_L1 l0_1 x5_2).length : Int)) = true := decide_eq_true c22;(try (have c22b0h0 := c22b0; simp only [hl3_2] at c22b0h0));(try (have c22b0h1 := c22b0; simp only [hl3_3] at c22b0h1));clear c22;by_cases c23 : (rd (rd_L1 l0_1 x5_2) x6_3) = 0
                ·rw [if_pos c23] at H;have c23b0 : ((rd (rd_L1 l0_1 x5_2) x6_3) == 0) = true := beq_iff_eq.mpr c23;have c23b1 : ((rd (rd_L1 l0_1 x5_2) x6_3) != 0) = false := bne_eq_false_iff_eq.mpr c23;clear c23;have H' := Ai0.mk H;clear H;have hcz24_0 : wr.cell? ⟨gb207, 0, none⟩ = some (.int .i64 a0_0) := (kc1 BK207.out 0).trans rfl;have hcz24_1 : wr.cell? ⟨gb207, 1, none⟩ = some (.slice A0_1 l0_1.length c0_1) := (kc1 BK207.out 1).trans rfl;have hfz24_0 := kf1 BK207.out 0;have hfz24_1 := kf1 BK207.out 1;have p212 : 0 ≤ (x5_2 : Int) := od_;have q212 : x5_2 < (l0_1.length : Int) := od_;obtain ⟨ad212, A212_0, c212_0, e212, hx212_0, hl212_0, hi212_0⟩ := at_L1 HR0_1.out x5_2 p212 q212;cases e212;replace hx212_0 := (HB.out.cell (World.block_lt_of_cell? w _ hx212_0)).trans hx212_0;have HR212_0 := Ai0.mk hi212_0;have HC212_0 := Ai0.mk hl212_0;clear hi212_0 hl212_0;replace p212 := eq_true p212;replace q212 := eq_true q212;have p213 : 0 ≤ (x6_3 : Int) := od_;have q213 : x6_3 < ((rd_L1 l0_1 x5_2).length : Int) := od_;obtain ⟨ad213, e213, hx213_0⟩ := Kd.at_int HR212_0.out x6_3 p213 q213;cases e213;replace hx213_0 := (HB.out.cell (World.block_lt_of_cell? w _ hx213_0)).trans hx213_0;replace p213 := eq_true p213;replace q213 := eq_true q213
                 go_wp2
                 (try simp only [← hl3_3])
                 go_roundg k3
                 case measure => have := HK1.out; have := HK2.out; have := HK3.out; omega
                 case rel => exact ⟨(x3_3), (wrap64 (x6_3 + 1)), rf_, H', ⟨by have := HK1.out; have := HK2.out; have := HK3.out; omega⟩, ⟨by (try simp only [hl3_2]); (try simp only [hl3_3]); (with_reducible repeat (first | apply Kd.Ra1 | apply Kd.Rn1 | apply Kd.Rd1)); exact HO_3.out⟩, ⟨by (try simp only [hl3_2]); (try simp only [hl3_3]); (with_reducible repeat (first | refine kn1 ?_ _ | refine kd1 ?_ | refine ka1 ?_ _)); exact BK207.out⟩, ⟨bl_⟩⟩
                ·rw [if_neg c23] at H;have c23b0 : ((rd (rd_L1 l0_1 x5_2) x6_3) == 0) = false := beq_eq_false_iff_ne.mpr c23;have c23b1 : ((rd (rd_L1 l0_1 x5_2) x6_3) != 0) = true := bne_iff_ne.mpr c23;by_cases c25 : x6_3 < (x3_3.length : Int)
                 ·rw [if_pos c25] at H;have c25b0 : decide (x6_3 < (x3_3.length : Int)) = true := decide_eq_true c25;(try (have c25b0h0 := c25b0; simp only [hl3_2] at c25b0h0));(try (have c25b0h1 := c25b0; simp only [hl3_3] at c25b0h1));clear c25;(obtain ⟨ji26, hji26⟩ : ∃ j_ : Int, (wrap64 (a0_0 + x5_2)) = j_ := ⟨_, rfl⟩);(replace H : (if 0 ≤ (ji26) then (if (ji26) < (x3_3.length : Int) then (if (rd x3_3 x6_3) = (rd x3_3 (ji26)) then (some false) else (crM_Forest.l3 k3 x3_3 x5_2 x6_3 (rd x3_3 x6_3) (rd x3_3 (ji26)) 0 a0_0 l0_1)) else (none)) else (none)) = some r := by first | (rw [hji26] at H; exact H) | (simp only [hji26] at H ⊢; exact H));have hji26w : (IntKind.i64.wrap (a0_0 + x5_2)) = ji26 := (i64_w _).trans hji26;by_cases c27 : 0 ≤ (ji26)
                  ·rw [if_pos c27] at H;have c27b0 : decide (0 ≤ (ji26)) = true := decide_eq_true c27;clear c27;by_cases c28 : (ji26) < (x3_3.length : Int)
                   ·rw [if_pos c28] at H;have c28b0 : decide ((ji26) < (x3_3.length : Int)) = true := decide_eq_true c28;(try (have c28b0h0 := c28b0; simp only [hl3_2] at c28b0h0));(try (have c28b0h1 := c28b0; simp only [hl3_3] at c28b0h1));clear c28;by_cases c29 : (rd x3_3 x6_3) = (rd x3_3 (ji26))
                    ·rw [if_pos c29] at H;have c29b0 : ((rd x3_3 x6_3) == (rd x3_3 (ji26))) = true := beq_iff_eq.mpr c29;have c29b1 : ((rd x3_3 x6_3) != (rd x3_3 (ji26))) = false := bne_eq_false_iff_eq.mpr c29;clear c29;obtain rfl := Option.some.inj H;have hcz30_0 : wr.cell? ⟨gb207, 0, none⟩ = some (.int .i64 a0_0) := (kc1 BK207.out 0).trans rfl;have hcz30_1 : wr.cell? ⟨gb207, 1, none⟩ = some (.slice A0_1 l0_1.length c0_1) := (kc1 BK207.out 1).trans rfl;have hfz30_0 := kf1 BK207.out 0;have hfz30_1 := kf1 BK207.out 1;have p212 : 0 ≤ (x5_2 : Int) := od_;have q212 : x5_2 < (l0_1.length : Int) := od_;obtain ⟨ad212, A212_0, c212_0, e212, hx212_0, hl212_0, hi212_0⟩ := at_L1 HR0_1.out x5_2 p212 q212;cases e212;replace hx212_0 := (HB.out.cell (World.block_lt_of_cell? w _ hx212_0)).trans hx212_0;have HR212_0 := Ai0.mk hi212_0;have HC212_0 := Ai0.mk hl212_0;clear hi212_0 hl212_0;replace p212 := eq_true p212;replace q212 := eq_true q212;have p213 : 0 ≤ (x6_3 : Int) := od_;have q213 : x6_3 < ((rd_L1 l0_1 x5_2).length : Int) := od_;obtain ⟨ad213, e213, hx213_0⟩ := Kd.at_int HR212_0.out x6_3 p213 q213;cases e213;replace hx213_0 := (HB.out.cell (World.block_lt_of_cell? w _ hx213_0)).trans hx213_0;replace p213 := eq_true p213;replace q213 := eq_true q213;have p214 : 0 ≤ (x6_3 : Int) := od_;have q214 : x6_3 < (x3_3.length : Int) := od_;obtain ⟨ad214, e214, hx214_0⟩ := Kd.at_int (Kd.R_reads' HO_3.out).2.2 x6_3 p214 q214;cases e214;replace p214 := eq_true p214;replace q214 := eq_true q214;have p215 : 0 ≤ ((ji26) : Int) := od_;have q215 : (ji26) < (x3_3.length : Int) := od_;obtain ⟨ad215, e215, hx215_0⟩ := Kd.at_int (Kd.R_reads' HO_3.out).2.2 (ji26) p215 q215;obtain rfl : ad214 = ad215 := (by injection e215);replace p215 := eq_true p215;replace q215 := eq_true q215
                     go_wp2
                     go_ret
                     exact ⟨by first | rfl | (simp [eW0, eW1] <;> rfl) | (simp only [← hji2, ← hji26]; first | rfl | (simp [eW0, eW1] <;> rfl)) | (simp [*, eW0, eW1] <;> rfl), bl_⟩
                    ·rw [if_neg c29] at H;have c29b0 : ((rd x3_3 x6_3) == (rd x3_3 (ji26))) = false := beq_eq_false_iff_ne.mpr c29;have c29b1 : ((rd x3_3 x6_3) != (rd x3_3 (ji26))) = true := bne_iff_ne.mpr c29;have H' := Ai0.mk H;clear H;have hcz31_0 : wr.cell? ⟨gb207, 0, none⟩ = some (.int .i64 a0_0) := (kc1 BK207.out 0).trans rfl;have hcz31_1 : wr.cell? ⟨gb207, 1, none⟩ = some (.slice A0_1 l0_1.length c0_1) := (kc1 BK207.out 1).trans rfl;have hfz31_0 := kf1 BK207.out 0;have hfz31_1 := kf1 BK207.out 1;have p212 : 0 ≤ (x5_2 : Int) := od_;have q212 : x5_2 < (l0_1.length : Int) := od_;obtain ⟨ad212, A212_0, c212_0, e212, hx212_0, hl212_0, hi212_0⟩ := at_L1 HR0_1.out x5_2 p212 q212;cases e212;replace hx212_0 := (HB.out.cell (World.block_lt_of_cell? w _ hx212_0)).trans hx212_0;have HR212_0 := Ai0.mk hi212_0;have HC212_0 := Ai0.mk hl212_0;clear hi212_0 hl212_0;replace p212 := eq_true p212;replace q212 := eq_true q212;have p213 : 0 ≤ (x6_3 : Int) := od_;have q213 : x6_3 < ((rd_L1 l0_1 x5_2).length : Int) := od_;obtain ⟨ad213, e213, hx213_0⟩ := Kd.at_int HR212_0.out x6_3 p213 q213;cases e213;replace hx213_0 := (HB.out.cell (World.block_lt_of_cell? w _ hx213_0)).trans hx213_0;replace p213 := eq_true p213;replace q213 := eq_true q213;have p214 : 0 ≤ (x6_3 : Int) := od_;have q214 : x6_3 < (x3_3.length : Int) := od_;obtain ⟨ad214, e214, hx214_0⟩ := Kd.at_int (Kd.R_reads' HO_3.out).2.2 x6_3 p214 q214;cases e214;replace p214 := eq_true p214;replace q214 := eq_true q214;have p215 : 0 ≤ ((ji26) : Int) := od_;have q215 : (ji26) < (x3_3.length : Int) := od_;obtain ⟨ad215, e215, hx215_0⟩ := Kd.at_int (Kd.R_reads' HO_3.out).2.2 (ji26) p215 q215;obtain rfl : ad214 = ad215 := (by injection e215);replace p215 := eq_true p215;replace q215 := eq_true q215
                     go_wp2
                     go_loopg [9] k3 (fun kq v9 w' => ∃ (x3_4 : List Int) (x9_4 : Int), v9 = .int .i64 x9_4 ∧ Ai0 (crM_Forest.l3 kq x3_4 x5_2 x6_3 (rd x3_3 x6_3) (rd x3_3 (ji26)) x9_4 a0_0 l0_1 = some r) ∧ Ai0 (kq ≤ k3) ∧ Ai0 (Kd.R (Kd.int .i64) 3 w' w.heap.size (fun _ => True) (.slice (some ad214) x3_3.length co15) x3_4) ∧ Ai0 (w'.heap[gb207]? = some (.cells #[.int .i64 a0_0, (.slice (some ad212) l0_1.length c0_1)] 24 (0, 0))) ∧ Ai0 (Below w.heap.size w w'))
                     case atStart => exact ⟨(x3_3), (0), rf_, H', ⟨Nat.le_refl _⟩, ⟨by (try simp only [hl3_2]); (try simp only [hl3_3]); (with_reducible repeat (first | apply Kd.Ra1 | apply Kd.Rn1 | apply Kd.Rd1)); exact HO_3.out⟩, ⟨by (try simp only [hl3_2]); (try simp only [hl3_3]); (with_reducible repeat (first | refine kn1 ?_ _ | refine kd1 ?_ | refine ka1 ?_ _)); exact BK207.out⟩, ⟨bl_⟩⟩
                     case round =>
                      clear H'
                      try clear c1
                      try clear p1
                      try clear q1
                      try clear hx1
                      try clear hf1
                      try clear c2
                      try clear p2
                      try clear q2
                      try clear hx2
                      try clear c3
                      try clear c3b0
                      try clear c3b1
                      try clear c4
                      try clear c4b0
                      try clear c4b1
                      try clear p6
                      try clear c9
                      try clear c9b0
                      try clear c10
                      try clear c10b0
                      try clear p11
                      try clear q11
                      try clear hx11
                      try clear hf11
                      try clear c16
                      try clear c16b0
                      try clear c18
                      try clear c18b0
                      try clear c19
                      try clear c19b0
                      try clear c20
                      try clear c20b0
                      try clear c21
                      try clear c21b0
                      try clear p21
                      try clear q21
                      try clear hx21
                      try clear c22
                      try clear c22b0
                      try clear c23
                      try clear c23b0
                      try clear c23b1
                      try clear c25
                      try clear c25b0
                      try clear c27
                      try clear c27b0
                      try clear c28
                      try clear c28b0
                      try clear c29
                      try clear c29b0
                      try clear c29b1
                      try clear hcz17_0
                      try clear hcz17_1
                      try clear hcz24_0
                      try clear hcz24_1
                      try clear hcz30_0
                      try clear hcz30_1
                      try clear hcz31_0
                      try clear hcz31_1
                      try clear hcz6_0
                      try clear hcz6_1
                      try clear hfz17_0
                      try clear hfz17_1
                      try clear hfz24_0
                      try clear hfz24_1
                      try clear hfz30_0
                      try clear hfz30_1
                      try clear hfz31_0
                      try clear hfz31_1
                      try clear hfz6_0
                      try clear hfz6_1
                      try clear hx11_0
                      try clear hx212_0
                      try clear hx213_0
                      try clear hx214_0
                      try clear hx215_0
                      try clear p1
                      try clear p11
                      try clear p2
                      try clear p212
                      try clear p213
                      try clear p214
                      try clear p215
                      try clear p6
                      try clear q1
                      try clear q11
                      try clear q212
                      try clear q213
                      try clear q214
                      try clear q215
                      obtain ⟨x3_4, x9_4, rfl, HA, HK4, HO_3, BK207, HB⟩ := hrel;have hl3_4 := (Kd.R_reads' HO_3.out).1;rw [hl3_4] at HO_3;(try simp only [hl3_4]);(try simp only [hl3_4] at BK207)
                      cases gk with
                      | zero => exact absurd HA.out (by simp [crM_Forest.l3])
                      | succ k4 =>
                       have H := HA.out;clear HA;simp only [crM_Forest.l3] at H;by_cases c32 : x9_4 < (x3_4.length : Int)
                       ·rw [if_pos c32] at H;have c32b0 : decide (x9_4 < (x3_4.length : Int)) = true := decide_eq_true c32;(try (have c32b0h0 := c32b0; simp only [hl3_2] at c32b0h0));(try (have c32b0h1 := c32b0; simp only [hl3_3] at c32b0h1));(try (have c32b0h2 := c32b0; simp only [hl3_4] at c32b0h2));clear c32;by_cases c33 : 0 ≤ x9_4
                        ·rw [if_pos c33] at H;have c33b0 : decide (0 ≤ x9_4) = true := decide_eq_true c33;clear c33;by_cases c34 : (rd x3_4 x9_4) = (rd x3_3 x6_3)
                         ·rw [if_pos c34] at H;have c34b0 : ((rd x3_4 x9_4) == (rd x3_3 x6_3)) = true := beq_iff_eq.mpr c34;have c34b1 : ((rd x3_4 x9_4) != (rd x3_3 x6_3)) = false := bne_eq_false_iff_eq.mpr c34;clear c34;(obtain ⟨y217, hy217⟩ : ∃ y_ : List Int, y_ = (x3_4.set (x9_4 : Int).toNat (rd x3_3 (ji26))) := ⟨_, rfl⟩);(replace H : (crM_Forest.l3 k4 y217 x5_2 x6_3 (rd x3_3 x6_3) (rd x3_3 (ji26)) (wrap64 (x9_4 + 1)) a0_0 l0_1) = some r := by first | (rw [hy217]; with_reducible exact H) | (have H2_ := (Option.bind_some _ _).symm.trans H; rw [hy217]; with_reducible exact H2_) | (have H2_ := (Option.bind_some _ _).symm.trans H; with_reducible exact H2_) | with_reducible exact H | (rw [hy217]; exact H) | exact H);have Ny217 := Ai0.mk hy217;clear hy217;have H' := Ai0.mk H;clear H;have p216 : 0 ≤ (x9_4 : Int) := od_;have q216 : x9_4 < (x3_4.length : Int) := od_;obtain ⟨ad216, e216, hx216_0⟩ := Kd.at_int (Kd.R_reads' HO_3.out).2.2 x9_4 p216 q216;obtain rfl : ad214 = ad216 := (by injection e216);replace p216 := eq_true p216;replace q216 := eq_true q216;have p35 : 0 ≤ (x9_4 : Int) := od_;have q35 : (x9_4 : Int) < ((x3_4.length : Int) : Int) := od_;obtain ⟨go35, co35, eo35, gb35, gl35, cl35, HG35⟩ := Kd.R_form HO_3.out (by omega);(first | cases eo35 | (injection eo35 with ea_ en_ ec_; (first | subst ea_ | (injection ea_ with ea_; subst ea_)); subst ec_; clear en_));have GB35 := Ai0.mk gb35;have GG35 := Ai0.mk HG35;clear gb35 gl35 HG35;(first | simp only [add_plain] at hx214_0 | skip);(first | simp only [add_plain] at hx215_0 | skip);(first | simp only [add_plain] at hx216_0 | skip);obtain ⟨hx35_0, hf35_0⟩ := Kd.R_celln 0 HO_3.out (x9_4 : Int) p35 q35;replace p35 := eq_true p35;replace q35 := eq_true q35;have HP36 := Kd.R_putg HO_3.out (x9_4 : Int) (rd x3_3 (ji26))
                          go_wp2_with (first | ((with_reducible refine gate_store (t := 3) (p := 78) rfl ?_); refine store_event (t := 3) (p := 78) (v := ?vo_w37) (w1 := (wr.setCell ⟨go35, (x9_4 : Int).toNat, none⟩ (.int .i64 (rd x3_3 (ji26))))) ?hg ?ho ?hn ?hr ?_; (case ho => rfl); (case hg => rfl); (case hn => rfl); (case hr => first | (go_simp; done) | (go_simp; rfl)); intro w37 hw; have hg : wr.grownBy w37 (some go35) := (by rw [hw]; exact HP36.2); have hp_ : Kd.R (Kd.int .i64) 3 w37 w.heap.size (fun _ => True) (.slice (some ⟨go35, 0, none⟩) x3_4.length co15) y217 := (by rw [hw, Ny217.out]; exact HP36.1); clear HP36; have n0_ := Ai0.mk (hp_); have n1_ := Ai0.mk (blk_grown (g := gb207) (o := .cells #[.int .i64 a0_0, .slice (some ad212) l0_1.length c0_1] 24 (0, 0)) (kk_ BK207.out) hg (Kd.R_ne HO_3.out BK207.out (by decide))); have n2_ := Ai0.mk ((by rw [hw]; exact bs1 (HB.out) GB35.out : Below w.heap.size w w37)); clear HO_3; clear BK207; clear HB; have HO_3 := n0_; have BK207 := n1_; have HB := n2_; clear n0_ n1_ n2_; clear hg hw hp_))
                          (try simp only [← hl3_4]);(try simp only [add_plain] at *)
                          go_roundg k4
                          case measure => have := HK1.out; have := HK2.out; have := HK3.out; have := HK4.out; omega
                          case rel => exact ⟨(y217), (wrap64 (x9_4 + 1)), rf_, H', ⟨by have := HK1.out; have := HK2.out; have := HK3.out; have := HK4.out; omega⟩, ⟨by (try simp only [hl3_2]); (try simp only [hl3_3]); (try simp only [hl3_4]); (with_reducible repeat (first | apply Kd.Ra1 | apply Kd.Rn1 | apply Kd.Rd1)); exact HO_3.out⟩, ⟨by (try simp only [hl3_2]); (try simp only [hl3_3]); (try simp only [hl3_4]); (with_reducible repeat (first | refine kn1 ?_ _ | refine kd1 ?_ | refine ka1 ?_ _)); exact BK207.out⟩, ⟨bl_⟩⟩
                         ·rw [if_neg c34] at H;have c34b0 : ((rd x3_4 x9_4) == (rd x3_3 x6_3)) = false := beq_eq_false_iff_ne.mpr c34;have c34b1 : ((rd x3_4 x9_4) != (rd x3_3 x6_3)) = true := bne_iff_ne.mpr c34;have H' := Ai0.mk H;clear H;have p216 : 0 ≤ (x9_4 : Int) := od_;have q216 : x9_4 < (x3_4.length : Int) := od_;obtain ⟨ad216, e216, hx216_0⟩ := Kd.at_int (Kd.R_reads' HO_3.out).2.2 x9_4 p216 q216;obtain rfl : ad214 = ad216 := (by injection e216);replace p216 := eq_true p216;replace q216 := eq_true q216
                          go_wp2
                          (try simp only [← hl3_4]);(try simp only [add_plain] at *)
                          go_roundg k4
                          case measure => have := HK1.out; have := HK2.out; have := HK3.out; have := HK4.out; omega
                          case rel => exact ⟨(x3_4), (wrap64 (x9_4 + 1)), rf_, H', ⟨by have := HK1.out; have := HK2.out; have := HK3.out; have := HK4.out; omega⟩, ⟨by (try simp only [hl3_2]); (try simp only [hl3_3]); (try simp only [hl3_4]); (with_reducible repeat (first | apply Kd.Ra1 | apply Kd.Rn1 | apply Kd.Rd1)); exact HO_3.out⟩, ⟨by (try simp only [hl3_2]); (try simp only [hl3_3]); (try simp only [hl3_4]); (with_reducible repeat (first | refine kn1 ?_ _ | refine kd1 ?_ | refine ka1 ?_ _)); exact BK207.out⟩, ⟨bl_⟩⟩
                        ·rw [if_neg c33] at H;exact absurd H (by simp)
                       ·rw [if_neg c32] at H;have c32b0 : decide (x9_4 < (x3_4.length : Int)) = false := decide_eq_false c32;(try (have c32b0h0 := c32b0; simp only [hl3_2] at c32b0h0));(try (have c32b0h1 := c32b0; simp only [hl3_3] at c32b0h1));(try (have c32b0h2 := c32b0; simp only [hl3_4] at c32b0h2));clear c32;have H' := Ai0.mk H;clear H
                        go_wp2
                        (try simp only [← hl3_3, ← hl3_4]);(try simp only [add_plain] at *)
                        go_roundg k4
                        case measure => have := HK1.out; have := HK2.out; have := HK3.out; have := HK4.out; omega
                        case rel => exact ⟨(x3_4), (wrap64 (x6_3 + 1)), rf_, H', ⟨by have := HK1.out; have := HK2.out; have := HK3.out; have := HK4.out; omega⟩, ⟨by (try simp only [hl3_2]); (try simp only [hl3_3]); (try simp only [hl3_4]); (with_reducible repeat (first | apply Kd.Ra1 | apply Kd.Rn1 | apply Kd.Rd1)); exact HO_3.out⟩, ⟨by (try simp only [hl3_2]); (try simp only [hl3_3]); (try simp only [hl3_4]); (with_reducible repeat (first | refine kn1 ?_ _ | refine kd1 ?_ | refine ka1 ?_ _)); exact BK207.out⟩, ⟨bl_⟩⟩
                   ·rw [if_neg c28] at H;exact absurd H (by simp)
                  ·rw [if_neg c27] at H;exact absurd H (by simp)
                 ·rw [if_neg c25] at H;exact absurd H (by simp)
               ·rw [if_neg c22] at H;exact absurd H (by simp)
              ·rw [if_neg c21] at H;exact absurd H (by simp)
             ·rw [if_neg c20] at H;exact absurd H (by simp)
            ·rw [if_neg c19] at H;exact absurd H (by simp)
           ·rw [if_neg c18] at H;have c18b0 : decide (x6_3 < a0_0) = false := decide_eq_false c18;clear c18;have H' := Ai0.mk H;clear H;have hcz38_0 : wr.cell? ⟨gb207, 0, none⟩ = some (.int .i64 a0_0) := (kc1 BK207.out 0).trans rfl;have hcz38_1 : wr.cell? ⟨gb207, 1, none⟩ = some (.slice A0_1 l0_1.length c0_1) := (kc1 BK207.out 1).trans rfl;have hfz38_0 := kf1 BK207.out 0;have hfz38_1 := kf1 BK207.out 1
            go_wp2
            (try simp only [← hl3_2, ← hl3_3])
            go_roundg k3
            case measure => have := HK1.out; have := HK2.out; have := HK3.out; omega
            case rel => exact ⟨(x3_3), (wrap64 (x5_2 + 1)), rf_, H', ⟨by have := HK1.out; have := HK2.out; have := HK3.out; omega⟩, ⟨by (try simp only [hl3_2]); (try simp only [hl3_3]); (with_reducible repeat (first | apply Kd.Ra1 | apply Kd.Rn1 | apply Kd.Rd1)); exact HO_3.out⟩, ⟨by (try simp only [hl3_2]); (try simp only [hl3_3]); (with_reducible repeat (first | refine kn1 ?_ _ | refine kd1 ?_ | refine ka1 ?_ _)); exact BK207.out⟩, ⟨bl_⟩⟩
        ·rw [if_neg c16] at H;have c16b0 : decide (x5_2 < (l0_1.length : Int)) = false := decide_eq_false c16;(try (have c16b0h0 := c16b0; simp only [hl3_2] at c16b0h0));clear c16;obtain rfl := Option.some.inj H;have hcz39_0 : wr.cell? ⟨gb207, 0, none⟩ = some (.int .i64 a0_0) := (kc1 BK207.out 0).trans rfl;have hcz39_1 : wr.cell? ⟨gb207, 1, none⟩ = some (.slice A0_1 l0_1.length c0_1) := (kc1 BK207.out 1).trans rfl;have hfz39_0 := kf1 BK207.out 0;have hfz39_1 := kf1 BK207.out 1
         go_wp2
         go_ret
         exact ⟨by first | rfl | (simp [eW0, eW1] <;> rfl) | (simp only [← hji2]; first | rfl | (simp [eW0, eW1] <;> rfl)) | (simp [*, eW0, eW1] <;> rfl), bl_⟩
  ·rw [if_neg c4] at H;exact absurd H (by simp)
 ·rw [if_neg c3] at H;exact absurd H (by simp)
end Go.Proofs.Ytmclalniilkjiaa.Q
/- What the printed Forest tells: where it answers true, no two positions of a check are linked otherwise. Condition: Check finds no fault. -/
namespace Go.Proofs.Ytmclalniilkjiaa.Ff
open Go.RowKit Go.Proofs.Ytmclalniilkjiaa.Q Go.Proofs.YtmclalniilkjiaaW.PrintWords Go.Proofs.YtmclalniilkjiaaW.PrintLast Go.Proofs.YtmclalniilkjiaaW.PrintMore Go.Proofs.Ytmclalniilkjiaa.Ba Go.Proofs.Ytmclalniilkjiaa.Ck Go.Proofs.Ytmclalniilkjiaa.Gr Go.Proofs.Ytmclalniilkjiaa.Mm Go.Proofs.Ytmclalniilkjiaa.Tr Go.Proofs.Ytmclalniilkjiaa.Be

/-- Linked nodes of the graph: position i is node i, check j is node C + j. -/
inductive Cc (C : Nat) (e : Nat → Nat → Bool) (u : Nat) : Nat → Prop
 | refl : Cc C e u u
 | up {i j : Nat} (h : Cc C e u i) (h1 : e j i = true) : Cc C e u (C + j)
 | dn {i j : Nat} (h : Cc C e u (C + j)) (h1 : e j i = true) : Cc C e u i
theorem Cc.trans {C : Nat} {e : Nat → Nat → Bool} {u v w : Nat} (h1 : Cc C e u v) (h2 : Cc C e v w) : Cc C e u w := by
 induction h2 with
 | refl => exact h1
 | up _ a ih => exact Cc.up ih a
 | dn _ a ih => exact Cc.dn ih a
theorem Cc.symm {C : Nat} {e : Nat → Nat → Bool} {u v : Nat} (h : Cc C e u v) : Cc C e v u := by
 induction h with
 | refl => exact Cc.refl
 | up _ a ih => exact Cc.trans (Cc.dn Cc.refl a) ih
 | dn _ a ih => exact Cc.trans (Cc.up Cc.refl a) ih
theorem Cc.mono {C : Nat} {e e' : Nat → Nat → Bool} (he : ∀ j i, e j i = true → e' j i = true) {u v : Nat} (h : Cc C e u v) : Cc C e' u v := by
 induction h with
 | refl => exact Cc.refl
 | up _ a ih => exact Cc.up ih (he _ _ a)
 | dn _ a ih => exact Cc.dn ih (he _ _ a)
def rem (e : Nat → Nat → Bool) (j i : Nat) : Nat → Nat → Bool := fun j' i' => e j' i' && !(decide (j' = j) && decide (i' = i))
def add (e : Nat → Nat → Bool) (j i : Nat) : Nat → Nat → Bool := fun j' i' => e j' i' || (decide (j' = j) && decide (i' = i))
theorem rem_of {e : Nat → Nat → Bool} {j i j' i' : Nat} (h : rem e j i j' i' = true) : e j' i' = true ∧ ¬ (j' = j ∧ i' = i) := by
 unfold rem at h
 simp at h
 exact ⟨h.1, fun ⟨h1, h2⟩ => h.2.elim (fun h => h h1) (fun h => h h2)⟩
theorem rem_mk {e : Nat → Nat → Bool} {j i j' i' : Nat} (h : e j' i' = true) (hn : ¬ (j' = j ∧ i' = i)) : rem e j i j' i' = true := by
 unfold rem
 simp
 exact ⟨h, (Decidable.em (j' = j)).elim (fun h1 => Or.inr (fun h2 => hn ⟨h1, h2⟩)) Or.inl⟩
theorem add_of {e : Nat → Nat → Bool} {j i j' i' : Nat} (h : add e j i j' i' = true) : e j' i' = true ∨ (j' = j ∧ i' = i) := by
 unfold add at h
 simp at h
 exact h
theorem add_mk {e : Nat → Nat → Bool} {j i j' i' : Nat} (h : e j' i' = true ∨ (j' = j ∧ i' = i)) : add e j i j' i' = true := by
 unfold add
 simp
 exact h
/-- No edge is in a circle. -/
def EF (C : Nat) (e : Nat → Nat → Bool) : Prop := ∀ j i, e j i = true → ¬ Cc C (rem e j i) (C + j) i
theorem Cc_add {C : Nat} {e : Nat → Nat → Bool} {j0 i0 u v : Nat} (h : Cc C (add e j0 i0) u v) : Cc C e u v ∨ (Cc C e u i0 ∧ Cc C e (C + j0) v) ∨ (Cc C e u (C + j0) ∧ Cc C e i0 v) := by
 induction h with
 | refl => exact Or.inl Cc.refl
 | @up i j _ a ih =>
  rcases add_of a with a | ⟨rfl, rfl⟩
  ·rcases ih with h | ⟨h1, h2⟩ | ⟨h1, h2⟩
   ·exact Or.inl (Cc.up h a)
   ·exact Or.inr (Or.inl ⟨h1, Cc.up h2 a⟩)
   ·exact Or.inr (Or.inr ⟨h1, Cc.up h2 a⟩)
  ·rcases ih with h | ⟨h1, h2⟩ | ⟨h1, h2⟩
   ·exact Or.inr (Or.inl ⟨h, Cc.refl⟩)
   ·exact Or.inr (Or.inl ⟨h1, Cc.refl⟩)
   ·exact Or.inl h1
 | @dn i j _ a ih =>
  rcases add_of a with a | ⟨rfl, rfl⟩
  ·rcases ih with h | ⟨h1, h2⟩ | ⟨h1, h2⟩
   ·exact Or.inl (Cc.dn h a)
   ·exact Or.inr (Or.inl ⟨h1, Cc.dn h2 a⟩)
   ·exact Or.inr (Or.inr ⟨h1, Cc.dn h2 a⟩)
  ·rcases ih with h | ⟨h1, h2⟩ | ⟨h1, h2⟩
   ·exact Or.inr (Or.inr ⟨h, Cc.refl⟩)
   ·exact Or.inl h1
   ·exact Or.inr (Or.inr ⟨h1, Cc.refl⟩)
theorem EF_add {C : Nat} {e : Nat → Nat → Bool} {j0 i0 : Nat} (hE : EF C e) (hn : ¬ Cc C e i0 (C + j0)) : EF C (add e j0 i0) := by
 intro j i hji hc
 by_cases e1 : j = j0 ∧ i = i0
 ·obtain ⟨rfl, rfl⟩ := e1
  refine hn (Cc.symm (Cc.mono (fun j' i' h => ?_) hc))
  obtain ⟨h1, h2⟩ := rem_of h
  rcases add_of h1 with h3 | h3
  ·exact h3
  ·exact absurd h3 h2
 ·have hji2 : e j i = true := by
   rcases add_of hji with h | h
   ·exact h
   ·exact absurd h e1
  have hc2 : Cc C (add (rem e j i) j0 i0) (C + j) i := Cc.mono (fun j' i' h => by
   obtain ⟨h1, h2⟩ := rem_of h
   rcases add_of h1 with h3 | h3
   ·exact add_mk (Or.inl (rem_mk h3 h2))
   ·exact add_mk (Or.inr h3)) hc
  have up : ∀ {x y}, Cc C (rem e j i) x y → Cc C e x y := fun h => Cc.mono (fun _ _ h => (rem_of h).1) h
  have edge : Cc C e (C + j) i := Cc.dn Cc.refl hji2
  rcases Cc_add hc2 with h | ⟨h1, h2⟩ | ⟨h1, h2⟩
  ·exact hE j i hji2 h
  ·exact hn (((up h1).symm.trans edge).trans (up h2).symm)
  ·exact hn (((up h2).trans edge.symm).trans (up h1))
theorem Fo_of {C : Nat} {b : Nat → Nat → Bool} (h : EF C b) : Fo b := by
 intro j p q hpq hp hq hc
 have h1 : Cc C (rem b j p) p q := by
  clear hq hpq
  induction hc with
  | refl => exact Cc.refl
  | step _ a1 a2 ih =>
   obtain ⟨b1, n1⟩ := del_of a1
   obtain ⟨b2, n2⟩ := del_of a2
   exact Cc.dn (Cc.up ih (rem_mk b1 (fun h => n1 h.1))) (rem_mk b2 (fun h => n2 h.1))
 exact h j p hp ((Cc.dn Cc.refl (rem_mk hq (fun h => hpq h.2.symm))).trans h1.symm)
/-- The labels of the ends of each edge are alike. -/
def Iv (C : Nat) (e : Nat → Nat → Bool) (L : List Int) : Prop := ∀ j i, e j i = true → rd L (i : Int) = rd L ((C + j : Nat) : Int)
theorem Iv_Cc {C : Nat} {e : Nat → Nat → Bool} {L : List Int} (h : Iv C e L) {u v : Nat} (hc : Cc C e u v) : rd L (u : Int) = rd L (v : Int) := by
 induction hc with
 | refl => rfl
 | up _ a ih => rw [ih]; exact h _ _ a
 | dn _ a ih => rw [ih]; exact (h _ _ a).symm
/-- The edges gone through before (j, i). -/
def pe (b : Nat → Nat → Bool) (j i : Nat) : Nat → Nat → Bool := fun j' i' => b j' i' && (decide (j' < j) || (decide (j' = j) && decide (i' < i)))
theorem pe_iff (b : Nat → Nat → Bool) (j i j' i' : Nat) : pe b j i j' i' = true ↔ b j' i' = true ∧ (j' < j ∨ (j' = j ∧ i' < i)) := by
 unfold pe; simp
theorem fun2 {f g : Nat → Nat → Bool} (h : ∀ j i, f j i = true ↔ g j i = true) : f = g := by
 funext j i
 have := h j i
 cases hf : f j i <;> cases hg : g j i <;> simp_all
def relab (L : List Int) (a b : Int) (n : Nat) : List Int := LL L.length (fun t => if t < n then (if rd L (t : Int) = a then b else rd L (t : Int)) else rd L (t : Int))
theorem relab_0 (L : List Int) (a b : Int) : relab L a b 0 = L := by
 unfold relab
 rw [LL_congr L.length (fun t => if t < 0 then (if rd L (t : Int) = a then b else rd L (t : Int)) else rd L (t : Int)) (fun t => L.getD t 0) (fun t _ => by rw [if_neg (by omega), rd_nat])]
 exact (LL_of L 0).symm
theorem relab_at (L : List Int) (a b : Int) (t : Nat) (ht : t < L.length) : rd (relab L a b L.length) (t : Int) = if rd L (t : Int) = a then b else rd L (t : Int) := by
 unfold relab
 rw [rd_LL _ _ _ ht, if_pos ht]
section
variable {c : Int} {rows : List (List Int)} {C : Nat} (hc : c = (C : Int)) (hC : C ≤ 256) (hr : rows.length ≤ 256) (hrl : ∀ j, j < rows.length → (rows.getD j []).length = C) (hrow : ∀ j, j < rows.length → okb (rows.getD j []) = true)
theorem fo_l3 (L : List Int) (a b : Int) (j i : Nat) (hL : L.length ≤ 512) (hi : i ≤ 256) {r : Bool} (ih : Ev (fun k => crM_Forest.l2 k (relab L a b L.length) (j : Int) ((i + 1 : Nat) : Int) c rows) r) : ∀ d n : Nat, n + d = L.length →
  Ev (fun k => crM_Forest.l3 k (relab L a b n) (j : Int) (i : Int) a b (n : Int) c rows) r
 | 0, n, h => by
  obtain rfl : n = L.length := by omega
  have hl : (relab L a b L.length).length = L.length := LL_length _ _
  refine Ev.step (fun k => ?_) ih
  simp only [crM_Forest.l3]
  rw [if_neg (by omega), w64_id (by omega) (by omega)]
  rfl
 | d + 1, n, h => by
  have ih2 := fo_l3 L a b j i hL hi ih d (n + 1) (by omega)
  have hl : (relab L a b n).length = L.length := LL_length _ _
  have hat : rd (relab L a b n) (n : Int) = rd L (n : Int) := by unfold relab; rw [rd_LL _ _ _ (by omega), if_neg (by omega)]
  by_cases h1 : rd L (n : Int) = a
  ·have e1 : (relab L a b n).set n b = relab L a b (n + 1) := by
    unfold relab
    rw [LL_set]
    refine LL_congr _ _ _ (fun t _ => ?_)
    by_cases e : t = n
    ·subst e; rw [if_pos rfl, if_pos (by omega : t < t + 1), if_pos h1]
    ·rw [if_neg e]
     by_cases h2 : t < n
     ·rw [if_pos h2, if_pos (by omega : t < n + 1)]
     ·rw [if_neg h2, if_neg (by omega : ¬ t < n + 1)]
   rw [← e1] at ih2
   refine Ev.step (fun k => ?_) ih2
   simp only [crM_Forest.l3]
   rw [if_pos (by omega), if_pos (by omega), hat, if_pos h1, w64_id (by omega) (by omega), Int.toNat_natCast]
   rfl
  ·have e1 : relab L a b n = relab L a b (n + 1) := by
    unfold relab
    refine LL_congr _ _ _ (fun t _ => ?_)
    by_cases e : t = n
    ·subst e; rw [if_neg (by omega : ¬ t < t), if_pos (by omega : t < t + 1), if_neg h1]
    ·by_cases h2 : t < n
     ·rw [if_pos h2, if_pos (by omega : t < n + 1)]
     ·rw [if_neg h2, if_neg (by omega : ¬ t < n + 1)]
   rw [← e1] at ih2
   refine Ev.step (fun k => ?_) ih2
   simp only [crM_Forest.l3]
   rw [if_pos (by omega), if_pos (by omega), hat, if_neg h1, w64_id (by omega) (by omega)]
   rfl
include hc hC hr hrl hrow
theorem fo_l2 (j : Nat) (hj : j < rows.length) (ih : ∀ L : List Int, L.length = C + rows.length → Iv C (pe (bit rows) (j + 1) 0) L → EF C (pe (bit rows) (j + 1) 0) → ∃ r, Ev (fun k => crM_Forest.l1 k L ((j + 1 : Nat) : Int) c rows) r ∧ (r = true → EF C (bit rows))) : ∀ d i : Nat, i + d = C →
  ∀ L : List Int, L.length = C + rows.length → Iv C (pe (bit rows) j i) L → EF C (pe (bit rows) j i) → ∃ r, Ev (fun k => crM_Forest.l2 k L (j : Int) (i : Int) c rows) r ∧ (r = true → EF C (bit rows))
 | 0, i, h, L, hL, hI, hE => by
  obtain rfl : i = C := by omega
  have e : pe (bit rows) j i = pe (bit rows) (j + 1) 0 := fun2 (fun j' i' => by
   rw [pe_iff, pe_iff]
   constructor
   ·rintro ⟨h1, h2⟩; exact ⟨h1, by omega⟩
   ·rintro ⟨h1, h2⟩
    refine ⟨h1, ?_⟩
    by_cases e : j' = j
    ·subst e
     refine Or.inr ⟨rfl, ?_⟩
     refine Nat.lt_of_not_le (fun h3 => ?_)
     have := hrl j' hj
     have h4 := of_decide_eq_true h1
     rw [rd_nat, List.getD_eq_getElem?_getD, List.getElem?_eq_none (by omega)] at h4
     cases h4
    ·omega)
  rw [e] at hI hE
  obtain ⟨r, h1, h2⟩ := ih L hL hI hE
  refine ⟨r, Ev.step (fun k => ?_) h1, h2⟩
  simp only [crM_Forest.l2]
  rw [if_neg (by omega), w64_id (by omega) (by omega)]
  rfl
 | d + 1, i, h, L, hL, hI, hE => by
  have ih2 := fo_l2 j hj ih d (i + 1) (by omega)
  have hrj := hrl j hj
  by_cases hb : rd (rows.getD j []) (i : Int) = 0
  ·have hb2 : bit rows j i = false := by unfold bit; exact decide_eq_false (by omega)
   have e : pe (bit rows) j i = pe (bit rows) j (i + 1) := fun2 (fun j' i' => by
    rw [pe_iff, pe_iff]
    constructor
    ·rintro ⟨h1, h2⟩; exact ⟨h1, by omega⟩
    ·rintro ⟨h1, h2⟩
     refine ⟨h1, ?_⟩
     rcases h2 with h2 | ⟨rfl, h2⟩
     ·exact Or.inl h2
     ·refine Or.inr ⟨rfl, ?_⟩
      refine Nat.lt_of_not_le (fun h3 => ?_)
      obtain rfl : i' = i := by omega
      rw [hb2] at h1; cases h1)
   rw [e] at hI hE
   obtain ⟨r, h1, h2⟩ := ih2 L hL hI hE
   refine ⟨r, Ev.step (fun k => ?_) h1, h2⟩
   simp only [crM_Forest.l2]
   rw [if_pos (by omega), if_pos (by omega), if_pos (by omega), if_pos (by omega), rd_L1_nat, if_pos (by omega), if_pos hb, w64_id (by omega) (by omega)]
   rfl
  ·have hb1 : rd (rows.getD j []) (i : Int) = 1 := by rcases okb_at (hrow j hj) i with h | h <;> omega
   have hb2 : bit rows j i = true := decide_eq_true hb1
   have hw : wrap64 (c + (j : Int)) = ((C + j : Nat) : Int) := by rw [w64_id (by omega) (by omega)]; omega
   by_cases hab : rd L (i : Int) = rd L ((C + j : Nat) : Int)
   ·refine ⟨false, Ev.step (f := fun _ => some false) (fun k => ?_) (Ev.now _), fun h => by cases h⟩
    simp only [crM_Forest.l2]
    rw [if_pos (by omega), if_pos (by omega), if_pos (by omega), if_pos (by omega), rd_L1_nat, if_pos (by omega), if_neg hb, if_pos (by omega), hw, if_pos (by omega), if_pos (by omega), if_pos hab]
   ·have hno : ¬ Cc C (pe (bit rows) j i) i (C + j) := fun hcc => hab (Iv_Cc hI hcc)
    have e : add (pe (bit rows) j i) j i = pe (bit rows) j (i + 1) := fun2 (fun j' i' => by
     rw [pe_iff]
     constructor
     ·intro h
      rcases add_of h with h | ⟨rfl, rfl⟩
      ·obtain ⟨h1, h2⟩ := (pe_iff _ _ _ _ _).1 h
       exact ⟨h1, by omega⟩
      ·exact ⟨hb2, by omega⟩
     ·rintro ⟨h1, h2⟩
      by_cases e : j' = j ∧ i' = i
      ·exact add_mk (Or.inr e)
      ·exact add_mk (Or.inl ((pe_iff _ _ _ _ _).2 ⟨h1, by omega⟩)))
    have hE2 := EF_add hE hno
    rw [e] at hE2
    have hI2 : Iv C (pe (bit rows) j (i + 1)) (relab L (rd L (i : Int)) (rd L ((C + j : Nat) : Int)) L.length) := by
     intro j' i' h'
     rw [← e] at h'
     have hin : i' < C ∧ j' < rows.length := by
      rcases add_of h' with h3 | ⟨rfl, rfl⟩
      ·obtain ⟨h1, h2⟩ := (pe_iff _ _ _ _ _).1 h3
       have hj' : j' < rows.length := by omega
       refine ⟨Nat.lt_of_not_le (fun h5 => ?_), hj'⟩
       have := hrl j' hj'
       have h4 := of_decide_eq_true h1
       rw [rd_nat, List.getD_eq_getElem?_getD, List.getElem?_eq_none (by omega)] at h4
       cases h4
      ·omega
     rw [relab_at _ _ _ _ (by omega), relab_at _ _ _ _ (by omega)]
     rcases add_of h' with h3 | ⟨rfl, rfl⟩
     ·rw [hI j' i' h3]
     ·rw [if_pos rfl, if_neg (Ne.symm hab)]
    obtain ⟨r, h1, h2⟩ := ih2 _ ((LL_length _ _).trans hL) hI2 hE2
    have h3 := fo_l3 L (rd L (i : Int)) (rd L ((C + j : Nat) : Int)) j i (by omega) (by omega) h1 L.length 0 (by omega)
    rw [relab_0] at h3
    refine ⟨r, Ev.step (fun k => ?_) h3, h2⟩
    simp only [crM_Forest.l2]
    rw [if_pos (by omega), if_pos (by omega), if_pos (by omega), if_pos (by omega), rd_L1_nat, if_pos (by omega), if_neg hb, if_pos (by omega), hw, if_pos (by omega), if_pos (by omega), if_neg hab]
    rfl
theorem fo_l1 : ∀ d j : Nat, j + d = rows.length → ∀ L : List Int, L.length = C + rows.length → Iv C (pe (bit rows) j 0) L → EF C (pe (bit rows) j 0) → ∃ r, Ev (fun k => crM_Forest.l1 k L (j : Int) c rows) r ∧ (r = true → EF C (bit rows))
 | 0, j, h, L, hL, hI, hE => by
  obtain rfl : j = rows.length := by omega
  refine ⟨true, Ev.step (f := fun _ => some true) (fun k => ?_) (Ev.now _), fun _ => ?_⟩
  ·simp only [crM_Forest.l1]
   rw [if_neg (by omega)]
  ·have e : pe (bit rows) rows.length 0 = bit rows := fun2 (fun j' i' => by
    rw [pe_iff]
    refine ⟨fun h => h.1, fun h => ⟨h, Or.inl ?_⟩⟩
    refine Nat.lt_of_not_le (fun h3 => ?_)
    have h4 := of_decide_eq_true h
    rw [List.getD_eq_getElem?_getD, List.getElem?_eq_none (by omega)] at h4
    simp [rd] at h4)
   rw [e] at hE; exact hE
 | d + 1, j, h, L, hL, hI, hE => by
  obtain ⟨r, h1, h2⟩ := fo_l2 hc hC hr hrl hrow j (by omega) (fun L' => fo_l1 d (j + 1) (by omega) L') C 0 (by omega) L hL hI hE
  refine ⟨r, Ev.step (fun k => ?_) h1, h2⟩
  simp only [crM_Forest.l1]
  rw [if_pos (by omega)]
  rfl
theorem fo_l0 : ∀ d t : Nat, t + d = C + rows.length → ∀ L : List Int, L.length = C + rows.length → ∃ r, Ev (fun k => crM_Forest.l0 k L (t : Int) c rows) r ∧ (r = true → EF C (bit rows))
 | 0, t, h, L, hL => by
  have hnone : ∀ j' i', ¬ pe (bit rows) 0 0 j' i' = true := fun j' i' h => by
   have := ((pe_iff _ _ _ _ _).1 h).2
   omega
  obtain ⟨r, h1, h2⟩ := fo_l1 hc hC hr hrl hrow rows.length 0 (by omega) L hL (fun j' i' h => absurd h (hnone j' i')) (fun j' i' h => absurd h (hnone j' i'))
  refine ⟨r, Ev.step (fun k => ?_) h1, h2⟩
  simp only [crM_Forest.l0]
  rw [if_neg (by omega)]
  rfl
 | d + 1, t, h, L, hL => by
  obtain ⟨r, h1, h2⟩ := fo_l0 d (t + 1) (by omega) (L.set t (t : Int)) (by rw [List.length_set]; exact hL)
  refine ⟨r, Ev.step (fun k => ?_) h1, h2⟩
  simp only [crM_Forest.l0]
  rw [if_pos (by omega), if_pos (by omega), w64_id (by omega) (by omega), Int.toNat_natCast]
  rfl
theorem Forest_ev : ∃ r, Ev (fun k => crM_Forest.f k c rows) r ∧ (r = true → Fo (bit rows)) := by
 obtain ⟨r, h1, h2⟩ := fo_l0 hc hC hr hrl hrow (C + rows.length) 0 (by omega) (List.replicate (C + rows.length) 0) (by simp)
 refine ⟨r, Ev.congr (fun k => ?_) h1, fun h => Fo_of (h2 h)⟩
 unfold crM_Forest.f
 have e : wrap64 (c + (rows.length : Int)) = ((C + rows.length : Nat) : Int) := by rw [w64_id (by omega) (by omega)]; omega
 rw [e, if_pos (by omega), if_pos (by omega), Int.toNat_natCast]
 rfl
end
end Go.Proofs.Ytmclalniilkjiaa.Ff
namespace Go.Proofs.Ytmclalniilkjiaa.Q
open Go.RowKit Go.Proofs.YtmclalniilkjiaaW.PrintWords Go.Proofs.YtmclalniilkjiaaW.PrintLast Go.Proofs.YtmclalniilkjiaaW.PrintMore
open List renaming setIfInBounds_toArray → l01_, set_cons_zero → l02_, set_cons_succ → l03_
attribute [local go_sem] max2_int min2_int max_two min_two max_three min_three max_four min_four
set_option linter.unusedVariables false
set_option linter.unusedSimpArgs false
mutual
def crM_Few.j0 : Nat → Int → Bool → Int → List (List Int) → Option (Bool)
 | 0, _, _, _, _ => none
 | k + 1, x2, x18, x155000, x155001 => if x18 = true then (some false) else (crM_Few.l0 k x2 0 x155000 x155001)
def crM_Few.l0 : Nat → Int → Int → Int → List (List Int) → Option (Bool)
 | 0, _, _, _, _ => none
 | k + 1, x2, x7, x155000, x155001 => if x7 < (x155001.length : Int) then (if 0 ≤ x7 then (if ((rd_L1 x155001 x7).length : Int) > x2 then (some false) else (crM_Few.l0 k x2 (wrap64 (x7 + 1)) x155000 x155001)) else (none)) else (some true)
end
def crM_Few.f (k : Nat) (a0_0 : Int) (l0_1 : List (List Int)) (a1 : Int) (a2 : Int) : Option (Bool) := if (l0_1.length : Int) > a1 then (crM_Few.j0 k a2 true a0_0 l0_1) else (crM_Few.j0 k a2 (decide (a0_0 > a2)) a0_0 l0_1)
theorem crM_Few.mono_l : ∀ k, (∀ y0 y1 y2 y3, LeO (crM_Few.j0 k y0 y1 y2 y3) (crM_Few.j0 (k + 1) y0 y1 y2 y3)) ∧ (∀ y0 y1 y2 y3, LeO (crM_Few.l0 k y0 y1 y2 y3) (crM_Few.l0 (k + 1) y0 y1 y2 y3))
 | 0 => ⟨fun _ _ _ _ r h => by simp [crM_Few.j0] at h, fun _ _ _ _ r h => by simp [crM_Few.l0] at h⟩
 | k + 1 => by
  obtain ⟨ih0, ih1⟩ := crM_Few.mono_l k;refine ⟨?_, ?_⟩
  ·intro y0 y1 y2 y3;unfold crM_Few.j0
   repeat' first
   | (with_reducible exact ih0 _ _ _ _)
   | (with_reducible exact ih1 _ _ _ _)
   | (with_reducible exact LeO.refl _)
   | (with_reducible exact LeO.none _)
   | (with_reducible refine LeO.ite ?_ ?_)
   | (with_reducible refine LeO.bind ?_ (fun _ => ?_))
   | exact ih0 _ _ _ _
   | exact ih1 _ _ _ _
   | exact LeO.none _
   | refine LeO.ite ?_ ?_
   | refine LeO.bind ?_ (fun _ => ?_)
  ·intro y0 y1 y2 y3;unfold crM_Few.l0
   repeat' first
   | (with_reducible exact ih0 _ _ _ _)
   | (with_reducible exact ih1 _ _ _ _)
   | (with_reducible exact LeO.refl _)
   | (with_reducible exact LeO.none _)
   | (with_reducible refine LeO.ite ?_ ?_)
   | (with_reducible refine LeO.bind ?_ (fun _ => ?_))
   | exact ih0 _ _ _ _
   | exact ih1 _ _ _ _
   | exact LeO.none _
   | refine LeO.ite ?_ ?_
   | refine LeO.bind ?_ (fun _ => ?_)
theorem crM_Few.mono : ∀ a0 a1 a2 a3 k, LeO (crM_Few.f k a0 a1 a2 a3) (crM_Few.f (k + 1) a0 a1 a2 a3) := by
 intro a0 a1 a2 a3 k;obtain ⟨ih0, ih1⟩ := crM_Few.mono_l k;unfold crM_Few.f
 repeat' first
   | (with_reducible exact ih0 _ _ _ _)
   | (with_reducible exact ih1 _ _ _ _)
   | (with_reducible exact LeO.refl _)
   | (with_reducible exact LeO.none _)
   | (with_reducible refine LeO.ite ?_ ?_)
   | (with_reducible refine LeO.bind ?_ (fun _ => ?_))
   | exact ih0 _ _ _ _
   | exact ih1 _ _ _ _
   | exact LeO.none _
   | refine LeO.ite ?_ ?_
   | refine LeO.bind ?_ (fun _ => ?_)
set_option maxHeartbeats 8000000 in
set_option maxRecDepth 100000 in
theorem crM_Few.calls (k : Nat) (a0_0 : Int) (A0_1 : Option Addr) (c0_1 : Nat) (l0_1 : List (List Int)) (a1 : Int) (a2 : Int) (r : Bool) (w : World) (hr0_1 : Kd.C (Kd.slice 3 (Kd.int .i64)) w A0_1 l0_1.length l0_1) (hc0_1 : l0_1.length ≤ c0_1) (h : crM_Few.f k a0_0 l0_1 a1 a2 = some r) :
  Calls Try.prog 14 #[.agg #[.int .i64 a0_0, .slice A0_1 l0_1.length c0_1], .int .i64 a1, .int .i64 a2] w fun e w' => e = .returned (.bool r) ∧ Below w.heap.size w w' := by
 have hu24 := Try.underlying24;have HR0_1 := Ai0.mk hr0_1;have HC0_1 := Ai0.mk hc0_1;clear hr0_1 hc0_1;have HB := Ai0.mk (Below.refl w.heap.size w);have H : (if (l0_1.length : Int) > a1 then (crM_Few.j0 k a2 true a0_0 l0_1) else (crM_Few.j0 k a2 (decide (a0_0 > a2)) a0_0 l0_1)) = some r := h;clear h;have HC4 := Ai0.mk H;clear H;go_enter Try.func14, Try.ntmps14
 go_upto_region 1 with (first | ((with_reducible refine gate_dst (N := 3) rfl ?_); refine box_event ?hg (N := 3) ?hd (cs := #[.int .i64 a0_0, .slice A0_1 l0_1.length c0_1]) (t := 24) ?hr ?_; (case hd => rfl); (case hg => rfl); (case hr => first | (go_simp; done) | (go_simp; rfl)); intro gb154 hg w5 hbox hb; have n0_ := Ai0.mk (bt1 bl_ hb); have n1_ := Ai0.mk (hbox); have n2_ := Ai0.mk ((by rw [hg]; exact (bz1 bl_) : w.heap.size ≤ gb154)); have n3_ := Ai0.mk ((by rw [hg]; exact (bz1 bl_) : w.heap.size ≤ gb154)); clear HB; have HB := n0_; have BK154 := n1_; have GW154 := n2_; have GE154 := n3_; clear n0_ n1_ n2_ n3_; clear hb hbox hg))
 (try simp only [Act.put, l01_, l02_, l03_])
 go_cut [18] (fun v18 wc => ∃ (kq : Nat) (x18_3 : Bool), v18 = .bool x18_3 ∧ Ai0 (crM_Few.j0 kq a2 x18_3 a0_0 l0_1 = some r) ∧ Ai0 (kq ≤ k) ∧ Ai0 (wc.heap[gb154]? = some (.cells #[.int .i64 a0_0, (.slice A0_1 l0_1.length c0_1)] 24 (0, 0))) ∧ Ai0 (Below w.heap.size w wc))
 case first =>
  have H := HC4.out;clear HC4;by_cases c6 : (l0_1.length : Int) > a1
  ·rw [if_pos c6] at H;have c6b0 : decide (a1 < (l0_1.length : Int)) = true := decide_eq_true c6;clear c6;(first | rw [c6b0] | (simp only [i64_w, i32_w]; rw [c6b0]) | skip);have H' := Ai0.mk H;clear H;have hcz7_0 : w5.cell? ⟨gb154, 0, none⟩ = some (.int .i64 a0_0) := (kc1 BK154.out 0).trans rfl;have hcz7_1 : w5.cell? ⟨gb154, 1, none⟩ = some (.slice A0_1 l0_1.length c0_1) := (kc1 BK154.out 1).trans rfl;have hfz7_0 := kf1 BK154.out 0;have hfz7_1 := kf1 BK154.out 1
   go_wp2
   go_meet
   case rel => exact ⟨_, (true), rf_, H', ⟨by first | omega | exact Nat.le_refl _⟩, ⟨kk_ BK154.out⟩, ⟨bl_⟩⟩
  ·rw [if_neg c6] at H;have c6b0 : decide (a1 < (l0_1.length : Int)) = false := decide_eq_false c6;clear c6;(first | rw [c6b0] | (simp only [i64_w, i32_w]; rw [c6b0]) | skip);have H' := Ai0.mk H;clear H;have hcz8_0 : w5.cell? ⟨gb154, 0, none⟩ = some (.int .i64 a0_0) := (kc1 BK154.out 0).trans rfl;have hcz8_1 : w5.cell? ⟨gb154, 1, none⟩ = some (.slice A0_1 l0_1.length c0_1) := (kc1 BK154.out 1).trans rfl;have hfz8_0 := kf1 BK154.out 0;have hfz8_1 := kf1 BK154.out 1
   go_wp2
   go_meet
   case rel => exact ⟨_, (decide (a0_0 > a2)), rf_, H', ⟨by first | omega | exact Nat.le_refl _⟩, ⟨kk_ BK154.out⟩, ⟨bl_⟩⟩
 case rest =>
  clear HC4
  try clear c1
  try clear p2
  try clear c6
  try clear c6b0
  try clear hcz7_0
  try clear hcz7_1
  try clear hcz8_0
  try clear hcz8_1
  try clear hfz7_0
  try clear hfz7_1
  try clear hfz8_0
  try clear hfz8_1
  obtain ⟨kq, x18_3, rfl, HA, HJ3, BK154, HB⟩ := hcut
  cases kq with
  | zero => exact absurd HA.out (by simp [crM_Few.j0])
  | succ kj3 =>
   have H := HA.out;clear HA;simp only [crM_Few.j0] at H;by_cases c9 : x18_3 = true
   ·subst c9;(have H1 : (some false) = some r := by rw [if_pos rfl] at H; exact H);clear H;have H := H1;clear H1;obtain rfl := Option.some.inj H
    go_wp2
    go_ret
    exact ⟨by first | rfl | (simp [eW0, eW1] <;> rfl) | (simp [*, eW0, eW1] <;> rfl), bl_⟩
   ·replace c9 := Bool.eq_false_iff.mpr c9;subst c9;(have H1 : (crM_Few.l0 kj3 a2 0 a0_0 l0_1) = some r := by rw [if_neg (show ¬ (false = true) by decide)] at H; exact H);clear H;have H := H1;clear H1;have H' := Ai0.mk H;clear H
    go_wp2
    go_loopg [7] kj3 (fun kq v7 w' => ∃ (x7_2 : Int), v7 = .int .i64 x7_2 ∧ Ai0 (crM_Few.l0 kq a2 x7_2 a0_0 l0_1 = some r) ∧ Ai0 (kq ≤ kj3) ∧ Ai0 (w'.heap[gb154]? = some (.cells #[.int .i64 a0_0, (.slice A0_1 l0_1.length c0_1)] 24 (0, 0))) ∧ Ai0 (Below w.heap.size w w'))
    case atStart => exact ⟨(0), rf_, H', ⟨Nat.le_refl _⟩, ⟨kk_ BK154.out⟩, ⟨bl_⟩⟩
    case round =>
     clear H'
     try clear c1
     try clear p2
     try clear c6
     try clear c6b0
     try clear c9
     try clear hcz7_0
     try clear hcz7_1
     try clear hcz8_0
     try clear hcz8_1
     try clear hfz7_0
     try clear hfz7_1
     try clear hfz8_0
     try clear hfz8_1
     try clear p2
     obtain ⟨x7_2, rfl, HA, HK2, BK154, HB⟩ := hrel
     cases gk with
     | zero => exact absurd HA.out (by simp [crM_Few.l0])
     | succ k2 =>
      have H := HA.out;clear HA;simp only [crM_Few.l0] at H;by_cases c10 : x7_2 < (l0_1.length : Int)
      ·rw [if_pos c10] at H;have c10b0 : decide (x7_2 < (l0_1.length : Int)) = true := decide_eq_true c10;clear c10;by_cases c11 : 0 ≤ x7_2
       ·rw [if_pos c11] at H;have c11b0 : decide (0 ≤ x7_2) = true := decide_eq_true c11;clear c11;by_cases c12 : ((rd_L1 l0_1 x7_2).length : Int) > a2
        ·rw [if_pos c12] at H;have c12b0 : decide (a2 < ((rd_L1 l0_1 x7_2).length : Int)) = true := decide_eq_true c12;clear c12;obtain rfl := Option.some.inj H;have hcz13_0 : wr.cell? ⟨gb154, 0, none⟩ = some (.int .i64 a0_0) := (kc1 BK154.out 0).trans rfl;have hcz13_1 : wr.cell? ⟨gb154, 1, none⟩ = some (.slice A0_1 l0_1.length c0_1) := (kc1 BK154.out 1).trans rfl;have hfz13_0 := kf1 BK154.out 0;have hfz13_1 := kf1 BK154.out 1;have p155 : 0 ≤ (x7_2 : Int) := od_;have q155 : x7_2 < (l0_1.length : Int) := od_;obtain ⟨ad155, A155_0, c155_0, e155, hx155_0, hl155_0, hi155_0⟩ := at_L1 HR0_1.out x7_2 p155 q155;cases e155;replace hx155_0 := (HB.out.cell (World.block_lt_of_cell? w _ hx155_0)).trans hx155_0;have HR155_0 := Ai0.mk hi155_0;have HC155_0 := Ai0.mk hl155_0;clear hi155_0 hl155_0;replace p155 := eq_true p155;replace q155 := eq_true q155
         go_wp2
         go_ret
         exact ⟨by first | rfl | (simp [eW0, eW1] <;> rfl) | (simp [*, eW0, eW1] <;> rfl), bl_⟩
        ·rw [if_neg c12] at H;have c12b0 : decide (a2 < ((rd_L1 l0_1 x7_2).length : Int)) = false := decide_eq_false c12;clear c12;have H' := Ai0.mk H;clear H;have hcz14_0 : wr.cell? ⟨gb154, 0, none⟩ = some (.int .i64 a0_0) := (kc1 BK154.out 0).trans rfl;have hcz14_1 : wr.cell? ⟨gb154, 1, none⟩ = some (.slice A0_1 l0_1.length c0_1) := (kc1 BK154.out 1).trans rfl;have hfz14_0 := kf1 BK154.out 0;have hfz14_1 := kf1 BK154.out 1;have p155 : 0 ≤ (x7_2 : Int) := od_;have q155 : x7_2 < (l0_1.length : Int) := od_;obtain ⟨ad155, A155_0, c155_0, e155, hx155_0, hl155_0, hi155_0⟩ := at_L1 HR0_1.out x7_2 p155 q155;cases e155;replace hx155_0 := (HB.out.cell (World.block_lt_of_cell? w _ hx155_0)).trans hx155_0;have HR155_0 := Ai0.mk hi155_0;have HC155_0 := Ai0.mk hl155_0;clear hi155_0 hl155_0;replace p155 := eq_true p155;replace q155 := eq_true q155
         go_wp2
         go_roundg k2
         case measure => have := HJ3.out; have := HK2.out; omega
         case rel => exact ⟨(wrap64 (x7_2 + 1)), rf_, H', ⟨by have := HJ3.out; have := HK2.out; omega⟩, ⟨kk_ BK154.out⟩, ⟨bl_⟩⟩
       ·rw [if_neg c11] at H;exact absurd H (by simp)
      ·rw [if_neg c10] at H;have c10b0 : decide (x7_2 < (l0_1.length : Int)) = false := decide_eq_false c10;clear c10;obtain rfl := Option.some.inj H;have hcz15_0 : wr.cell? ⟨gb154, 0, none⟩ = some (.int .i64 a0_0) := (kc1 BK154.out 0).trans rfl;have hcz15_1 : wr.cell? ⟨gb154, 1, none⟩ = some (.slice A0_1 l0_1.length c0_1) := (kc1 BK154.out 1).trans rfl;have hfz15_0 := kf1 BK154.out 0;have hfz15_1 := kf1 BK154.out 1
       go_wp2
       go_ret
       exact ⟨by first | rfl | (simp [eW0, eW1] <;> rfl) | (simp [*, eW0, eW1] <;> rfl), bl_⟩
end Go.Proofs.Ytmclalniilkjiaa.Q
/- The printed Few functions end; what they tell. No condition. -/
namespace Go.Proofs.Ytmclalniilkjiaa.Fw
open Go.RowKit Go.Proofs.Ytmclalniilkjiaa.Q Go.Proofs.YtmclalniilkjiaaW.PrintWords Go.Proofs.YtmclalniilkjiaaW.PrintLast Go.Proofs.Ytmclalniilkjiaa.Ba Go.Proofs.Ytmclalniilkjiaa.Ck

theorem few45_l0 (c : Int) (rows : List (List Int)) (m : Int) (hr : rows.length ≤ 4611686018427387904) : ∀ (d i : Nat), i + d = rows.length → (∀ j, j < i → ((rows.getD j []).length : Int) ≤ m) → ∃ b, Ev (fun k => crM_Few.l0 k m (i : Int) c rows) b ∧ (b = true → ∀ j, j < rows.length → ((rows.getD j []).length : Int) ≤ m)
 | 0, i, h, h0 => ⟨true, Ev.step (f := fun _ => some true) (fun k => by simp only [crM_Few.l0]; rw [if_neg (by omega)]) (Ev.now _), fun _ j hj => h0 j (by omega)⟩
 | d + 1, i, h, h0 => by
  by_cases hx : ((rows.getD i []).length : Int) > m
  ·refine ⟨false, Ev.step (f := fun _ => some false) (fun k => ?_) (Ev.now _), fun h => by cases h⟩
   simp only [crM_Few.l0, rd_L1_nat]
   rw [if_pos (by omega), if_pos (by omega), if_pos hx]
  ·obtain ⟨b, ih, hb⟩ := few45_l0 c rows m hr d (i + 1) (by omega) (fun j hj => by by_cases e : j = i; (· subst e; omega); (· exact h0 j (by omega)))
   refine ⟨b, Ev.step (fun k => ?_) ih, hb⟩
   simp only [crM_Few.l0, rd_L1_nat]
   rw [if_pos (by omega), if_pos (by omega), if_neg hx, w64_id (by omega) (by omega)]
   rfl
theorem few45 (c : Int) (rows : List (List Int)) (n m : Int) (hn : n ≤ 4611686018427387904) : ∃ b, Ev (fun k => crM_Few.f k c rows n m) b ∧ (b = true → (rows.length : Int) ≤ n ∧ c ≤ m ∧ ∀ j, j < rows.length → ((rows.getD j []).length : Int) ≤ m) := by
 have hj : Ev (fun k => crM_Few.j0 k m true c rows) false := Ev.step (f := fun _ => some false) (fun k => by simp only [crM_Few.j0]; rw [if_pos trivial]) (Ev.now _)
 unfold crM_Few.f
 by_cases h1 : (rows.length : Int) > n
 ·exact ⟨false, Ev.congr (fun k => if_pos h1) hj, fun h => by cases h⟩
 by_cases h2 : c > m
 ·exact ⟨false, Ev.congr (fun k => if_neg h1) (by rw [decide_eq_true h2]; exact hj), fun h => by cases h⟩
 obtain ⟨b, hb, hb2⟩ := few45_l0 c rows m (by omega) rows.length 0 (by omega) (fun j hj => by omega)
 refine ⟨b, Ev.congr (fun k => if_neg h1) ?_, fun h => ⟨by omega, by omega, hb2 h⟩⟩
 rw [decide_eq_false h2]
 refine Ev.step (fun k => ?_) hb
 simp only [crM_Few.j0]
 rw [if_neg Bool.false_ne_true]
 rfl
end Go.Proofs.Ytmclalniilkjiaa.Fw
namespace Go.Proofs.Ytmclalniilkjiaa.Q
open Go.RowKit Go.Proofs.YtmclalniilkjiaaW.PrintWords Go.Proofs.YtmclalniilkjiaaW.PrintLast Go.Proofs.YtmclalniilkjiaaW.PrintMore
open List renaming setIfInBounds_toArray → l01_, set_cons_zero → l02_, set_cons_succ → l03_
attribute [local go_sem] max2_int min2_int max_two min_two max_three min_three max_four min_four
set_option linter.unusedVariables false
set_option linter.unusedSimpArgs false
def cw_path.f  : Option (Int × (List (List Int))) := some (3, (([(([1, 1, 0] : List Int)), (([0, 1, 1] : List Int))] : List (List Int))))
set_option maxHeartbeats 8000000 in
set_option maxRecDepth 100000 in
theorem cw_path.calls  (r1 : Int) (r2 : List (List Int)) (w : World) (h : cw_path.f  = some (r1, r2)) :
  Calls Try.prog 35 #[] w fun e w' => ∃ v1_ : Value, e = .returned (.agg #[.int .i64 r1, v1_]) ∧ Kd.N (Kd.slice 3 (Kd.int .i64)) 25 w' w.heap.size (fun k_ => (w.heap.size ≤ k_)) v1_ r2 ∧ Below w.heap.size w w' := by
 have hu24 := Try.underlying24;have HB := Ai0.mk (Below.refl w.heap.size w);have H : (some (3, (([(([1, 1, 0] : List Int)), (([0, 1, 1] : List Int))] : List (List Int))))) = some (r1, r2) := h;clear h;obtain ⟨y130, hy130⟩ : ∃ y_ : List Int, y_ = (([1, 1, 0] : List Int)) := ⟨_, rfl⟩
 replace H : (some (3, (([y130, (([0, 1, 1] : List Int))] : List (List Int))))) = some (r1, r2) := by first | (rw [hy130]; with_reducible exact H) | (have H2_ := (Option.bind_some _ _).symm.trans H; rw [hy130]; with_reducible exact H2_) | (have H2_ := (Option.bind_some _ _).symm.trans H; with_reducible exact H2_) | with_reducible exact H | (rw [hy130]; exact H) | exact H
 have Ny130 := Ai0.mk hy130;clear hy130;obtain ⟨y133, hy133⟩ : ∃ y_ : List Int, y_ = (([0, 1, 1] : List Int)) := ⟨_, rfl⟩
 replace H : (some (3, (([y130, y133] : List (List Int))))) = some (r1, r2) := by first | (rw [hy133]; with_reducible exact H) | (have H2_ := (Option.bind_some _ _).symm.trans H; rw [hy133]; with_reducible exact H2_) | (have H2_ := (Option.bind_some _ _).symm.trans H; with_reducible exact H2_) | with_reducible exact H | (rw [hy133]; exact H) | exact H
 have Ny133 := Ai0.mk hy133;clear hy133;obtain ⟨y136, hy136⟩ : ∃ y_ : List (List Int), y_ = (([y130, y133] : List (List Int))) := ⟨_, rfl⟩
 replace H : (some (3, y136)) = some (r1, r2) := by first | (rw [hy136]; with_reducible exact H) | (have H2_ := (Option.bind_some _ _).symm.trans H; rw [hy136]; with_reducible exact H2_) | (have H2_ := (Option.bind_some _ _).symm.trans H; with_reducible exact H2_) | with_reducible exact H | (rw [hy136]; exact H) | exact H
 have Ny136 := Ai0.mk hy136;clear hy136;simp only [Option.some.injEq, Prod.mk.injEq] at H;obtain ⟨rfl, rfl⟩ := H;go_enter Try.func35, Try.ntmps35
 go_wp2_with (first | ((with_reducible refine gate_dst (N := 0) rfl ?_); refine box_event ?hg (N := 0) ?hd (cs := #[.int .i64 0, .slice none 0 0]) (t := 24) ?hr ?_; (case hd => rfl); (case hg => rfl); (case hr => first | (go_simp; done) | (go_simp; rfl)); intro gb129 hg w1 hbox hb; have n0_ := Ai0.mk (bt1 bl_ hb); have n1_ := Ai0.mk (hbox); have n2_ := Ai0.mk ((by rw [hg]; exact (bz1 bl_) : w.heap.size ≤ gb129)); have n3_ := Ai0.mk ((by rw [hg]; exact (bz1 bl_) : w.heap.size ≤ gb129)); clear HB; have HB := n0_; have BK129 := n1_; have GW129 := n2_; have GE129 := n3_; clear n0_ n1_ n2_ n3_; clear hb hbox hg) | ((with_reducible refine gate_dst (N := 1) rfl ?_); refine Kd.R_lit (Kd.int .i64) _ 3 ?hg (N := 1) ?hd (xs := ([1, 1, 0] : List Int)) (inner := [.int .i64 1, .int .i64 1, .int .i64 0]) (ok := fun _ => True) (okp := fun _ => True) ?hr ?hp (fun _ hk => hk) trivial (Below.refl _ _) (Nat.le_refl _) (by simp) ?_; (case hd => rfl); (case hg => rfl); (case hr => first | (go_simp; done) | (go_simp; rfl)); (case hp => exact (Reps.one (show Kd.M (Kd.int .i64) _ _ _ 1 [.int .i64 1] from rfl) (Reps.one (show Kd.M (Kd.int .i64) _ _ _ 1 [.int .i64 1] from rfl) (Reps.one (show Kd.M (Kd.int .i64) _ _ _ 0 [.int .i64 0] from rfl) (Reps.none _ _))))); intro v131 w2 ho3 hb hg_ hnew_; clear hg_ hnew_; (first | rw [← Ny130.out] at ho3 | (simp only [Int.reduceToNat] at ho3; rw [← Ny130.out] at ho3)); have n0_ := Ai0.mk (Kd.R_lower (Kd.R_newM (M := fun k_ => (w.heap.size ≤ k_)) ho3 (bz1 bl_) (fun k_ h_ => h_)) (bz1 bl_)); have n1_ := Ai0.mk (kb1 (g := gb129) (o := .cells #[.int .i64 0, .slice none 0 0] 24 (0, 0)) (kk_ BK129.out) hb); have n2_ := Ai0.mk (bt1 bl_ hb); clear BK129; clear HB; have HO132 := n0_; have BK129 := n1_; have HB := n2_; clear n0_ n1_ n2_; clear hb ho3) | ((with_reducible refine gate_dst (N := 2) rfl ?_); refine Kd.R_lit (Kd.int .i64) _ 3 ?hg (N := 2) ?hd (xs := ([0, 1, 1] : List Int)) (inner := [.int .i64 0, .int .i64 1, .int .i64 1]) (ok := fun _ => True) (okp := fun _ => True) ?hr ?hp (fun _ hk => hk) trivial (Below.refl _ _) (Nat.le_refl _) (by simp) ?_; (case hd => rfl); (case hg => rfl); (case hr => first | (go_simp; done) | (go_simp; rfl)); (case hp => exact (Reps.one (show Kd.M (Kd.int .i64) _ _ _ 0 [.int .i64 0] from rfl) (Reps.one (show Kd.M (Kd.int .i64) _ _ _ 1 [.int .i64 1] from rfl) (Reps.one (show Kd.M (Kd.int .i64) _ _ _ 1 [.int .i64 1] from rfl) (Reps.none _ _))))); intro v134 w4 ho5 hb hg_ hnew_; clear hg_ hnew_; (first | rw [← Ny133.out] at ho5 | (simp only [Int.reduceToNat] at ho5; rw [← Ny133.out] at ho5)); have n0_ := Ai0.mk (Kd.R_elder' (kr_ HO132.out) (Kd.R_base ho5) hb); have n1_ := Ai0.mk (Kd.R_lower (Kd.R_new' (Kd.R_newM (M := fun k_ => (w.heap.size ≤ k_)) ho5 (bz1 bl_) (fun k_ h_ => h_)) (Kd.R_lt (kr_ HO132.out))) (bz1 bl_)); have n2_ := Ai0.mk (kb1 (g := gb129) (o := .cells #[.int .i64 0, .slice none 0 0] 24 (0, 0)) (kk_ BK129.out) hb); have n3_ := Ai0.mk (bt1 bl_ hb); clear HO132; clear BK129; clear HB; have HO132 := n0_; have HO135 := n1_; have BK129 := n2_; have HB := n3_; clear n0_ n1_ n2_ n3_; clear hb ho5; obtain ⟨Ao6, co6, eo6⟩ := Kd.R_slice HO132.out; subst eo6; obtain ⟨Ao7, co7, eo7⟩ := Kd.R_slice HO135.out; subst eo7) | ((with_reducible refine gate_dst (N := 3) rfl ?_); refine Kd.N_lit (Kd.slice 3 (Kd.int .i64)) _ 25 ?hg (N' := 3) ?hd (xs := ([y130, y133] : List (List Int))) (inner := [.slice Ao6 y130.length co6, .slice Ao7 y133.length co7]) (ok := (fun k_ => (w.heap.size ≤ k_) ∧ k_ ≠ gb129)) (okp := (fun k_ => (w.heap.size ≤ k_) ∧ k_ ≠ gb129)) ?hr ?hp (fun _ hk => hk) ((show ∀ k_, w4.heap.size ≤ k_ → (fun k_ => (w.heap.size ≤ k_) ∧ k_ ≠ gb129) k_ from fun k_ hk => ⟨(Nat.le_trans (bz1 bl_) hk), Kd.freshB (g := gb129) (o := .cells #[.int .i64 0, .slice none 0 0] 24 (0, 0)) (kk_ BK129.out) k_ hk⟩) _ (Nat.le_refl _)) (Below.refl _ _) (Nat.le_refl _) (by simp) ?_; (case hd => rfl); (case hg => rfl); (case hr => first | (go_simp; done) | (go_simp; rfl)); (case hp => exact (Reps.one (show Kd.FK (Kd.slice 3 (Kd.int .i64)) _ _ y130 [.slice Ao6 y130.length co6] from (Kd.FK_slice_mk (Kd.R_reads' (Kd.R_mono (ok' := (fun k_ => (w.heap.size ≤ k_) ∧ k_ ≠ gb129)) (Kd.R_types (HO132.out) BK129.out (by decide)) (fun k_ hk => ⟨hk.1.1.1, hk.2⟩))).2.1 (Kd.R_F (Kd.R_mono (ok' := (fun k_ => (w.heap.size ≤ k_) ∧ k_ ≠ gb129)) (Kd.R_types (HO132.out) BK129.out (by decide)) (fun k_ hk => ⟨hk.1.1.1, hk.2⟩))))) (Reps.one (show Kd.FK (Kd.slice 3 (Kd.int .i64)) _ _ y133 [.slice Ao7 y133.length co7] from (Kd.FK_slice_mk (Kd.R_reads' (Kd.R_mono (ok' := (fun k_ => (w.heap.size ≤ k_) ∧ k_ ≠ gb129)) (Kd.R_types (HO135.out) BK129.out (by decide)) (fun k_ hk => ⟨hk.1.1.1, hk.2⟩))).2.1 (Kd.R_F (Kd.R_mono (ok' := (fun k_ => (w.heap.size ≤ k_) ∧ k_ ≠ gb129)) (Kd.R_types (HO135.out) BK129.out (by decide)) (fun k_ hk => ⟨hk.1.1.1, hk.2⟩))))) (Reps.none _ _)))); intro v137 w8 ho9 hb hg_ hnew_; clear hg_ hnew_; (first | rw [← Ny136.out] at ho9 | (simp only [Int.reduceToNat] at ho9; rw [← Ny136.out] at ho9)); have n0_ := Ai0.mk (Kd.N_lower ho9 (bz1 bl_)); have n1_ := Ai0.mk (kb1 (g := gb129) (o := .cells #[.int .i64 0, .slice none 0 0] 24 (0, 0)) (kk_ BK129.out) hb); have n2_ := Ai0.mk (bt1 bl_ hb); clear BK129; clear HB; clear HO132; clear HO135; have HO138 := n0_; have BK129 := n1_; have HB := n2_; clear n0_ n1_ n2_; clear hb ho9; obtain ⟨Ao10, co10, eo10⟩ := Kd.N_slice HO138.out; subst eo10; have hcz11_0 : w8.cell? ⟨gb129, 0, none⟩ = some (.int .i64 0) := (kc1 BK129.out 0).trans rfl; have hcz11_1 : w8.cell? ⟨gb129, 1, none⟩ = some (.slice none 0 0) := (kc1 BK129.out 1).trans rfl; have hfz11_0 := kf1 BK129.out 0; have hfz11_1 := kf1 BK129.out 1))
 refine bodyPost_ret (results_cell_row rfl _ _ gb129 24 #[.int .i64 3, .slice Ao10 y136.length co10] (0, 0) _ rfl (by (with_reducible repeat (first | refine kn1 ?_ _ | refine kd1 ?_ | refine ka1 ?_ _)); refine blk_put (cs := #[.int .i64 3, .slice none 0 0]) ?_ 1 _ rfl; (with_reducible repeat (first | refine kn1 ?_ _ | refine kd1 ?_ | refine ka1 ?_ _)); refine blk_put (cs := #[.int .i64 0, .slice none 0 0]) ?_ 0 _ rfl; (with_reducible repeat (first | refine kn1 ?_ _ | refine kd1 ?_ | refine ka1 ?_ _)); exact BK129.out) Try.underlying24 rfl (by kernel_rfl)) rfl ?_;exact ⟨_, by first | rfl | (simp [eW0, eW1] <;> rfl) | (simp [*, eW0, eW1] <;> rfl), by (with_reducible repeat (first | apply Kd.N_alloc | apply Kd.N_drewN | apply Kd.N_drew)); exact Kd.N_mono (Kd.N_far (p := ⟨gb129, 1, none⟩) (Kd.N_far (p := ⟨gb129, 0, none⟩) (Kd.N_mono HO138.out (fun k_ hk => (⟨hk, hk.2⟩ : _ ∧ k_ ≠ gb129))) (fun _ hk => hk.2) (.int .i64 3)) (fun _ hk => hk.2) (.slice Ao10 y136.length co10)) (fun _ hk => hk.1.1), bl_⟩
def cw_known.f (k : Nat)  : Option (Bool) := (cw_path.f).bind fun bt139 => ((message_Beliefs.f k bt139.1 bt139.2 (([3, (-1), (-4)] : List Int)) 2).bind fun bt146 => (if bt146.2 = 0 then ((cr9_SameInts.f k bt146.1 (([(-2), (-2), (-2)] : List Int))).bind fun t153 => (some t153)) else (some false)))
theorem cw_known.mono : ∀ k, LeO (cw_known.f k ) (cw_known.f (k + 1) ) := by
 intro  k;unfold cw_known.f
 repeat' first
   | (with_reducible exact cr9_SameInts.mono _ _ _)
   | (with_reducible exact message_Beliefs.mono _ _ _ _ _)
   | (with_reducible exact LeO.refl _)
   | (with_reducible exact LeO.none _)
   | (with_reducible refine LeO.ite ?_ ?_)
   | (with_reducible refine LeO.bind ?_ (fun _ => ?_))
   | exact cr9_SameInts.mono _ _ _
   | exact message_Beliefs.mono _ _ _ _ _
   | exact LeO.none _
   | refine LeO.ite ?_ ?_
   | refine LeO.bind ?_ (fun _ => ?_)
set_option maxHeartbeats 8000000 in
set_option maxRecDepth 100000 in
theorem cw_known.calls (k : Nat)  (r : Bool) (w : World) (h : cw_known.f k  = some r) :
  Calls Try.prog 13 #[] w fun e w' => e = .returned (.bool r) ∧ Below w.heap.size w w' := by
 have HB := Ai0.mk (Below.refl w.heap.size w);have H : ((cw_path.f).bind fun bt139 => ((message_Beliefs.f k bt139.1 bt139.2 (([3, (-1), (-4)] : List Int)) 2).bind fun bt146 => (if bt146.2 = 0 then ((cr9_SameInts.f k bt146.1 (([(-2), (-2), (-2)] : List Int))).bind fun t153 => (some t153)) else (some false)))) = some r := h;clear h;replace H := Option.bind_eq_some_iff.mp H;obtain ⟨⟨t139, t140⟩, A10, H⟩ := H;replace H : ((message_Beliefs.f k t139 t140 (([3, (-1), (-4)] : List Int)) 2).bind fun bt146 => (if bt146.2 = 0 then ((cr9_SameInts.f k bt146.1 (([(-2), (-2), (-2)] : List Int))).bind fun t153 => (some t153)) else (some false))) = some r := H;have A1 := Ai0.mk A10;clear A10;obtain ⟨y143, hy143⟩ : ∃ y_ : List Int, y_ = (([3, (-1), (-4)] : List Int)) := ⟨_, rfl⟩
 replace H : ((message_Beliefs.f k t139 t140 y143 2).bind fun bt146 => (if bt146.2 = 0 then ((cr9_SameInts.f k bt146.1 (([(-2), (-2), (-2)] : List Int))).bind fun t153 => (some t153)) else (some false))) = some r := by first | (rw [hy143]; with_reducible exact H) | (have H2_ := (Option.bind_some _ _).symm.trans H; rw [hy143]; with_reducible exact H2_) | (have H2_ := (Option.bind_some _ _).symm.trans H; with_reducible exact H2_) | with_reducible exact H | (rw [hy143]; exact H) | exact H
 have Ny143 := Ai0.mk hy143;clear hy143;replace H := Option.bind_eq_some_iff.mp H;obtain ⟨⟨t146, t149⟩, A20, H⟩ := H;replace H : (if t149 = 0 then ((cr9_SameInts.f k t146 (([(-2), (-2), (-2)] : List Int))).bind fun t153 => (some t153)) else (some false)) = some r := H;have A2 := Ai0.mk A20;clear A20;by_cases c3 : t149 = 0
 ·rw [if_pos c3] at H;have c3b0 : (t149 == 0) = true := beq_iff_eq.mpr c3;have c3b1 : (t149 != 0) = false := bne_eq_false_iff_eq.mpr c3;clear c3;obtain ⟨y150, hy150⟩ : ∃ y_ : List Int, y_ = (([(-2), (-2), (-2)] : List Int)) := ⟨_, rfl⟩
  replace H : ((cr9_SameInts.f k t146 y150).bind fun t153 => (some t153)) = some r := by first | (rw [hy150]; with_reducible exact H) | (have H2_ := (Option.bind_some _ _).symm.trans H; rw [hy150]; with_reducible exact H2_) | (have H2_ := (Option.bind_some _ _).symm.trans H; with_reducible exact H2_) | with_reducible exact H | (rw [hy150]; exact H) | exact H
  have Ny150 := Ai0.mk hy150;clear hy150;replace H := Option.bind_eq_some_iff.mp H;obtain ⟨t153, A40, H⟩ := H;replace H : (some t153) = some r := H;have A4 := Ai0.mk A40;clear A40;obtain rfl := Option.some.inj H;go_enter Try.func13, Try.ntmps13
  go_wp2_with (first | ((with_reducible refine gate_callee (f := 35) rfl ?_); refine goesL_ (some 4) rfl rfl Try.func35 (by kernel_rfl) rfl #[] rfl (by (try simp only [List.map_toArray, List.map_cons, List.map_nil]); first | done | rfl | (simp only [List.length_drop, List.length_take]; rfl)) ?_; (with_reducible refine (cw_path.calls  t139 t140 _ A1.out).mono ?_); rintro e w5 ⟨v141, rfl, ho0, hb⟩; refine ⟨_, rfl, ?_⟩; have n0_ := Ai0.mk (Kd.N_lower (Kd.N_mono (ok' := fun k_ => True) ho0 (fun k_ hk_ => trivial)) (bz1 bl_)); have n1_ := Ai0.mk (bt1 bl_ hb); clear HB; have HO142 := n0_; have HB := n1_; clear n0_ n1_; (try clear hb); (try clear hb2); (try clear hk); (try clear hi); (try clear ho0)) | ((with_reducible refine gate_dst (N := 5) rfl ?_); (try (refine gate_guard (by rfl) ?_; dsimp only)); refine Kd.R_lit (Kd.int .i64) _ 3 ?hg (N := 5) ?hd (xs := ([3, (-1), (-4)] : List Int)) (inner := [.int .i64 3, .int .i64 (-1), .int .i64 (-4)]) (ok := fun _ => True) (okp := fun _ => True) ?hr ?hp (fun _ hk => hk) trivial (Below.refl _ _) (Nat.le_refl _) (by simp) ?_; (case hd => rfl); (case hg => rfl); (case hr => first | (go_simp; done) | (go_simp; rfl)); (case hp => exact (Reps.one (show Kd.M (Kd.int .i64) _ _ _ 3 [.int .i64 3] from rfl) (Reps.one (show Kd.M (Kd.int .i64) _ _ _ (-1) [.int .i64 (-1)] from rfl) (Reps.one (show Kd.M (Kd.int .i64) _ _ _ (-4) [.int .i64 (-4)] from rfl) (Reps.none _ _))))); intro v144 w6 ho7 hb hg_ hnew_; clear hg_ hnew_; (first | rw [← Ny143.out] at ho7 | (simp only [Int.reduceToNat] at ho7; rw [← Ny143.out] at ho7)); have n0_ := Ai0.mk (Kd.N_elder' (by (with_reducible repeat (first | apply Kd.N_alloc | apply Kd.N_drewN | apply Kd.N_drew)); exact HO142.out) (Kd.R_base ho7) hb); have n1_ := Ai0.mk (Kd.R_lower ho7 (bz1 bl_)); have n2_ := Ai0.mk (bt1 bl_ hb); clear HO142; clear HB; have HO142 := n0_; have HO145 := n1_; have HB := n2_; clear n0_ n1_ n2_; clear hb ho7; obtain ⟨Ao8, co8, eo8⟩ := Kd.N_slice HO142.out; subst eo8; obtain ⟨Ao9, co9, eo9⟩ := Kd.R_slice HO145.out; subst eo9) | ((with_reducible refine gate_callee (f := 18) rfl ?_); refine goesL_ (some 6) rfl rfl Try.func18 (by kernel_rfl) rfl #[.agg #[.int .i64 t139, .slice Ao8 t140.length co8], .slice Ao9 y143.length co9, .int .i64 2] rfl (by (try simp only [List.map_toArray, List.map_cons, List.map_nil]); first | done | rfl | (simp only [List.length_drop, List.length_take]; rfl)) ?_; (with_reducible refine (message_Beliefs.calls k t139 _ _ t140 _ _ y143 2 t146 t149 _ ?side1 ?side2 ?side3 ?side4 A2.out).mono ?_); (case side1 => repeat (first | exact (Kd.N_reads' HO142.out).2.2 | (with_reducible refine Kd.C_alloc ?_ _) | (with_reducible refine Kd.C_drewN ?_ _) | (with_reducible refine Kd.C_drew ?_))); (case side2 => exact (Kd.N_reads' HO142.out).2.1); (case side3 => repeat (first | exact (Kd.R_reads' HO145.out).2.2 | (with_reducible refine Kd.C_alloc ?_ _) | (with_reducible refine Kd.C_drewN ?_ _) | (with_reducible refine Kd.C_drew ?_))); (case side4 => exact (Kd.R_reads' HO145.out).2.1); rintro e w10 ⟨v147, rfl, ho0, hb⟩; refine ⟨_, rfl, ?_⟩; have n0_ := Ai0.mk (Kd.N_elder' (by (with_reducible repeat (first | apply Kd.N_alloc | apply Kd.N_drewN | apply Kd.N_drew)); exact HO142.out) (Kd.R_base ho0) hb); have n1_ := Ai0.mk (Kd.R_elder' (kr_ HO145.out) (Kd.R_base ho0) hb); have n2_ := Ai0.mk (Kd.R_lower (Kd.R_new' ho0 (Kd.R_lt (kr_ HO145.out))) (bz1 bl_)); have n3_ := Ai0.mk (bt1 bl_ hb); clear HO142; clear HO145; clear HB; have HO142 := n0_; have HO145 := n1_; have HO148 := n2_; have HB := n3_; clear n0_ n1_ n2_ n3_; (try clear hb); (try clear hb2); (try clear hk); (try clear hi); (try clear ho0)) | ((with_reducible refine gate_dst (N := 13) rfl ?_); (try (refine gate_guard (by rfl) ?_; dsimp only)); refine Kd.R_lit (Kd.int .i64) _ 3 ?hg (N := 13) ?hd (xs := ([(-2), (-2), (-2)] : List Int)) (inner := [.int .i64 (-2), .int .i64 (-2), .int .i64 (-2)]) (ok := fun _ => True) (okp := fun _ => True) ?hr ?hp (fun _ hk => hk) trivial (Below.refl _ _) (Nat.le_refl _) (by simp) ?_; (case hd => rfl); (case hg => rfl); (case hr => first | (go_simp; done) | (go_simp; rfl)); (case hp => exact (Reps.one (show Kd.M (Kd.int .i64) _ _ _ (-2) [.int .i64 (-2)] from rfl) (Reps.one (show Kd.M (Kd.int .i64) _ _ _ (-2) [.int .i64 (-2)] from rfl) (Reps.one (show Kd.M (Kd.int .i64) _ _ _ (-2) [.int .i64 (-2)] from rfl) (Reps.none _ _))))); intro v151 w11 ho12 hb hg_ hnew_; clear hg_ hnew_; (first | rw [← Ny150.out] at ho12 | (simp only [Int.reduceToNat] at ho12; rw [← Ny150.out] at ho12)); have n0_ := Ai0.mk (Kd.N_elder' (by (with_reducible repeat (first | apply Kd.N_alloc | apply Kd.N_drewN | apply Kd.N_drew)); exact HO142.out) (Kd.R_base ho12) hb); have n1_ := Ai0.mk (Kd.R_elder' (kr_ HO145.out) (Kd.R_base ho12) hb); have n2_ := Ai0.mk (Kd.R_elder' (kr_ HO148.out) (Kd.R_base ho12) hb); have n3_ := Ai0.mk (Kd.R_lower (Kd.R_new' (Kd.R_new' ho12 (Kd.R_lt (kr_ HO145.out))) (Kd.R_lt (kr_ HO148.out))) (bz1 bl_)); have n4_ := Ai0.mk (bt1 bl_ hb); clear HO142; clear HO145; clear HO148; clear HB; have HO142 := n0_; have HO145 := n1_; have HO148 := n2_; have HO152 := n3_; have HB := n4_; clear n0_ n1_ n2_ n3_ n4_; clear hb ho12; obtain ⟨Ao13, co13, eo13⟩ := Kd.R_slice HO148.out; subst eo13; obtain ⟨Ao14, co14, eo14⟩ := Kd.R_slice HO152.out; subst eo14) | (go_at_call 27; (with_reducible refine (cr9_SameInts.calls k _ _ t146 _ _ y150 t153 _ ?side1 ?side2 ?side3 ?side4 A4.out).mono ?_); (case side1 => repeat (first | exact (Kd.R_reads' HO148.out).2.2 | (with_reducible refine Kd.C_alloc ?_ _) | (with_reducible refine Kd.C_drewN ?_ _) | (with_reducible refine Kd.C_drew ?_))); (case side2 => exact (Kd.R_reads' HO148.out).2.1); (case side3 => repeat (first | exact (Kd.R_reads' HO152.out).2.2 | (with_reducible refine Kd.C_alloc ?_ _) | (with_reducible refine Kd.C_drewN ?_ _) | (with_reducible refine Kd.C_drew ?_))); (case side4 => exact (Kd.R_reads' HO152.out).2.1); rintro e w' ⟨rfl, ⟨nd, rfl⟩⟩))
  go_ret
  exact ⟨by first | rfl | (simp [eW0, eW1] <;> rfl) | (simp [*, eW0, eW1] <;> rfl), bl_⟩
 ·rw [if_neg c3] at H;have c3b0 : (t149 == 0) = false := beq_eq_false_iff_ne.mpr c3;have c3b1 : (t149 != 0) = true := bne_iff_ne.mpr c3;obtain rfl := Option.some.inj H;go_enter Try.func13, Try.ntmps13
  go_wp2_with (first | ((with_reducible refine gate_callee (f := 35) rfl ?_); refine goesL_ (some 4) rfl rfl Try.func35 (by kernel_rfl) rfl #[] rfl (by (try simp only [List.map_toArray, List.map_cons, List.map_nil]); first | done | rfl | (simp only [List.length_drop, List.length_take]; rfl)) ?_; (with_reducible refine (cw_path.calls  t139 t140 _ A1.out).mono ?_); rintro e w15 ⟨v141, rfl, ho0, hb⟩; refine ⟨_, rfl, ?_⟩; have n0_ := Ai0.mk (Kd.N_lower (Kd.N_mono (ok' := fun k_ => True) ho0 (fun k_ hk_ => trivial)) (bz1 bl_)); have n1_ := Ai0.mk (bt1 bl_ hb); clear HB; have HO142 := n0_; have HB := n1_; clear n0_ n1_; (try clear hb); (try clear hb2); (try clear hk); (try clear hi); (try clear ho0)) | ((with_reducible refine gate_dst (N := 5) rfl ?_); (try (refine gate_guard (by rfl) ?_; dsimp only)); refine Kd.R_lit (Kd.int .i64) _ 3 ?hg (N := 5) ?hd (xs := ([3, (-1), (-4)] : List Int)) (inner := [.int .i64 3, .int .i64 (-1), .int .i64 (-4)]) (ok := fun _ => True) (okp := fun _ => True) ?hr ?hp (fun _ hk => hk) trivial (Below.refl _ _) (Nat.le_refl _) (by simp) ?_; (case hd => rfl); (case hg => rfl); (case hr => first | (go_simp; done) | (go_simp; rfl)); (case hp => exact (Reps.one (show Kd.M (Kd.int .i64) _ _ _ 3 [.int .i64 3] from rfl) (Reps.one (show Kd.M (Kd.int .i64) _ _ _ (-1) [.int .i64 (-1)] from rfl) (Reps.one (show Kd.M (Kd.int .i64) _ _ _ (-4) [.int .i64 (-4)] from rfl) (Reps.none _ _))))); intro v144 w16 ho17 hb hg_ hnew_; clear hg_ hnew_; (first | rw [← Ny143.out] at ho17 | (simp only [Int.reduceToNat] at ho17; rw [← Ny143.out] at ho17)); have n0_ := Ai0.mk (Kd.N_elder' (by (with_reducible repeat (first | apply Kd.N_alloc | apply Kd.N_drewN | apply Kd.N_drew)); exact HO142.out) (Kd.R_base ho17) hb); have n1_ := Ai0.mk (Kd.R_lower ho17 (bz1 bl_)); have n2_ := Ai0.mk (bt1 bl_ hb); clear HO142; clear HB; have HO142 := n0_; have HO145 := n1_; have HB := n2_; clear n0_ n1_ n2_; clear hb ho17; obtain ⟨Ao18, co18, eo18⟩ := Kd.N_slice HO142.out; subst eo18; obtain ⟨Ao19, co19, eo19⟩ := Kd.R_slice HO145.out; subst eo19) | ((with_reducible refine gate_callee (f := 18) rfl ?_); refine goesL_ (some 6) rfl rfl Try.func18 (by kernel_rfl) rfl #[.agg #[.int .i64 t139, .slice Ao18 t140.length co18], .slice Ao19 y143.length co19, .int .i64 2] rfl (by (try simp only [List.map_toArray, List.map_cons, List.map_nil]); first | done | rfl | (simp only [List.length_drop, List.length_take]; rfl)) ?_; (with_reducible refine (message_Beliefs.calls k t139 _ _ t140 _ _ y143 2 t146 t149 _ ?side1 ?side2 ?side3 ?side4 A2.out).mono ?_); (case side1 => repeat (first | exact (Kd.N_reads' HO142.out).2.2 | (with_reducible refine Kd.C_alloc ?_ _) | (with_reducible refine Kd.C_drewN ?_ _) | (with_reducible refine Kd.C_drew ?_))); (case side2 => exact (Kd.N_reads' HO142.out).2.1); (case side3 => repeat (first | exact (Kd.R_reads' HO145.out).2.2 | (with_reducible refine Kd.C_alloc ?_ _) | (with_reducible refine Kd.C_drewN ?_ _) | (with_reducible refine Kd.C_drew ?_))); (case side4 => exact (Kd.R_reads' HO145.out).2.1); rintro e w20 ⟨v147, rfl, ho0, hb⟩; refine ⟨_, rfl, ?_⟩; have n0_ := Ai0.mk (Kd.N_elder' (by (with_reducible repeat (first | apply Kd.N_alloc | apply Kd.N_drewN | apply Kd.N_drew)); exact HO142.out) (Kd.R_base ho0) hb); have n1_ := Ai0.mk (Kd.R_elder' (kr_ HO145.out) (Kd.R_base ho0) hb); have n2_ := Ai0.mk (Kd.R_lower (Kd.R_new' ho0 (Kd.R_lt (kr_ HO145.out))) (bz1 bl_)); have n3_ := Ai0.mk (bt1 bl_ hb); clear HO142; clear HO145; clear HB; have HO142 := n0_; have HO145 := n1_; have HO148 := n2_; have HB := n3_; clear n0_ n1_ n2_ n3_; (try clear hb); (try clear hb2); (try clear hk); (try clear hi); (try clear ho0)))
  go_ret
  exact ⟨by first | rfl | (simp [eW0, eW1] <;> rfl) | (simp [*, eW0, eW1] <;> rfl), bl_⟩
mutual
def cw_MessageExact.j0 : Nat → List Int → Int → Bool → Int → List (List Int) → Option (Bool)
 | 0, _, _, _, _, _ => none
 | k + 1, x1, x2, x33, x587000, x587001 => if x33 = true then (some true) else ((message_Beliefs.f k x587000 x587001 x1 x2).bind fun bt591 => (if bt591.2 = 0 then (cw_MessageExact.j1 k x1 bt591.1 ((bt591.1.length : Int) != x587000) x587000 x587001) else (cw_MessageExact.j1 k x1 bt591.1 true x587000 x587001)))
def cw_MessageExact.j1 : Nat → List Int → List Int → Bool → Int → List (List Int) → Option (Bool)
 | 0, _, _, _, _, _ => none
 | k + 1, x1, x7, x49, x587000, x587001 => if x49 = true then (some false) else (cw_MessageExact.l0 k x1 x7 0 x587000 x587001)
def cw_MessageExact.l0 : Nat → List Int → List Int → Int → Int → List (List Int) → Option (Bool)
 | 0, _, _, _, _, _ => none
 | k + 1, x1, x7, x9, x587000, x587001 => if x9 < x587000 then (if 0 ≤ x9 then (if x9 < (x7.length : Int) then ((crM_Exact.f k x587000 x587001 x1 x9).bind fun t596 => (if (rd x7 x9) = t596 then (cw_MessageExact.l0 k x1 x7 (wrap64 (x9 + 1)) x587000 x587001) else (some false))) else (none)) else (none)) else (some true)
end
def cw_MessageExact.f (k : Nat) (a0_0 : Int) (l0_1 : List (List Int)) (l1 : List Int) (a2 : Int) : Option (Bool) := (cw_known.f k).bind fun t587 => (if t587 = true then ((crM_Few.f k a0_0 l0_1 8 10).bind fun t588 => (if t588 = true then ((crM_Args.f k a0_0 l0_1 l1 a2).bind fun t589 => (if t589 = 0 then (if a2 < (l0_1.length : Int) then (cw_MessageExact.j0 k l1 a2 true a0_0 l0_1) else ((crM_Forest.f k a0_0 l0_1).bind fun t590 => (cw_MessageExact.j0 k l1 a2 (!t590) a0_0 l0_1))) else (cw_MessageExact.j0 k l1 a2 true a0_0 l0_1))) else (cw_MessageExact.j0 k l1 a2 true a0_0 l0_1))) else (some false))
theorem cw_MessageExact.mono_l : ∀ k, (∀ y0 y1 y2 y3 y4, LeO (cw_MessageExact.j0 k y0 y1 y2 y3 y4) (cw_MessageExact.j0 (k + 1) y0 y1 y2 y3 y4)) ∧ (∀ y0 y1 y2 y3 y4, LeO (cw_MessageExact.j1 k y0 y1 y2 y3 y4) (cw_MessageExact.j1 (k + 1) y0 y1 y2 y3 y4)) ∧ (∀ y0 y1 y2 y3 y4, LeO (cw_MessageExact.l0 k y0 y1 y2 y3 y4) (cw_MessageExact.l0 (k + 1) y0 y1 y2 y3 y4))
 | 0 => ⟨fun _ _ _ _ _ r h => by simp [cw_MessageExact.j0] at h, fun _ _ _ _ _ r h => by simp [cw_MessageExact.j1] at h, fun _ _ _ _ _ r h => by simp [cw_MessageExact.l0] at h⟩
 | k + 1 => by
  obtain ⟨ih0, ih1, ih2⟩ := cw_MessageExact.mono_l k;refine ⟨?_, ?_, ?_⟩
  ·intro y0 y1 y2 y3 y4;unfold cw_MessageExact.j0
   repeat' first
   | (with_reducible exact ih0 _ _ _ _ _)
   | (with_reducible exact ih1 _ _ _ _ _)
   | (with_reducible exact ih2 _ _ _ _ _)
   | (with_reducible exact cw_known.mono _)
   | (with_reducible exact crM_Args.mono _ _ _ _ _)
   | (with_reducible exact crM_Exact.mono _ _ _ _ _)
   | (with_reducible exact crM_Few.mono _ _ _ _ _)
   | (with_reducible exact crM_Forest.mono _ _ _)
   | (with_reducible exact message_Beliefs.mono _ _ _ _ _)
   | (with_reducible exact LeO.refl _)
   | (with_reducible exact LeO.none _)
   | (with_reducible refine LeO.ite ?_ ?_)
   | (with_reducible refine LeO.bind ?_ (fun _ => ?_))
   | exact ih0 _ _ _ _ _
   | exact ih1 _ _ _ _ _
   | exact ih2 _ _ _ _ _
   | exact cw_known.mono _
   | exact crM_Args.mono _ _ _ _ _
   | exact crM_Exact.mono _ _ _ _ _
   | exact crM_Few.mono _ _ _ _ _
   | exact crM_Forest.mono _ _ _
   | exact message_Beliefs.mono _ _ _ _ _
   | exact LeO.none _
   | refine LeO.ite ?_ ?_
   | refine LeO.bind ?_ (fun _ => ?_)
  ·intro y0 y1 y2 y3 y4;unfold cw_MessageExact.j1
   repeat' first
   | (with_reducible exact ih0 _ _ _ _ _)
   | (with_reducible exact ih1 _ _ _ _ _)
   | (with_reducible exact ih2 _ _ _ _ _)
   | (with_reducible exact cw_known.mono _)
   | (with_reducible exact crM_Args.mono _ _ _ _ _)
   | (with_reducible exact crM_Exact.mono _ _ _ _ _)
   | (with_reducible exact crM_Few.mono _ _ _ _ _)
   | (with_reducible exact crM_Forest.mono _ _ _)
   | (with_reducible exact message_Beliefs.mono _ _ _ _ _)
   | (with_reducible exact LeO.refl _)
   | (with_reducible exact LeO.none _)
   | (with_reducible refine LeO.ite ?_ ?_)
   | (with_reducible refine LeO.bind ?_ (fun _ => ?_))
   | exact ih0 _ _ _ _ _
   | exact ih1 _ _ _ _ _
   | exact ih2 _ _ _ _ _
   | exact cw_known.mono _
   | exact crM_Args.mono _ _ _ _ _
   | exact crM_Exact.mono _ _ _ _ _
   | exact crM_Few.mono _ _ _ _ _
   | exact crM_Forest.mono _ _ _
   | exact message_Beliefs.mono _ _ _ _ _
   | exact LeO.none _
   | refine LeO.ite ?_ ?_
   | refine LeO.bind ?_ (fun _ => ?_)
  ·intro y0 y1 y2 y3 y4;unfold cw_MessageExact.l0
   repeat' first
   | (with_reducible exact ih0 _ _ _ _ _)
   | (with_reducible exact ih1 _ _ _ _ _)
   | (with_reducible exact ih2 _ _ _ _ _)
   | (with_reducible exact cw_known.mono _)
   | (with_reducible exact crM_Args.mono _ _ _ _ _)
   | (with_reducible exact crM_Exact.mono _ _ _ _ _)
   | (with_reducible exact crM_Few.mono _ _ _ _ _)
   | (with_reducible exact crM_Forest.mono _ _ _)
   | (with_reducible exact message_Beliefs.mono _ _ _ _ _)
   | (with_reducible exact LeO.refl _)
   | (with_reducible exact LeO.none _)
   | (with_reducible refine LeO.ite ?_ ?_)
   | (with_reducible refine LeO.bind ?_ (fun _ => ?_))
   | exact ih0 _ _ _ _ _
   | exact ih1 _ _ _ _ _
   | exact ih2 _ _ _ _ _
   | exact cw_known.mono _
   | exact crM_Args.mono _ _ _ _ _
   | exact crM_Exact.mono _ _ _ _ _
   | exact crM_Few.mono _ _ _ _ _
   | exact crM_Forest.mono _ _ _
   | exact message_Beliefs.mono _ _ _ _ _
   | exact LeO.none _
   | refine LeO.ite ?_ ?_
   | refine LeO.bind ?_ (fun _ => ?_)
theorem cw_MessageExact.mono : ∀ a0 a1 a2 a3 k, LeO (cw_MessageExact.f k a0 a1 a2 a3) (cw_MessageExact.f (k + 1) a0 a1 a2 a3) := by
 intro a0 a1 a2 a3 k;obtain ⟨ih0, ih1, ih2⟩ := cw_MessageExact.mono_l k;unfold cw_MessageExact.f
 repeat' first
   | (with_reducible exact ih0 _ _ _ _ _)
   | (with_reducible exact ih1 _ _ _ _ _)
   | (with_reducible exact ih2 _ _ _ _ _)
   | (with_reducible exact cw_known.mono _)
   | (with_reducible exact crM_Args.mono _ _ _ _ _)
   | (with_reducible exact crM_Exact.mono _ _ _ _ _)
   | (with_reducible exact crM_Few.mono _ _ _ _ _)
   | (with_reducible exact crM_Forest.mono _ _ _)
   | (with_reducible exact message_Beliefs.mono _ _ _ _ _)
   | (with_reducible exact LeO.refl _)
   | (with_reducible exact LeO.none _)
   | (with_reducible refine LeO.ite ?_ ?_)
   | (with_reducible refine LeO.bind ?_ (fun _ => ?_))
   | exact ih0 _ _ _ _ _
   | exact ih1 _ _ _ _ _
   | exact ih2 _ _ _ _ _
   | exact cw_known.mono _
   | exact crM_Args.mono _ _ _ _ _
   | exact crM_Exact.mono _ _ _ _ _
   | exact crM_Few.mono _ _ _ _ _
   | exact crM_Forest.mono _ _ _
   | exact message_Beliefs.mono _ _ _ _ _
   | exact LeO.none _
   | refine LeO.ite ?_ ?_
   | refine LeO.bind ?_ (fun _ => ?_)
def cw_MessageExact.T11 : Bool × List (List Nat × List Nat) := (true, [([], []), ([], []), ([0, 1], [0, 1]), ([2], [2]), ([], []), ([], []), ([], []), ([4, 5, 6], [4, 5, 6]), ([3, 7], [3, 7])])
def cw_MessageExact.B11 : List Nat := [0, 0, 3, 7, 0, 0, 0, 112, 255]
theorem cw_MessageExact.tab11 : rtab .any (opsOf Try.f10 11) = cw_MessageExact.T11 := by kernel_rfl
theorem cw_MessageExact.bits11 : waitsOk cw_MessageExact.T11.2 cw_MessageExact.B11 = true := by kernel_rfl
set_option maxHeartbeats 8000000 in
set_option maxRecDepth 100000 in
theorem cw_MessageExact.calls (k : Nat) (a0_0 : Int) (A0_1 : Option Addr) (c0_1 : Nat) (l0_1 : List (List Int)) (A1 : Option Addr) (c1 : Nat) (l1 : List Int) (a2 : Int) (r : Bool) (w : World) (hr0_1 : Kd.C (Kd.slice 3 (Kd.int .i64)) w A0_1 l0_1.length l0_1) (hc0_1 : l0_1.length ≤ c0_1) (hr1 : Kd.C (Kd.int .i64) w A1 l1.length l1) (hc1 : l1.length ≤ c1) (h : cw_MessageExact.f k a0_0 l0_1 l1 a2 = some r) :
  Calls Try.prog 10 #[.agg #[.int .i64 a0_0, .slice A0_1 l0_1.length c0_1], .slice A1 l1.length c1, .int .i64 a2] w fun e w' => e = .returned (.bool r) ∧ Below w.heap.size w w' := by
 have hu24 := Try.underlying24;have HR0_1 := Ai0.mk hr0_1;have HC0_1 := Ai0.mk hc0_1;clear hr0_1 hc0_1;have HR1 := Ai0.mk hr1;have HC1 := Ai0.mk hc1;clear hr1 hc1;have HB := Ai0.mk (Below.refl w.heap.size w);have H : ((cw_known.f k).bind fun t587 => (if t587 = true then ((crM_Few.f k a0_0 l0_1 8 10).bind fun t588 => (if t588 = true then ((crM_Args.f k a0_0 l0_1 l1 a2).bind fun t589 => (if t589 = 0 then (if a2 < (l0_1.length : Int) then (cw_MessageExact.j0 k l1 a2 true a0_0 l0_1) else ((crM_Forest.f k a0_0 l0_1).bind fun t590 => (cw_MessageExact.j0 k l1 a2 (!t590) a0_0 l0_1))) else (cw_MessageExact.j0 k l1 a2 true a0_0 l0_1))) else (cw_MessageExact.j0 k l1 a2 true a0_0 l0_1))) else (some false))) = some r := h;clear h;replace H := Option.bind_eq_some_iff.mp H;obtain ⟨t587, A40, H⟩ := H;replace H : (if t587 = true then ((crM_Few.f k a0_0 l0_1 8 10).bind fun t588 => (if t588 = true then ((crM_Args.f k a0_0 l0_1 l1 a2).bind fun t589 => (if t589 = 0 then (if a2 < (l0_1.length : Int) then (cw_MessageExact.j0 k l1 a2 true a0_0 l0_1) else ((crM_Forest.f k a0_0 l0_1).bind fun t590 => (cw_MessageExact.j0 k l1 a2 (!t590) a0_0 l0_1))) else (cw_MessageExact.j0 k l1 a2 true a0_0 l0_1))) else (cw_MessageExact.j0 k l1 a2 true a0_0 l0_1))) else (some false)) = some r := H;have A4 := Ai0.mk A40;clear A40;by_cases c5 : t587 = true
 ·subst c5;have H1 : ((crM_Few.f k a0_0 l0_1 8 10).bind fun t588 => (if t588 = true then ((crM_Args.f k a0_0 l0_1 l1 a2).bind fun t589 => (if t589 = 0 then (if a2 < (l0_1.length : Int) then (cw_MessageExact.j0 k l1 a2 true a0_0 l0_1) else ((crM_Forest.f k a0_0 l0_1).bind fun t590 => (cw_MessageExact.j0 k l1 a2 (!t590) a0_0 l0_1))) else (cw_MessageExact.j0 k l1 a2 true a0_0 l0_1))) else (cw_MessageExact.j0 k l1 a2 true a0_0 l0_1))) = some r := by rw [if_pos rfl] at H; exact H
  clear H;have H := H1;clear H1;have HC6 := Ai0.mk H;clear H;go_enter Try.func10, Try.ntmps10
  go_upto_region 3 with (first | ((with_reducible refine gate_dst (N := 3) rfl ?_); (try (refine gate_guard (by rfl) ?_; dsimp only)); refine box_event ?hg (N := 3) ?hd (cs := #[.int .i64 a0_0, .slice A0_1 l0_1.length c0_1]) (t := 24) ?hr ?_; (case hd => rfl); (case hg => rfl); (case hr => first | (go_simp; done) | (go_simp; rfl)); intro gb586 hg w7 hbox hb; have n0_ := Ai0.mk (bt1 bl_ hb); have n1_ := Ai0.mk (hbox); have n2_ := Ai0.mk ((by rw [hg]; exact (bz1 bl_) : w.heap.size ≤ gb586)); have n3_ := Ai0.mk ((by rw [hg]; exact (bz1 bl_) : w.heap.size ≤ gb586)); clear HB; have HB := n0_; have BK586 := n1_; have GW586 := n2_; have GE586 := n3_; clear n0_ n1_ n2_ n3_; clear hb hbox hg) | ((with_reducible refine gate_callee (f := 13) rfl ?_); refine goesL_ (some 10) rfl rfl Try.func13 (by kernel_rfl) rfl #[] rfl (by (try simp only [List.map_toArray, List.map_cons, List.map_nil]); first | done | rfl | (simp only [List.length_drop, List.length_take]; rfl)) ?_; (with_reducible refine (cw_known.calls k  true _ A4.out).mono ?_); rintro e w8 ⟨rfl, hb⟩; refine ⟨_, rfl, ?_⟩; have n0_ := Ai0.mk (kb1 (g := gb586) (o := .cells #[.int .i64 a0_0, .slice A0_1 l0_1.length c0_1] 24 (0, 0)) (kk_ BK586.out) hb); have n1_ := Ai0.mk (bt1 bl_ hb); clear BK586; clear HB; have BK586 := n0_; have HB := n1_; clear n0_ n1_; (try clear hb); (try clear hb2); (try clear hk); (try clear hi)))
  (try simp only [Act.put, l01_, l02_, l03_])
  go_cut [33] (fun v33 wc => ∃ (kq : Nat) (x33_5 : Bool), v33 = .bool x33_5 ∧ Ai0 (cw_MessageExact.j0 kq l1 a2 x33_5 a0_0 l0_1 = some r) ∧ Ai0 (kq ≤ k) ∧ Ai0 (wc.heap[gb586]? = some (.cells #[.int .i64 a0_0, (.slice A0_1 l0_1.length c0_1)] 24 (0, 0))) ∧ Ai0 (Below w.heap.size w wc))
  case first =>
   have H := HC6.out;clear HC6;replace H := Option.bind_eq_some_iff.mp H;obtain ⟨t588, A90, H⟩ := H;replace H : (if t588 = true then ((crM_Args.f k a0_0 l0_1 l1 a2).bind fun t589 => (if t589 = 0 then (if a2 < (l0_1.length : Int) then (cw_MessageExact.j0 k l1 a2 true a0_0 l0_1) else ((crM_Forest.f k a0_0 l0_1).bind fun t590 => (cw_MessageExact.j0 k l1 a2 (!t590) a0_0 l0_1))) else (cw_MessageExact.j0 k l1 a2 true a0_0 l0_1))) else (cw_MessageExact.j0 k l1 a2 true a0_0 l0_1)) = some r := H;have A9 := Ai0.mk A90;clear A90;by_cases c10 : t588 = true
   ·subst c10;(have H1 : ((crM_Args.f k a0_0 l0_1 l1 a2).bind fun t589 => (if t589 = 0 then (if a2 < (l0_1.length : Int) then (cw_MessageExact.j0 k l1 a2 true a0_0 l0_1) else ((crM_Forest.f k a0_0 l0_1).bind fun t590 => (cw_MessageExact.j0 k l1 a2 (!t590) a0_0 l0_1))) else (cw_MessageExact.j0 k l1 a2 true a0_0 l0_1))) = some r := by rw [if_pos rfl] at H; exact H);clear H;have H := H1;clear H1;replace H := Option.bind_eq_some_iff.mp H;obtain ⟨t589, A110, H⟩ := H;replace H : (if t589 = 0 then (if a2 < (l0_1.length : Int) then (cw_MessageExact.j0 k l1 a2 true a0_0 l0_1) else ((crM_Forest.f k a0_0 l0_1).bind fun t590 => (cw_MessageExact.j0 k l1 a2 (!t590) a0_0 l0_1))) else (cw_MessageExact.j0 k l1 a2 true a0_0 l0_1)) = some r := H;have A11 := Ai0.mk A110;clear A110;by_cases c12 : t589 = 0
    ·rw [if_pos c12] at H;have c12b0 : (t589 == 0) = true := beq_iff_eq.mpr c12;have c12b1 : (t589 != 0) = false := bne_eq_false_iff_eq.mpr c12;clear c12;(first | rw [c12b0] | (simp only [i64_w, i32_w]; rw [c12b0]) | skip);by_cases c13 : a2 < (l0_1.length : Int)
     ·rw [if_pos c13] at H;have c13b0 : decide (a2 < (l0_1.length : Int)) = true := decide_eq_true c13;clear c13;have H' := Ai0.mk H;clear H;have hcz14_0 : w8.cell? ⟨gb586, 0, none⟩ = some (.int .i64 a0_0) := (kc1 BK586.out 0).trans rfl;have hcz14_1 : w8.cell? ⟨gb586, 1, none⟩ = some (.slice A0_1 l0_1.length c0_1) := (kc1 BK586.out 1).trans rfl;have hfz14_0 := kf1 BK586.out 0;have hfz14_1 := kf1 BK586.out 1
      go_wp2_with (first | ((with_reducible refine gate_callee (f := 14) rfl ?_); refine goesL_ (some 13) rfl rfl Try.func14 (by kernel_rfl) rfl #[.agg #[.int .i64 a0_0, .slice A0_1 l0_1.length c0_1], .int .i64 8, .int .i64 10] rfl (by (try simp only [List.map_toArray, List.map_cons, List.map_nil]); first | done | rfl | (simp only [List.length_drop, List.length_take]; rfl)) ?_; (with_reducible refine (crM_Few.calls k a0_0 _ _ l0_1 8 10 true _ ?side1 ?side2 A9.out).mono ?_); (case side1 => exact kc_ HR0_1.out); (case side2 => exact HC0_1.out); rintro e w15 ⟨rfl, hb⟩; refine ⟨_, rfl, ?_⟩; have n0_ := Ai0.mk (kb1 (g := gb586) (o := .cells #[.int .i64 a0_0, .slice A0_1 l0_1.length c0_1] 24 (0, 0)) (kk_ BK586.out) hb); have n1_ := Ai0.mk (bt1 bl_ hb); clear BK586; clear HB; have BK586 := n0_; have HB := n1_; clear n0_ n1_; (try clear hb); (try clear hb2); (try clear hk); (try clear hi); have hcz16_0 : w15.cell? ⟨gb586, 0, none⟩ = some (.int .i64 a0_0) := (kc1 BK586.out 0).trans rfl; have hcz16_1 : w15.cell? ⟨gb586, 1, none⟩ = some (.slice A0_1 l0_1.length c0_1) := (kc1 BK586.out 1).trans rfl; have hfz16_0 := kf1 BK586.out 0; have hfz16_1 := kf1 BK586.out 1) | (go_at_call 15; (with_reducible refine (crM_Args.calls k a0_0 _ _ l0_1 _ _ l1 a2 t589 _ ?side1 ?side2 ?side3 ?side4 A11.out).mono ?_); (case side1 => exact kc_ HR0_1.out); (case side2 => exact HC0_1.out); (case side3 => exact kc_ HR1.out); (case side4 => exact HC1.out); rintro e w17 ⟨rfl, hb⟩; have n0_ := Ai0.mk (kb1 (g := gb586) (o := .cells #[.int .i64 a0_0, .slice A0_1 l0_1.length c0_1] 24 (0, 0)) (kk_ BK586.out) hb); have n1_ := Ai0.mk (bt1 bl_ hb); clear BK586; clear HB; have BK586 := n0_; have HB := n1_; clear n0_ n1_; (try clear hb); (try clear hb2); (try clear hk); (try clear hi); have hcz18_0 : w17.cell? ⟨gb586, 0, none⟩ = some (.int .i64 a0_0) := (kc1 BK586.out 0).trans rfl; have hcz18_1 : w17.cell? ⟨gb586, 1, none⟩ = some (.slice A0_1 l0_1.length c0_1) := (kc1 BK586.out 1).trans rfl; have hfz18_0 := kf1 BK586.out 0; have hfz18_1 := kf1 BK586.out 1))
      go_meet
      case rel => exact ⟨_, (true), rf_, H', ⟨by first | omega | exact Nat.le_refl _⟩, ⟨kk_ BK586.out⟩, ⟨bl_⟩⟩
     ·rw [if_neg c13] at H;have c13b0 : decide (a2 < (l0_1.length : Int)) = false := decide_eq_false c13;clear c13;replace H := Option.bind_eq_some_iff.mp H;obtain ⟨t590, A190, H⟩ := H;replace H : (cw_MessageExact.j0 k l1 a2 (!t590) a0_0 l0_1) = some r := H;have A19 := Ai0.mk A190;clear A190;have H' := Ai0.mk H;clear H;have hcz20_0 : w8.cell? ⟨gb586, 0, none⟩ = some (.int .i64 a0_0) := (kc1 BK586.out 0).trans rfl;have hcz20_1 : w8.cell? ⟨gb586, 1, none⟩ = some (.slice A0_1 l0_1.length c0_1) := (kc1 BK586.out 1).trans rfl;have hfz20_0 := kf1 BK586.out 0;have hfz20_1 := kf1 BK586.out 1
      go_wp2_with (first | ((with_reducible refine gate_callee (f := 14) rfl ?_); refine goesL_ (some 13) rfl rfl Try.func14 (by kernel_rfl) rfl #[.agg #[.int .i64 a0_0, .slice A0_1 l0_1.length c0_1], .int .i64 8, .int .i64 10] rfl (by (try simp only [List.map_toArray, List.map_cons, List.map_nil]); first | done | rfl | (simp only [List.length_drop, List.length_take]; rfl)) ?_; (with_reducible refine (crM_Few.calls k a0_0 _ _ l0_1 8 10 true _ ?side1 ?side2 A9.out).mono ?_); (case side1 => exact kc_ HR0_1.out); (case side2 => exact HC0_1.out); rintro e w21 ⟨rfl, hb⟩; refine ⟨_, rfl, ?_⟩; have n0_ := Ai0.mk (kb1 (g := gb586) (o := .cells #[.int .i64 a0_0, .slice A0_1 l0_1.length c0_1] 24 (0, 0)) (kk_ BK586.out) hb); have n1_ := Ai0.mk (bt1 bl_ hb); clear BK586; clear HB; have BK586 := n0_; have HB := n1_; clear n0_ n1_; (try clear hb); (try clear hb2); (try clear hk); (try clear hi); have hcz22_0 : w21.cell? ⟨gb586, 0, none⟩ = some (.int .i64 a0_0) := (kc1 BK586.out 0).trans rfl; have hcz22_1 : w21.cell? ⟨gb586, 1, none⟩ = some (.slice A0_1 l0_1.length c0_1) := (kc1 BK586.out 1).trans rfl; have hfz22_0 := kf1 BK586.out 0; have hfz22_1 := kf1 BK586.out 1) | (go_at_call 15; (with_reducible refine (crM_Args.calls k a0_0 _ _ l0_1 _ _ l1 a2 t589 _ ?side1 ?side2 ?side3 ?side4 A11.out).mono ?_); (case side1 => exact kc_ HR0_1.out); (case side2 => exact HC0_1.out); (case side3 => exact kc_ HR1.out); (case side4 => exact HC1.out); rintro e w23 ⟨rfl, hb⟩; have n0_ := Ai0.mk (kb1 (g := gb586) (o := .cells #[.int .i64 a0_0, .slice A0_1 l0_1.length c0_1] 24 (0, 0)) (kk_ BK586.out) hb); have n1_ := Ai0.mk (bt1 bl_ hb); clear BK586; clear HB; have BK586 := n0_; have HB := n1_; clear n0_ n1_; (try clear hb); (try clear hb2); (try clear hk); (try clear hi); have hcz24_0 : w23.cell? ⟨gb586, 0, none⟩ = some (.int .i64 a0_0) := (kc1 BK586.out 0).trans rfl; have hcz24_1 : w23.cell? ⟨gb586, 1, none⟩ = some (.slice A0_1 l0_1.length c0_1) := (kc1 BK586.out 1).trans rfl; have hfz24_0 := kf1 BK586.out 0; have hfz24_1 := kf1 BK586.out 1) | (go_at_call 16; (with_reducible refine (crM_Forest.calls k a0_0 _ _ l0_1 t590 _ ?side1 ?side2 A19.out).mono ?_); (case side1 => exact kc_ HR0_1.out); (case side2 => exact HC0_1.out); rintro e w25 ⟨rfl, hb⟩; have n0_ := Ai0.mk (kb1 (g := gb586) (o := .cells #[.int .i64 a0_0, .slice A0_1 l0_1.length c0_1] 24 (0, 0)) (kk_ BK586.out) hb); have n1_ := Ai0.mk (bt1 bl_ hb); clear BK586; clear HB; have BK586 := n0_; have HB := n1_; clear n0_ n1_; (try clear hb); (try clear hb2); (try clear hk); (try clear hi)))
      go_meet
      case rel => exact ⟨_, (!t590), rf_, H', ⟨by first | omega | exact Nat.le_refl _⟩, ⟨kk_ BK586.out⟩, ⟨bl_⟩⟩
    ·rw [if_neg c12] at H;have c12b0 : (t589 == 0) = false := beq_eq_false_iff_ne.mpr c12;have c12b1 : (t589 != 0) = true := bne_iff_ne.mpr c12;(first | rw [c12b0] | (simp only [i64_w, i32_w]; rw [c12b0]) | skip);have H' := Ai0.mk H;clear H;have hcz26_0 : w8.cell? ⟨gb586, 0, none⟩ = some (.int .i64 a0_0) := (kc1 BK586.out 0).trans rfl;have hcz26_1 : w8.cell? ⟨gb586, 1, none⟩ = some (.slice A0_1 l0_1.length c0_1) := (kc1 BK586.out 1).trans rfl;have hfz26_0 := kf1 BK586.out 0;have hfz26_1 := kf1 BK586.out 1
     go_wp2_with (first | ((with_reducible refine gate_callee (f := 14) rfl ?_); refine goesL_ (some 13) rfl rfl Try.func14 (by kernel_rfl) rfl #[.agg #[.int .i64 a0_0, .slice A0_1 l0_1.length c0_1], .int .i64 8, .int .i64 10] rfl (by (try simp only [List.map_toArray, List.map_cons, List.map_nil]); first | done | rfl | (simp only [List.length_drop, List.length_take]; rfl)) ?_; (with_reducible refine (crM_Few.calls k a0_0 _ _ l0_1 8 10 true _ ?side1 ?side2 A9.out).mono ?_); (case side1 => exact kc_ HR0_1.out); (case side2 => exact HC0_1.out); rintro e w27 ⟨rfl, hb⟩; refine ⟨_, rfl, ?_⟩; have n0_ := Ai0.mk (kb1 (g := gb586) (o := .cells #[.int .i64 a0_0, .slice A0_1 l0_1.length c0_1] 24 (0, 0)) (kk_ BK586.out) hb); have n1_ := Ai0.mk (bt1 bl_ hb); clear BK586; clear HB; have BK586 := n0_; have HB := n1_; clear n0_ n1_; (try clear hb); (try clear hb2); (try clear hk); (try clear hi); have hcz28_0 : w27.cell? ⟨gb586, 0, none⟩ = some (.int .i64 a0_0) := (kc1 BK586.out 0).trans rfl; have hcz28_1 : w27.cell? ⟨gb586, 1, none⟩ = some (.slice A0_1 l0_1.length c0_1) := (kc1 BK586.out 1).trans rfl; have hfz28_0 := kf1 BK586.out 0; have hfz28_1 := kf1 BK586.out 1) | (go_at_call 15; (with_reducible refine (crM_Args.calls k a0_0 _ _ l0_1 _ _ l1 a2 t589 _ ?side1 ?side2 ?side3 ?side4 A11.out).mono ?_); (case side1 => exact kc_ HR0_1.out); (case side2 => exact HC0_1.out); (case side3 => exact kc_ HR1.out); (case side4 => exact HC1.out); rintro e w29 ⟨rfl, hb⟩; have n0_ := Ai0.mk (kb1 (g := gb586) (o := .cells #[.int .i64 a0_0, .slice A0_1 l0_1.length c0_1] 24 (0, 0)) (kk_ BK586.out) hb); have n1_ := Ai0.mk (bt1 bl_ hb); clear BK586; clear HB; have BK586 := n0_; have HB := n1_; clear n0_ n1_; (try clear hb); (try clear hb2); (try clear hk); (try clear hi)))
     go_meet
     case rel => exact ⟨_, (true), rf_, H', ⟨by first | omega | exact Nat.le_refl _⟩, ⟨kk_ BK586.out⟩, ⟨bl_⟩⟩
   ·replace c10 := Bool.eq_false_iff.mpr c10;subst c10;(have H1 : (cw_MessageExact.j0 k l1 a2 true a0_0 l0_1) = some r := by rw [if_neg (show ¬ (false = true) by decide)] at H; exact H);clear H;have H := H1;clear H1;have H' := Ai0.mk H;clear H;have hcz30_0 : w8.cell? ⟨gb586, 0, none⟩ = some (.int .i64 a0_0) := (kc1 BK586.out 0).trans rfl;have hcz30_1 : w8.cell? ⟨gb586, 1, none⟩ = some (.slice A0_1 l0_1.length c0_1) := (kc1 BK586.out 1).trans rfl;have hfz30_0 := kf1 BK586.out 0;have hfz30_1 := kf1 BK586.out 1
    go_wp2_with (first | ((with_reducible refine gate_callee (f := 14) rfl ?_); refine goesL_ (some 13) rfl rfl Try.func14 (by kernel_rfl) rfl #[.agg #[.int .i64 a0_0, .slice A0_1 l0_1.length c0_1], .int .i64 8, .int .i64 10] rfl (by (try simp only [List.map_toArray, List.map_cons, List.map_nil]); first | done | rfl | (simp only [List.length_drop, List.length_take]; rfl)) ?_; (with_reducible refine (crM_Few.calls k a0_0 _ _ l0_1 8 10 false _ ?side1 ?side2 A9.out).mono ?_); (case side1 => exact kc_ HR0_1.out); (case side2 => exact HC0_1.out); rintro e w31 ⟨rfl, hb⟩; refine ⟨_, rfl, ?_⟩; have n0_ := Ai0.mk (kb1 (g := gb586) (o := .cells #[.int .i64 a0_0, .slice A0_1 l0_1.length c0_1] 24 (0, 0)) (kk_ BK586.out) hb); have n1_ := Ai0.mk (bt1 bl_ hb); clear BK586; clear HB; have BK586 := n0_; have HB := n1_; clear n0_ n1_; (try clear hb); (try clear hb2); (try clear hk); (try clear hi)))
    go_meet
    case rel => exact ⟨_, (true), rf_, H', ⟨by first | omega | exact Nat.le_refl _⟩, ⟨kk_ BK586.out⟩, ⟨bl_⟩⟩
  case rest =>
   clear HC6
   try clear c1
   try clear p2
   try clear c5
   try clear c10
   try clear c12
   try clear c12b0
   try clear c12b1
   try clear c13
   try clear c13b0
   try clear c14
   try clear hcz14_0
   try clear hcz14_1
   try clear hcz16_0
   try clear hcz16_1
   try clear hcz18_0
   try clear hcz18_1
   try clear hcz20_0
   try clear hcz20_1
   try clear hcz22_0
   try clear hcz22_1
   try clear hcz24_0
   try clear hcz24_1
   try clear hcz26_0
   try clear hcz26_1
   try clear hcz28_0
   try clear hcz28_1
   try clear hcz30_0
   try clear hcz30_1
   try clear hfz14_0
   try clear hfz14_1
   try clear hfz16_0
   try clear hfz16_1
   try clear hfz18_0
   try clear hfz18_1
   try clear hfz20_0
   try clear hfz20_1
   try clear hfz22_0
   try clear hfz22_1
   try clear hfz24_0
   try clear hfz24_1
   try clear hfz26_0
   try clear hfz26_1
   try clear hfz28_0
   try clear hfz28_1
   try clear hfz30_0
   try clear hfz30_1
   obtain ⟨kq, x33_5, rfl, HA, HJ5, BK586, HB⟩ := hcut
   cases kq with
   | zero => exact absurd HA.out (by simp [cw_MessageExact.j0])
   | succ kj5 =>
    have H := HA.out;clear HA;simp only [cw_MessageExact.j0] at H;by_cases c32 : x33_5 = true
    ·subst c32;(have H1 : (some true) = some r := by rw [if_pos rfl] at H; exact H);clear H;have H := H1;clear H1;obtain rfl := Option.some.inj H
     go_wp2
     go_ret
     exact ⟨by first | rfl | (simp [eW0, eW1] <;> rfl) | (simp [*, eW0, eW1] <;> rfl), bl_⟩
    ·replace c32 := Bool.eq_false_iff.mpr c32;subst c32;(have H1 : ((message_Beliefs.f kj5 a0_0 l0_1 l1 a2).bind fun bt591 => (if bt591.2 = 0 then (cw_MessageExact.j1 kj5 l1 bt591.1 ((bt591.1.length : Int) != a0_0) a0_0 l0_1) else (cw_MessageExact.j1 kj5 l1 bt591.1 true a0_0 l0_1))) = some r := by rw [if_neg (show ¬ (false = true) by decide)] at H; exact H);clear H;have H := H1;clear H1;replace H := Option.bind_eq_some_iff.mp H;obtain ⟨⟨t591, t594⟩, A330, H⟩ := H;replace H : (if t594 = 0 then (cw_MessageExact.j1 kj5 l1 t591 ((t591.length : Int) != a0_0) a0_0 l0_1) else (cw_MessageExact.j1 kj5 l1 t591 true a0_0 l0_1)) = some r := H;have A33 := Ai0.mk A330;clear A330;have HC34 := Ai0.mk H;clear H;have hcz35_0 : wc.cell? ⟨gb586, 0, none⟩ = some (.int .i64 a0_0) := (kc1 BK586.out 0).trans rfl;have hcz35_1 : wc.cell? ⟨gb586, 1, none⟩ = some (.slice A0_1 l0_1.length c0_1) := (kc1 BK586.out 1).trans rfl;have hfz35_0 := kf1 BK586.out 0;have hfz35_1 := kf1 BK586.out 1
     go_upto_region 6 with (first | ((with_reducible refine gate_callee (f := 18) rfl ?_); refine goesL_ (some 38) rfl rfl Try.func18 (by kernel_rfl) rfl #[.agg #[.int .i64 a0_0, .slice A0_1 l0_1.length c0_1], .slice A1 l1.length c1, .int .i64 a2] rfl (by (try simp only [List.map_toArray, List.map_cons, List.map_nil]); first | done | rfl | (simp only [List.length_drop, List.length_take]; rfl)) ?_; (with_reducible refine (message_Beliefs.calls kj5 a0_0 _ _ l0_1 _ _ l1 a2 t591 t594 _ ?side1 ?side2 ?side3 ?side4 A33.out).mono ?_); (case side1 => exact kc_ HR0_1.out); (case side2 => exact HC0_1.out); (case side3 => exact kc_ HR1.out); (case side4 => exact HC1.out); rintro e w36 ⟨v592, rfl, ho0, hb⟩; refine ⟨_, rfl, ?_⟩; have n0_ := Ai0.mk (Kd.R_lower ho0 (bz1 bl_)); have n1_ := Ai0.mk (kb1 (g := gb586) (o := .cells #[.int .i64 a0_0, .slice A0_1 l0_1.length c0_1] 24 (0, 0)) (kk_ BK586.out) hb); have n2_ := Ai0.mk (bt1 bl_ hb); clear BK586; clear HB; have HO593 := n0_; have BK586 := n1_; have HB := n2_; clear n0_ n1_ n2_; (try clear hb); (try clear hb2); (try clear hk); (try clear hi); (try clear ho0)))
     (try simp only [Act.put, l01_, l02_, l03_])
     go_cut [49] (fun v49 wc => ∃ (kq : Nat) (x49_33 : Bool), v49 = .bool x49_33 ∧ Ai0 (cw_MessageExact.j1 kq l1 t591 x49_33 a0_0 l0_1 = some r) ∧ Ai0 (kq ≤ kj5) ∧ Ai0 (Kd.R (Kd.int .i64) 3 wc w.heap.size (fun _ => True) v592 t591) ∧ Ai0 (wc.heap[gb586]? = some (.cells #[.int .i64 a0_0, (.slice A0_1 l0_1.length c0_1)] 24 (0, 0))) ∧ Ai0 (Below w.heap.size w wc))
     case first =>
      have H := HC34.out;clear HC34;by_cases c37 : t594 = 0
      ·rw [if_pos c37] at H;have c37b0 : (t594 == 0) = true := beq_iff_eq.mpr c37;have c37b1 : (t594 != 0) = false := bne_eq_false_iff_eq.mpr c37;clear c37;(first | rw [c37b0] | (simp only [i64_w, i32_w]; rw [c37b0]) | skip);have H' := Ai0.mk H;clear H;obtain ⟨Ao38, co38, eo38⟩ := Kd.R_slice HO593.out;subst eo38;have hcz39_0 : w36.cell? ⟨gb586, 0, none⟩ = some (.int .i64 a0_0) := (kc1 BK586.out 0).trans rfl;have hcz39_1 : w36.cell? ⟨gb586, 1, none⟩ = some (.slice A0_1 l0_1.length c0_1) := (kc1 BK586.out 1).trans rfl;have hfz39_0 := kf1 BK586.out 0;have hfz39_1 := kf1 BK586.out 1
       go_wp2
       go_meet
       case rel => exact ⟨_, (((t591.length : Int) != a0_0)), rf_, H', ⟨by have := HJ5.out; first | omega | exact Nat.le_refl _⟩, ⟨kr_ HO593.out⟩, ⟨kk_ BK586.out⟩, ⟨bl_⟩⟩
      ·rw [if_neg c37] at H;have c37b0 : (t594 == 0) = false := beq_eq_false_iff_ne.mpr c37;have c37b1 : (t594 != 0) = true := bne_iff_ne.mpr c37;(first | rw [c37b0] | (simp only [i64_w, i32_w]; rw [c37b0]) | skip);have H' := Ai0.mk H;clear H
       go_wp2
       go_meet
       case rel => exact ⟨_, (true), rf_, H', ⟨by have := HJ5.out; first | omega | exact Nat.le_refl _⟩, ⟨kr_ HO593.out⟩, ⟨kk_ BK586.out⟩, ⟨bl_⟩⟩
     case rest =>
      clear HC34
      try clear c1
      try clear p2
      try clear c3
      try clear c5
      try clear c10
      try clear c12
      try clear c12b0
      try clear c12b1
      try clear c13
      try clear c13b0
      try clear c14
      try clear c18
      try clear c32
      try clear c37
      try clear c37b0
      try clear c37b1
      try clear hcz14_0
      try clear hcz14_1
      try clear hcz16_0
      try clear hcz16_1
      try clear hcz18_0
      try clear hcz18_1
      try clear hcz20_0
      try clear hcz20_1
      try clear hcz22_0
      try clear hcz22_1
      try clear hcz24_0
      try clear hcz24_1
      try clear hcz26_0
      try clear hcz26_1
      try clear hcz28_0
      try clear hcz28_1
      try clear hcz30_0
      try clear hcz30_1
      try clear hcz35_0
      try clear hcz35_1
      try clear hcz39_0
      try clear hcz39_1
      try clear hfz14_0
      try clear hfz14_1
      try clear hfz16_0
      try clear hfz16_1
      try clear hfz18_0
      try clear hfz18_1
      try clear hfz20_0
      try clear hfz20_1
      try clear hfz22_0
      try clear hfz22_1
      try clear hfz24_0
      try clear hfz24_1
      try clear hfz26_0
      try clear hfz26_1
      try clear hfz28_0
      try clear hfz28_1
      try clear hfz30_0
      try clear hfz30_1
      try clear hfz35_0
      try clear hfz35_1
      try clear hfz39_0
      try clear hfz39_1
      try clear p2
      obtain ⟨kq, x49_33, rfl, HA, HJ33, HO_7, BK586, HB⟩ := hcut
      cases kq with
      | zero => exact absurd HA.out (by simp [cw_MessageExact.j1])
      | succ kj33 =>
       have H := HA.out;clear HA;simp only [cw_MessageExact.j1] at H;by_cases c40 : x49_33 = true
       ·subst c40;(have H1 : (some false) = some r := by rw [if_pos rfl] at H; exact H);clear H;have H := H1;clear H1;obtain rfl := Option.some.inj H
        go_wp2
        go_ret
        exact ⟨by first | rfl | (simp [eW0, eW1] <;> rfl) | (simp [*, eW0, eW1] <;> rfl), bl_⟩
       ·replace c40 := Bool.eq_false_iff.mpr c40;subst c40;(have H1 : (cw_MessageExact.l0 kj33 l1 t591 0 a0_0 l0_1) = some r := by rw [if_neg (show ¬ (false = true) by decide)] at H; exact H);clear H;have H := H1;clear H1;have H' := Ai0.mk H;clear H
        go_wp2
        go_loopg [9] kj33 (fun kq v9 w' => ∃ (x9_3 : Int), v9 = .int .i64 x9_3 ∧ Ai0 (cw_MessageExact.l0 kq l1 t591 x9_3 a0_0 l0_1 = some r) ∧ Ai0 (kq ≤ kj33) ∧ Ai0 (Kd.R (Kd.int .i64) 3 w' w.heap.size (fun _ => True) v592 t591) ∧ Ai0 (w'.heap[gb586]? = some (.cells #[.int .i64 a0_0, (.slice A0_1 l0_1.length c0_1)] 24 (0, 0))) ∧ Ai0 (Below w.heap.size w w'))
        case atStart => exact ⟨(0), rf_, H', ⟨Nat.le_refl _⟩, ⟨kr_ HO_7.out⟩, ⟨kk_ BK586.out⟩, ⟨bl_⟩⟩
        case round =>
         clear H'
         try clear c1
         try clear p2
         try clear c3
         try clear c4
         try clear c5
         try clear c10
         try clear c12
         try clear c12b0
         try clear c12b1
         try clear c13
         try clear c13b0
         try clear c14
         try clear c18
         try clear c32
         try clear c37
         try clear c37b0
         try clear c37b1
         try clear c40
         try clear hcz14_0
         try clear hcz14_1
         try clear hcz16_0
         try clear hcz16_1
         try clear hcz18_0
         try clear hcz18_1
         try clear hcz20_0
         try clear hcz20_1
         try clear hcz22_0
         try clear hcz22_1
         try clear hcz24_0
         try clear hcz24_1
         try clear hcz26_0
         try clear hcz26_1
         try clear hcz28_0
         try clear hcz28_1
         try clear hcz30_0
         try clear hcz30_1
         try clear hcz35_0
         try clear hcz35_1
         try clear hcz39_0
         try clear hcz39_1
         try clear hfz14_0
         try clear hfz14_1
         try clear hfz16_0
         try clear hfz16_1
         try clear hfz18_0
         try clear hfz18_1
         try clear hfz20_0
         try clear hfz20_1
         try clear hfz22_0
         try clear hfz22_1
         try clear hfz24_0
         try clear hfz24_1
         try clear hfz26_0
         try clear hfz26_1
         try clear hfz28_0
         try clear hfz28_1
         try clear hfz30_0
         try clear hfz30_1
         try clear hfz35_0
         try clear hfz35_1
         try clear hfz39_0
         try clear hfz39_1
         try clear p2
         obtain ⟨x9_3, rfl, HA, HK3, HO_7, BK586, HB⟩ := hrel
         cases gk with
         | zero => exact absurd HA.out (by simp [cw_MessageExact.l0])
         | succ k3 =>
          have H := HA.out;clear HA;simp only [cw_MessageExact.l0] at H;by_cases c41 : x9_3 < a0_0
          ·rw [if_pos c41] at H;have c41b0 : decide (x9_3 < a0_0) = true := decide_eq_true c41;clear c41;by_cases c42 : 0 ≤ x9_3
           ·rw [if_pos c42] at H;have c42b0 : decide (0 ≤ x9_3) = true := decide_eq_true c42;clear c42;by_cases c43 : x9_3 < (t591.length : Int)
            ·rw [if_pos c43] at H;have c43b0 : decide (x9_3 < (t591.length : Int)) = true := decide_eq_true c43;clear c43;replace H := Option.bind_eq_some_iff.mp H;obtain ⟨t596, A440, H⟩ := H;replace H : (if (rd t591 x9_3) = t596 then (cw_MessageExact.l0 k3 l1 t591 (wrap64 (x9_3 + 1)) a0_0 l0_1) else (some false)) = some r := H;have A44 := Ai0.mk A440;clear A440;by_cases c45 : (rd t591 x9_3) = t596
             case' pos =>
              rw [if_pos c45] at H;have c45b0 : ((rd t591 x9_3) == t596) = true := beq_iff_eq.mpr c45;have c45b1 : ((rd t591 x9_3) != t596) = false := bne_eq_false_iff_eq.mpr c45;clear c45;have H' := Ai0.mk H;clear H
             case' neg =>
              rw [if_neg c45] at H;have c45b0 : ((rd t591 x9_3) == t596) = false := beq_eq_false_iff_ne.mpr c45;have c45b1 : ((rd t591 x9_3) != t596) = true := bne_iff_ne.mpr c45;obtain rfl := Option.some.inj H
             all_goals
              have hcz46_0 : wr.cell? ⟨gb586, 0, none⟩ = some (.int .i64 a0_0) := (kc1 BK586.out 0).trans rfl;have hcz46_1 : wr.cell? ⟨gb586, 1, none⟩ = some (.slice A0_1 l0_1.length c0_1) := (kc1 BK586.out 1).trans rfl;have hfz46_0 := kf1 BK586.out 0;have hfz46_1 := kf1 BK586.out 1
              try go_wp2
              have n0_ := Ai0.mk (Kd.Rd1 HO_7.out);have n1_ := Ai0.mk (kd1 BK586.out);have n2_ := Ai0.mk (bw1 HB.out);clear HO_7;clear BK586;clear HB;have HO_7 := n0_;have BK586 := n1_;have HB := n2_;clear n0_ n1_ n2_;obtain ⟨Ao48, co48, eo48⟩ := Kd.R_slice HO_7.out;(first | subst eo48 | (injection eo48 with f1_ f2_ f3_; have f4_ := f1_.symm; have f5_ := f3_.symm; clear f1_ f2_ f3_; subst f4_; subst f5_));have p595 : 0 ≤ (x9_3 : Int) := od_;have q595 : x9_3 < (t591.length : Int) := od_;obtain ⟨ad595, e595, hx595_0⟩ := Kd.at_int (Kd.R_reads' HO_7.out).2.2 x9_3 p595 q595;cases e595;replace p595 := eq_true p595;replace q595 := eq_true q595;refine start_ (n := 9) (S := fun w' => w'.cell? ⟨gb586, 0, none⟩ = some (.int .i64 a0_0) ∧ w'.cell? ⟨gb586, 1, none⟩ = some (.slice A0_1 l0_1.length c0_1) ∧ w'.cell? (ad595.add (x9_3).toNat) = some (.int .i64 (rd t591 x9_3))) (ds := []) #[false, false, false, false, false, false, false, false, false] (by kernel_rfl) rfl rfl ⟨(kc1 BK586.out 0).trans rfl, (kc1 BK586.out 1).trans rfl, hx595_0⟩ (fun hHeld => ?_); refine with_tabW cw_MessageExact.tab11 cw_MessageExact.bits11 (fun HT_ HW_ => ?_);(generalize wr.drew = w47 at HO_7 BK586 HB hx595_0 hHeld ⊢);refine pure_ (i := 0) (N := some 56) (v := ?_) (a' := ?_) #[true, false, false, false, false, false, false, false, false] rfl rfl (any_of HT_.out (by kernel_rfl)) (fun _ _ _ h => h) (Or.inl ⟨by rfl, ?_⟩) ?_ ?_;rotate_left
              ·intro w';go_simp
               with_reducible rfl
              rotate_left
              ·simp only [Act.put, l01_, l02_, l03_, i64_w, i32_w]
               rfl
              refine pure_ (i := 1) (N := some 57) (v := ?_) (a' := ?_) #[true, true, false, false, false, false, false, false, false] rfl rfl (any_of HT_.out (by kernel_rfl)) (fun _ _ _ h => h) (Or.inl ⟨by rfl, ?_⟩) ?_ ?_;rotate_left
              ·intro w';go_simp
               with_reducible rfl
              rotate_left
              ·simp only [Act.put, l01_, l02_, l03_, i64_w, i32_w]
               rfl
              refine pure_ (i := 2) (N := some 58) (v := ?_) (a' := ?_) #[true, true, true, false, false, false, false, false, false] rfl rfl (any_of HT_.out (by kernel_rfl)) (fun _ _ _ h => h) (Or.inl ⟨by rfl, ?_⟩) ?_ ?_;rotate_left
              ·intro w';go_simp
               with_reducible rfl
              rotate_left
              ·simp only [Act.put, l01_, l02_, l03_, i64_w, i32_w]
               rfl
              refine pure_ (i := 5) (N := some 61) (v := ?_) (a' := ?_) #[true, true, true, false, false, true, false, false, false] rfl rfl (any_of HT_.out (by kernel_rfl)) (fun _ _ _ h => h) (Or.inl ⟨by rfl, ?_⟩) ?_ ?_;rotate_left
              ·intro w';go_simp
               with_reducible rfl
              rotate_left
              ·simp only [Act.put, l01_, l02_, l03_, i64_w, i32_w]
               rfl
              refine pure_ (i := 6) (N := some 62) (v := ?_) (a' := ?_) #[true, true, true, false, false, true, true, false, false] rfl rfl (any_of HT_.out (by kernel_rfl)) (fun _ _ _ h => h) (Or.inl ⟨by rfl, ?_⟩) ?_ ?_;rotate_left
              ·intro w';go_simp
               with_reducible rfl
              rotate_left
              ·simp only [Act.put, l01_, l02_, l03_, i64_w, i32_w]
               rfl
              refine take_ (i := 3) (N := some 59) (v := ?_) (a' := ?_) #[true, true, true, true, false, true, true, false, false] rfl rfl (take_ofW HT_.out HW_.out (by kernel_rfl)) (fun _ _ _ h => h) (Or.inl ⟨by rfl, ?_⟩) hHeld ?_ ?_;rotate_left
              ·rintro w' ⟨s0, s1, s2⟩
               go_simp
               with_reducible rfl
              rotate_left
              ·simp only [Act.put, l01_, l02_, l03_, i64_w, i32_w]
               rfl
              refine take_ (i := 4) (N := some 60) (v := ?_) (a' := ?_) #[true, true, true, true, true, true, true, false, false] rfl rfl (take_ofW HT_.out HW_.out (by kernel_rfl)) (fun _ _ _ h => h) (Or.inl ⟨by rfl, ?_⟩) hHeld ?_ ?_;rotate_left
              ·rintro w' ⟨s0, s1, s2⟩
               go_simp
               with_reducible rfl
              rotate_left
              ·simp only [Act.put, l01_, l02_, l03_, i64_w, i32_w]
               rfl
              refine one_ (i := 7) (N := some 63) #[true, true, true, true, true, true, true, true, false] rfl rfl (one_of HT_.out (by kernel_rfl)) (by decide) (fun K hK => ?_);refine goes_ Try.func17 (by kernel_rfl) rfl #[.agg #[.int .i64 a0_0, .slice A0_1 l0_1.length c0_1], .slice A1 l1.length c1, .int .i64 x9_3] (by rfl) rfl rfl (by (try simp only [List.map_toArray, List.map_cons, List.map_nil]); first | done | rfl | (simp only [List.length_drop, List.length_take]; rfl)) ?_
              with_reducible refine (crM_Exact.calls k3 a0_0 _ _ l0_1 _ _ l1 x9_3 t596 _ ?side1 ?side2 ?side3 ?side4 A44.out).mono ?_
              (case side1 => exact kc_ HR0_1.out);(case side2 => exact HC0_1.out);(case side3 => exact kc_ HR1.out);(case side4 => exact HC1.out)
              rintro e w49 ⟨rfl, hb⟩
              have HS2_ := (hb.cell (World.block_lt_of_cell? _ _ (hHeld.2.2))).trans (hHeld.2.2);refine ⟨_, rfl, ?_⟩;have n0_ := Ai0.mk (Kd.R_below (kr_ HO_7.out) hb);have n1_ := Ai0.mk (kb1 (g := gb586) (o := .cells #[.int .i64 a0_0, .slice A0_1 l0_1.length c0_1] 24 (0, 0)) (kk_ BK586.out) hb);have n2_ := Ai0.mk (bt1 bl_ hb);clear HO_7;clear BK586;clear HB;have HO_7 := n0_;have BK586 := n1_;have HB := n2_;clear n0_ n1_ n2_;(try clear hb);(try clear hb2);(try clear hk);(try clear hi);refine hK.out _ _ ⟨(kc1 BK586.out 0).trans rfl, (kc1 BK586.out 1).trans rfl, HS2_⟩ (fun hHeld => ?_);clear hK K;refine norm_ (a' := ?_) ?_ ?_;rotate_left
              ·show Act.put _ (some 63) _ = _;simp only [Act.put, l01_, l02_, l03_, i64_w, i32_w]
               rfl
              refine pure_ (i := 8) (N := some 64) (v := ?_) (a' := ?_) #[true, true, true, true, true, true, true, true, true] rfl rfl (any_of HT_.out (by kernel_rfl)) (fun _ _ _ h => h) (Or.inl ⟨by rfl, ?_⟩) ?_ ?_;rotate_left
              ·intro w';go_simp
               with_reducible rfl
              rotate_left
              ·simp only [Act.put, l01_, l02_, l03_, i64_w, i32_w]
               rfl
              refine done_ (done_of HT_.out (by kernel_rfl)) ?_
              try go_wp2
             ·go_ret
              exact ⟨by first | rfl | (simp [eW0, eW1] <;> rfl) | (simp [*, eW0, eW1] <;> rfl), bl_⟩
             ·go_roundg k3
              case measure => have := HJ5.out; have := HJ33.out; have := HK3.out; omega
              case rel => exact ⟨(wrap64 (x9_3 + 1)), rf_, H', ⟨by have := HJ5.out; have := HJ33.out; have := HK3.out; omega⟩, ⟨kr_ HO_7.out⟩, ⟨kk_ BK586.out⟩, ⟨bl_⟩⟩
            ·rw [if_neg c43] at H;exact absurd H (by simp)
           ·rw [if_neg c42] at H;exact absurd H (by simp)
          ·rw [if_neg c41] at H;have c41b0 : decide (x9_3 < a0_0) = false := decide_eq_false c41;clear c41;obtain rfl := Option.some.inj H;have hcz54_0 : wr.cell? ⟨gb586, 0, none⟩ = some (.int .i64 a0_0) := (kc1 BK586.out 0).trans rfl;have hcz54_1 : wr.cell? ⟨gb586, 1, none⟩ = some (.slice A0_1 l0_1.length c0_1) := (kc1 BK586.out 1).trans rfl;have hfz54_0 := kf1 BK586.out 0;have hfz54_1 := kf1 BK586.out 1
           go_wp2
           go_ret
           exact ⟨by first | rfl | (simp [eW0, eW1] <;> rfl) | (simp [*, eW0, eW1] <;> rfl), bl_⟩
 ·replace c5 := Bool.eq_false_iff.mpr c5;subst c5;have H1 : (some false) = some r := by rw [if_neg (show ¬ (false = true) by decide)] at H; exact H
  clear H;have H := H1;clear H1;obtain rfl := Option.some.inj H;go_enter Try.func10, Try.ntmps10
  go_wp2_with (first | ((with_reducible refine gate_dst (N := 3) rfl ?_); (try (refine gate_guard (by rfl) ?_; dsimp only)); refine box_event ?hg (N := 3) ?hd (cs := #[.int .i64 a0_0, .slice A0_1 l0_1.length c0_1]) (t := 24) ?hr ?_; (case hd => rfl); (case hg => rfl); (case hr => first | (go_simp; done) | (go_simp; rfl)); intro gb586 hg w55 hbox hb; have n0_ := Ai0.mk (bt1 bl_ hb); have n1_ := Ai0.mk (hbox); have n2_ := Ai0.mk ((by rw [hg]; exact (bz1 bl_) : w.heap.size ≤ gb586)); have n3_ := Ai0.mk ((by rw [hg]; exact (bz1 bl_) : w.heap.size ≤ gb586)); clear HB; have HB := n0_; have BK586 := n1_; have GW586 := n2_; have GE586 := n3_; clear n0_ n1_ n2_ n3_; clear hb hbox hg) | ((with_reducible refine gate_callee (f := 13) rfl ?_); refine goesL_ (some 10) rfl rfl Try.func13 (by kernel_rfl) rfl #[] rfl (by (try simp only [List.map_toArray, List.map_cons, List.map_nil]); first | done | rfl | (simp only [List.length_drop, List.length_take]; rfl)) ?_; (with_reducible refine (cw_known.calls k  false _ A4.out).mono ?_); rintro e w56 ⟨rfl, hb⟩; refine ⟨_, rfl, ?_⟩; have n0_ := Ai0.mk (kb1 (g := gb586) (o := .cells #[.int .i64 a0_0, .slice A0_1 l0_1.length c0_1] 24 (0, 0)) (kk_ BK586.out) hb); have n1_ := Ai0.mk (bt1 bl_ hb); clear BK586; clear HB; have BK586 := n0_; have HB := n1_; clear n0_ n1_; (try clear hb); (try clear hb2); (try clear hk); (try clear hi)))
  go_ret
  exact ⟨by first | rfl | (simp [eW0, eW1] <;> rfl) | (simp [*, eW0, eW1] <;> rfl), bl_⟩
end Go.Proofs.Ytmclalniilkjiaa.Q
/- MessageExact: for every matrix, all inputs and all numbers of rounds. -/
namespace Go.Proofs.Ytmclalniilkjiaa.Pure
open Go.RowKit Go.Proofs.Ytmclalniilkjiaa.Q Go.Proofs.YtmclalniilkjiaaW.PrintWords Go.Proofs.YtmclalniilkjiaaW.PrintLast Go.Proofs.YtmclalniilkjiaaW.PrintMore Go.Proofs.Ytmclalniilkjiaa.Ba Go.Proofs.Ytmclalniilkjiaa.Ck Go.Proofs.Ytmclalniilkjiaa.Gr Go.Proofs.Ytmclalniilkjiaa.Un Go.Proofs.Ytmclalniilkjiaa.Fl Go.Proofs.Ytmclalniilkjiaa.Fw Go.Proofs.Ytmclalniilkjiaa.Ms Go.Proofs.Ytmclalniilkjiaa.Rv Go.Proofs.Ytmclalniilkjiaa.Rp Go.Proofs.Ytmclalniilkjiaa.Be Go.Proofs.Ytmclalniilkjiaa.Mm Go.Proofs.Ytmclalniilkjiaa.Tr Go.Proofs.Ytmclalniilkjiaa.Ff Go.Proofs.Ytmclalniilkjiaa.Ex

theorem known_ev : Ev (fun k => cw_known.f k) true := by
 have h : args 3 [[1, 1, 0], [0, 1, 1]] [3, -1, -4] 2 = 0 := by decide +kernel
 obtain ⟨C, ok, R, hR, hR2⟩ := args_ok h
 have e := ok.hlen
 have e2 : C = 3 := e.symm
 subst e2
 have e3 : R = 2 := by omega
 subst e3
 have h1 := Beliefs_ok ok 2 hR2 h
 have e4 : bel [[1, 1, 0], [0, 1, 1]] 3 [3, -1, -4] 2 = [-2, -2, -2] := by decide +kernel
 rw [e4] at h1
 unfold cw_known.f
 refine Ev.congr (f := fun k => (message_Beliefs.f k 3 [[1, 1, 0], [0, 1, 1]] [3, -1, -4] 2).bind fun bt146 => (if bt146.2 = 0 then ((cr9_SameInts.f k bt146.1 [-2, -2, -2]).bind fun t153 => (some t153)) else (some false))) (fun k => rfl) ?_
 exact h1.bind (Ev.congr (fun k => if_pos rfl) ((same_self [-2, -2, -2] (by decide)).bind (Ev.now _)))
section
variable {c : Int} {rows : List (List Int)} {inp : List Int} {C : Nat}
theorem exact_l0 (ok : OkI c rows inp C) (hC : C ≤ 16) (hF : Fo (bit rows)) (r : Nat) (hr : rows.length ≤ r) : ∀ d i : Nat, i + d = C →
  Ev (fun k => cw_MessageExact.l0 k inp (bel rows C inp r) (i : Int) c rows) true
 | 0, i, h => by
  have hc := ok.c
  refine Ev.step (f := fun _ => some true) (fun k => ?_) (Ev.now _)
  simp only [cw_MessageExact.l0]
  rw [if_neg (by omega)]
 | d + 1, i, h => by
  have hc := ok.c
  have hbl : (bel rows C inp r).length = C := LL_length _ _
  have ih := exact_l0 ok hC hF r hr d (i + 1) (by omega)
  refine Ev.step (f := fun k => (crM_Exact.f k c rows inp (i : Int)).bind fun t596 => (if (rd (bel rows C inp r) (i : Int)) = t596 then (cw_MessageExact.l0 k inp (bel rows C inp r) ((i + 1 : Nat) : Int) c rows) else (some false))) (fun k => ?_) ((Exact_ev ok hC i (by omega)).bind (Ev.congr (fun k => if_pos (belief_exact ok hF r hr i (by omega))) ih))
  simp only [cw_MessageExact.l0]
  rw [if_pos (by omega), if_pos (by omega), if_pos (by omega), w64_id (by omega) (by omega)]
  rfl
end
theorem MessageExact_ev (c : Int) (rows : List (List Int)) (inp : List Int) (n : Int) : Ev (fun k => cw_MessageExact.f k c rows inp n) true := by
 have hj : Ev (fun k => cw_MessageExact.j0 k inp n true c rows) true := Ev.step (f := fun _ => some true) (fun k => by simp only [cw_MessageExact.j0]; rw [if_pos trivial]) (Ev.now _)
 unfold cw_MessageExact.f
 refine known_ev.bind (Ev.congr (fun k => if_pos rfl) ?_)
 obtain ⟨b, hb, hb2⟩ := few45 c rows 8 10 (by omega)
 refine hb.bind ?_
 by_cases hb0 : ¬ b = true
 ·exact Ev.congr (fun k => if_neg hb0) hj
 have hb1 : b = true := Decidable.not_not.1 hb0
 obtain ⟨_, hc10, _⟩ := hb2 hb1
 refine Ev.congr (fun k => if_pos hb1) ((args_ev c rows inp n).bind ?_)
 by_cases h : args c rows inp n = 0
 ·refine Ev.congr (fun k => if_pos h) ?_
  by_cases hn : n < (rows.length : Int)
  ·exact Ev.congr (fun k => if_pos hn) hj
  refine Ev.congr (fun k => if_neg hn) ?_
  obtain ⟨C, ok, R, rfl, hR⟩ := args_ok h
  have hc := ok.c
  obtain ⟨r, h1, h2⟩ := Forest_ev hc ok.hC ok.hr ok.hrl ok.hrow
  refine h1.bind ?_
  cases r with
  | false => exact hj
  | true =>
   have hF := h2 rfl
   have hbl : (bel rows C inp R).length = C := LL_length _ _
   refine Ev.step (f := fun k => (message_Beliefs.f k c rows inp (R : Int)).bind fun bt591 => (if bt591.2 = 0 then (cw_MessageExact.j1 k inp bt591.1 ((bt591.1.length : Int) != c) c rows) else (cw_MessageExact.j1 k inp bt591.1 true c rows))) (fun k => by
    simp only [cw_MessageExact.j0]
    exact if_neg (by decide)) ?_
   refine (Beliefs_ok ok R hR h).bind (Ev.congr (fun k => if_pos rfl) ?_)
   have e0 : (((bel rows C inp R).length : Int) != c) = false := bne_eq_false_iff_eq.mpr (by omega)
   show Ev (fun k => cw_MessageExact.j1 k inp (bel rows C inp R) (((bel rows C inp R).length : Int) != c) c rows) true
   rw [e0]
   refine Ev.step (fun k => ?_) (exact_l0 ok (by omega) hF R (by omega) C 0 (by omega))
   simp only [cw_MessageExact.j1]
   rw [if_neg Bool.false_ne_true]
   rfl
 ·exact Ev.congr (fun k => if_neg h) hj
open Go.Proofs.Ytmclalniilkjiaa in
theorem MessageExact (a0_0 : Int) (A0_1 : Option Addr) (c0_1 : Nat) (l0_1 : List (List Int)) (A1 : Option Addr) (c1 : Nat) (l1 : List Int) (a2 : Int) (w : World) (hr0_1 : Kd.C (Kd.slice 3 (Kd.int .i64)) w A0_1 l0_1.length l0_1) (hc0_1 : l0_1.length ≤ c0_1) (hr1 : Kd.C (Kd.int .i64) w A1 l1.length l1) (hc1 : l1.length ≤ c1) (_ : l1.length * 8 ≤ 140737488351232) (_ : (Lit.int .i64 a0_0).wf = true) (_ : (Lit.int .i64 a2).wf = true) :
  Calls Try.prog 10 #[.agg #[.int .i64 a0_0, .slice A0_1 l0_1.length c0_1], .slice A1 l1.length c1, .int .i64 a2] w fun e w' => e = .returned (.bool true) ∧ Below w.heap.size w w' := by
 obtain ⟨k, h⟩ := (MessageExact_ev a0_0 l0_1 l1 a2).rounds
 exact cw_MessageExact.calls k a0_0 A0_1 c0_1 l0_1 A1 c1 l1 a2 true w hr0_1 hc0_1 hr1 hc1 h
end Go.Proofs.Ytmclalniilkjiaa.Pure
