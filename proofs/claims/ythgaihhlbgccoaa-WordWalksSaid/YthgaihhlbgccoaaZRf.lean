import Derived.Test.YthgaihhlbgccoaaZNt
import Derived.Test.YthgaihhlbgccoaaZQx51
import Derived.Test.YthgaihhlbgccoaaZNm
import Derived.Test.YthgaihhlbgccoaaZF2
/- The reflected walk: what the printed next, Steps and the document's Reflected compute. -/
namespace Go.Proofs.Ythgaihhlbgccoaa.Rf
open Go.RowKit Go.Proofs.Ythgaihhlbgccoaa.Q Go.Proofs.YthgaihhlbgccoaaW.PrintWords Go.Proofs.YthgaihhlbgccoaaW.PrintLast Go.Proofs.Ythgaihhlbgccoaa.Fv Go.Proofs.Ythgaihhlbgccoaa.Fp

/-! Plain laws. -/
/-- The number that the first i digits of word t make. -/
def pre (q n t i : Nat) : Nat := t / q ^ (n - i)
/-- Entry i of word t of the walk, and whether it descends. -/
def rv (q n t i : Nat) : Nat := if pre q n t i % 2 = 1 then q - 1 - pre q n t (i + 1) % q else pre q n t (i + 1) % q
def dn (q n t i : Nat) : Bool := decide (pre q n t i % 2 = 1)
theorem div_succ {q : Nat} (hq : 0 < q) (x : Nat) : (x % q = q - 1 → (x + 1) / q = x / q + 1 ∧ (x + 1) % q = 0) ∧ (x % q ≠ q - 1 → (x + 1) / q = x / q ∧ (x + 1) % q = x % q + 1) := by
 have h := Nat.div_add_mod x q
 have hl := Nat.mod_lt x hq
 constructor
 ·intro e
  have e1 : x + 1 = q * (x / q + 1) := by rw [Nat.mul_add, Nat.mul_one]; omega
  rw [e1, Nat.mul_div_cancel_left _ hq, Nat.mul_mod_right]; exact ⟨rfl, rfl⟩
 ·intro e
  have e1 : x + 1 = (x % q + 1) + q * (x / q) := by omega
  rw [e1, Nat.add_mul_div_left _ _ hq, Nat.add_mul_mod_self_left, Nat.div_eq_of_lt (by omega), Nat.mod_eq_of_lt (by omega)]
  exact ⟨by omega, rfl⟩
theorem pre_step {q n t i : Nat} (hi : i < n) : pre q n t i = pre q n t (i + 1) / q := by
 unfold pre
 rw [Nat.div_div_eq_div_mul, ← Nat.pow_succ, show (n - (i + 1)).succ = n - i by omega]
theorem pre_last (q n t : Nat) : pre q n t n = t := by unfold pre; simp
/-- All digits from i on are the last ones, and are carried over. -/
def Ca (q n t i : Nat) : Prop := (∀ p, i ≤ p → p ≤ n → pre q n (t + 1) p = pre q n t p + 1) ∧ ∀ p, i ≤ p → p < n → pre q n t (p + 1) % q = q - 1
section
variable {q n t : Nat}
theorem Ca.top : Ca q n t n := ⟨fun p h1 h2 => by
 obtain rfl : p = n := by omega
 rw [pre_last, pre_last], fun p h1 h2 => by omega⟩
theorem Ca.down (hq : 0 < q) {i : Nat} (hi : i < n) (h : Ca q n t (i + 1)) (he : pre q n t (i + 1) % q = q - 1) : Ca q n t i := by
 refine ⟨fun p h1 h2 => ?_, fun p h1 h2 => ?_⟩
 ·by_cases e : p = i
  ·subst e
   rw [pre_step hi, pre_step (t := t) hi, h.1 (p + 1) (by omega) (by omega)]
   exact ((div_succ hq _).1 he).1
  ·exact h.1 p (by omega) h2
 ·by_cases e : p = i
  ·subst e; exact he
  ·exact h.2 p (by omega) h2
theorem Ca.same (hq : 2 ≤ q) {i p : Nat} (h : Ca q n t i) (h1 : i ≤ p) (h2 : p < n) : rv q n (t + 1) p = rv q n t p ∧ dn q n (t + 1) p = !dn q n t p := by
 have e1 := h.1 p h1 (by omega)
 have e2 := h.1 (p + 1) (by omega) (by omega)
 have e3 := h.2 p h1 h2
 have e4 := ((div_succ (show 0 < q by omega) (pre q n t (p + 1))).1 e3).2
 unfold rv dn
 rw [e1, e2, e4, e3]
 constructor
 ·by_cases e : pre q n t p % 2 = 1
  ·rw [if_pos e, if_neg (by omega)]; omega
  ·rw [if_neg e, if_pos (by omega)]; omega
 ·by_cases e : pre q n t p % 2 = 1
  ·rw [decide_eq_true e, decide_eq_false (by omega)]; rfl
  ·rw [decide_eq_false e, decide_eq_true (by omega)]; rfl
/-- Where the carry stops. -/
theorem Ca.stop (hq : 2 ≤ q) {i : Nat} (hi : i < n) (h : Ca q n t (i + 1)) (he : pre q n t (i + 1) % q ≠ q - 1) : ∀ d p, p + d = i → pre q n (t + 1) p = pre q n t p
 | 0, p, hp => by
  obtain rfl : p = i := by omega
  rw [pre_step hi, pre_step (t := t) hi, h.1 (p + 1) (by omega) (by omega)]
  exact ((div_succ (by omega) _).2 he).1
 | d + 1, p, hp => by
  rw [pre_step (by omega), pre_step (t := t) (by omega), Ca.stop hq hi h he d (p + 1) (by omega)]
theorem Ca.at_ (hq : 2 ≤ q) {i : Nat} (hi : i < n) (h : Ca q n t (i + 1)) (he : pre q n t (i + 1) % q ≠ q - 1) :
  (dn q n t i = true → rv q n (t + 1) i + 1 = rv q n t i ∧ rv q n t i < q) ∧ (dn q n t i = false → rv q n (t + 1) i = rv q n t i + 1 ∧ rv q n (t + 1) i < q) := by
 have e1 := Ca.stop hq hi h he 0 i (by omega)
 have e2 := h.1 (i + 1) (by omega) (by omega)
 have e3 := ((div_succ (show 0 < q by omega) (pre q n t (i + 1))).2 he).2
 have e4 := Nat.mod_lt (pre q n t (i + 1)) (show 0 < q by omega)
 unfold rv dn
 rw [e1, e2, e3]
 by_cases e : pre q n t i % 2 = 1
 ·rw [decide_eq_true e, if_pos e, if_pos e]
  exact ⟨fun _ => ⟨by omega, by omega⟩, fun h => absurd h (by decide)⟩
 ·rw [decide_eq_false e, if_neg e, if_neg e]
  exact ⟨fun h => absurd h (by decide), fun _ => ⟨by omega, by omega⟩⟩
theorem Ca.low (hq : 2 ≤ q) {i p : Nat} (hi : i < n) (h : Ca q n t (i + 1)) (he : pre q n t (i + 1) % q ≠ q - 1) (hp : p ≤ i) : dn q n (t + 1) p = dn q n t p ∧ (p < i → rv q n (t + 1) p = rv q n t p) := by
 have e1 := Ca.stop hq hi h he (i - p) p (by omega)
 unfold dn rv
 rw [e1]
 refine ⟨rfl, fun hl => ?_⟩
 rw [Ca.stop hq hi h he (i - (p + 1)) (p + 1) (by omega)]
theorem rv_lt (hq : 2 ≤ q) (i : Nat) : rv q n t i < q := by
 unfold rv
 have := Nat.mod_lt (pre q n t (i + 1)) (show 0 < q by omega)
 split <;> omega
theorem rv_carry (hq : 2 ≤ q) {i : Nat} (he : pre q n t (i + 1) % q = q - 1) : (dn q n t i = true → rv q n t i = 0) ∧ (dn q n t i = false → rv q n t i = q - 1) := by
 unfold rv dn
 by_cases e : pre q n t i % 2 = 1
 ·rw [decide_eq_true e, if_pos e]; exact ⟨fun _ => by omega, fun h => absurd h (by decide)⟩
 ·rw [decide_eq_false e, if_neg e]; exact ⟨fun h => absurd h (by decide), fun _ => by omega⟩
end
/-- The place of the change behind word t. -/
def cp (q n t : Nat) : Nat → Option Nat
 | 0 => none
 | i + 1 => if pre q n t (i + 1) % q = q - 1 then cp q n t i else some i
theorem cp_some {q n t : Nat} (hq : 2 ≤ q) : ∀ {i p : Nat}, i ≤ n → Ca q n t i → cp q n t i = some p → p < n ∧ Ca q n t (p + 1) ∧ pre q n t (p + 1) % q ≠ q - 1
 | 0, p, _, _, h => by simp [cp] at h
 | i + 1, p, hi, hc, h => by
  unfold cp at h
  by_cases e : pre q n t (i + 1) % q = q - 1
  ·rw [if_pos e] at h
   exact cp_some hq (by omega) (hc.down (by omega) (by omega) e) h
  ·rw [if_neg e] at h
   obtain rfl := Option.some.inj h
   exact ⟨by omega, hc, e⟩
theorem cp_none {q n t : Nat} (hq : 2 ≤ q) : ∀ {i : Nat}, i ≤ n → Ca q n t i → cp q n t i = none → Ca q n t 0
 | 0, _, hc, _ => hc
 | i + 1, hi, hc, h => by
  unfold cp at h
  by_cases e : pre q n t (i + 1) % q = q - 1
  ·rw [if_pos e] at h
   exact cp_none hq (by omega) (hc.down (by omega) (by omega) e) h
  ·rw [if_neg e] at h
   exact absurd h (by simp)
theorem cp_lt {q n t : Nat} (hq : 2 ≤ q) (ht : t + 1 < q ^ n) : ∃ p, cp q n t n = some p ∧ p < n ∧ Ca q n t (p + 1) ∧ pre q n t (p + 1) % q ≠ q - 1 := by
 cases h : cp q n t n with
 | none =>
  have h1 := (cp_none hq (Nat.le_refl n) Ca.top h).1 0 (by omega) (by omega)
  unfold pre at h1
  rw [Nat.sub_zero, Nat.div_eq_of_lt ht, Nat.div_eq_of_lt (by omega)] at h1
  omega
 | some p => exact ⟨p, rfl, cp_some hq (Nat.le_refl n) Ca.top h⟩
theorem cp_end {q n t : Nat} (hq : 2 ≤ q) (ht : t + 1 = q ^ n) : cp q n t n = none := by
 cases h : cp q n t n with
 | none => rfl
 | some p =>
  obtain ⟨h1, h2, h3⟩ := cp_some hq (Nat.le_refl n) Ca.top h
  have h4 := Ca.stop hq h1 h2 h3 p 0 (by omega)
  unfold pre at h4
  have hp : 0 < q ^ n := by omega
  rw [Nat.sub_zero, ht, Nat.div_self hp, Nat.div_eq_of_lt (by omega)] at h4
  omega
theorem LBset (n : Nat) (f : Nat → Bool) (i : Nat) (b : Bool) : (LB n f).set i b = LB n (fun t => if t = i then b else f t) := by
 apply List.ext_getElem
 ·simp [LB]
 ·intro j h1 h2
  simp only [LB, List.getElem_set, List.getElem_map, List.getElem_range]
  by_cases e : i = j
  ·subst e; simp
  ·rw [if_neg e, if_neg (by omega)]
theorem LB_congr (n : Nat) (f g : Nat → Bool) (h : ∀ i, i < n → f i = g i) : LB n f = LB n g := by
 unfold LB
 apply List.map_congr_left
 intro t ht
 exact h t (by simpa using ht)
theorem LBrep (n : Nat) : List.replicate n false = LB n (fun _ => false) := LB_rep n
/-- Word t of the walk, and its directions. -/
def W (q n t : Nat) : List Int := L n (fun p => (rv q n t p : Int))
def D (q n t : Nat) : List Bool := LB n (dn q n t)
theorem W_zero (q n : Nat) : W q n 0 = List.replicate n 0 := by
 rw [L_rep]
 refine L_congr _ _ _ (fun p _ => ?_)
 unfold rv pre
 simp
theorem D_zero (q n : Nat) : D q n 0 = List.replicate n false := by
 rw [LBrep]
 refine LB_congr _ _ _ (fun p _ => ?_)
 unfold dn pre
 simp
theorem W_next {q n t p : Nat} (hq : 2 ≤ q) (hp : p < n) (hc : Ca q n t (p + 1)) (he : pre q n t (p + 1) % q ≠ q - 1) : (W q n t).set p (rv q n (t + 1) p : Int) = W q n (t + 1) := by
 unfold W
 rw [L_set]
 refine L_congr _ _ _ (fun i hi => ?_)
 by_cases e : i = p
 ·subst e; rw [if_pos rfl]
 ·rw [if_neg e]
  by_cases e2 : i < p
  ·rw [(hc.low hq hp he (show i ≤ p by omega)).2 e2]
  ·rw [(hc.same hq (show p + 1 ≤ i by omega) hi).1]
theorem D_next {q n t p : Nat} (hq : 2 ≤ q) (hp : p < n) (hc : Ca q n t (p + 1)) (he : pre q n t (p + 1) % q ≠ q - 1) : LB n (fun i => if i < p + 1 then dn q n t i else !dn q n t i) = D q n (t + 1) := by
 refine LB_congr _ _ _ (fun i hi => ?_)
 by_cases e : i < p + 1
 ·rw [if_pos e, (hc.low hq hp he (show i ≤ p by omega)).1]
 ·rw [if_neg e, (hc.same hq (show p + 1 ≤ i by omega) hi).2]
/-- What next answers, from place i on. -/
def nres (q n t i : Nat) : Int × Int × Int × Bool × List Int × List Bool :=
 match cp q n t i with
 | some p => ((p : Int), (rv q n t p : Int), (rv q n (t + 1) p : Int), true, W q n (t + 1), D q n (t + 1))
 | none => (0, 0, 0, false, W q n t, LB n (fun i => !dn q n t i))
theorem next_l0 {q n t : Nat} (hq : 2 ≤ q) (hq1 : q ≤ 65536) (hn : n ≤ 64) : ∀ i : Nat, i ≤ n → Ca q n t i →
  Ev (fun k => word_walker_next.l0 k (q : Int) ((i : Int) - 1) (W q n t) (LB n (fun p => if p < i then dn q n t p else !dn q n t p))) (nres q n t i)
 | 0, _, _ => by
  refine Ev.step (f := fun _ => some (nres q n t 0)) (fun k => ?_) (Ev.now _)
  simp only [word_walker_next.l0]
  rw [if_neg (by omega)]
  simp only [nres, cp]
  congr 6
 | i + 1, hi, hc => by
  have e1 : ((i + 1 : Nat) : Int) - 1 = (i : Int) := by omega
  have hlt := rv_lt (q := q) (n := n) (t := t) hq i
  have hset : (LB n (fun p => if p < i + 1 then dn q n t p else !dn q n t p)).set i (!dn q n t i) = LB n (fun p => if p < i then dn q n t p else !dn q n t p) := by
   rw [LBset]
   refine LB_congr _ _ _ (fun p _ => ?_)
   by_cases e : p = i
   ·subst e; rw [if_pos rfl, if_neg (by omega)]
   ·rw [if_neg e]
    by_cases e2 : p < i
    ·rw [if_pos e2, if_pos (by omega)]
    ·rw [if_neg e2, if_neg (by omega)]
  have hrd : rdOf false (LB n (fun p => if p < i + 1 then dn q n t p else !dn q n t p)) (i : Int) = dn q n t i := by rw [rd_LB _ _ _ (by omega), if_pos (by omega)]
  have hrw : rd (W q n t) (i : Int) = (rv q n t i : Int) := rd_L _ _ _ (by omega)
  have hlen : (LB n (fun p => if p < i + 1 then dn q n t p else !dn q n t p)).length = n := LB_length _ _
  have hlw : (W q n t).length = n := L_length _ _
  by_cases he : pre q n t (i + 1) % q = q - 1
  ·have ih := next_l0 hq hq1 hn i (by omega) (hc.down (by omega) (by omega) he)
   have er : nres q n t (i + 1) = nres q n t i := by unfold nres; rw [show cp q n t (i + 1) = cp q n t i from if_pos he]
   rw [er]
   refine Ev.step (fun k => ?_) ih
   rw [e1]
   simp only [word_walker_next.l0]
   rw [if_pos (by omega), if_pos (by omega), hlw, hlen, if_pos (by omega), if_pos (by omega), hrd, hrw, Int.toNat_natCast, hset, w64_id (n := (i : Int) - 1) (by omega) (by omega)]
   have hcv := rv_carry (q := q) (n := n) (t := t) hq he
   by_cases hd : dn q n t i = true
   ·have h0 := hcv.1 hd
    rw [if_pos hd, w64_id (by omega) (by omega), if_pos (by omega)]
   ·have h0 := hcv.2 (Bool.eq_false_iff.mpr hd)
    rw [if_neg hd, w64_id (n := (rv q n t i : Int) + 1) (by omega) (by omega), if_neg (by omega), if_pos (by omega)]
  ·have hat := hc.at_ hq (by omega) he
   have hlt2 := rv_lt (q := q) (n := n) (t := t + 1) hq i
   have er : nres q n t (i + 1) = ((i : Int), (rv q n t i : Int), (rv q n (t + 1) i : Int), true, W q n (t + 1), D q n (t + 1)) := by unfold nres; rw [show cp q n t (i + 1) = some i from if_neg he]
   rw [er]
   refine Ev.step (f := fun _ => some ((i : Int), (rv q n t i : Int), (rv q n (t + 1) i : Int), true, W q n (t + 1), D q n (t + 1))) (fun k => ?_) (Ev.now _)
   rw [e1]
   simp only [word_walker_next.l0]
   rw [if_pos (by omega), if_pos (by omega), hlw, hlen, if_pos (by omega), if_pos (by omega), hrd, hrw, Int.toNat_natCast, D_next hq (by omega) hc he]
   by_cases hd : dn q n t i = true
   ·have h0 := hat.1 hd
    have ef : wrap64 ((rv q n t i : Int) - 1) = (rv q n (t + 1) i : Int) := by rw [w64_id (by omega) (by omega)]; omega
    rw [if_pos hd, ef, if_neg (by omega), if_neg (by omega), W_next hq (by omega) hc he]
   ·have h0 := hat.2 (Bool.eq_false_iff.mpr hd)
    have ef : wrap64 ((rv q n t i : Int) + 1) = (rv q n (t + 1) i : Int) := by rw [w64_id (by omega) (by omega)]; omega
    rw [if_neg hd, ef, if_neg (by omega), if_neg (by omega), W_next hq (by omega) hc he]
/-- The change behind word t. -/
def St (q n t : Nat) : S45 := ⟨((cp q n t n).getD 0 : Nat), (rv q n t ((cp q n t n).getD 0) : Nat), (rv q n (t + 1) ((cp q n t n).getD 0) : Nat)⟩
theorem next_ev {q n t : Nat} (hq : 2 ≤ q) (hq1 : q ≤ 65536) (hn : n ≤ 64) : Ev (fun k => word_walker_next.f k (q : Int) (W q n t) (D q n t)) (nres q n t n) := by
 refine Ev.congr (fun k => ?_) (next_l0 hq hq1 hn n (Nat.le_refl n) Ca.top)
 have hlw : (W q n t).length = n := L_length _ _
 have e1 : LB n (fun p => if p < n then dn q n t p else !dn q n t p) = D q n t := LB_congr _ _ _ (fun p hp => if_pos hp)
 unfold word_walker_next.f
 rw [hlw, w64_id (by omega) (by omega), e1]
theorem nres_lt {q n t : Nat} (hq : 2 ≤ q) (ht : t + 1 < q ^ n) : nres q n t n = ((St q n t).f0, (St q n t).f1, (St q n t).f2, true, W q n (t + 1), D q n (t + 1)) := by
 obtain ⟨p, h, _⟩ := cp_lt hq ht
 unfold nres St
 rw [h]; rfl
theorem nres_end {q n t : Nat} (hq : 2 ≤ q) (ht : t + 1 = q ^ n) : nres q n t n = (0, 0, 0, false, W q n t, LB n (fun i => !dn q n t i)) := by
 unfold nres
 rw [cp_end hq ht]
theorem St_ok {q n t : Nat} (hq : 2 ≤ q) (ht : t + 1 < q ^ n) : ∃ p : Nat, p < n ∧ (St q n t).f0 = (p : Int) ∧ (St q n t).f1 = (rv q n t p : Int) ∧ (St q n t).f2 = (rv q n (t + 1) p : Int) ∧
  (rv q n (t + 1) p = rv q n t p + 1 ∨ rv q n (t + 1) p + 1 = rv q n t p) ∧ (W q n t).set p (rv q n (t + 1) p : Int) = W q n (t + 1) := by
 obtain ⟨p, h, h1, h2, h3⟩ := cp_lt hq ht
 have hat := h2.at_ hq h1 h3
 refine ⟨p, h1, by unfold St; rw [h]; rfl, by unfold St; rw [h]; rfl, by unfold St; rw [h]; rfl, ?_, W_next hq h1 h2 h3⟩
 by_cases hd : dn q n t p = true
 ·exact .inr (hat.1 hd).1
 ·exact .inl (hat.2 (Bool.eq_false_iff.mpr hd)).1
/-- The first c changes. -/
def LS (q n c : Nat) : List S45 := (List.range c).map (St q n)
theorem LS_length (q n c : Nat) : (LS q n c).length = c := by simp [LS]
theorem LS_snoc (q n c : Nat) : LS q n c ++ [St q n c] = LS q n (c + 1) := by
 unfold LS; rw [List.range_succ, List.map_append]; rfl
theorem LS_get (q n c i : Nat) (h : i < c) : rd_T45 (LS q n c) (i : Int) = St q n i := by
 unfold rd_T45 LS
 simp [List.getD_eq_getElem?_getD, h]
theorem steps_l0 {q n : Nat} (hq : 2 ≤ q) (hq1 : q ≤ 65536) (hn : n ≤ 64) (hc : q ^ n ≤ 65536) : ∀ d t : Nat, t + 2 + d = q ^ n →
  Ev (fun k => word_Steps.l0 k (q : Int) (LS q n t) true (St q n t).f0 (St q n t).f1 (St q n t).f2 (W q n (t + 1)) (D q n (t + 1))) (LS q n (q ^ n - 1))
 | d, t, h => by
  have hnx := next_ev (t := t + 1) hq hq1 hn
  refine Ev.step (f := fun k => (word_walker_next.f k (q : Int) (W q n (t + 1)) (D q n (t + 1))).bind fun u => word_Steps.l0 k (q : Int) (LS q n (t + 1)) u.2.2.2.1 u.1 u.2.1 u.2.2.1 u.2.2.2.2.1 u.2.2.2.2.2) (fun k => ?_) (hnx.bind ?_)
  ·simp only [word_Steps.l0]
   rw [if_pos trivial, LS_length, if_pos (by omega), ← LS_snoc]
  ·match d, h with
   | 0, h =>
    rw [nres_end hq (by omega)]
    dsimp only
    refine Ev.step (f := fun _ => some (LS q n (t + 1))) (fun k => ?_) ?_
    ·simp only [word_Steps.l0]
     rw [if_neg (by decide)]
    ·rw [show q ^ n - 1 = t + 1 by omega]
     exact Ev.now _
   | d + 1, h =>
    rw [nres_lt hq (by omega)]
    exact steps_l0 hq hq1 hn hc d (t + 1) (by omega)
 termination_by d => d
theorem steps_ev {P m : Int} {q : Nat} {Mod E G : List Int} (hq : 2 ≤ q) (hq1 : q ≤ 65536) (n : Int) : Ev (fun k => word_Steps.f k P m Mod (q : Int) E G n) (if (Nm.cnt q n).2 = 0 then (LS q n.toNat (q ^ n.toNat - 1), 0, P, m, (q : Int)) else ([], (Nm.cnt q n).2, P, m, (q : Int))) := by
 have hcn := Nm.count_ev (P := P) (m := m) (q := (q : Int)) (Mod := Mod) (E := E) (G := G) (by omega) (by omega) n
 unfold word_Steps.f
 refine hcn.bind ?_
 dsimp only
 by_cases h : (Nm.cnt q n).2 = 0
 ·rw [if_pos h]
  obtain ⟨h0, h1, h2⟩ : 0 ≤ n ∧ n ≤ 64 ∧ (q : Int) ^ n.toNat ≤ 65536 := by
   unfold Nm.cnt at h
   by_cases e1 : n < 0 ∨ 64 < n
   ·rw [if_pos e1] at h; exact absurd h (by decide)
   ·rw [if_neg e1] at h
    by_cases e2 : 65536 < (q : Int) ^ n.toNat
    ·rw [if_pos e2] at h; exact absurd h (by decide)
    ·exact ⟨by omega, by omega, by omega⟩
  obtain ⟨t, rfl⟩ := Int.eq_ofNat_of_zero_le h0
  rw [Int.toNat_natCast] at h2 ⊢
  have h3 : q ^ t ≤ 65536 := by
   have : ((q ^ t : Nat) : Int) = (q : Int) ^ t := Int.natCast_pow q t
   omega
  have hp : 0 < q ^ t := Nat.pow_pos (by omega)
  have hst : word_start.f P m Mod (q : Int) E G (t : Int) = some ((q : Int), P, m, (q : Int)) := by
   unfold word_start.f field_GF_Order.f
   rw [Option.bind_some, if_pos (by omega), if_pos (by omega), if_pos (by omega)]
  have hnx := next_ev (t := 0) hq hq1 (show t ≤ 64 by omega)
  rw [W_zero, D_zero] at hnx
  refine Ev.congr (f := fun k => (word_walker_next.f k (q : Int) (List.replicate t 0) (List.replicate t false)).bind fun bt203 => ((word_Steps.l0 k (q : Int) ([] : List S45) bt203.2.2.2.1 bt203.1 bt203.2.1 bt203.2.2.1 bt203.2.2.2.2.1 bt203.2.2.2.2.2).bind fun r => some (r, 0, P, m, (q : Int)))) (fun k => ?_) (hnx.bind ?_)
  ·rw [if_pos h, hst, Option.bind_some]
  ·by_cases e : q ^ t = 1
   ·rw [nres_end hq (by omega)]
    dsimp only
    refine Ev.bind (a := []) (Ev.step (f := fun _ => some []) (fun k => ?_) (Ev.now _)) ?_
    ·simp only [word_Steps.l0]
     rw [if_neg (by decide)]
    ·rw [e]
     exact Ev.now _
   ·rw [nres_lt hq (by omega)]
    exact Ev.bind (steps_l0 hq hq1 (by omega) h3 (q ^ t - 2) 0 (by omega)) (Ev.now _)
 ·rw [if_neg h]
  exact Ev.congr (fun k => if_neg h) (Ev.now _)
/-! The document's Reflected. -/
theorem ref_l0 {q n t : Nat} (hq : 2 ≤ q) (hq1 : q ≤ 65536) (hn : n ≤ 64) (ht : t ≤ 65536) : ∀ i : Nat, i ≤ n →
  Ev (fun k => crB_Reflected.l0 k (q : Int) (pre q n t i : Int) (L n (fun p => if p < i then 0 else (rv q n t p : Int))) ((i : Int) - 1)) (W q n t)
 | 0, _ => by
  refine Ev.step (f := fun _ => some (W q n t)) (fun k => ?_) (Ev.now _)
  simp only [crB_Reflected.l0]
  rw [if_neg (by omega)]
  congr 1
 | i + 1, hi => by
  have ih := ref_l0 hq hq1 hn ht i (by omega)
  have e1 : ((i + 1 : Nat) : Int) - 1 = (i : Int) := by omega
  have hpre : pre q n t (i + 1) ≤ t := Nat.div_le_self _ _
  have hmod := Nat.mod_lt (pre q n t (i + 1)) (show 0 < q by omega)
  have ed : Int.tdiv (pre q n t (i + 1) : Int) (q : Int) = (pre q n t i : Int) := by
   have h1 := pre_step (q := q) (t := t) (show i < n by omega)
   rw [Int.tdiv_eq_ediv_of_nonneg (by omega), h1]; exact (Int.natCast_ediv _ _).symm
  have em : Int.tmod (pre q n t (i + 1) : Int) (q : Int) = ((pre q n t (i + 1) % q : Nat) : Int) := by
   rw [Int.tmod_eq_emod_of_nonneg (by omega)]; exact (Int.natCast_emod _ _).symm
  have hpi : pre q n t i ≤ t := Nat.div_le_self _ _
  have e2 : Int.tmod (pre q n t i : Int) 2 = ((pre q n t i % 2 : Nat) : Int) := by
   rw [Int.tmod_eq_emod_of_nonneg (by omega)]; omega
  have hset : ∀ v : Int, v = (rv q n t i : Int) → (L n (fun p => if p < i + 1 then 0 else (rv q n t p : Int))).set i v = L n (fun p => if p < i then 0 else (rv q n t p : Int)) := by
   rintro v rfl
   rw [L_set]
   refine L_congr _ _ _ (fun p _ => ?_)
   by_cases e : p = i
   ·subst e; rw [if_pos rfl, if_neg (by omega)]
   ·rw [if_neg e]
    by_cases e2 : p < i
    ·rw [if_pos e2, if_pos (by omega)]
    ·rw [if_neg e2, if_neg (by omega)]
  refine Ev.step (fun k => ?_) ih
  rw [e1]
  simp only [crB_Reflected.l0]
  rw [if_pos (by omega), if_neg (by omega), ed, em, w64_id (n := (pre q n t i : Int)) (by omega) (by omega), e2, L_length, Int.toNat_natCast, w64_id (n := (i : Int) - 1) (by omega) (by omega)]
  by_cases e : pre q n t i % 2 = 1
  ·rw [if_pos (by omega), if_pos (by omega), if_pos (by omega), hset _ (by
    unfold rv
    rw [if_pos e, w64_id (n := (q : Int) - 1) (by omega) (by omega), w64_id (by omega) (by omega)]; omega)]
  ·rw [if_neg (by omega), if_pos (by omega), if_pos (by omega), hset _ (by unfold rv; rw [if_neg e])]
theorem ref_ev {q n t : Nat} (hq : 2 ≤ q) (hq1 : q ≤ 65536) (hn : n ≤ 64) (ht : t ≤ 65536) : Ev (fun k => crB_Reflected.f k (q : Int) (n : Int) (t : Int)) (W q n t) := by
 refine Ev.congr (fun k => ?_) (ref_l0 (t := t) hq hq1 hn ht n (Nat.le_refl n))
 unfold crB_Reflected.f
 rw [if_pos (by omega), if_pos (by omega), Int.toNat_natCast, L_rep, w64_id (by omega) (by omega), pre_last]
 congr 1
 exact L_congr _ _ _ (fun p hp => (if_pos hp).symm)
end Go.Proofs.Ythgaihhlbgccoaa.Rf
