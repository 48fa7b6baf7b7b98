-- Joined by pack.py, a program of this work: Kt Op
import Derived.Test.YthgaihhlbgccoaaZKta
import Derived.Test.YthgaihhlbgccoaaZKtb
import Derived.Test.YthgaihhlbgccoaaZKtc
import Derived.Test.YthgaihhlbgccoaaZKtd
import Derived.Test.YthgaihhlbgccoaaZKte
import Derived.Test.YthgaihhlbgccoaaZF2
/- The tables joined. Printed by kertab.py. -/
namespace Go.Proofs.Ythgaihhlbgccoaa.Ker
theorem d2_2 (v : Nat) (h : v < 4) : Dec 2 2 4 v := by
 exact dec_of t2_2_0 v (by omega) (by simp; omega)
theorem d2_3 (v : Nat) (h : v < 8) : Dec 2 3 8 v := by
 exact dec_of t2_3_0 v (by omega) (by simp; omega)
theorem d2_4 (v : Nat) (h : v < 16) : Dec 2 4 16 v := by
 exact dec_of t2_4_0 v (by omega) (by simp; omega)
theorem d2_5 (v : Nat) (h : v < 32) : Dec 2 5 32 v := by
 exact dec_of t2_5_0 v (by omega) (by simp; omega)
theorem d2_6 (v : Nat) (h : v < 64) : Dec 2 6 64 v := by
 exact dec_of t2_6_0 v (by omega) (by simp; omega)
theorem d2_7 (v : Nat) (h : v < 128) : Dec 2 7 128 v := by
 by_cases h0 : v < 64
 ·exact dec_of t2_7_0 v (by omega) (by simp; omega)
 exact dec_of t2_7_64 v (by omega) (by simp; omega)
theorem d2_8 (v : Nat) (h : v < 256) : Dec 2 8 256 v := by
 by_cases h0 : v < 32
 ·exact dec_of t2_8_0 v (by omega) (by simp; omega)
 by_cases h1 : v < 64
 ·exact dec_of t2_8_32 v (by omega) (by simp; omega)
 by_cases h2 : v < 96
 ·exact dec_of t2_8_64 v (by omega) (by simp; omega)
 by_cases h3 : v < 128
 ·exact dec_of t2_8_96 v (by omega) (by simp; omega)
 by_cases h4 : v < 160
 ·exact dec_of t2_8_128 v (by omega) (by simp; omega)
 by_cases h5 : v < 192
 ·exact dec_of t2_8_160 v (by omega) (by simp; omega)
 by_cases h6 : v < 224
 ·exact dec_of t2_8_192 v (by omega) (by simp; omega)
 exact dec_of t2_8_224 v (by omega) (by simp; omega)
theorem d3_2 (v : Nat) (h : v < 9) : Dec 3 2 9 v := by
 exact dec_of t3_2_0 v (by omega) (by simp; omega)
theorem d3_3 (v : Nat) (h : v < 27) : Dec 3 3 27 v := by
 exact dec_of t3_3_0 v (by omega) (by simp; omega)
theorem d3_4 (v : Nat) (h : v < 81) : Dec 3 4 81 v := by
 by_cases h0 : v < 64
 ·exact dec_of t3_4_0 v (by omega) (by simp; omega)
 exact dec_of t3_4_64 v (by omega) (by simp; omega)
theorem d3_5 (v : Nat) (h : v < 243) : Dec 3 5 243 v := by
 by_cases h0 : v < 64
 ·exact dec_of t3_5_0 v (by omega) (by simp; omega)
 by_cases h1 : v < 128
 ·exact dec_of t3_5_64 v (by omega) (by simp; omega)
 by_cases h2 : v < 192
 ·exact dec_of t3_5_128 v (by omega) (by simp; omega)
 exact dec_of t3_5_192 v (by omega) (by simp; omega)
theorem d5_2 (v : Nat) (h : v < 25) : Dec 5 2 25 v := by
 exact dec_of t5_2_0 v (by omega) (by simp; omega)
theorem d5_3 (v : Nat) (h : v < 125) : Dec 5 3 125 v := by
 by_cases h0 : v < 64
 ·exact dec_of t5_3_0 v (by omega) (by simp; omega)
 exact dec_of t5_3_64 v (by omega) (by simp; omega)
theorem d7_2 (v : Nat) (h : v < 49) : Dec 7 2 49 v := by
 exact dec_of t7_2_0 v (by omega) (by simp; omega)
theorem d11_2 (v : Nat) (h : v < 121) : Dec 11 2 121 v := by
 by_cases h0 : v < 64
 ·exact dec_of t11_2_0 v (by omega) (by simp; omega)
 exact dec_of t11_2_64 v (by omega) (by simp; omega)
theorem d13_2 (v : Nat) (h : v < 169) : Dec 13 2 169 v := by
 by_cases h0 : v < 64
 ·exact dec_of t13_2_0 v (by omega) (by simp; omega)
 by_cases h1 : v < 128
 ·exact dec_of t13_2_64 v (by omega) (by simp; omega)
 exact dec_of t13_2_128 v (by omega) (by simp; omega)
theorem pairs : ∀ p : Fin 17, ∀ m : Fin 9, 2 ≤ m.val → Fo.pr p.val = true → 2 ≤ p.val → p.val ^ m.val ≤ 256 → (p.val, m.val) ∈ [(2, 2), (2, 3), (2, 4), (2, 5), (2, 6), (2, 7), (2, 8), (3, 2), (3, 3), (3, 4), (3, 5), (5, 2), (5, 3), (7, 2), (11, 2), (13, 2)] := by decide +kernel
theorem dec_all (p m v : Nat) (hm : 2 ≤ m) (hm1 : m ≤ 8) (hp : Fo.pr p = true) (hp2 : 2 ≤ p) (hq : p ^ m ≤ 256) (hv : v < p ^ m) : Dec p m (p ^ m) v := by
 have hp1 : p ≤ 16 := by
  refine Classical.byContradiction fun h => ?_
  have h1 : 17 ^ 2 ≤ p ^ 2 := Nat.pow_le_pow_left (by omega) 2
  have h2 : p ^ 2 ≤ p ^ m := Nat.pow_le_pow_right (by omega) hm
  omega
 have h := pairs ⟨p, by omega⟩ ⟨m, by omega⟩ hm hp hp2 hq
 simp only [List.mem_cons, List.not_mem_nil, or_false, Prod.mk.injEq] at h
 rcases h with ⟨rfl, rfl⟩ | ⟨rfl, rfl⟩ | ⟨rfl, rfl⟩ | ⟨rfl, rfl⟩ | ⟨rfl, rfl⟩ | ⟨rfl, rfl⟩ | ⟨rfl, rfl⟩ | ⟨rfl, rfl⟩ | ⟨rfl, rfl⟩ | ⟨rfl, rfl⟩ | ⟨rfl, rfl⟩ | ⟨rfl, rfl⟩ | ⟨rfl, rfl⟩ | ⟨rfl, rfl⟩ | ⟨rfl, rfl⟩ | ⟨rfl, rfl⟩
 ·exact d2_2 v hv
 ·exact d2_3 v hv
 ·exact d2_4 v hv
 ·exact d2_5 v hv
 ·exact d2_6 v hv
 ·exact d2_7 v hv
 ·exact d2_8 v hv
 ·exact d3_2 v hv
 ·exact d3_3 v hv
 ·exact d3_4 v hv
 ·exact d3_5 v hv
 ·exact d5_2 v hv
 ·exact d5_3 v hv
 ·exact d7_2 v hv
 ·exact d11_2 v hv
 ·exact d13_2 v hv
end Go.Proofs.Ythgaihhlbgccoaa.Ker
/- New and Check agree; what open answers. -/
namespace Go.Proofs.Ythgaihhlbgccoaa.Op
open Go.RowKit Go.Proofs.Ythgaihhlbgccoaa.Q Go.Proofs.YthgaihhlbgccoaaW.PrintWords Go.Proofs.YthgaihhlbgccoaaW.PrintLast Go.Proofs.Ythgaihhlbgccoaa.Ring Go.Proofs.Ythgaihhlbgccoaa.Dig Go.Proofs.Ythgaihhlbgccoaa.Fv Go.Proofs.Ythgaihhlbgccoaa.Fm Go.Proofs.Ythgaihhlbgccoaa.Fo Go.Proofs.Ythgaihhlbgccoaa.Fs Go.Proofs.Ythgaihhlbgccoaa.Pig Go.Proofs.Ythgaihhlbgccoaa.Fp Go.Proofs.Ythgaihhlbgccoaa.Ker Go.Proofs.Ythgaihhlbgccoaa.Fn

theorem irr {P : Int} {M q : Nat} {Mod : List Int} (s : Sized P M q Mod) (hm : 1 < M) (hp : pr P = true) :
  ((∃ g, Gen P M q Mod g) ∧ Ev (fun k => cr4_irreducible.f k Mod P) true) ∨ ((∀ g, ¬ Gen P M q Mod g) ∧ Ev (fun k => cr4_irreducible.f k Mod P) false) := by
 refine dec_field s hm (fun v hv => ?_)
 have h2 := s.hP
 have hq := s.hq
 have hq1 := s.hq1
 obtain ⟨p, rfl⟩ := Int.eq_ofNat_of_zero_le (show 0 ≤ P by omega)
 have e : q = p ^ M := by
  have h3 : ((p ^ M : Nat) : Int) = (p : Int) ^ M := Int.natCast_pow p M
  omega
 subst e
 exact dec_all p M v (by omega) s.hM1 hp (by omega) hq1 hv
theorem prim1 {P : Int} {q : Nat} {Mod : List Int} (s : Sized P 1 q Mod) (hp : pr P = true) : ∃ g, Gen P 1 q Mod g := by
 have h2 := s.hP
 have h1 := s.hP1
 have hq := s.hq
 obtain ⟨p, rfl⟩ := Int.eq_ofNat_of_zero_le (show 0 ≤ P by omega)
 rw [Int.pow_succ, Int.pow_zero] at hq
 have e : q = p := by omega
 subst e
 obtain ⟨h3, h4, h5⟩ := tprimes ⟨q, by omega⟩ (by show 2 ≤ q; omega) hp
 have h4' : 1 ≤ roots.getD q 0 := h4
 have h5' : roots.getD q 0 < q := h5
 refine ⟨((roots.getD q 0 : Nat) : Int), by omega, by omega, ?_⟩
 have eL : ([0] : List Int) = L 1 (low 1 Mod) := by
  rw [L_cons, L_nil]; rfl
 have h3' : pw (q : Int) 1 (L 1 (low 1 Mod)) (digsT (q : Int) 1 (roots.getD q 0 : Nat)) (q - 2) (roots.getD q 0) = true := by
  rw [← eL]; exact h3
 exact pw_ord (by omega) (by omega) (by rw [Int.pow_succ, Int.pow_zero]; omega) _ h4 (by exact h5) h3'
/-- What open answers where there is a field, and what New and Check answer elsewhere. -/
theorem open_or (P M : Int) (Mod : List Int) (hP : P ≤ 9223372036854775807) :
  (∃ (q m : Nat) (g : Int), M = (m : Int) ∧ ord P M = (q : Int) ∧ Fld P m q Mod g ∧ Ev (fun k => cw_open.f k P M Mod) (P, M, Mod, (q : Int), ex P m q Mod g, lo P m q Mod g, false, true)) ∨
  (Ev (fun k => field_New.f k P M Mod) ([], [], [], 1) ∧ Ev (fun k => cr4_Check.f k P M Mod) 1) := by
 by_cases h : Sh P M Mod
 ·obtain ⟨q, m, rfl, e2, s, hn⟩ := new_sh h
  have hck : ∀ r : Int, (∃ g, Gen P m q Mod g) ∧ r = 0 ∨ (∀ g, ¬ Gen P m q Mod g) ∧ r = 1 → Ev (fun k => cr4_Check.f k P m Mod) r := by
   intro r hr
   refine check_yes r h (fun hm => ?_) (fun hm => ?_)
   ·have hm' : m = 1 := by omega
    subst hm'
    have := prim1 s h.2.1
    rcases hr with ⟨_, hr⟩ | ⟨hr, _⟩
    ·exact hr
    ·exact absurd this.choose_spec (hr _)
   ·have hM := s.hM
    rcases irr s (by omega) h.2.1 with ⟨⟨g, hg⟩, hi⟩ | ⟨hno, hi⟩
    ·rcases hr with ⟨_, rfl⟩ | ⟨hr, _⟩
     ·exact hi.bind (Ev.congr (fun k => if_pos rfl) (Ev.now _))
     ·exact absurd hg (hr _)
    ·rcases hr with ⟨⟨g, hg⟩, _⟩ | ⟨_, rfl⟩
     ·exact absurd hg (hno _)
     ·exact hi.bind (Ev.congr (fun k => if_neg (by decide)) (Ev.now _))
  rcases hn with ⟨g, hg, hev⟩ | ⟨hno, hev⟩
  ·refine .inl ⟨q, m, g, rfl, e2, ⟨s, hg⟩, ?_⟩
   have ho := order_ev P m
   rw [e2] at ho
   unfold cw_open.f
   exact hev.bind ((hck 0 (.inl ⟨⟨g, hg⟩, rfl⟩)).bind (ho.bind (Ev.now _)))
  ·exact .inr ⟨hev, hck 1 (.inr ⟨hno, rfl⟩)⟩
 ·exact .inr ⟨new_nosh h, check_no hP h⟩
end Go.Proofs.Ythgaihhlbgccoaa.Op
