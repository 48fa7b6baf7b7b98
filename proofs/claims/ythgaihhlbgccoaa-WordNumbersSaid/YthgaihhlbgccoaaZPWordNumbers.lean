-- Joined by pack.py, a program of this work: NoWordNumbers PureWordNumbers
import Derived.Test.YthgaihhlbgccoaaZQx62
import Derived.Test.YthgaihhlbgccoaaZNm
import Derived.Test.YthgaihhlbgccoaaZOp
/- Where open says 'no field': codewrightlaw11_WordNumbers returns true. Printed by mkno.py. -/
namespace Go.Proofs.Ythgaihhlbgccoaa.Q
open Go.RowKit Go.Proofs.YthgaihhlbgccoaaW.PrintWords Go.Proofs.YthgaihhlbgccoaaW.PrintLast Go.Proofs.YthgaihhlbgccoaaW.PrintMore
set_option linter.unusedVariables false
set_option linter.unusedSimpArgs false
set_option maxHeartbeats 8000000 in
set_option maxRecDepth 100000 in
theorem codewrightlaw11_WordNumbers.calls_no (k : Nat) (a0_0 : Int) (a0_1 : Int) (A0_2 : Option Addr) (c0_2 : Nat) (l0_2 : List Int) (a1 : Int) (a2 : Int) (sm sx sl : List Int) (c : Int) (w : World) (hr0_2 : Kd.C (Kd.int .i64) w A0_2 l0_2.length l0_2) (hc0_2 : l0_2.length ≤ c0_2) (hN : field_New.f k a0_0 a0_1 l0_2 = some (sm, sx, sl, 1)) (hC : codewrightref04_Check.f k a0_0 a0_1 l0_2 = some c) (hc : (c == 0) = false) :
    Calls Try.prog 7 #[.agg #[.int .i64 a0_0, .int .i64 a0_1, .slice A0_2 l0_2.length c0_2], .int .i64 a1, .int .i64 a2] w fun e w' => e = .returned (.bool true) ∧ Below w.heap.size w w' := by
  have hu24 := Try.underlying24
  have HR0_2 := Aside0.mk hr0_2
  have HC0_2 := Aside0.mk hc0_2
  clear hr0_2 hc0_2
  have HB := Aside0.mk (Below.refl w.heap.size w)
  have AN := Aside0.mk hN
  have AC := Aside0.mk hC
  clear hN hC
  go_enter Try.func7, Try.ntmps7
  go_wp2_with (first | ((with_reducible refine gate_dst (N := 3) rfl ?_); (try (refine gate_guard (by rfl) ?_; dsimp only)); refine box_event ?hg (N := 3) ?hd (cs := #[.int .i64 a0_0, .int .i64 a0_1, .slice A0_2 l0_2.length c0_2]) (t := 24) ?hr ?_; (case hd => rfl); (case hg => rfl); (case hr => first | (go_simp; done) | (go_simp; rfl)); intro gb hg w7 hbox hb; have n0_ := Aside0.mk (below_step HB.out hb); have BK := Aside0.mk hbox; clear HB; have HB := n0_; clear n0_; clear hb hbox hg; have hcz8_0 : w7.cell? ⟨gb, 0, none⟩ = some (.int .i64 a0_0) := (blk_cell BK.out 0).trans rfl; have hfz8_0 := blk_frozen BK.out 0; have hcz8_1 : w7.cell? ⟨gb, 1, none⟩ = some (.int .i64 a0_1) := (blk_cell BK.out 1).trans rfl; have hfz8_1 := blk_frozen BK.out 1; have hcz8_2 : w7.cell? ⟨gb, 2, none⟩ = some (.slice A0_2 l0_2.length c0_2) := (blk_cell BK.out 2).trans rfl; have hfz8_2 := blk_frozen BK.out 2) | ((with_reducible refine gate_callee (f := 12) rfl ?_); refine goesL_ (some 24) rfl rfl Try.func12 (by kernel_rfl) rfl #[.agg #[.int .i64 a0_0, .int .i64 a0_1, .slice A0_2 l0_2.length c0_2]] rfl (by (try simp only [List.map_toArray, List.map_cons, List.map_nil]); first | done | rfl | (simp only [List.length_drop, List.length_take]; rfl)) ?_; (refine (codewrightlaw11_open.calls_no k a0_0 a0_1 _ _ l0_2 _ _ _ c _ (Kd.C_below HR0_2.out HB.out) HC0_2.out AN.out AC.out hc).mono ?_); rintro e w9 ⟨rfl, hb⟩; refine ⟨_, rfl, ?_⟩; have n0_ := Aside0.mk (below_step HB.out hb); clear HB; have HB := n0_; clear n0_ hb))
  go_ret
  exact ⟨rfl, HB.out⟩
end Go.Proofs.Ythgaihhlbgccoaa.Q
/- WordNumbers: for every description of a field and all numbers. -/
namespace Go.Proofs.Ythgaihhlbgccoaa.Pure
open Go.RowKit Go.Proofs.Ythgaihhlbgccoaa.Q Go.Proofs.YthgaihhlbgccoaaW.PrintWords Go.Proofs.YthgaihhlbgccoaaW.PrintLast Go.Proofs.Ythgaihhlbgccoaa.Dig Go.Proofs.Ythgaihhlbgccoaa.Fv Go.Proofs.Ythgaihhlbgccoaa.Fo Go.Proofs.Ythgaihhlbgccoaa.Fp Go.Proofs.Ythgaihhlbgccoaa.Fn Go.Proofs.Ythgaihhlbgccoaa.Op Go.Proofs.Ythgaihhlbgccoaa.Cl Go.Proofs.Ythgaihhlbgccoaa.Nm

theorem cnt_zero (q : Int) : cnt q 0 = (1, 0) := by
  unfold cnt
  rw [if_neg (by omega)]
  show (if 65536 < q ^ 0 then ((0, 8) : Int × Int) else (q ^ 0, 0)) = (1, 0)
  rw [Int.pow_zero, if_neg (by omega)]
theorem frm_length (q n x : Int) : (frm q n x).1.length < 4611686018427387904 := by
  unfold frm
  by_cases h : (cnt q n).2 = 0
  · obtain ⟨h0, h1, _, _⟩ := cnt_ok' h
    rw [if_pos h]
    split
    · simp
    · show (wd q n.toNat x).length < _
      have : (wd q n.toNat x).length = n.toNat := L_length _ _
      omega
  · rw [if_neg h]; simp
theorem WordNumbers_field {P : Int} {m q : Nat} {Mod : List Int} {g : Int} (hP : P ≤ 9223372036854775807) (hq : ord P m = (q : Int)) (hf : Fld P m q Mod g)
    (ho : Ev (fun k => codewrightlaw11_open.f k P m Mod) (P, (m : Int), Mod, (q : Int), ex P m q Mod g, lo P m q Mod g, false, true)) (n i : Int) : Ev (fun k => codewrightlaw11_WordNumbers.f k P m Mod n i) true := by
  have s := hf.s
  have hq2 := Pig.one_lt (show 1 < P by have := s.hP; omega) s.hM
  have hq3 := s.hq
  have hq4 := s.hq1
  have hlast : Ev (fun k => (word_Count.f k P m Mod q (ex P m q Mod g) (lo P m q Mod g) 0).bind fun bt621 => (if bt621.1 = 1 then (some (bt621.2.1 == 0)) else (some false))) true := by
    have h := count_ev (P := P) (m := (m : Int)) (q := (q : Int)) (Mod := Mod) (E := ex P m q Mod g) (G := lo P m q Mod g) (by omega) (by omega) 0
    rw [cnt_zero] at h
    exact h.bind (Ev.congr (fun k => if_pos rfl) (Ev.now _))
  unfold codewrightlaw11_WordNumbers.f
  refine ho.bind ?_
  dsimp only
  refine Ev.congr (fun k => if_neg Bool.false_ne_true) ?_
  refine (count_ev (by omega) (by omega) n).bind ?_
  dsimp only
  refine (rcount_ev hP hq (by omega) (by omega) n).bind ?_
  refine Ev.congr (fun k => if_pos rfl) ?_
  rw [bne_self_eq_false]
  have hfr := from_ev (P := P) (m := (m : Int)) (q := (q : Int)) (Mod := Mod) (E := ex P m q Mod g) (G := lo P m q Mod g) (by omega) (by omega) n i
  have hrf := rfrom_ev (P := P) (m := (m : Int)) (q := (q : Int)) (Mod := Mod) hP hq (by omega) (by omega) n i
  refine Ev.step (f := fun k => (word_FromIndex.f k P m Mod q (ex P m q Mod g) (lo P m q Mod g) n i).bind fun bt599 => ((codewrightref11_FromIndex.f k P m Mod n i).bind fun bt606 => (if bt599.2.1 = bt606.2 then ((codewrightref11_Same.f k bt599.1 bt606.1).bind fun t610 => (codewrightlaw11_WordNumbers.j1 k i bt599.1 bt606.2 (!t610) bt599.2.2.1 bt599.2.2.2.1 Mod bt599.2.2.2.2 (ex P m q Mod g) (lo P m q Mod g))) else (codewrightlaw11_WordNumbers.j1 k i bt599.1 bt606.2 true bt599.2.2.1 bt599.2.2.2.1 Mod bt599.2.2.2.2 (ex P m q Mod g) (lo P m q Mod g)))))
    (fun k => by simp only [codewrightlaw11_WordNumbers.j0]; rw [if_neg (by simp)]) (hfr.bind ?_)
  dsimp only
  refine hrf.bind ?_
  refine Ev.congr (fun k => if_pos rfl) ?_
  refine (same_self _ (frm_length _ _ _)).bind ?_
  rw [Bool.not_true]
  by_cases h0 : (frm q n i).2 = 0
  · have hw : ∃ t : Nat, n = (t : Int) ∧ (cnt q (t : Int)).2 = 0 ∧ 0 ≤ i ∧ i < (q : Int) ^ t ∧ (frm q n i).1 = wd q t i := by
      unfold frm at h0 ⊢
      by_cases h : (cnt q n).2 = 0
      · obtain ⟨h1, h2, h3, h4⟩ := cnt_ok' h
        obtain ⟨t, rfl⟩ := Int.eq_ofNat_of_zero_le h1
        rw [if_pos h] at h0 ⊢
        by_cases hx : i < 0 ∨ (cnt (q : Int) (t : Int)).1 ≤ i
        · rw [if_pos hx] at h0; exact absurd h0 (by decide)
        · rw [if_neg hx]
          rw [Int.toNat_natCast] at h4 ⊢
          exact ⟨t, rfl, h, by omega, by omega, rfl⟩
      · rw [if_neg h] at h0; exact absurd h0 h
    obtain ⟨t, rfl, h1, h2, h3, h4⟩ := hw
    have hix := index_ev (P := P) (m := (m : Int)) (q := (q : Int)) (Mod := Mod) (E := ex P m q Mod g) (G := lo P m q Mod g) (by omega) (by omega) (wd q t i)
    rw [idx_wd (by omega) h2 h3 h1] at hix
    rw [h4, h0]
    refine Ev.step (f := fun k => (word_Index.f k P m Mod q (ex P m q Mod g) (lo P m q Mod g) (wd q t i)).bind fun bt611 => (if bt611.1 = i then (if bt611.2.1 = 0 then ((word_Count.f k bt611.2.2.1 bt611.2.2.2.1 Mod bt611.2.2.2.2 (ex P m q Mod g) (lo P m q Mod g) 0).bind fun bt616 => (if bt616.1 = 1 then (some (bt616.2.1 == 0)) else (some false))) else (some false)) else (some false)))
      (fun k => by simp only [codewrightlaw11_WordNumbers.j1]; rw [if_neg (by simp)]; rfl) (hix.bind ?_)
    dsimp only
    refine Ev.congr (fun k => if_pos rfl) ?_
    refine Ev.congr (fun k => if_pos rfl) ?_
    exact hlast
  · refine Ev.step (fun k => ?_) hlast
    simp only [codewrightlaw11_WordNumbers.j1]
    rw [if_neg (by simp), if_neg h0]
theorem WordNumbers (a0_0 a0_1 : Int) (A0_2 : Option Addr) (c0_2 : Nat) (l0_2 : List Int) (a1 a2 : Int) (w : World) (hP : a0_0 ≤ 9223372036854775807)
    (hr0_2 : Kd.C (Kd.int .i64) w A0_2 l0_2.length l0_2) (hc0_2 : l0_2.length ≤ c0_2) (_w1 : (Lit.int .i64 a1).wf = true) (_w2 : (Lit.int .i64 a2).wf = true) :
    Calls Try.prog 7 #[.agg #[.int .i64 a0_0, .int .i64 a0_1, .slice A0_2 l0_2.length c0_2], .int .i64 a1, .int .i64 a2] w fun e w' => e = .returned (.bool true) ∧ Below w.heap.size w w' := by
  rcases open_or a0_0 a0_1 l0_2 hP with ⟨q, m, g, rfl, hq, hf, ho⟩ | ⟨⟨K1, h1⟩, ⟨K2, h2⟩⟩
  · obtain ⟨k, h⟩ := (WordNumbers_field hP hq hf ho a1 a2).rounds
    exact codewrightlaw11_WordNumbers.calls k a0_0 m A0_2 c0_2 l0_2 a1 a2 true w hr0_2 hc0_2 h
  · exact codewrightlaw11_WordNumbers.calls_no (max K1 K2) a0_0 a0_1 A0_2 c0_2 l0_2 a1 a2 [] [] [] 1 w hr0_2 hc0_2 (h1 _ (by omega)) (h2 _ (by omega)) (by decide)
end Go.Proofs.Ythgaihhlbgccoaa.Pure
