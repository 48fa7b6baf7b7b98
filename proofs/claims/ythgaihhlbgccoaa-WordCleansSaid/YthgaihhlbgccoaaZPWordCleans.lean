-- Joined by pack.py, a program of this work: NoWordCleans PureWordCleans
import Derived.Test.YthgaihhlbgccoaaZQx25
import Derived.Test.YthgaihhlbgccoaaZCl
import Derived.Test.YthgaihhlbgccoaaZOp
/- Where open says 'no field': codewrightlaw11_WordCleans returns true. Printed by mkno.py. -/
namespace Go.Proofs.Ythgaihhlbgccoaa.Q
open Go.RowKit Go.Proofs.YthgaihhlbgccoaaW.PrintWords Go.Proofs.YthgaihhlbgccoaaW.PrintLast Go.Proofs.YthgaihhlbgccoaaW.PrintMore
set_option linter.unusedVariables false
set_option linter.unusedSimpArgs false
set_option maxHeartbeats 8000000 in
set_option maxRecDepth 100000 in
theorem codewrightlaw11_WordCleans.calls_no (k : Nat) (a0_0 : Int) (a0_1 : Int) (A0_2 : Option Addr) (c0_2 : Nat) (l0_2 : List Int) (A1 : Option Addr) (c1 : Nat) (l1 : List Int) (sm sx sl : List Int) (c : Int) (w : World) (hr0_2 : Kd.C (Kd.int .i64) w A0_2 l0_2.length l0_2) (hc0_2 : l0_2.length ≤ c0_2) (hr1 : Kd.C (Kd.int .i64) w A1 l1.length l1) (hc1 : l1.length ≤ c1) (hN : field_New.f k a0_0 a0_1 l0_2 = some (sm, sx, sl, 1)) (hC : codewrightref04_Check.f k a0_0 a0_1 l0_2 = some c) (hc : (c == 0) = false) :
    Calls Try.prog 3 #[.agg #[.int .i64 a0_0, .int .i64 a0_1, .slice A0_2 l0_2.length c0_2], .slice A1 l1.length c1] w fun e w' => e = .returned (.bool true) ∧ Below w.heap.size w w' := by
  have hu24 := Try.underlying24
  have HR0_2 := Aside0.mk hr0_2
  have HC0_2 := Aside0.mk hc0_2
  clear hr0_2 hc0_2
  have HB := Aside0.mk (Below.refl w.heap.size w)
  have AN := Aside0.mk hN
  have AC := Aside0.mk hC
  clear hN hC
  go_enter Try.func3, Try.ntmps3
  go_wp2_with (first | ((with_reducible refine gate_dst (N := 2) rfl ?_); (try (refine gate_guard (by rfl) ?_; dsimp only)); refine box_event ?hg (N := 2) ?hd (cs := #[.int .i64 a0_0, .int .i64 a0_1, .slice A0_2 l0_2.length c0_2]) (t := 24) ?hr ?_; (case hd => rfl); (case hg => rfl); (case hr => first | (go_simp; done) | (go_simp; rfl)); intro gb hg w7 hbox hb; have n0_ := Aside0.mk (below_step HB.out hb); have BK := Aside0.mk hbox; clear HB; have HB := n0_; clear n0_; clear hb hbox hg; have hcz8_0 : w7.cell? ⟨gb, 0, none⟩ = some (.int .i64 a0_0) := (blk_cell BK.out 0).trans rfl; have hfz8_0 := blk_frozen BK.out 0; have hcz8_1 : w7.cell? ⟨gb, 1, none⟩ = some (.int .i64 a0_1) := (blk_cell BK.out 1).trans rfl; have hfz8_1 := blk_frozen BK.out 1; have hcz8_2 : w7.cell? ⟨gb, 2, none⟩ = some (.slice A0_2 l0_2.length c0_2) := (blk_cell BK.out 2).trans rfl; have hfz8_2 := blk_frozen BK.out 2) | ((with_reducible refine gate_callee (f := 12) rfl ?_); refine goesL_ (some 11) rfl rfl Try.func12 (by kernel_rfl) rfl #[.agg #[.int .i64 a0_0, .int .i64 a0_1, .slice A0_2 l0_2.length c0_2]] rfl (by (try simp only [List.map_toArray, List.map_cons, List.map_nil]); first | done | rfl | (simp only [List.length_drop, List.length_take]; rfl)) ?_; (refine (codewrightlaw11_open.calls_no k a0_0 a0_1 _ _ l0_2 _ _ _ c _ (Kd.C_below HR0_2.out HB.out) HC0_2.out AN.out AC.out hc).mono ?_); rintro e w9 ⟨rfl, hb⟩; refine ⟨_, rfl, ?_⟩; have n0_ := Aside0.mk (below_step HB.out hb); clear HB; have HB := n0_; clear n0_ hb))
  go_ret
  exact ⟨rfl, HB.out⟩
end Go.Proofs.Ythgaihhlbgccoaa.Q
/- WordCleans: for every description of a field and every list. -/
namespace Go.Proofs.Ythgaihhlbgccoaa.Pure
open Go.RowKit Go.Proofs.Ythgaihhlbgccoaa.Q Go.Proofs.YthgaihhlbgccoaaW.PrintWords Go.Proofs.YthgaihhlbgccoaaW.PrintLast Go.Proofs.Ythgaihhlbgccoaa.Fv Go.Proofs.Ythgaihhlbgccoaa.Fo Go.Proofs.Ythgaihhlbgccoaa.Fp Go.Proofs.Ythgaihhlbgccoaa.Fn Go.Proofs.Ythgaihhlbgccoaa.Op Go.Proofs.Ythgaihhlbgccoaa.Cl

theorem WordCleans_field {P : Int} {m q : Nat} {Mod : List Int} {g : Int} (hP : P ≤ 9223372036854775807) (hq : ord P m = (q : Int)) (hf : Fld P m q Mod g)
    (ho : Ev (fun k => codewrightlaw11_open.f k P m Mod) (P, (m : Int), Mod, (q : Int), ex P m q Mod g, lo P m q Mod g, false, true)) (l : List Int) (hl : l.length ≤ 17592186044416) : Ev (fun k => codewrightlaw11_WordCleans.f k P m Mod l) true := by
  have hq2 := Pig.one_lt (show 1 < P by have := hf.s.hP; omega) hf.s.hM
  have hq3 := hf.s.hq
  unfold codewrightlaw11_WordCleans.f
  refine ho.bind ?_
  dsimp only
  refine Ev.congr (fun k => if_neg Bool.false_ne_true) ?_
  refine (clean_ev l (by omega)).bind ?_
  dsimp only
  refine (rclean_ev hP hq l (by omega)).bind ?_
  refine (same_self _ (by rw [cl_length]; omega)).bind (Ev.congr (fun k => if_pos rfl) ?_)
  refine (support_ev l hl).bind ?_
  dsimp only
  refine (rsupport_ev hP hq l hl).bind ?_
  refine (same_self _ (by have := supp_length l.length (fun t => c q (rd l (t : Int))); omega)).bind (Ev.congr (fun k => if_pos rfl) ?_)
  refine (weight_ev l hl).bind ?_
  dsimp only
  refine Ev.congr (fun k => if_pos rfl) ?_
  refine (weight_ev _ (by decide)).bind ?_
  dsimp only
  have e : supp ([1, 0, -1, 1] : List Int).length (fun t => c q (rd [1, 0, -1, 1] (t : Int))) = supp 4 (fun t => rd [1, 0, 0, 1] (t : Int)) := by
    refine supp_congr 4 _ _ (fun i hi => ?_)
    have e1 : c q 1 = 1 := c_id (by omega) (by omega)
    have e2 : c q 0 = 0 := c_id (by omega) (by omega)
    have e3 : c q (-1) = 0 := if_neg (by omega)
    obtain rfl | rfl | rfl | rfl : i = 0 ∨ i = 1 ∨ i = 2 ∨ i = 3 := by omega
    · show c q 1 = 0 ↔ (1 : Int) = 0
      rw [e1]
    · show c q 0 = 0 ↔ (0 : Int) = 0
      rw [e2]
    · show c q (-1) = 0 ↔ (0 : Int) = 0
      rw [e3]
    · show c q 1 = 0 ↔ (1 : Int) = 0
      rw [e1]
  rw [e]
  exact Ev.now _
open Go.Proofs.Ythgaihhlbgccoaa in
theorem WordCleans (a0_0 a0_1 : Int) (A0_2 : Option Addr) (c0_2 : Nat) (l0_2 : List Int) (A1 : Option Addr) (c1 : Nat) (l1 : List Int) (w : World) (hP : a0_0 ≤ 9223372036854775807)
    (hr0_2 : Kd.C (Kd.int .i64) w A0_2 l0_2.length l0_2) (hc0_2 : l0_2.length ≤ c0_2) (hr1 : Kd.C (Kd.int .i64) w A1 l1.length l1) (hc1 : l1.length ≤ c1) (y1 : l1.length * 8 ≤ 140737488351232) :
    Calls Try.prog 3 #[.agg #[.int .i64 a0_0, .int .i64 a0_1, .slice A0_2 l0_2.length c0_2], .slice A1 l1.length c1] w fun e w' => e = .returned (.bool true) ∧ Below w.heap.size w w' := by
  rcases open_or a0_0 a0_1 l0_2 hP with ⟨q, m, g, rfl, hq, hf, ho⟩ | ⟨⟨K1, h1⟩, ⟨K2, h2⟩⟩
  · obtain ⟨k, h⟩ := (WordCleans_field hP hq hf ho l1 (by omega)).rounds
    exact codewrightlaw11_WordCleans.calls k a0_0 m A0_2 c0_2 l0_2 A1 c1 l1 true w hr0_2 hc0_2 hr1 hc1 h
  · exact codewrightlaw11_WordCleans.calls_no (max K1 K2) a0_0 a0_1 A0_2 c0_2 l0_2 A1 c1 l1 [] [] [] 1 w hr0_2 hc0_2 hr1 hc1 (h1 _ (by omega)) (h2 _ (by omega)) (by decide)
end Go.Proofs.Ythgaihhlbgccoaa.Pure
