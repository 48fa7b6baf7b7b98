import Derived.Test.YthgaihhlbgccoaaZQb
-- Written by a program of this work over the kit's printer; Lean checks it.
namespace Go.Proofs.Ythgaihhlbgccoaa.Q
open Go.RowKit Go.Proofs.YthgaihhlbgccoaaW.PrintWords Go.Proofs.YthgaihhlbgccoaaW.PrintLast Go.Proofs.YthgaihhlbgccoaaW.PrintMore
attribute [local go_sem] max2_int min2_int max_two min_two max_three min_three max_four min_four   -- for this text's walks alone
set_option linter.unusedVariables false
set_option linter.unusedSimpArgs false

/-! ### word_walker_next: function 48 -/
/-- All blocks keep what they hold, but rows of whole numbers and of bools. -/
def KT (w w' : World) : Prop := w.heap.size ≤ w'.heap.size ∧ ∀ (k : Nat) (cells : Array Value) (t : TypeId), w.heap[k]? = some (.cells cells t (0, 0)) → t ≠ 3 → t ≠ 4 → w'.heap[k]? = some (.cells cells t (0, 0))
theorem KT.refl (w : World) : KT w w := ⟨Nat.le_refl _, fun _ _ _ h _ _ => h⟩
theorem KT.trans {w w1 w2 : World} (h : KT w w1) (h2 : KT w1 w2) : KT w w2 := ⟨Nat.le_trans h.1 h2.1, fun k c t h1 h3 h4 => h2.2 k c t (h.2 k c t h1 h3 h4) h3 h4⟩
theorem KT.drew {w W : World} (h : KT w W) : KT w W.drew := h
theorem KT.drewN {w W : World} (h : KT w W) (n : Nat) : KT w (W.drewN n) := h
theorem KT.below {w W W1 : World} (h : KT w W) (hb : Below W.heap.size W W1) : KT w W1 := ⟨Nat.le_trans h.1 hb.size, fun k c t h1 h2 h3 => blk_below (h.2 k c t h1 h2 h3) hb⟩
theorem KT.alloc {w W : World} (h : KT w W) (o : Obj) : KT w (W.alloc o) := h.below (below_alloc (Below.refl _ _) o)
theorem KT.grown {w W W1 : World} {row : Option Nat} {t : Nat} (h : KT w W) (hg : W.grownBy W1 row) (hty : ∀ k, row = some k → ∃ cells, W.heap[k]? = some (.cells cells t (0, 0))) (ht : t = 3 ∨ t = 4) : KT w W1 :=
 ⟨Nat.le_trans h.1 hg.size, fun k c t' h1 h2 h3 => blk_grown (h.2 k c t' h1 h2 h3) hg (fun e => by
  obtain ⟨cs, hc⟩ := hty k e.symm
  have h4 := (h.2 k c t' h1 h2 h3).symm.trans hc
  simp at h4
  obtain ⟨_, rfl⟩ := h4
  rcases ht with ht | ht
  ·exact h2 ht
  ·exact h3 ht)⟩
theorem KT.setn {w W : World} (h : KT w W) {p : Addr} (hp : w.heap.size ≤ p.block) (u : Value) : KT w (W.setCell p u) :=
 ⟨by simpa [World.setCell] using h.1, fun k c t h1 h2 h3 => (Below.heap_setCell W p u k (by have := blk_lt h1; omega)).trans (h.2 k c t h1 h2 h3)⟩
theorem KT.set {w W : World} (h : KT w W) {g j t : Nat} {cs : Array Value} (hb : W.heap[g]? = some (.cells cs t (0, 0))) (ht : t = 3 ∨ t = 4) (u : Value) : KT w (W.setCell ⟨g, j, none⟩ u) :=
 ⟨by simpa [World.setCell] using h.1, fun k c t' h1 h2 h3 => (Below.heap_setCell W _ u k (by
  rintro rfl
  have h4 := (h.2 _ c t' h1 h2 h3).symm.trans hb
  simp at h4
  obtain ⟨_, rfl⟩ := h4
  rcases ht with ht | ht
  ·exact h2 ht
  ·exact h3 ht)).trans (h.2 k c t' h1 h2 h3)⟩
theorem R_but {α : Type} {d : Kd α} {e base t : Nat} {w w1 : World} {v : Value} {xs : List α} (h : d.R e w base (fun _ => True) v xs) {g : Nat} {cells : Array Value} (hb : w.heap[g]? = some (.cells cells t (0, 0))) (ht : ∀ q, q ∈ e :: d.E → q ≠ t) (hm : ∀ k, k ≠ g → w1.heap[k]? = w.heap[k]?) : d.R e w1 base (fun _ => True) v xs :=
 Kd.R_mono (Kd.R_move (Kd.R_types h hb ht) (fun k hk => hm k hk.2)) (fun _ _ => trivial)
/-- The walker at g: its q, its word and its directions. -/
def Wk (w0 w : World) (g : Nat) (v1 v2 : Value) (q : Int) (l1 : List Int) (l2 : List Bool) : Prop :=
 Below w0.heap.size w0 w ∧ w0.heap.size ≤ g ∧ w.heap[g]? = some (.cells #[.int .i64 q, v1, v2] 84 (0, 0)) ∧ Kd.R (Kd.int .i64) 3 w w0.heap.size (fun _ => True) v1 l1 ∧ Kd.R Kd.bool 4 w w0.heap.size (fun _ => True) v2 l2
def word_walker_next.l0 : Nat → Int → Int → List Int → List Bool → Option (Int × Int × Int × Bool × List Int × List Bool)
 | 0, _, _, _, _ => none
 | k + 1, x0, x4, x900, x901 => if x4 ≥ 0 then (if 0 ≤ x4 then (if x4 < (x900.length : Int) then (if x4 < (x901.length : Int) then (if rdOf false x901 x4 = true then (if (wrap64 ((rd x900 x4) - 1)) < 0 then (word_walker_next.l0 k x0 (wrap64 (x4 - 1)) x900 (x901.set (x4 : Int).toNat (!(rdOf false x901 x4)))) else (if (wrap64 ((rd x900 x4) - 1)) ≥ x0 then (word_walker_next.l0 k x0 (wrap64 (x4 - 1)) x900 (x901.set (x4 : Int).toNat (!(rdOf false x901 x4)))) else (some (x4, rd x900 x4, wrap64 ((rd x900 x4) - 1), true, x900.set (x4 : Int).toNat (wrap64 ((rd x900 x4) - 1)), x901)))) else (if (wrap64 ((rd x900 x4) + 1)) < 0 then (word_walker_next.l0 k x0 (wrap64 (x4 - 1)) x900 (x901.set (x4 : Int).toNat (!(rdOf false x901 x4)))) else (if (wrap64 ((rd x900 x4) + 1)) ≥ x0 then (word_walker_next.l0 k x0 (wrap64 (x4 - 1)) x900 (x901.set (x4 : Int).toNat (!(rdOf false x901 x4)))) else (some (x4, rd x900 x4, wrap64 ((rd x900 x4) + 1), true, x900.set (x4 : Int).toNat (wrap64 ((rd x900 x4) + 1)), x901))))) else (none)) else (none)) else (none)) else (some (0, 0, 0, false, x900, x901))
def word_walker_next.f (k : Nat) (a0 : Int) (l1 : List Int) (l2 : List Bool) : Option (Int × Int × Int × Bool × List Int × List Bool) := word_walker_next.l0 k a0 (wrap64 ((l1.length : Int) - 1)) l1 l2
theorem word_walker_next.mono_l : ∀ k, (∀ y0 y1 y2 y3, LeO (word_walker_next.l0 k y0 y1 y2 y3) (word_walker_next.l0 (k + 1) y0 y1 y2 y3))
 | 0 => fun _ _ _ _ r h => by simp [word_walker_next.l0] at h
 | k + 1 => by
  have ih0 := word_walker_next.mono_l k
  ·intro y0 y1 y2 y3
   unfold word_walker_next.l0
   repeat' first
   | (with_reducible exact ih0 _ _ _ _)
   | (with_reducible exact LeO.refl _)
   | (with_reducible exact LeO.none _)
   | (with_reducible refine LeO.ite ?_ ?_)
   | (with_reducible refine LeO.bind ?_ (fun _ => ?_))
   | exact ih0 _ _ _ _
   | exact LeO.none _
   | refine LeO.ite ?_ ?_
   | refine LeO.bind ?_ (fun _ => ?_)
theorem word_walker_next.mono : ∀ a0 l1 l2 k, LeO (word_walker_next.f k a0 l1 l2) (word_walker_next.f (k + 1) a0 l1 l2) := fun _ _ _ k => word_walker_next.mono_l k _ _ _ _
def word_walker_next.T9 : Bool × List (List Nat × List Nat) := (true, [([], []), ([0], [0]), ([1], [1]), ([2], [2]), ([], []), ([], []), ([5], [5]), ([6], [6]), ([7], [7]), ([], []), ([8, 9], [8, 9]), ([10], [10]), ([11], [11]), ([3, 4, 0, 1, 2, 3, 4, 5, 6, 7, 8, 9, 10, 11, 12], [3, 4]), ([13, 12, 0, 1, 2, 3, 4, 5, 6, 7, 8, 9, 10, 11, 12], [12, 13])])
def word_walker_next.B9 : List Nat := [0, 1, 3, 7, 0, 0, 32, 96, 224, 0, 992, 2016, 4064, 8191, 16383]
theorem word_walker_next.tab9 : rtab .any (opsOf Try.f48 9) = word_walker_next.T9 := by kernel_rfl
theorem word_walker_next.bits9 : waitsOk word_walker_next.T9.2 word_walker_next.B9 = true := by kernel_rfl

set_option maxHeartbeats 8000000 in
set_option maxRecDepth 100000 in
theorem word_walker_next.calls (k : Nat) (g : Nat) (v1 v2 : Value) (a0 : Int) (l1 : List Int) (l2 : List Bool) (r1 : Int) (r2 : Int) (r3 : Int) (r4 : Bool) (r5 : List Int) (r6 : List Bool) (w0 w : World) (hs : Wk w0 w g v1 v2 a0 l1 l2) (h : word_walker_next.f k a0 l1 l2 = some (r1, r2, r3, r4, r5, r6)) :
  Calls Try.prog 48 #[.pointer (some ⟨g, 0, none⟩)] w fun e w' => e = .returned (.tuple #[.agg #[.int .i64 r1, .int .i64 r2, .int .i64 r3], .bool r4]) ∧ Wk w0 w' g v1 v2 a0 r5 r6 ∧ KT w w' := by
 have hu45 := Try.underlying45
 have hu84 := Try.underlying84
 obtain ⟨hb0, hg0, hB0, hR1, hR2⟩ := hs
 have HB := Aside0.mk hb0
 have GW := Aside0.mk hg0
 have BKW := Aside0.mk hB0
 have HO167 := Aside0.mk hR1
 have HO170 := Aside0.mk hR2
 have HKT := Aside0.mk (KT.refl w)
 clear hb0 hg0 hB0 hR1 hR2
 have H' : Aside0 (word_walker_next.l0 k a0 (wrap64 ((l1.length : Int) - 1)) l1 l2 = some (r1, r2, r3, r4, r5, r6)) := ⟨h⟩
 clear h
 obtain ⟨Ao11, co11, eo11⟩ := Kd.R_slice HO167.out
 subst eo11
 go_enter Try.func48, Try.ntmps48
 go_wp2_with ((with_reducible refine gate_dst (N := 2) rfl ?_); refine box_event ?hg (N := 2) ?hd (cs := #[.int .i64 0, .int .i64 0, .int .i64 0]) (t := 45) ?hr ?_; (case hd => rfl); (case hg => rfl); (case hr => first | (go_simp; done) | (go_simp; rfl)); intro gb171 hg w10 hbox hb; have n0_ := Aside0.mk (Kd.R_below (by (with_reducible repeat (first | apply Kd.R_alloc | apply Kd.R_drewN | apply Kd.R_drew)); exact HO167.out) hb); have n1_ := Aside0.mk (Kd.R_below (by (with_reducible repeat (first | apply Kd.R_alloc | apply Kd.R_drewN | apply Kd.R_drew)); exact HO170.out) hb); have n2_ := Aside0.mk (below_step (by repeat (first | (with_reducible first | exact HB.out | apply below_alloc | apply pw_below_drewN | apply below_drew1) | exact HB.out)) hb); have n3_ := Aside0.mk (hbox); have n4_ := Aside0.mk ((by rw [hg]; exact (below_size (by repeat (first | (with_reducible first | exact HB.out | apply below_alloc | apply pw_below_drewN | apply below_drew1) | exact HB.out))) : w0.heap.size ≤ gb171)); have n5_ := Aside0.mk ((by rw [hg]; exact (below_size (by repeat (first | (with_reducible first | exact HB.out | apply below_alloc | apply pw_below_drewN | apply below_drew1) | exact HB.out))) : w0.heap.size ≤ gb171)); have nw_ := Aside0.mk (blk_below (by (with_reducible repeat (first | refine blk_drewN ?_ _ | refine blk_drew ?_ | refine blk_alloc ?_ _)); exact BKW.out) hb); have nk_ := Aside0.mk (KT.below (by repeat (first | exact HKT.out | apply KT.drewN | apply KT.drew | apply KT.alloc)) hb); have ng_ := Aside0.mk ((by rw [hg]; exact (show KT w _ by repeat (first | exact HKT.out | apply KT.drewN | apply KT.drew | apply KT.alloc)).1) : w.heap.size ≤ gb171); clear BKW; clear HKT; have BKW := nw_; have HKT := nk_; have GN171 := ng_; clear nw_ nk_ ng_; clear HO167; clear HO170; clear HB; have HO167 := n0_; have HO170 := n1_; have HB := n2_; have BK171 := n3_; have GW171 := n4_; have GE171 := n5_; clear n0_ n1_ n2_ n3_ n4_ n5_; clear hb hbox hg; have hcw10_1 : w10.cell? ⟨g, 1, none⟩ = some (.slice Ao11 l1.length co11) := (blk_cell BKW.out 1).trans rfl)
 go_loopg [4] k (fun kq v4 w' => ∃ (x4_1 : Int) (x900_1 : List Int) (x901_1 : List Bool) (x172000_1 : Int) (x172001_1 : Int) (x172002_1 : Int), v4 = .int .i64 x4_1 ∧ Aside0 (word_walker_next.l0 kq a0 x4_1 x900_1 x901_1 = some (r1, r2, r3, r4, r5, r6)) ∧ Aside0 (kq ≤ k) ∧ Aside0 (Kd.R (Kd.int .i64) 3 w' w0.heap.size (fun _ => True) (.slice Ao11 l1.length co11) x900_1) ∧ Aside0 (Kd.R Kd.bool 4 w' w0.heap.size (fun _ => True) v2 x901_1) ∧ Aside0 (w'.heap[gb171]? = some (.cells #[.int .i64 x172000_1, .int .i64 x172001_1, .int .i64 x172002_1] 45 (0, 0))) ∧ Aside0 (Below w0.heap.size w0 w') ∧ Aside0 (w'.heap[g]? = some (.cells #[.int .i64 a0, .slice Ao11 l1.length co11, v2] 84 (0, 0))) ∧ Aside0 (KT w w'))
 case atStart => exact ⟨(wrap64 ((l1.length : Int) - 1)), (l1), (l2), (0), (0), (0), (by first | rfl | (simp; done) | (simp [*]; done)), H', ⟨Nat.le_refl _⟩, ⟨by (with_reducible repeat (first | apply Kd.R_alloc | apply Kd.R_drewN | apply Kd.R_drew)); exact HO167.out⟩, ⟨by (with_reducible repeat (first | apply Kd.R_alloc | apply Kd.R_drewN | apply Kd.R_drew)); exact HO170.out⟩, ⟨by (with_reducible repeat (first | refine blk_drewN ?_ _ | refine blk_drew ?_ | refine blk_alloc ?_ _)); exact BK171.out⟩, ⟨by repeat (first | (with_reducible first | exact HB.out | apply below_alloc | apply pw_below_drewN | apply below_drew1 | refine below_set ?_ GE171.out) | exact HB.out)⟩, ⟨by (with_reducible repeat (first | refine blk_drewN ?_ _ | refine blk_drew ?_ | refine blk_alloc ?_ _)); exact BKW.out⟩, ⟨by repeat (first | exact HKT.out | apply KT.drewN | apply KT.drew | apply KT.alloc)⟩⟩
 case round =>
  clear H'
  try clear p2
  try clear c3
  try clear c3b0
  try clear c3b1
  try clear c4
  try clear c4b0
  try clear c4b1
  try clear c5
  try clear c5b0
  try clear c5b1
  try clear p6
  obtain ⟨x4_1, x900_1, x901_1, x172000_1, x172001_1, x172002_1, rfl, HA, HK1, HO_900, HO_901, BK171, HB, BKW, HKT⟩ := hrel
  have hl900_1 := (Kd.R_reads' HO_900.out).1
  rw [hl900_1] at HO_900
  (try simp only [hl900_1])
  (try simp only [hl900_1] at BK171)
  (try simp only [hl900_1] at BKW)
  (try simp only [hl900_1] at HO_901)
  cases gk with
  | zero => exact absurd HA.out (by simp [word_walker_next.l0])
  | succ k1 =>
   have H := HA.out
   clear HA
   simp only [word_walker_next.l0] at H
   by_cases c12 : x4_1 ≥ 0
   ·rw [if_pos c12] at H
    have c12b0 : decide (0 ≤ x4_1) = true := decide_eq_true c12
    clear c12
    by_cases c13 : 0 ≤ x4_1
    ·rw [if_pos c13] at H
     have c13b0 : decide (0 ≤ x4_1) = true := decide_eq_true c13
     clear c13
     by_cases c14 : x4_1 < (x900_1.length : Int)
     ·rw [if_pos c14] at H
      have c14b0 : decide (x4_1 < (x900_1.length : Int)) = true := decide_eq_true c14
      (try (have c14b0h0 := c14b0; simp only [hl900_1] at c14b0h0))
      clear c14
      by_cases c15 : x4_1 < (x901_1.length : Int)
      ·rw [if_pos c15] at H
       have c15b0 : decide (x4_1 < (x901_1.length : Int)) = true := decide_eq_true c15
       (try (have c15b0h0 := c15b0; simp only [hl900_1] at c15b0h0))
       clear c15
       obtain ⟨bq16, hbq16⟩ : ∃ b_ : Bool, b_ = (rdOf false x901_1 x4_1) := ⟨_, rfl⟩
       replace H : (if bq16 = true then (if (wrap64 ((rd x900_1 x4_1) - 1)) < 0 then (word_walker_next.l0 k1 a0 (wrap64 (x4_1 - 1)) x900_1 (x901_1.set (x4_1 : Int).toNat (!(bq16)))) else (if (wrap64 ((rd x900_1 x4_1) - 1)) ≥ a0 then (word_walker_next.l0 k1 a0 (wrap64 (x4_1 - 1)) x900_1 (x901_1.set (x4_1 : Int).toNat (!(bq16)))) else (some (x4_1, rd x900_1 x4_1, wrap64 ((rd x900_1 x4_1) - 1), true, x900_1.set (x4_1 : Int).toNat (wrap64 ((rd x900_1 x4_1) - 1)), x901_1)))) else (if (wrap64 ((rd x900_1 x4_1) + 1)) < 0 then (word_walker_next.l0 k1 a0 (wrap64 (x4_1 - 1)) x900_1 (x901_1.set (x4_1 : Int).toNat (!(bq16)))) else (if (wrap64 ((rd x900_1 x4_1) + 1)) ≥ a0 then (word_walker_next.l0 k1 a0 (wrap64 (x4_1 - 1)) x900_1 (x901_1.set (x4_1 : Int).toNat (!(bq16)))) else (some (x4_1, rd x900_1 x4_1, wrap64 ((rd x900_1 x4_1) + 1), true, x900_1.set (x4_1 : Int).toNat (wrap64 ((rd x900_1 x4_1) + 1)), x901_1))))) = some (r1, r2, r3, r4, r5, r6) := by rw [← hbq16] at H; exact H
       have Nbq16 := Aside0.mk hbq16
       clear hbq16
       by_cases c17 : bq16 = true
       ·subst c17
        have H1 : (if (wrap64 ((rd x900_1 x4_1) - 1)) < 0 then (word_walker_next.l0 k1 a0 (wrap64 (x4_1 - 1)) x900_1 (x901_1.set (x4_1 : Int).toNat (!(true)))) else (if (wrap64 ((rd x900_1 x4_1) - 1)) ≥ a0 then (word_walker_next.l0 k1 a0 (wrap64 (x4_1 - 1)) x900_1 (x901_1.set (x4_1 : Int).toNat (!(true)))) else (some (x4_1, rd x900_1 x4_1, wrap64 ((rd x900_1 x4_1) - 1), true, x900_1.set (x4_1 : Int).toNat (wrap64 ((rd x900_1 x4_1) - 1)), x901_1)))) = some (r1, r2, r3, r4, r5, r6) := by rw [if_pos rfl] at H; exact H
        clear H
        have H := H1
        clear H1
        by_cases c18 : (wrap64 ((rd x900_1 x4_1) - 1)) < 0
        ·rw [if_pos c18] at H
         have c18b0 : decide ((wrap64 ((rd x900_1 x4_1) - 1)) < 0) = true := decide_eq_true c18
         clear c18
         obtain ⟨y175, hy175⟩ : ∃ y_ : List Bool, y_ = (x901_1.set (x4_1 : Int).toNat (!(true))) := ⟨_, rfl⟩
         replace H : (word_walker_next.l0 k1 a0 (wrap64 (x4_1 - 1)) x900_1 y175) = some (r1, r2, r3, r4, r5, r6) := by first | (rw [hy175]; with_reducible exact H) | (have H2_ := (Option.bind_some _ _).symm.trans H; rw [hy175]; with_reducible exact H2_) | (have H2_ := (Option.bind_some _ _).symm.trans H; with_reducible exact H2_) | with_reducible exact H | (rw [hy175]; exact H) | exact H
         have Ny175 := Aside0.mk hy175
         clear hy175
         have H' := Aside0.mk H
         clear H
         have hcw0 : wr.cell? ⟨g, 0, none⟩ = some (.int .i64 a0) := (blk_cell BKW.out 0).trans rfl
         have hcw1 : wr.cell? ⟨g, 1, none⟩ = some (.slice Ao11 x900_1.length co11) := (blk_cell BKW.out 1).trans rfl
         have hcw2 : wr.cell? ⟨g, 2, none⟩ = some (v2) := (blk_cell BKW.out 2).trans rfl
         have p172 : 0 ≤ (x4_1 : Int) := of_decide_eq_true (by first | (with_reducible assumption) | assumption)
         have q172 : x4_1 < (x900_1.length : Int) := of_decide_eq_true (by first | (with_reducible assumption) | assumption)
         obtain ⟨ad172, e172, hx172_0⟩ := Kd.at_int (Kd.R_reads' HO_900.out).2.2 x4_1 p172 q172
         cases e172
         replace p172 := eq_true p172
         replace q172 := eq_true q172
         obtain ⟨Ao20, co20, eo20⟩ := Kd.R_slice HO_901.out
         subst eo20
         have p173 : 0 ≤ (x4_1 : Int) := of_decide_eq_true (by first | (with_reducible assumption) | assumption)
         have q173 : x4_1 < (x901_1.length : Int) := of_decide_eq_true (by first | (with_reducible assumption) | assumption)
         obtain ⟨ad173, e173, hx173_0⟩ := Kd.at_bool (Kd.R_reads' HO_901.out).2.2 x4_1 p173 q173
         (try rw [← Nbq16.out] at hx173_0)
         cases e173
         replace p173 := eq_true p173
         replace q173 := eq_true q173
         try go_wp2
         have n0_ := Aside0.mk (Kd.R_drew HO_900.out)
         have n1_ := Aside0.mk (Kd.R_drew HO_901.out)
         have n2_ := Aside0.mk (blk_drew BK171.out)
         have n3_ := Aside0.mk (below_drew1 HB.out)
         clear HO_900
         clear HO_901
         clear BK171
         clear HB
         have HO_900 := n0_
         have HO_901 := n1_
         have BK171 := n2_
         have HB := n3_
         clear n0_ n1_ n2_ n3_
         have nw_ := Aside0.mk (blk_drew BKW.out)
         have nk_ := Aside0.mk (KT.drew HKT.out)
         clear BKW
         clear HKT
         have BKW := nw_
         have HKT := nk_
         clear nw_ nk_
         have p174 : 0 ≤ (x4_1 : Int) := of_decide_eq_true (by first | (with_reducible assumption) | assumption)
         have q174 : x4_1 < (x901_1.length : Int) := of_decide_eq_true (by first | (with_reducible assumption) | assumption)
         obtain ⟨ad174, e174, hx174_0⟩ := Kd.at_bool (Kd.R_reads' HO_901.out).2.2 x4_1 p174 q174
         (try rw [← Nbq16.out] at hx174_0)
         obtain rfl : ad173 = ad174 := (by injection e174)
         replace p174 := eq_true p174
         replace q174 := eq_true q174
         have p19 : 0 ≤ (x4_1 : Int) := of_decide_eq_true (by first | (with_reducible assumption) | assumption)
         have q19 : (x4_1 : Int) < ((x901_1.length : Int) : Int) := of_decide_eq_true (by first | (with_reducible assumption) | assumption)
         obtain ⟨go19, co19, eo19, gb19, gl19, cl19, HG19⟩ := Kd.R_form HO_901.out (by omega)
         (first | cases eo19 | (injection eo19 with ea_ en_ ec_; (first | subst ea_ | (injection ea_ with ea_; subst ea_)); subst ec_; clear en_))
         have GB19 := Aside0.mk gb19
         have GG19 := Aside0.mk HG19
         clear gb19 gl19 HG19
         (first | simp only [add_plain] at hx173_0 | skip)
         (first | simp only [add_plain] at hx174_0 | skip)
         obtain ⟨hx19_0, hf19_0⟩ := Kd.R_celln false HO_901.out (x4_1 : Int) p19 q19
         replace p19 := eq_true p19
         replace q19 := eq_true q19
         have HP22 := Kd.R_putn HO_901.out (x4_1 : Int) (!(true))
         rw [← Ny175.out] at HP22
         have HQ22 := Aside0.mk HP22
         clear HP22
         have hxw_ : wr.drew.cell? ⟨g, 2, none⟩ = some (.slice (some ⟨go19, 0, none⟩) x901_1.length co20) := (blk_cell BKW.out 2).trans rfl
         refine start_ (n := 15) (S := fun w' => w'.cell? ⟨go19, (x4_1).toNat, none⟩ = some (.bool (true)) ∧ w'.cell? ⟨g, 2, none⟩ = some (.slice (some ⟨go19, 0, none⟩) x901_1.length co20)) (ds := [14]) #[false, false, false, false, false, false, false, false, false, false, false, false, false, false, false] (by kernel_rfl) rfl rfl ⟨hx174_0, hxw_⟩ (fun hHeld => ?_); refine with_tabW word_walker_next.tab9 word_walker_next.bits9 (fun HT_ HW_ => ?_)
         generalize wr.drew = w21 at HO_900 HO_901 BK171 HB GG19 HQ22 hf19_0 hx173_0 hx174_0 hx19_0 BKW HKT hxw_ hHeld ⊢
         refine pure_ (i := 0) (N := some 45) (v := ?_) (a' := ?_) #[true, false, false, false, false, false, false, false, false, false, false, false, false, false, false] rfl rfl (any_of HT_.out (by kernel_rfl)) (fun _ _ _ h => h) (Or.inl ⟨by rfl, ?_⟩) ?_ ?_
         rotate_left
         ·intro w'
          go_simp
          with_reducible rfl
         rotate_left
         ·simp only [Act.put, List.setIfInBounds_toArray, List.set_cons_zero, List.set_cons_succ, i64_w, i32_w]
          rfl
         refine pure_ (i := 1) (N := some 46) (v := ?_) (a' := ?_) #[true, true, false, false, false, false, false, false, false, false, false, false, false, false, false] rfl rfl (any_of HT_.out (by kernel_rfl)) (fun _ _ _ h => h) (Or.inl ⟨by rfl, ?_⟩) ?_ ?_
         rotate_left
         ·intro w'
          go_simp
          with_reducible rfl
         rotate_left
         ·simp only [Act.put, List.setIfInBounds_toArray, List.set_cons_zero, List.set_cons_succ, i64_w, i32_w]
          rfl
         refine pure_ (i := 2) (N := some 47) (v := ?_) (a' := ?_) #[true, true, true, false, false, false, false, false, false, false, false, false, false, false, false] rfl rfl (any_of HT_.out (by kernel_rfl)) (fun _ _ _ h => h) (Or.inl ⟨by rfl, ?_⟩) ?_ ?_
         rotate_left
         ·intro w'
          go_simp
          with_reducible rfl
         rotate_left
         ·simp only [Act.put, List.setIfInBounds_toArray, List.set_cons_zero, List.set_cons_succ, i64_w, i32_w]
          rfl
         refine take_ (i := 3) (N := some 48) (v := ?_) (a' := ?_) #[true, true, true, true, false, false, false, false, false, false, false, false, false, false, false] rfl rfl (take_ofW HT_.out HW_.out (by kernel_rfl)) (fun _ _ _ h => h) (Or.inl ⟨by rfl, ?_⟩) hHeld ?_ ?_
         rotate_left
         ·rintro w' ⟨s0, s1⟩
          go_simp
          with_reducible rfl
         rotate_left
         ·simp only [Act.put, List.setIfInBounds_toArray, List.set_cons_zero, List.set_cons_succ, i64_w, i32_w]
          rfl
         refine pure_ (i := 4) (N := some 49) (v := ?_) (a' := ?_) #[true, true, true, true, true, false, false, false, false, false, false, false, false, false, false] rfl rfl (any_of HT_.out (by kernel_rfl)) (fun _ _ _ h => h) (Or.inl ⟨by rfl, ?_⟩) ?_ ?_
         rotate_left
         ·intro w'
          go_simp
          with_reducible rfl
         rotate_left
         ·simp only [Act.put, List.setIfInBounds_toArray, List.set_cons_zero, List.set_cons_succ, i64_w, i32_w]
          rfl
         refine pure_ (i := 5) (N := some 50) (v := ?_) (a' := ?_) #[true, true, true, true, true, true, false, false, false, false, false, false, false, false, false] rfl rfl (any_of HT_.out (by kernel_rfl)) (fun _ _ _ h => h) (Or.inl ⟨by rfl, ?_⟩) ?_ ?_
         rotate_left
         ·intro w'
          go_simp
          with_reducible rfl
         rotate_left
         ·simp only [Act.put, List.setIfInBounds_toArray, List.set_cons_zero, List.set_cons_succ, i64_w, i32_w]
          rfl
         refine pure_ (i := 6) (N := some 51) (v := ?_) (a' := ?_) #[true, true, true, true, true, true, true, false, false, false, false, false, false, false, false] rfl rfl (any_of HT_.out (by kernel_rfl)) (fun _ _ _ h => h) (Or.inl ⟨by rfl, ?_⟩) ?_ ?_
         rotate_left
         ·intro w'
          go_simp
          with_reducible rfl
         rotate_left
         ·simp only [Act.put, List.setIfInBounds_toArray, List.set_cons_zero, List.set_cons_succ, i64_w, i32_w]
          rfl
         refine pure_ (i := 7) (N := some 52) (v := ?_) (a' := ?_) #[true, true, true, true, true, true, true, true, false, false, false, false, false, false, false] rfl rfl (any_of HT_.out (by kernel_rfl)) (fun _ _ _ h => h) (Or.inl ⟨by rfl, ?_⟩) ?_ ?_
         rotate_left
         ·intro w'
          go_simp
          with_reducible rfl
         rotate_left
         ·simp only [Act.put, List.setIfInBounds_toArray, List.set_cons_zero, List.set_cons_succ, i64_w, i32_w]
          rfl
         refine take_ (i := 8) (N := some 53) (v := ?_) (a' := ?_) #[true, true, true, true, true, true, true, true, true, false, false, false, false, false, false] rfl rfl (take_ofW HT_.out HW_.out (by kernel_rfl)) (fun _ _ _ h => h) (Or.inl ⟨by rfl, ?_⟩) hHeld ?_ ?_
         rotate_left
         ·rintro w' ⟨s0, s1⟩
          go_simp
          with_reducible rfl
         rotate_left
         ·simp only [Act.put, List.setIfInBounds_toArray, List.set_cons_zero, List.set_cons_succ, i64_w, i32_w]
          rfl
         refine pure_ (i := 9) (N := some 54) (v := ?_) (a' := ?_) #[true, true, true, true, true, true, true, true, true, true, false, false, false, false, false] rfl rfl (any_of HT_.out (by kernel_rfl)) (fun _ _ _ h => h) (Or.inl ⟨by rfl, ?_⟩) ?_ ?_
         rotate_left
         ·intro w'
          go_simp
          with_reducible rfl
         rotate_left
         ·simp only [Act.put, List.setIfInBounds_toArray, List.set_cons_zero, List.set_cons_succ, i64_w, i32_w]
          rfl
         refine pure_ (i := 10) (N := some 55) (v := ?_) (a' := ?_) #[true, true, true, true, true, true, true, true, true, true, true, false, false, false, false] rfl rfl (any_of HT_.out (by kernel_rfl)) (fun _ _ _ h => h) (Or.inl ⟨by rfl, ?_⟩) ?_ ?_
         rotate_left
         ·intro w'
          go_simp
          with_reducible rfl
         rotate_left
         ·simp only [Act.put, List.setIfInBounds_toArray, List.set_cons_zero, List.set_cons_succ, i64_w, i32_w]
          rfl
         refine take_ (i := 11) (N := some 56) (v := ?_) (a' := ?_) #[true, true, true, true, true, true, true, true, true, true, true, true, false, false, false] rfl rfl (take_ofW HT_.out HW_.out (by kernel_rfl)) (fun _ _ _ h => h) (Or.inl ⟨by rfl, ?_⟩) hHeld ?_ ?_
         rotate_left
         ·rintro w' ⟨s0, s1⟩
          go_simp
          with_reducible rfl
         rotate_left
         ·simp only [Act.put, List.setIfInBounds_toArray, List.set_cons_zero, List.set_cons_succ, i64_w, i32_w]
          rfl
         refine pure_ (i := 12) (N := some 57) (v := ?_) (a' := ?_) #[true, true, true, true, true, true, true, true, true, true, true, true, true, false, false] rfl rfl (any_of HT_.out (by kernel_rfl)) (fun _ _ _ h => h) (Or.inl ⟨by rfl, ?_⟩) ?_ ?_
         rotate_left
         ·intro w'
          go_simp
          with_reducible rfl
         rotate_left
         ·simp only [Act.put, List.setIfInBounds_toArray, List.set_cons_zero, List.set_cons_succ, i64_w, i32_w]
          rfl
         refine pure_ (i := 13) (N := some 58) (v := ?_) (a' := ?_) #[true, true, true, true, true, true, true, true, true, true, true, true, true, true, false] rfl rfl (any_of HT_.out (by kernel_rfl)) (fun _ _ _ h => h) (Or.inl ⟨by rfl, ?_⟩) ?_ ?_
         rotate_left
         ·intro w'
          go_simp
          with_reducible rfl
         rotate_left
         ·simp only [Act.put, List.setIfInBounds_toArray, List.set_cons_zero, List.set_cons_succ, i64_w, i32_w]
          rfl
         refine last_ (i := 14) (N := none) #[true, true, true, true, true, true, true, true, true, true, true, true, true, true, true] rfl rfl (one_of HT_.out (by kernel_rfl)) (by decide) (fun K hK => ?_)
         refine skip_ (w1 := ?_) (by rfl) rfl ?_ ?_
         rotate_left
         ·go_simp
          rfl
         refine hK.out _ _ ?_
         clear hK K
         refine done_ (done_of HT_.out (by kernel_rfl)) ?_
         try go_wp2
         (try simp only [← hl900_1])
         go_roundg k1
         case measure => have := HK1.out; omega
         case rel => exact ⟨(wrap64 (x4_1 - 1)), (x900_1), (y175), (x172000_1), (x172001_1), (x172002_1), (by first | rfl | (simp; done) | (simp [*]; done)), H', ⟨by have := HK1.out; omega⟩, ⟨by (try simp only [hl900_1]); (with_reducible repeat (first | apply Kd.R_alloc | apply Kd.R_drewN | apply Kd.R_drew)); exact Kd.R_mono (Kd.R_far (p := ⟨go19, (x4_1 : Int).toNat, none⟩) (Kd.R_types HO_900.out GG19.out (by decide)) (fun _ hk => hk.2) (.bool (!(true)))) (fun _ hk => trivial)⟩, ⟨by (try simp only [hl900_1]); (with_reducible repeat (first | apply Kd.R_alloc | apply Kd.R_drewN | apply Kd.R_drew)); exact HQ22.out⟩, ⟨by (try simp only [hl900_1]); (with_reducible repeat (first | refine blk_drewN ?_ _ | refine blk_drew ?_ | refine blk_alloc ?_ _)); refine blk_far ?_ (by have h_ := Kd.R_ne HO_901.out BK171.out (by decide); intro e_; exact h_ (by rw [e_]; rfl)) _; (with_reducible repeat (first | refine blk_drewN ?_ _ | refine blk_drew ?_ | refine blk_alloc ?_ _)); exact BK171.out⟩, ⟨by repeat (first | (with_reducible first | exact HB.out | apply below_alloc | apply pw_below_drewN | apply below_drew1 | refine below_set ?_ GB19.out | refine below_set ?_ GE171.out) | exact HB.out)⟩, ⟨by (try simp only [hl900_1]); (with_reducible repeat (first | refine blk_drewN ?_ _ | refine blk_drew ?_ | refine blk_alloc ?_ _)); refine blk_far ?_ (by have h_ := Kd.R_ne HO_901.out BKW.out (by decide); intro e_; exact h_ (by rw [e_]; rfl)) _; (with_reducible repeat (first | refine blk_drewN ?_ _ | refine blk_drew ?_ | refine blk_alloc ?_ _)); exact BKW.out⟩, ⟨by repeat (first | exact HKT.out | apply KT.drewN | apply KT.drew | apply KT.alloc | refine KT.set ?_ GG19.out (by decide) _)⟩⟩
        ·rw [if_neg c18] at H
         have c18b0 : decide ((wrap64 ((rd x900_1 x4_1) - 1)) < 0) = false := decide_eq_false c18
         clear c18
         by_cases c23 : (wrap64 ((rd x900_1 x4_1) - 1)) ≥ a0
         ·rw [if_pos c23] at H
          have c23b0 : decide (a0 ≤ (wrap64 ((rd x900_1 x4_1) - 1))) = true := decide_eq_true c23
          clear c23
          obtain ⟨y177, hy177⟩ : ∃ y_ : List Bool, y_ = (x901_1.set (x4_1 : Int).toNat (!(true))) := ⟨_, rfl⟩
          replace H : (word_walker_next.l0 k1 a0 (wrap64 (x4_1 - 1)) x900_1 y177) = some (r1, r2, r3, r4, r5, r6) := by first | (rw [hy177]; with_reducible exact H) | (have H2_ := (Option.bind_some _ _).symm.trans H; rw [hy177]; with_reducible exact H2_) | (have H2_ := (Option.bind_some _ _).symm.trans H; with_reducible exact H2_) | with_reducible exact H | (rw [hy177]; exact H) | exact H
          have Ny177 := Aside0.mk hy177
          clear hy177
          have H' := Aside0.mk H
          clear H
          have hcw0 : wr.cell? ⟨g, 0, none⟩ = some (.int .i64 a0) := (blk_cell BKW.out 0).trans rfl
          have hcw1 : wr.cell? ⟨g, 1, none⟩ = some (.slice Ao11 x900_1.length co11) := (blk_cell BKW.out 1).trans rfl
          have hcw2 : wr.cell? ⟨g, 2, none⟩ = some (v2) := (blk_cell BKW.out 2).trans rfl
          have p172 : 0 ≤ (x4_1 : Int) := of_decide_eq_true (by first | (with_reducible assumption) | assumption)
          have q172 : x4_1 < (x900_1.length : Int) := of_decide_eq_true (by first | (with_reducible assumption) | assumption)
          obtain ⟨ad172, e172, hx172_0⟩ := Kd.at_int (Kd.R_reads' HO_900.out).2.2 x4_1 p172 q172
          cases e172
          replace p172 := eq_true p172
          replace q172 := eq_true q172
          obtain ⟨Ao25, co25, eo25⟩ := Kd.R_slice HO_901.out
          subst eo25
          have p173 : 0 ≤ (x4_1 : Int) := of_decide_eq_true (by first | (with_reducible assumption) | assumption)
          have q173 : x4_1 < (x901_1.length : Int) := of_decide_eq_true (by first | (with_reducible assumption) | assumption)
          obtain ⟨ad173, e173, hx173_0⟩ := Kd.at_bool (Kd.R_reads' HO_901.out).2.2 x4_1 p173 q173
          (try rw [← Nbq16.out] at hx173_0)
          cases e173
          replace p173 := eq_true p173
          replace q173 := eq_true q173
          try go_wp2
          have n0_ := Aside0.mk (Kd.R_drew HO_900.out)
          have n1_ := Aside0.mk (Kd.R_drew HO_901.out)
          have n2_ := Aside0.mk (blk_drew BK171.out)
          have n3_ := Aside0.mk (below_drew1 HB.out)
          clear HO_900
          clear HO_901
          clear BK171
          clear HB
          have HO_900 := n0_
          have HO_901 := n1_
          have BK171 := n2_
          have HB := n3_
          clear n0_ n1_ n2_ n3_
          have nw_ := Aside0.mk (blk_drew BKW.out)
          have nk_ := Aside0.mk (KT.drew HKT.out)
          clear BKW
          clear HKT
          have BKW := nw_
          have HKT := nk_
          clear nw_ nk_
          have p176 : 0 ≤ (x4_1 : Int) := of_decide_eq_true (by first | (with_reducible assumption) | assumption)
          have q176 : x4_1 < (x901_1.length : Int) := of_decide_eq_true (by first | (with_reducible assumption) | assumption)
          obtain ⟨ad176, e176, hx176_0⟩ := Kd.at_bool (Kd.R_reads' HO_901.out).2.2 x4_1 p176 q176
          (try rw [← Nbq16.out] at hx176_0)
          obtain rfl : ad173 = ad176 := (by injection e176)
          replace p176 := eq_true p176
          replace q176 := eq_true q176
          have p24 : 0 ≤ (x4_1 : Int) := of_decide_eq_true (by first | (with_reducible assumption) | assumption)
          have q24 : (x4_1 : Int) < ((x901_1.length : Int) : Int) := of_decide_eq_true (by first | (with_reducible assumption) | assumption)
          obtain ⟨go24, co24, eo24, gb24, gl24, cl24, HG24⟩ := Kd.R_form HO_901.out (by omega)
          (first | cases eo24 | (injection eo24 with ea_ en_ ec_; (first | subst ea_ | (injection ea_ with ea_; subst ea_)); subst ec_; clear en_))
          have GB24 := Aside0.mk gb24
          have GG24 := Aside0.mk HG24
          clear gb24 gl24 HG24
          (first | simp only [add_plain] at hx173_0 | skip)
          (first | simp only [add_plain] at hx176_0 | skip)
          obtain ⟨hx24_0, hf24_0⟩ := Kd.R_celln false HO_901.out (x4_1 : Int) p24 q24
          replace p24 := eq_true p24
          replace q24 := eq_true q24
          have HP27 := Kd.R_putn HO_901.out (x4_1 : Int) (!(true))
          rw [← Ny177.out] at HP27
          have HQ27 := Aside0.mk HP27
          clear HP27
          have hxw_ : wr.drew.cell? ⟨g, 2, none⟩ = some (.slice (some ⟨go24, 0, none⟩) x901_1.length co25) := (blk_cell BKW.out 2).trans rfl
          refine start_ (n := 15) (S := fun w' => w'.cell? ⟨go24, (x4_1).toNat, none⟩ = some (.bool (true)) ∧ w'.cell? ⟨g, 2, none⟩ = some (.slice (some ⟨go24, 0, none⟩) x901_1.length co25)) (ds := [14]) #[false, false, false, false, false, false, false, false, false, false, false, false, false, false, false] (by kernel_rfl) rfl rfl ⟨hx176_0, hxw_⟩ (fun hHeld => ?_); refine with_tabW word_walker_next.tab9 word_walker_next.bits9 (fun HT_ HW_ => ?_)
          generalize wr.drew = w26 at HO_900 HO_901 BK171 HB GG24 HQ27 hf24_0 hx173_0 hx176_0 hx24_0 BKW HKT hxw_ hHeld ⊢
          refine pure_ (i := 0) (N := some 45) (v := ?_) (a' := ?_) #[true, false, false, false, false, false, false, false, false, false, false, false, false, false, false] rfl rfl (any_of HT_.out (by kernel_rfl)) (fun _ _ _ h => h) (Or.inl ⟨by rfl, ?_⟩) ?_ ?_
          rotate_left
          ·intro w'
           go_simp
           with_reducible rfl
          rotate_left
          ·simp only [Act.put, List.setIfInBounds_toArray, List.set_cons_zero, List.set_cons_succ, i64_w, i32_w]
           rfl
          refine pure_ (i := 1) (N := some 46) (v := ?_) (a' := ?_) #[true, true, false, false, false, false, false, false, false, false, false, false, false, false, false] rfl rfl (any_of HT_.out (by kernel_rfl)) (fun _ _ _ h => h) (Or.inl ⟨by rfl, ?_⟩) ?_ ?_
          rotate_left
          ·intro w'
           go_simp
           with_reducible rfl
          rotate_left
          ·simp only [Act.put, List.setIfInBounds_toArray, List.set_cons_zero, List.set_cons_succ, i64_w, i32_w]
           rfl
          refine pure_ (i := 2) (N := some 47) (v := ?_) (a' := ?_) #[true, true, true, false, false, false, false, false, false, false, false, false, false, false, false] rfl rfl (any_of HT_.out (by kernel_rfl)) (fun _ _ _ h => h) (Or.inl ⟨by rfl, ?_⟩) ?_ ?_
          rotate_left
          ·intro w'
           go_simp
           with_reducible rfl
          rotate_left
          ·simp only [Act.put, List.setIfInBounds_toArray, List.set_cons_zero, List.set_cons_succ, i64_w, i32_w]
           rfl
          refine take_ (i := 3) (N := some 48) (v := ?_) (a' := ?_) #[true, true, true, true, false, false, false, false, false, false, false, false, false, false, false] rfl rfl (take_ofW HT_.out HW_.out (by kernel_rfl)) (fun _ _ _ h => h) (Or.inl ⟨by rfl, ?_⟩) hHeld ?_ ?_
          rotate_left
          ·rintro w' ⟨s0, s1⟩
           go_simp
           with_reducible rfl
          rotate_left
          ·simp only [Act.put, List.setIfInBounds_toArray, List.set_cons_zero, List.set_cons_succ, i64_w, i32_w]
           rfl
          refine pure_ (i := 4) (N := some 49) (v := ?_) (a' := ?_) #[true, true, true, true, true, false, false, false, false, false, false, false, false, false, false] rfl rfl (any_of HT_.out (by kernel_rfl)) (fun _ _ _ h => h) (Or.inl ⟨by rfl, ?_⟩) ?_ ?_
          rotate_left
          ·intro w'
           go_simp
           with_reducible rfl
          rotate_left
          ·simp only [Act.put, List.setIfInBounds_toArray, List.set_cons_zero, List.set_cons_succ, i64_w, i32_w]
           rfl
          refine pure_ (i := 5) (N := some 50) (v := ?_) (a' := ?_) #[true, true, true, true, true, true, false, false, false, false, false, false, false, false, false] rfl rfl (any_of HT_.out (by kernel_rfl)) (fun _ _ _ h => h) (Or.inl ⟨by rfl, ?_⟩) ?_ ?_
          rotate_left
          ·intro w'
           go_simp
           with_reducible rfl
          rotate_left
          ·simp only [Act.put, List.setIfInBounds_toArray, List.set_cons_zero, List.set_cons_succ, i64_w, i32_w]
           rfl
          refine pure_ (i := 6) (N := some 51) (v := ?_) (a' := ?_) #[true, true, true, true, true, true, true, false, false, false, false, false, false, false, false] rfl rfl (any_of HT_.out (by kernel_rfl)) (fun _ _ _ h => h) (Or.inl ⟨by rfl, ?_⟩) ?_ ?_
          rotate_left
          ·intro w'
           go_simp
           with_reducible rfl
          rotate_left
          ·simp only [Act.put, List.setIfInBounds_toArray, List.set_cons_zero, List.set_cons_succ, i64_w, i32_w]
           rfl
          refine pure_ (i := 7) (N := some 52) (v := ?_) (a' := ?_) #[true, true, true, true, true, true, true, true, false, false, false, false, false, false, false] rfl rfl (any_of HT_.out (by kernel_rfl)) (fun _ _ _ h => h) (Or.inl ⟨by rfl, ?_⟩) ?_ ?_
          rotate_left
          ·intro w'
           go_simp
           with_reducible rfl
          rotate_left
          ·simp only [Act.put, List.setIfInBounds_toArray, List.set_cons_zero, List.set_cons_succ, i64_w, i32_w]
           rfl
          refine take_ (i := 8) (N := some 53) (v := ?_) (a' := ?_) #[true, true, true, true, true, true, true, true, true, false, false, false, false, false, false] rfl rfl (take_ofW HT_.out HW_.out (by kernel_rfl)) (fun _ _ _ h => h) (Or.inl ⟨by rfl, ?_⟩) hHeld ?_ ?_
          rotate_left
          ·rintro w' ⟨s0, s1⟩
           go_simp
           with_reducible rfl
          rotate_left
          ·simp only [Act.put, List.setIfInBounds_toArray, List.set_cons_zero, List.set_cons_succ, i64_w, i32_w]
           rfl
          refine pure_ (i := 9) (N := some 54) (v := ?_) (a' := ?_) #[true, true, true, true, true, true, true, true, true, true, false, false, false, false, false] rfl rfl (any_of HT_.out (by kernel_rfl)) (fun _ _ _ h => h) (Or.inl ⟨by rfl, ?_⟩) ?_ ?_
          rotate_left
          ·intro w'
           go_simp
           with_reducible rfl
          rotate_left
          ·simp only [Act.put, List.setIfInBounds_toArray, List.set_cons_zero, List.set_cons_succ, i64_w, i32_w]
           rfl
          refine pure_ (i := 10) (N := some 55) (v := ?_) (a' := ?_) #[true, true, true, true, true, true, true, true, true, true, true, false, false, false, false] rfl rfl (any_of HT_.out (by kernel_rfl)) (fun _ _ _ h => h) (Or.inl ⟨by rfl, ?_⟩) ?_ ?_
          rotate_left
          ·intro w'
           go_simp
           with_reducible rfl
          rotate_left
          ·simp only [Act.put, List.setIfInBounds_toArray, List.set_cons_zero, List.set_cons_succ, i64_w, i32_w]
           rfl
          refine take_ (i := 11) (N := some 56) (v := ?_) (a' := ?_) #[true, true, true, true, true, true, true, true, true, true, true, true, false, false, false] rfl rfl (take_ofW HT_.out HW_.out (by kernel_rfl)) (fun _ _ _ h => h) (Or.inl ⟨by rfl, ?_⟩) hHeld ?_ ?_
          rotate_left
          ·rintro w' ⟨s0, s1⟩
           go_simp
           with_reducible rfl
          rotate_left
          ·simp only [Act.put, List.setIfInBounds_toArray, List.set_cons_zero, List.set_cons_succ, i64_w, i32_w]
           rfl
          refine pure_ (i := 12) (N := some 57) (v := ?_) (a' := ?_) #[true, true, true, true, true, true, true, true, true, true, true, true, true, false, false] rfl rfl (any_of HT_.out (by kernel_rfl)) (fun _ _ _ h => h) (Or.inl ⟨by rfl, ?_⟩) ?_ ?_
          rotate_left
          ·intro w'
           go_simp
           with_reducible rfl
          rotate_left
          ·simp only [Act.put, List.setIfInBounds_toArray, List.set_cons_zero, List.set_cons_succ, i64_w, i32_w]
           rfl
          refine pure_ (i := 13) (N := some 58) (v := ?_) (a' := ?_) #[true, true, true, true, true, true, true, true, true, true, true, true, true, true, false] rfl rfl (any_of HT_.out (by kernel_rfl)) (fun _ _ _ h => h) (Or.inl ⟨by rfl, ?_⟩) ?_ ?_
          rotate_left
          ·intro w'
           go_simp
           with_reducible rfl
          rotate_left
          ·simp only [Act.put, List.setIfInBounds_toArray, List.set_cons_zero, List.set_cons_succ, i64_w, i32_w]
           rfl
          refine last_ (i := 14) (N := none) #[true, true, true, true, true, true, true, true, true, true, true, true, true, true, true] rfl rfl (one_of HT_.out (by kernel_rfl)) (by decide) (fun K hK => ?_)
          refine skip_ (w1 := ?_) (by rfl) rfl ?_ ?_
          rotate_left
          ·go_simp
           rfl
          refine hK.out _ _ ?_
          clear hK K
          refine done_ (done_of HT_.out (by kernel_rfl)) ?_
          try go_wp2
          (try simp only [← hl900_1])
          go_roundg k1
          case measure => have := HK1.out; omega
          case rel => exact ⟨(wrap64 (x4_1 - 1)), (x900_1), (y177), (x172000_1), (x172001_1), (x172002_1), (by first | rfl | (simp; done) | (simp [*]; done)), H', ⟨by have := HK1.out; omega⟩, ⟨by (try simp only [hl900_1]); (with_reducible repeat (first | apply Kd.R_alloc | apply Kd.R_drewN | apply Kd.R_drew)); exact Kd.R_mono (Kd.R_far (p := ⟨go24, (x4_1 : Int).toNat, none⟩) (Kd.R_types HO_900.out GG24.out (by decide)) (fun _ hk => hk.2) (.bool (!(true)))) (fun _ hk => trivial)⟩, ⟨by (try simp only [hl900_1]); (with_reducible repeat (first | apply Kd.R_alloc | apply Kd.R_drewN | apply Kd.R_drew)); exact HQ27.out⟩, ⟨by (try simp only [hl900_1]); (with_reducible repeat (first | refine blk_drewN ?_ _ | refine blk_drew ?_ | refine blk_alloc ?_ _)); refine blk_far ?_ (by have h_ := Kd.R_ne HO_901.out BK171.out (by decide); intro e_; exact h_ (by rw [e_]; rfl)) _; (with_reducible repeat (first | refine blk_drewN ?_ _ | refine blk_drew ?_ | refine blk_alloc ?_ _)); exact BK171.out⟩, ⟨by repeat (first | (with_reducible first | exact HB.out | apply below_alloc | apply pw_below_drewN | apply below_drew1 | refine below_set ?_ GB24.out | refine below_set ?_ GE171.out) | exact HB.out)⟩, ⟨by (try simp only [hl900_1]); (with_reducible repeat (first | refine blk_drewN ?_ _ | refine blk_drew ?_ | refine blk_alloc ?_ _)); refine blk_far ?_ (by have h_ := Kd.R_ne HO_901.out BKW.out (by decide); intro e_; exact h_ (by rw [e_]; rfl)) _; (with_reducible repeat (first | refine blk_drewN ?_ _ | refine blk_drew ?_ | refine blk_alloc ?_ _)); exact BKW.out⟩, ⟨by repeat (first | exact HKT.out | apply KT.drewN | apply KT.drew | apply KT.alloc | refine KT.set ?_ GG24.out (by decide) _)⟩⟩
         ·rw [if_neg c23] at H
          have c23b0 : decide (a0 ≤ (wrap64 ((rd x900_1 x4_1) - 1))) = false := decide_eq_false c23
          clear c23
          obtain ⟨y178, hy178⟩ : ∃ y_ : List Int, y_ = (x900_1.set (x4_1 : Int).toNat (wrap64 ((rd x900_1 x4_1) - 1))) := ⟨_, rfl⟩
          replace H : (some (x4_1, rd x900_1 x4_1, wrap64 ((rd x900_1 x4_1) - 1), true, y178, x901_1)) = some (r1, r2, r3, r4, r5, r6) := by first | (rw [hy178]; with_reducible exact H) | (have H2_ := (Option.bind_some _ _).symm.trans H; rw [hy178]; with_reducible exact H2_) | (have H2_ := (Option.bind_some _ _).symm.trans H; with_reducible exact H2_) | with_reducible exact H | (rw [hy178]; exact H) | exact H
          have Ny178 := Aside0.mk hy178
          clear hy178
          simp only [Option.some.injEq, Prod.mk.injEq] at H
          obtain ⟨rfl, rfl, rfl, rfl, rfl, rfl⟩ := H
          have hcw0 : wr.cell? ⟨g, 0, none⟩ = some (.int .i64 a0) := (blk_cell BKW.out 0).trans rfl
          have hcw1 : wr.cell? ⟨g, 1, none⟩ = some (.slice Ao11 x900_1.length co11) := (blk_cell BKW.out 1).trans rfl
          have hcw2 : wr.cell? ⟨g, 2, none⟩ = some (v2) := (blk_cell BKW.out 2).trans rfl
          have p172 : 0 ≤ (x4_1 : Int) := of_decide_eq_true (by first | (with_reducible assumption) | assumption)
          have q172 : x4_1 < (x900_1.length : Int) := of_decide_eq_true (by first | (with_reducible assumption) | assumption)
          obtain ⟨ad172, e172, hx172_0⟩ := Kd.at_int (Kd.R_reads' HO_900.out).2.2 x4_1 p172 q172
          cases e172
          replace p172 := eq_true p172
          replace q172 := eq_true q172
          obtain ⟨Ao29, co29, eo29⟩ := Kd.R_slice HO_901.out
          subst eo29
          have p173 : 0 ≤ (x4_1 : Int) := of_decide_eq_true (by first | (with_reducible assumption) | assumption)
          have q173 : x4_1 < (x901_1.length : Int) := of_decide_eq_true (by first | (with_reducible assumption) | assumption)
          obtain ⟨ad173, e173, hx173_0⟩ := Kd.at_bool (Kd.R_reads' HO_901.out).2.2 x4_1 p173 q173
          (try rw [← Nbq16.out] at hx173_0)
          cases e173
          replace p173 := eq_true p173
          replace q173 := eq_true q173
          have p28 : 0 ≤ (x4_1 : Int) := of_decide_eq_true (by first | (with_reducible assumption) | assumption)
          have q28 : (x4_1 : Int) < ((x900_1.length : Int) : Int) := of_decide_eq_true (by first | (with_reducible assumption) | assumption)
          obtain ⟨go28, co28, eo28, gb28, gl28, cl28, HG28⟩ := Kd.R_form HO_900.out (by omega)
          (first | cases eo28 | (injection eo28 with ea_ en_ ec_; (first | subst ea_ | (injection ea_ with ea_; subst ea_)); subst ec_; clear en_))
          have GB28 := Aside0.mk gb28
          have GG28 := Aside0.mk HG28
          clear gb28 gl28 HG28
          (first | simp only [add_plain] at hx172_0 | skip)
          obtain ⟨hx28_0, hf28_0⟩ := Kd.R_celln 0 HO_900.out (x4_1 : Int) p28 q28
          replace p28 := eq_true p28
          replace q28 := eq_true q28
          have HP30 := Kd.R_putg HO_900.out (x4_1 : Int) (wrap64 ((rd x900_1 x4_1) - 1))
          go_wp2_with (first | ((with_reducible refine gate_store (t := 3) (p := 65) rfl ?_); refine store_event (t := 3) (p := 65) (v := ?vo_w31) (w1 := (wr.setCell ⟨go28, (x4_1 : Int).toNat, none⟩ (.int .i64 (wrap64 ((rd x900_1 x4_1) - 1))))) ?hg ?ho ?hn ?hr ?_; (case ho => rfl); (case hg => rfl); (case hn => rfl); (case hr => first | (go_simp; done) | (go_simp; rfl)); intro w31 hw; have hg : wr.grownBy w31 (some go28) := (by rw [hw]; exact HP30.2); have hp_ : Kd.R (Kd.int .i64) 3 w31 w0.heap.size (fun _ => True) (.slice (some ⟨go28, 0, none⟩) x900_1.length co11) y178 := (by rw [hw, Ny178.out]; exact HP30.1); clear HP30; have n0_ := Aside0.mk (hp_); have n1_ := Aside0.mk (Kd.R_over' (v := (.slice (some ⟨go28, 0, none⟩) x900_1.length co11)) (by (with_reducible repeat (first | apply Kd.R_alloc | apply Kd.R_drewN | apply Kd.R_drew)); exact HO_901.out) (Kd.R_typed HO_900.out) (by decide) hg); have n2_ := Aside0.mk (blk_grown (g := gb171) (o := .cells #[.int .i64 x172000_1, .int .i64 x172001_1, .int .i64 x172002_1] 45 (0, 0)) (by (with_reducible repeat (first | refine blk_drewN ?_ _ | refine blk_drew ?_ | refine blk_alloc ?_ _)); exact BK171.out) hg (Kd.R_ne HO_900.out BK171.out (by decide))); have n3_ := Aside0.mk ((by rw [hw]; exact below_set (HB.out) GB28.out : Below w0.heap.size w0 w31)); have nw_ := Aside0.mk (blk_grown (by (with_reducible repeat (first | refine blk_drewN ?_ _ | refine blk_drew ?_ | refine blk_alloc ?_ _)); exact BKW.out) hg (Kd.R_ne HO_900.out BKW.out (by decide))); have nk_ := Aside0.mk (KT.grown (by repeat (first | exact HKT.out | apply KT.drewN | apply KT.drew | apply KT.alloc)) hg (Kd.R_typed (v := .slice (some ⟨go28, 0, none⟩) x900_1.length co11) HO_900.out) (by decide)); clear BKW; clear HKT; have BKW := nw_; have HKT := nk_; clear nw_ nk_; clear HO_900; clear HO_901; clear BK171; clear HB; have HO_900 := n0_; have HO_901 := n1_; have BK171 := n2_; have HB := n3_; clear n0_ n1_ n2_ n3_; clear hg hw hp_; have hcz32_0 : w31.cell? ⟨gb171, 0, none⟩ = some (.int .i64 x172000_1) := (blk_cell BK171.out 0).trans rfl; have hcz32_1 : w31.cell? ⟨gb171, 1, none⟩ = some (.int .i64 x172001_1) := (blk_cell BK171.out 1).trans rfl; have hcz32_2 : w31.cell? ⟨gb171, 2, none⟩ = some (.int .i64 x172002_1) := (blk_cell BK171.out 2).trans rfl; have hfz32_0 := blk_frozen BK171.out 0; have hfz32_1 := blk_frozen BK171.out 1; have hfz32_2 := blk_frozen BK171.out 2))
          refine bodyPost_ret (results_ct rfl _ _ gb171 45 #[.int .i64 x4_1, .int .i64 (rd x900_1 x4_1), .int .i64 (wrap64 ((rd x900_1 x4_1) - 1))] (0, 0) _ rfl (by (with_reducible repeat (first | refine blk_drewN ?_ _ | refine blk_drew ?_ | refine blk_alloc ?_ _)); refine blk_put (cs := #[.int .i64 x4_1, .int .i64 (rd x900_1 x4_1), .int .i64 x172002_1]) ?_ 2 _ rfl; (with_reducible repeat (first | refine blk_drewN ?_ _ | refine blk_drew ?_ | refine blk_alloc ?_ _)); refine blk_put (cs := #[.int .i64 x4_1, .int .i64 x172001_1, .int .i64 x172002_1]) ?_ 1 _ rfl; (with_reducible repeat (first | refine blk_drewN ?_ _ | refine blk_drew ?_ | refine blk_alloc ?_ _)); refine blk_put (cs := #[.int .i64 x172000_1, .int .i64 x172001_1, .int .i64 x172002_1]) ?_ 0 _ rfl; (with_reducible repeat (first | refine blk_drewN ?_ _ | refine blk_drew ?_ | refine blk_alloc ?_ _)); exact BK171.out) Try.underlying45 rfl (by kernel_rfl)) rfl ?_
          refine ⟨by first | rfl | (simp [errW_none, errW_some] <;> rfl) | (simp [*, errW_none, errW_some] <;> rfl), ⟨by repeat (first | (with_reducible first | exact HB.out | apply below_alloc | apply pw_below_drewN | apply below_drew1 | refine below_set ?_ GE171.out) | exact HB.out), GW.out, ?_, ?_, ?_⟩, ?_⟩
          ·(try simp only [hl900_1]); repeat (first | exact BKW.out | refine blk_far ?_ (blk_ne BKW.out BK171.out (by decide)) _ | refine blk_drewN ?_ _ | refine blk_drew ?_)
          ·(try simp only [hl900_1]); exact R_but HO_900.out BK171.out (by decide) (fun k hk => by (repeat refine (Below.heap_setCell _ _ _ k (by exact hk)).trans ?_); rfl)
          ·(try simp only [hl900_1]); exact R_but HO_901.out BK171.out (by decide) (fun k hk => by (repeat refine (Below.heap_setCell _ _ _ k (by exact hk)).trans ?_); rfl)
          ·repeat (first | exact HKT.out | apply KT.drewN | apply KT.drew | apply KT.alloc | refine KT.setn ?_ GN171.out _)
       ·replace c17 := Bool.eq_false_iff.mpr c17
        subst c17
        have H1 : (if (wrap64 ((rd x900_1 x4_1) + 1)) < 0 then (word_walker_next.l0 k1 a0 (wrap64 (x4_1 - 1)) x900_1 (x901_1.set (x4_1 : Int).toNat (!(false)))) else (if (wrap64 ((rd x900_1 x4_1) + 1)) ≥ a0 then (word_walker_next.l0 k1 a0 (wrap64 (x4_1 - 1)) x900_1 (x901_1.set (x4_1 : Int).toNat (!(false)))) else (some (x4_1, rd x900_1 x4_1, wrap64 ((rd x900_1 x4_1) + 1), true, x900_1.set (x4_1 : Int).toNat (wrap64 ((rd x900_1 x4_1) + 1)), x901_1)))) = some (r1, r2, r3, r4, r5, r6) := by rw [if_neg (show ¬ (false = true) by decide)] at H; exact H
        clear H
        have H := H1
        clear H1
        by_cases c33 : (wrap64 ((rd x900_1 x4_1) + 1)) < 0
        ·rw [if_pos c33] at H
         have c33b0 : decide ((wrap64 ((rd x900_1 x4_1) + 1)) < 0) = true := decide_eq_true c33
         clear c33
         obtain ⟨y180, hy180⟩ : ∃ y_ : List Bool, y_ = (x901_1.set (x4_1 : Int).toNat (!(false))) := ⟨_, rfl⟩
         replace H : (word_walker_next.l0 k1 a0 (wrap64 (x4_1 - 1)) x900_1 y180) = some (r1, r2, r3, r4, r5, r6) := by first | (rw [hy180]; with_reducible exact H) | (have H2_ := (Option.bind_some _ _).symm.trans H; rw [hy180]; with_reducible exact H2_) | (have H2_ := (Option.bind_some _ _).symm.trans H; with_reducible exact H2_) | with_reducible exact H | (rw [hy180]; exact H) | exact H
         have Ny180 := Aside0.mk hy180
         clear hy180
         have H' := Aside0.mk H
         clear H
         have hcw0 : wr.cell? ⟨g, 0, none⟩ = some (.int .i64 a0) := (blk_cell BKW.out 0).trans rfl
         have hcw1 : wr.cell? ⟨g, 1, none⟩ = some (.slice Ao11 x900_1.length co11) := (blk_cell BKW.out 1).trans rfl
         have hcw2 : wr.cell? ⟨g, 2, none⟩ = some (v2) := (blk_cell BKW.out 2).trans rfl
         have p172 : 0 ≤ (x4_1 : Int) := of_decide_eq_true (by first | (with_reducible assumption) | assumption)
         have q172 : x4_1 < (x900_1.length : Int) := of_decide_eq_true (by first | (with_reducible assumption) | assumption)
         obtain ⟨ad172, e172, hx172_0⟩ := Kd.at_int (Kd.R_reads' HO_900.out).2.2 x4_1 p172 q172
         cases e172
         replace p172 := eq_true p172
         replace q172 := eq_true q172
         obtain ⟨Ao35, co35, eo35⟩ := Kd.R_slice HO_901.out
         subst eo35
         have p173 : 0 ≤ (x4_1 : Int) := of_decide_eq_true (by first | (with_reducible assumption) | assumption)
         have q173 : x4_1 < (x901_1.length : Int) := of_decide_eq_true (by first | (with_reducible assumption) | assumption)
         obtain ⟨ad173, e173, hx173_0⟩ := Kd.at_bool (Kd.R_reads' HO_901.out).2.2 x4_1 p173 q173
         (try rw [← Nbq16.out] at hx173_0)
         cases e173
         replace p173 := eq_true p173
         replace q173 := eq_true q173
         try go_wp2
         have n0_ := Aside0.mk (Kd.R_drew HO_900.out)
         have n1_ := Aside0.mk (Kd.R_drew HO_901.out)
         have n2_ := Aside0.mk (blk_drew BK171.out)
         have n3_ := Aside0.mk (below_drew1 HB.out)
         clear HO_900
         clear HO_901
         clear BK171
         clear HB
         have HO_900 := n0_
         have HO_901 := n1_
         have BK171 := n2_
         have HB := n3_
         clear n0_ n1_ n2_ n3_
         have nw_ := Aside0.mk (blk_drew BKW.out)
         have nk_ := Aside0.mk (KT.drew HKT.out)
         clear BKW
         clear HKT
         have BKW := nw_
         have HKT := nk_
         clear nw_ nk_
         have p179 : 0 ≤ (x4_1 : Int) := of_decide_eq_true (by first | (with_reducible assumption) | assumption)
         have q179 : x4_1 < (x901_1.length : Int) := of_decide_eq_true (by first | (with_reducible assumption) | assumption)
         obtain ⟨ad179, e179, hx179_0⟩ := Kd.at_bool (Kd.R_reads' HO_901.out).2.2 x4_1 p179 q179
         (try rw [← Nbq16.out] at hx179_0)
         obtain rfl : ad173 = ad179 := (by injection e179)
         replace p179 := eq_true p179
         replace q179 := eq_true q179
         have p34 : 0 ≤ (x4_1 : Int) := of_decide_eq_true (by first | (with_reducible assumption) | assumption)
         have q34 : (x4_1 : Int) < ((x901_1.length : Int) : Int) := of_decide_eq_true (by first | (with_reducible assumption) | assumption)
         obtain ⟨go34, co34, eo34, gb34, gl34, cl34, HG34⟩ := Kd.R_form HO_901.out (by omega)
         (first | cases eo34 | (injection eo34 with ea_ en_ ec_; (first | subst ea_ | (injection ea_ with ea_; subst ea_)); subst ec_; clear en_))
         have GB34 := Aside0.mk gb34
         have GG34 := Aside0.mk HG34
         clear gb34 gl34 HG34
         (first | simp only [add_plain] at hx173_0 | skip)
         (first | simp only [add_plain] at hx179_0 | skip)
         obtain ⟨hx34_0, hf34_0⟩ := Kd.R_celln false HO_901.out (x4_1 : Int) p34 q34
         replace p34 := eq_true p34
         replace q34 := eq_true q34
         have HP37 := Kd.R_putn HO_901.out (x4_1 : Int) (!(false))
         rw [← Ny180.out] at HP37
         have HQ37 := Aside0.mk HP37
         clear HP37
         have hxw_ : wr.drew.cell? ⟨g, 2, none⟩ = some (.slice (some ⟨go34, 0, none⟩) x901_1.length co35) := (blk_cell BKW.out 2).trans rfl
         refine start_ (n := 15) (S := fun w' => w'.cell? ⟨go34, (x4_1).toNat, none⟩ = some (.bool (false)) ∧ w'.cell? ⟨g, 2, none⟩ = some (.slice (some ⟨go34, 0, none⟩) x901_1.length co35)) (ds := [14]) #[false, false, false, false, false, false, false, false, false, false, false, false, false, false, false] (by kernel_rfl) rfl rfl ⟨hx179_0, hxw_⟩ (fun hHeld => ?_); refine with_tabW word_walker_next.tab9 word_walker_next.bits9 (fun HT_ HW_ => ?_)
         generalize wr.drew = w36 at HO_900 HO_901 BK171 HB GG34 HQ37 hf34_0 hx173_0 hx179_0 hx34_0 BKW HKT hxw_ hHeld ⊢
         refine pure_ (i := 0) (N := some 45) (v := ?_) (a' := ?_) #[true, false, false, false, false, false, false, false, false, false, false, false, false, false, false] rfl rfl (any_of HT_.out (by kernel_rfl)) (fun _ _ _ h => h) (Or.inl ⟨by rfl, ?_⟩) ?_ ?_
         rotate_left
         ·intro w'
          go_simp
          with_reducible rfl
         rotate_left
         ·simp only [Act.put, List.setIfInBounds_toArray, List.set_cons_zero, List.set_cons_succ, i64_w, i32_w]
          rfl
         refine pure_ (i := 1) (N := some 46) (v := ?_) (a' := ?_) #[true, true, false, false, false, false, false, false, false, false, false, false, false, false, false] rfl rfl (any_of HT_.out (by kernel_rfl)) (fun _ _ _ h => h) (Or.inl ⟨by rfl, ?_⟩) ?_ ?_
         rotate_left
         ·intro w'
          go_simp
          with_reducible rfl
         rotate_left
         ·simp only [Act.put, List.setIfInBounds_toArray, List.set_cons_zero, List.set_cons_succ, i64_w, i32_w]
          rfl
         refine pure_ (i := 2) (N := some 47) (v := ?_) (a' := ?_) #[true, true, true, false, false, false, false, false, false, false, false, false, false, false, false] rfl rfl (any_of HT_.out (by kernel_rfl)) (fun _ _ _ h => h) (Or.inl ⟨by rfl, ?_⟩) ?_ ?_
         rotate_left
         ·intro w'
          go_simp
          with_reducible rfl
         rotate_left
         ·simp only [Act.put, List.setIfInBounds_toArray, List.set_cons_zero, List.set_cons_succ, i64_w, i32_w]
          rfl
         refine take_ (i := 3) (N := some 48) (v := ?_) (a' := ?_) #[true, true, true, true, false, false, false, false, false, false, false, false, false, false, false] rfl rfl (take_ofW HT_.out HW_.out (by kernel_rfl)) (fun _ _ _ h => h) (Or.inl ⟨by rfl, ?_⟩) hHeld ?_ ?_
         rotate_left
         ·rintro w' ⟨s0, s1⟩
          go_simp
          with_reducible rfl
         rotate_left
         ·simp only [Act.put, List.setIfInBounds_toArray, List.set_cons_zero, List.set_cons_succ, i64_w, i32_w]
          rfl
         refine pure_ (i := 4) (N := some 49) (v := ?_) (a' := ?_) #[true, true, true, true, true, false, false, false, false, false, false, false, false, false, false] rfl rfl (any_of HT_.out (by kernel_rfl)) (fun _ _ _ h => h) (Or.inl ⟨by rfl, ?_⟩) ?_ ?_
         rotate_left
         ·intro w'
          go_simp
          with_reducible rfl
         rotate_left
         ·simp only [Act.put, List.setIfInBounds_toArray, List.set_cons_zero, List.set_cons_succ, i64_w, i32_w]
          rfl
         refine pure_ (i := 5) (N := some 50) (v := ?_) (a' := ?_) #[true, true, true, true, true, true, false, false, false, false, false, false, false, false, false] rfl rfl (any_of HT_.out (by kernel_rfl)) (fun _ _ _ h => h) (Or.inl ⟨by rfl, ?_⟩) ?_ ?_
         rotate_left
         ·intro w'
          go_simp
          with_reducible rfl
         rotate_left
         ·simp only [Act.put, List.setIfInBounds_toArray, List.set_cons_zero, List.set_cons_succ, i64_w, i32_w]
          rfl
         refine pure_ (i := 6) (N := some 51) (v := ?_) (a' := ?_) #[true, true, true, true, true, true, true, false, false, false, false, false, false, false, false] rfl rfl (any_of HT_.out (by kernel_rfl)) (fun _ _ _ h => h) (Or.inl ⟨by rfl, ?_⟩) ?_ ?_
         rotate_left
         ·intro w'
          go_simp
          with_reducible rfl
         rotate_left
         ·simp only [Act.put, List.setIfInBounds_toArray, List.set_cons_zero, List.set_cons_succ, i64_w, i32_w]
          rfl
         refine pure_ (i := 7) (N := some 52) (v := ?_) (a' := ?_) #[true, true, true, true, true, true, true, true, false, false, false, false, false, false, false] rfl rfl (any_of HT_.out (by kernel_rfl)) (fun _ _ _ h => h) (Or.inl ⟨by rfl, ?_⟩) ?_ ?_
         rotate_left
         ·intro w'
          go_simp
          with_reducible rfl
         rotate_left
         ·simp only [Act.put, List.setIfInBounds_toArray, List.set_cons_zero, List.set_cons_succ, i64_w, i32_w]
          rfl
         refine take_ (i := 8) (N := some 53) (v := ?_) (a' := ?_) #[true, true, true, true, true, true, true, true, true, false, false, false, false, false, false] rfl rfl (take_ofW HT_.out HW_.out (by kernel_rfl)) (fun _ _ _ h => h) (Or.inl ⟨by rfl, ?_⟩) hHeld ?_ ?_
         rotate_left
         ·rintro w' ⟨s0, s1⟩
          go_simp
          with_reducible rfl
         rotate_left
         ·simp only [Act.put, List.setIfInBounds_toArray, List.set_cons_zero, List.set_cons_succ, i64_w, i32_w]
          rfl
         refine pure_ (i := 9) (N := some 54) (v := ?_) (a' := ?_) #[true, true, true, true, true, true, true, true, true, true, false, false, false, false, false] rfl rfl (any_of HT_.out (by kernel_rfl)) (fun _ _ _ h => h) (Or.inl ⟨by rfl, ?_⟩) ?_ ?_
         rotate_left
         ·intro w'
          go_simp
          with_reducible rfl
         rotate_left
         ·simp only [Act.put, List.setIfInBounds_toArray, List.set_cons_zero, List.set_cons_succ, i64_w, i32_w]
          rfl
         refine pure_ (i := 10) (N := some 55) (v := ?_) (a' := ?_) #[true, true, true, true, true, true, true, true, true, true, true, false, false, false, false] rfl rfl (any_of HT_.out (by kernel_rfl)) (fun _ _ _ h => h) (Or.inl ⟨by rfl, ?_⟩) ?_ ?_
         rotate_left
         ·intro w'
          go_simp
          with_reducible rfl
         rotate_left
         ·simp only [Act.put, List.setIfInBounds_toArray, List.set_cons_zero, List.set_cons_succ, i64_w, i32_w]
          rfl
         refine take_ (i := 11) (N := some 56) (v := ?_) (a' := ?_) #[true, true, true, true, true, true, true, true, true, true, true, true, false, false, false] rfl rfl (take_ofW HT_.out HW_.out (by kernel_rfl)) (fun _ _ _ h => h) (Or.inl ⟨by rfl, ?_⟩) hHeld ?_ ?_
         rotate_left
         ·rintro w' ⟨s0, s1⟩
          go_simp
          with_reducible rfl
         rotate_left
         ·simp only [Act.put, List.setIfInBounds_toArray, List.set_cons_zero, List.set_cons_succ, i64_w, i32_w]
          rfl
         refine pure_ (i := 12) (N := some 57) (v := ?_) (a' := ?_) #[true, true, true, true, true, true, true, true, true, true, true, true, true, false, false] rfl rfl (any_of HT_.out (by kernel_rfl)) (fun _ _ _ h => h) (Or.inl ⟨by rfl, ?_⟩) ?_ ?_
         rotate_left
         ·intro w'
          go_simp
          with_reducible rfl
         rotate_left
         ·simp only [Act.put, List.setIfInBounds_toArray, List.set_cons_zero, List.set_cons_succ, i64_w, i32_w]
          rfl
         refine pure_ (i := 13) (N := some 58) (v := ?_) (a' := ?_) #[true, true, true, true, true, true, true, true, true, true, true, true, true, true, false] rfl rfl (any_of HT_.out (by kernel_rfl)) (fun _ _ _ h => h) (Or.inl ⟨by rfl, ?_⟩) ?_ ?_
         rotate_left
         ·intro w'
          go_simp
          with_reducible rfl
         rotate_left
         ·simp only [Act.put, List.setIfInBounds_toArray, List.set_cons_zero, List.set_cons_succ, i64_w, i32_w]
          rfl
         refine last_ (i := 14) (N := none) #[true, true, true, true, true, true, true, true, true, true, true, true, true, true, true] rfl rfl (one_of HT_.out (by kernel_rfl)) (by decide) (fun K hK => ?_)
         refine skip_ (w1 := ?_) (by rfl) rfl ?_ ?_
         rotate_left
         ·go_simp
          rfl
         refine hK.out _ _ ?_
         clear hK K
         refine done_ (done_of HT_.out (by kernel_rfl)) ?_
         try go_wp2
         (try simp only [← hl900_1])
         go_roundg k1
         case measure => have := HK1.out; omega
         case rel => exact ⟨(wrap64 (x4_1 - 1)), (x900_1), (y180), (x172000_1), (x172001_1), (x172002_1), (by first | rfl | (simp; done) | (simp [*]; done)), H', ⟨by have := HK1.out; omega⟩, ⟨by (try simp only [hl900_1]); (with_reducible repeat (first | apply Kd.R_alloc | apply Kd.R_drewN | apply Kd.R_drew)); exact Kd.R_mono (Kd.R_far (p := ⟨go34, (x4_1 : Int).toNat, none⟩) (Kd.R_types HO_900.out GG34.out (by decide)) (fun _ hk => hk.2) (.bool (!(false)))) (fun _ hk => trivial)⟩, ⟨by (try simp only [hl900_1]); (with_reducible repeat (first | apply Kd.R_alloc | apply Kd.R_drewN | apply Kd.R_drew)); exact HQ37.out⟩, ⟨by (try simp only [hl900_1]); (with_reducible repeat (first | refine blk_drewN ?_ _ | refine blk_drew ?_ | refine blk_alloc ?_ _)); refine blk_far ?_ (by have h_ := Kd.R_ne HO_901.out BK171.out (by decide); intro e_; exact h_ (by rw [e_]; rfl)) _; (with_reducible repeat (first | refine blk_drewN ?_ _ | refine blk_drew ?_ | refine blk_alloc ?_ _)); exact BK171.out⟩, ⟨by repeat (first | (with_reducible first | exact HB.out | apply below_alloc | apply pw_below_drewN | apply below_drew1 | refine below_set ?_ GB34.out | refine below_set ?_ GE171.out) | exact HB.out)⟩, ⟨by (try simp only [hl900_1]); (with_reducible repeat (first | refine blk_drewN ?_ _ | refine blk_drew ?_ | refine blk_alloc ?_ _)); refine blk_far ?_ (by have h_ := Kd.R_ne HO_901.out BKW.out (by decide); intro e_; exact h_ (by rw [e_]; rfl)) _; (with_reducible repeat (first | refine blk_drewN ?_ _ | refine blk_drew ?_ | refine blk_alloc ?_ _)); exact BKW.out⟩, ⟨by repeat (first | exact HKT.out | apply KT.drewN | apply KT.drew | apply KT.alloc | refine KT.set ?_ GG34.out (by decide) _)⟩⟩
        ·rw [if_neg c33] at H
         have c33b0 : decide ((wrap64 ((rd x900_1 x4_1) + 1)) < 0) = false := decide_eq_false c33
         clear c33
         by_cases c38 : (wrap64 ((rd x900_1 x4_1) + 1)) ≥ a0
         ·rw [if_pos c38] at H
          have c38b0 : decide (a0 ≤ (wrap64 ((rd x900_1 x4_1) + 1))) = true := decide_eq_true c38
          clear c38
          obtain ⟨y182, hy182⟩ : ∃ y_ : List Bool, y_ = (x901_1.set (x4_1 : Int).toNat (!(false))) := ⟨_, rfl⟩
          replace H : (word_walker_next.l0 k1 a0 (wrap64 (x4_1 - 1)) x900_1 y182) = some (r1, r2, r3, r4, r5, r6) := by first | (rw [hy182]; with_reducible exact H) | (have H2_ := (Option.bind_some _ _).symm.trans H; rw [hy182]; with_reducible exact H2_) | (have H2_ := (Option.bind_some _ _).symm.trans H; with_reducible exact H2_) | with_reducible exact H | (rw [hy182]; exact H) | exact H
          have Ny182 := Aside0.mk hy182
          clear hy182
          have H' := Aside0.mk H
          clear H
          have hcw0 : wr.cell? ⟨g, 0, none⟩ = some (.int .i64 a0) := (blk_cell BKW.out 0).trans rfl
          have hcw1 : wr.cell? ⟨g, 1, none⟩ = some (.slice Ao11 x900_1.length co11) := (blk_cell BKW.out 1).trans rfl
          have hcw2 : wr.cell? ⟨g, 2, none⟩ = some (v2) := (blk_cell BKW.out 2).trans rfl
          have p172 : 0 ≤ (x4_1 : Int) := of_decide_eq_true (by first | (with_reducible assumption) | assumption)
          have q172 : x4_1 < (x900_1.length : Int) := of_decide_eq_true (by first | (with_reducible assumption) | assumption)
          obtain ⟨ad172, e172, hx172_0⟩ := Kd.at_int (Kd.R_reads' HO_900.out).2.2 x4_1 p172 q172
          cases e172
          replace p172 := eq_true p172
          replace q172 := eq_true q172
          obtain ⟨Ao40, co40, eo40⟩ := Kd.R_slice HO_901.out
          subst eo40
          have p173 : 0 ≤ (x4_1 : Int) := of_decide_eq_true (by first | (with_reducible assumption) | assumption)
          have q173 : x4_1 < (x901_1.length : Int) := of_decide_eq_true (by first | (with_reducible assumption) | assumption)
          obtain ⟨ad173, e173, hx173_0⟩ := Kd.at_bool (Kd.R_reads' HO_901.out).2.2 x4_1 p173 q173
          (try rw [← Nbq16.out] at hx173_0)
          cases e173
          replace p173 := eq_true p173
          replace q173 := eq_true q173
          try go_wp2
          have n0_ := Aside0.mk (Kd.R_drew HO_900.out)
          have n1_ := Aside0.mk (Kd.R_drew HO_901.out)
          have n2_ := Aside0.mk (blk_drew BK171.out)
          have n3_ := Aside0.mk (below_drew1 HB.out)
          clear HO_900
          clear HO_901
          clear BK171
          clear HB
          have HO_900 := n0_
          have HO_901 := n1_
          have BK171 := n2_
          have HB := n3_
          clear n0_ n1_ n2_ n3_
          have nw_ := Aside0.mk (blk_drew BKW.out)
          have nk_ := Aside0.mk (KT.drew HKT.out)
          clear BKW
          clear HKT
          have BKW := nw_
          have HKT := nk_
          clear nw_ nk_
          have p181 : 0 ≤ (x4_1 : Int) := of_decide_eq_true (by first | (with_reducible assumption) | assumption)
          have q181 : x4_1 < (x901_1.length : Int) := of_decide_eq_true (by first | (with_reducible assumption) | assumption)
          obtain ⟨ad181, e181, hx181_0⟩ := Kd.at_bool (Kd.R_reads' HO_901.out).2.2 x4_1 p181 q181
          (try rw [← Nbq16.out] at hx181_0)
          obtain rfl : ad173 = ad181 := (by injection e181)
          replace p181 := eq_true p181
          replace q181 := eq_true q181
          have p39 : 0 ≤ (x4_1 : Int) := of_decide_eq_true (by first | (with_reducible assumption) | assumption)
          have q39 : (x4_1 : Int) < ((x901_1.length : Int) : Int) := of_decide_eq_true (by first | (with_reducible assumption) | assumption)
          obtain ⟨go39, co39, eo39, gb39, gl39, cl39, HG39⟩ := Kd.R_form HO_901.out (by omega)
          (first | cases eo39 | (injection eo39 with ea_ en_ ec_; (first | subst ea_ | (injection ea_ with ea_; subst ea_)); subst ec_; clear en_))
          have GB39 := Aside0.mk gb39
          have GG39 := Aside0.mk HG39
          clear gb39 gl39 HG39
          (first | simp only [add_plain] at hx173_0 | skip)
          (first | simp only [add_plain] at hx181_0 | skip)
          obtain ⟨hx39_0, hf39_0⟩ := Kd.R_celln false HO_901.out (x4_1 : Int) p39 q39
          replace p39 := eq_true p39
          replace q39 := eq_true q39
          have HP42 := Kd.R_putn HO_901.out (x4_1 : Int) (!(false))
          rw [← Ny182.out] at HP42
          have HQ42 := Aside0.mk HP42
          clear HP42
          have hxw_ : wr.drew.cell? ⟨g, 2, none⟩ = some (.slice (some ⟨go39, 0, none⟩) x901_1.length co40) := (blk_cell BKW.out 2).trans rfl
          refine start_ (n := 15) (S := fun w' => w'.cell? ⟨go39, (x4_1).toNat, none⟩ = some (.bool (false)) ∧ w'.cell? ⟨g, 2, none⟩ = some (.slice (some ⟨go39, 0, none⟩) x901_1.length co40)) (ds := [14]) #[false, false, false, false, false, false, false, false, false, false, false, false, false, false, false] (by kernel_rfl) rfl rfl ⟨hx181_0, hxw_⟩ (fun hHeld => ?_); refine with_tabW word_walker_next.tab9 word_walker_next.bits9 (fun HT_ HW_ => ?_)
          generalize wr.drew = w41 at HO_900 HO_901 BK171 HB GG39 HQ42 hf39_0 hx173_0 hx181_0 hx39_0 BKW HKT hxw_ hHeld ⊢
          refine pure_ (i := 0) (N := some 45) (v := ?_) (a' := ?_) #[true, false, false, false, false, false, false, false, false, false, false, false, false, false, false] rfl rfl (any_of HT_.out (by kernel_rfl)) (fun _ _ _ h => h) (Or.inl ⟨by rfl, ?_⟩) ?_ ?_
          rotate_left
          ·intro w'
           go_simp
           with_reducible rfl
          rotate_left
          ·simp only [Act.put, List.setIfInBounds_toArray, List.set_cons_zero, List.set_cons_succ, i64_w, i32_w]
           rfl
          refine pure_ (i := 1) (N := some 46) (v := ?_) (a' := ?_) #[true, true, false, false, false, false, false, false, false, false, false, false, false, false, false] rfl rfl (any_of HT_.out (by kernel_rfl)) (fun _ _ _ h => h) (Or.inl ⟨by rfl, ?_⟩) ?_ ?_
          rotate_left
          ·intro w'
           go_simp
           with_reducible rfl
          rotate_left
          ·simp only [Act.put, List.setIfInBounds_toArray, List.set_cons_zero, List.set_cons_succ, i64_w, i32_w]
           rfl
          refine pure_ (i := 2) (N := some 47) (v := ?_) (a' := ?_) #[true, true, true, false, false, false, false, false, false, false, false, false, false, false, false] rfl rfl (any_of HT_.out (by kernel_rfl)) (fun _ _ _ h => h) (Or.inl ⟨by rfl, ?_⟩) ?_ ?_
          rotate_left
          ·intro w'
           go_simp
           with_reducible rfl
          rotate_left
          ·simp only [Act.put, List.setIfInBounds_toArray, List.set_cons_zero, List.set_cons_succ, i64_w, i32_w]
           rfl
          refine take_ (i := 3) (N := some 48) (v := ?_) (a' := ?_) #[true, true, true, true, false, false, false, false, false, false, false, false, false, false, false] rfl rfl (take_ofW HT_.out HW_.out (by kernel_rfl)) (fun _ _ _ h => h) (Or.inl ⟨by rfl, ?_⟩) hHeld ?_ ?_
          rotate_left
          ·rintro w' ⟨s0, s1⟩
           go_simp
           with_reducible rfl
          rotate_left
          ·simp only [Act.put, List.setIfInBounds_toArray, List.set_cons_zero, List.set_cons_succ, i64_w, i32_w]
           rfl
          refine pure_ (i := 4) (N := some 49) (v := ?_) (a' := ?_) #[true, true, true, true, true, false, false, false, false, false, false, false, false, false, false] rfl rfl (any_of HT_.out (by kernel_rfl)) (fun _ _ _ h => h) (Or.inl ⟨by rfl, ?_⟩) ?_ ?_
          rotate_left
          ·intro w'
           go_simp
           with_reducible rfl
          rotate_left
          ·simp only [Act.put, List.setIfInBounds_toArray, List.set_cons_zero, List.set_cons_succ, i64_w, i32_w]
           rfl
          refine pure_ (i := 5) (N := some 50) (v := ?_) (a' := ?_) #[true, true, true, true, true, true, false, false, false, false, false, false, false, false, false] rfl rfl (any_of HT_.out (by kernel_rfl)) (fun _ _ _ h => h) (Or.inl ⟨by rfl, ?_⟩) ?_ ?_
          rotate_left
          ·intro w'
           go_simp
           with_reducible rfl
          rotate_left
          ·simp only [Act.put, List.setIfInBounds_toArray, List.set_cons_zero, List.set_cons_succ, i64_w, i32_w]
           rfl
          refine pure_ (i := 6) (N := some 51) (v := ?_) (a' := ?_) #[true, true, true, true, true, true, true, false, false, false, false, false, false, false, false] rfl rfl (any_of HT_.out (by kernel_rfl)) (fun _ _ _ h => h) (Or.inl ⟨by rfl, ?_⟩) ?_ ?_
          rotate_left
          ·intro w'
           go_simp
           with_reducible rfl
          rotate_left
          ·simp only [Act.put, List.setIfInBounds_toArray, List.set_cons_zero, List.set_cons_succ, i64_w, i32_w]
           rfl
          refine pure_ (i := 7) (N := some 52) (v := ?_) (a' := ?_) #[true, true, true, true, true, true, true, true, false, false, false, false, false, false, false] rfl rfl (any_of HT_.out (by kernel_rfl)) (fun _ _ _ h => h) (Or.inl ⟨by rfl, ?_⟩) ?_ ?_
          rotate_left
          ·intro w'
           go_simp
           with_reducible rfl
          rotate_left
          ·simp only [Act.put, List.setIfInBounds_toArray, List.set_cons_zero, List.set_cons_succ, i64_w, i32_w]
           rfl
          refine take_ (i := 8) (N := some 53) (v := ?_) (a' := ?_) #[true, true, true, true, true, true, true, true, true, false, false, false, false, false, false] rfl rfl (take_ofW HT_.out HW_.out (by kernel_rfl)) (fun _ _ _ h => h) (Or.inl ⟨by rfl, ?_⟩) hHeld ?_ ?_
          rotate_left
          ·rintro w' ⟨s0, s1⟩
           go_simp
           with_reducible rfl
          rotate_left
          ·simp only [Act.put, List.setIfInBounds_toArray, List.set_cons_zero, List.set_cons_succ, i64_w, i32_w]
           rfl
          refine pure_ (i := 9) (N := some 54) (v := ?_) (a' := ?_) #[true, true, true, true, true, true, true, true, true, true, false, false, false, false, false] rfl rfl (any_of HT_.out (by kernel_rfl)) (fun _ _ _ h => h) (Or.inl ⟨by rfl, ?_⟩) ?_ ?_
          rotate_left
          ·intro w'
           go_simp
           with_reducible rfl
          rotate_left
          ·simp only [Act.put, List.setIfInBounds_toArray, List.set_cons_zero, List.set_cons_succ, i64_w, i32_w]
           rfl
          refine pure_ (i := 10) (N := some 55) (v := ?_) (a' := ?_) #[true, true, true, true, true, true, true, true, true, true, true, false, false, false, false] rfl rfl (any_of HT_.out (by kernel_rfl)) (fun _ _ _ h => h) (Or.inl ⟨by rfl, ?_⟩) ?_ ?_
          rotate_left
          ·intro w'
           go_simp
           with_reducible rfl
          rotate_left
          ·simp only [Act.put, List.setIfInBounds_toArray, List.set_cons_zero, List.set_cons_succ, i64_w, i32_w]
           rfl
          refine take_ (i := 11) (N := some 56) (v := ?_) (a' := ?_) #[true, true, true, true, true, true, true, true, true, true, true, true, false, false, false] rfl rfl (take_ofW HT_.out HW_.out (by kernel_rfl)) (fun _ _ _ h => h) (Or.inl ⟨by rfl, ?_⟩) hHeld ?_ ?_
          rotate_left
          ·rintro w' ⟨s0, s1⟩
           go_simp
           with_reducible rfl
          rotate_left
          ·simp only [Act.put, List.setIfInBounds_toArray, List.set_cons_zero, List.set_cons_succ, i64_w, i32_w]
           rfl
          refine pure_ (i := 12) (N := some 57) (v := ?_) (a' := ?_) #[true, true, true, true, true, true, true, true, true, true, true, true, true, false, false] rfl rfl (any_of HT_.out (by kernel_rfl)) (fun _ _ _ h => h) (Or.inl ⟨by rfl, ?_⟩) ?_ ?_
          rotate_left
          ·intro w'
           go_simp
           with_reducible rfl
          rotate_left
          ·simp only [Act.put, List.setIfInBounds_toArray, List.set_cons_zero, List.set_cons_succ, i64_w, i32_w]
           rfl
          refine pure_ (i := 13) (N := some 58) (v := ?_) (a' := ?_) #[true, true, true, true, true, true, true, true, true, true, true, true, true, true, false] rfl rfl (any_of HT_.out (by kernel_rfl)) (fun _ _ _ h => h) (Or.inl ⟨by rfl, ?_⟩) ?_ ?_
          rotate_left
          ·intro w'
           go_simp
           with_reducible rfl
          rotate_left
          ·simp only [Act.put, List.setIfInBounds_toArray, List.set_cons_zero, List.set_cons_succ, i64_w, i32_w]
           rfl
          refine last_ (i := 14) (N := none) #[true, true, true, true, true, true, true, true, true, true, true, true, true, true, true] rfl rfl (one_of HT_.out (by kernel_rfl)) (by decide) (fun K hK => ?_)
          refine skip_ (w1 := ?_) (by rfl) rfl ?_ ?_
          rotate_left
          ·go_simp
           rfl
          refine hK.out _ _ ?_
          clear hK K
          refine done_ (done_of HT_.out (by kernel_rfl)) ?_
          try go_wp2
          (try simp only [← hl900_1])
          go_roundg k1
          case measure => have := HK1.out; omega
          case rel => exact ⟨(wrap64 (x4_1 - 1)), (x900_1), (y182), (x172000_1), (x172001_1), (x172002_1), (by first | rfl | (simp; done) | (simp [*]; done)), H', ⟨by have := HK1.out; omega⟩, ⟨by (try simp only [hl900_1]); (with_reducible repeat (first | apply Kd.R_alloc | apply Kd.R_drewN | apply Kd.R_drew)); exact Kd.R_mono (Kd.R_far (p := ⟨go39, (x4_1 : Int).toNat, none⟩) (Kd.R_types HO_900.out GG39.out (by decide)) (fun _ hk => hk.2) (.bool (!(false)))) (fun _ hk => trivial)⟩, ⟨by (try simp only [hl900_1]); (with_reducible repeat (first | apply Kd.R_alloc | apply Kd.R_drewN | apply Kd.R_drew)); exact HQ42.out⟩, ⟨by (try simp only [hl900_1]); (with_reducible repeat (first | refine blk_drewN ?_ _ | refine blk_drew ?_ | refine blk_alloc ?_ _)); refine blk_far ?_ (by have h_ := Kd.R_ne HO_901.out BK171.out (by decide); intro e_; exact h_ (by rw [e_]; rfl)) _; (with_reducible repeat (first | refine blk_drewN ?_ _ | refine blk_drew ?_ | refine blk_alloc ?_ _)); exact BK171.out⟩, ⟨by repeat (first | (with_reducible first | exact HB.out | apply below_alloc | apply pw_below_drewN | apply below_drew1 | refine below_set ?_ GB39.out | refine below_set ?_ GE171.out) | exact HB.out)⟩, ⟨by (try simp only [hl900_1]); (with_reducible repeat (first | refine blk_drewN ?_ _ | refine blk_drew ?_ | refine blk_alloc ?_ _)); refine blk_far ?_ (by have h_ := Kd.R_ne HO_901.out BKW.out (by decide); intro e_; exact h_ (by rw [e_]; rfl)) _; (with_reducible repeat (first | refine blk_drewN ?_ _ | refine blk_drew ?_ | refine blk_alloc ?_ _)); exact BKW.out⟩, ⟨by repeat (first | exact HKT.out | apply KT.drewN | apply KT.drew | apply KT.alloc | refine KT.set ?_ GG39.out (by decide) _)⟩⟩
         ·rw [if_neg c38] at H
          have c38b0 : decide (a0 ≤ (wrap64 ((rd x900_1 x4_1) + 1))) = false := decide_eq_false c38
          clear c38
          obtain ⟨y183, hy183⟩ : ∃ y_ : List Int, y_ = (x900_1.set (x4_1 : Int).toNat (wrap64 ((rd x900_1 x4_1) + 1))) := ⟨_, rfl⟩
          replace H : (some (x4_1, rd x900_1 x4_1, wrap64 ((rd x900_1 x4_1) + 1), true, y183, x901_1)) = some (r1, r2, r3, r4, r5, r6) := by first | (rw [hy183]; with_reducible exact H) | (have H2_ := (Option.bind_some _ _).symm.trans H; rw [hy183]; with_reducible exact H2_) | (have H2_ := (Option.bind_some _ _).symm.trans H; with_reducible exact H2_) | with_reducible exact H | (rw [hy183]; exact H) | exact H
          have Ny183 := Aside0.mk hy183
          clear hy183
          simp only [Option.some.injEq, Prod.mk.injEq] at H
          obtain ⟨rfl, rfl, rfl, rfl, rfl, rfl⟩ := H
          have hcw0 : wr.cell? ⟨g, 0, none⟩ = some (.int .i64 a0) := (blk_cell BKW.out 0).trans rfl
          have hcw1 : wr.cell? ⟨g, 1, none⟩ = some (.slice Ao11 x900_1.length co11) := (blk_cell BKW.out 1).trans rfl
          have hcw2 : wr.cell? ⟨g, 2, none⟩ = some (v2) := (blk_cell BKW.out 2).trans rfl
          have p172 : 0 ≤ (x4_1 : Int) := of_decide_eq_true (by first | (with_reducible assumption) | assumption)
          have q172 : x4_1 < (x900_1.length : Int) := of_decide_eq_true (by first | (with_reducible assumption) | assumption)
          obtain ⟨ad172, e172, hx172_0⟩ := Kd.at_int (Kd.R_reads' HO_900.out).2.2 x4_1 p172 q172
          cases e172
          replace p172 := eq_true p172
          replace q172 := eq_true q172
          obtain ⟨Ao44, co44, eo44⟩ := Kd.R_slice HO_901.out
          subst eo44
          have p173 : 0 ≤ (x4_1 : Int) := of_decide_eq_true (by first | (with_reducible assumption) | assumption)
          have q173 : x4_1 < (x901_1.length : Int) := of_decide_eq_true (by first | (with_reducible assumption) | assumption)
          obtain ⟨ad173, e173, hx173_0⟩ := Kd.at_bool (Kd.R_reads' HO_901.out).2.2 x4_1 p173 q173
          (try rw [← Nbq16.out] at hx173_0)
          cases e173
          replace p173 := eq_true p173
          replace q173 := eq_true q173
          have p43 : 0 ≤ (x4_1 : Int) := of_decide_eq_true (by first | (with_reducible assumption) | assumption)
          have q43 : (x4_1 : Int) < ((x900_1.length : Int) : Int) := of_decide_eq_true (by first | (with_reducible assumption) | assumption)
          obtain ⟨go43, co43, eo43, gb43, gl43, cl43, HG43⟩ := Kd.R_form HO_900.out (by omega)
          (first | cases eo43 | (injection eo43 with ea_ en_ ec_; (first | subst ea_ | (injection ea_ with ea_; subst ea_)); subst ec_; clear en_))
          have GB43 := Aside0.mk gb43
          have GG43 := Aside0.mk HG43
          clear gb43 gl43 HG43
          (first | simp only [add_plain] at hx172_0 | skip)
          obtain ⟨hx43_0, hf43_0⟩ := Kd.R_celln 0 HO_900.out (x4_1 : Int) p43 q43
          replace p43 := eq_true p43
          replace q43 := eq_true q43
          have HP45 := Kd.R_putg HO_900.out (x4_1 : Int) (wrap64 ((rd x900_1 x4_1) + 1))
          go_wp2_with (first | ((with_reducible refine gate_store (t := 3) (p := 65) rfl ?_); refine store_event (t := 3) (p := 65) (v := ?vo_w46) (w1 := (wr.setCell ⟨go43, (x4_1 : Int).toNat, none⟩ (.int .i64 (wrap64 ((rd x900_1 x4_1) + 1))))) ?hg ?ho ?hn ?hr ?_; (case ho => rfl); (case hg => rfl); (case hn => rfl); (case hr => first | (go_simp; done) | (go_simp; rfl)); intro w46 hw; have hg : wr.grownBy w46 (some go43) := (by rw [hw]; exact HP45.2); have hp_ : Kd.R (Kd.int .i64) 3 w46 w0.heap.size (fun _ => True) (.slice (some ⟨go43, 0, none⟩) x900_1.length co11) y183 := (by rw [hw, Ny183.out]; exact HP45.1); clear HP45; have n0_ := Aside0.mk (hp_); have n1_ := Aside0.mk (Kd.R_over' (v := (.slice (some ⟨go43, 0, none⟩) x900_1.length co11)) (by (with_reducible repeat (first | apply Kd.R_alloc | apply Kd.R_drewN | apply Kd.R_drew)); exact HO_901.out) (Kd.R_typed HO_900.out) (by decide) hg); have n2_ := Aside0.mk (blk_grown (g := gb171) (o := .cells #[.int .i64 x172000_1, .int .i64 x172001_1, .int .i64 x172002_1] 45 (0, 0)) (by (with_reducible repeat (first | refine blk_drewN ?_ _ | refine blk_drew ?_ | refine blk_alloc ?_ _)); exact BK171.out) hg (Kd.R_ne HO_900.out BK171.out (by decide))); have n3_ := Aside0.mk ((by rw [hw]; exact below_set (HB.out) GB43.out : Below w0.heap.size w0 w46)); have nw_ := Aside0.mk (blk_grown (by (with_reducible repeat (first | refine blk_drewN ?_ _ | refine blk_drew ?_ | refine blk_alloc ?_ _)); exact BKW.out) hg (Kd.R_ne HO_900.out BKW.out (by decide))); have nk_ := Aside0.mk (KT.grown (by repeat (first | exact HKT.out | apply KT.drewN | apply KT.drew | apply KT.alloc)) hg (Kd.R_typed (v := .slice (some ⟨go43, 0, none⟩) x900_1.length co11) HO_900.out) (by decide)); clear BKW; clear HKT; have BKW := nw_; have HKT := nk_; clear nw_ nk_; clear HO_900; clear HO_901; clear BK171; clear HB; have HO_900 := n0_; have HO_901 := n1_; have BK171 := n2_; have HB := n3_; clear n0_ n1_ n2_ n3_; clear hg hw hp_; have hcz47_0 : w46.cell? ⟨gb171, 0, none⟩ = some (.int .i64 x172000_1) := (blk_cell BK171.out 0).trans rfl; have hcz47_1 : w46.cell? ⟨gb171, 1, none⟩ = some (.int .i64 x172001_1) := (blk_cell BK171.out 1).trans rfl; have hcz47_2 : w46.cell? ⟨gb171, 2, none⟩ = some (.int .i64 x172002_1) := (blk_cell BK171.out 2).trans rfl; have hfz47_0 := blk_frozen BK171.out 0; have hfz47_1 := blk_frozen BK171.out 1; have hfz47_2 := blk_frozen BK171.out 2))
          refine bodyPost_ret (results_ct rfl _ _ gb171 45 #[.int .i64 x4_1, .int .i64 (rd x900_1 x4_1), .int .i64 (wrap64 ((rd x900_1 x4_1) + 1))] (0, 0) _ rfl (by (with_reducible repeat (first | refine blk_drewN ?_ _ | refine blk_drew ?_ | refine blk_alloc ?_ _)); refine blk_put (cs := #[.int .i64 x4_1, .int .i64 (rd x900_1 x4_1), .int .i64 x172002_1]) ?_ 2 _ rfl; (with_reducible repeat (first | refine blk_drewN ?_ _ | refine blk_drew ?_ | refine blk_alloc ?_ _)); refine blk_put (cs := #[.int .i64 x4_1, .int .i64 x172001_1, .int .i64 x172002_1]) ?_ 1 _ rfl; (with_reducible repeat (first | refine blk_drewN ?_ _ | refine blk_drew ?_ | refine blk_alloc ?_ _)); refine blk_put (cs := #[.int .i64 x172000_1, .int .i64 x172001_1, .int .i64 x172002_1]) ?_ 0 _ rfl; (with_reducible repeat (first | refine blk_drewN ?_ _ | refine blk_drew ?_ | refine blk_alloc ?_ _)); exact BK171.out) Try.underlying45 rfl (by kernel_rfl)) rfl ?_
          refine ⟨by first | rfl | (simp [errW_none, errW_some] <;> rfl) | (simp [*, errW_none, errW_some] <;> rfl), ⟨by repeat (first | (with_reducible first | exact HB.out | apply below_alloc | apply pw_below_drewN | apply below_drew1 | refine below_set ?_ GE171.out) | exact HB.out), GW.out, ?_, ?_, ?_⟩, ?_⟩
          ·(try simp only [hl900_1]); repeat (first | exact BKW.out | refine blk_far ?_ (blk_ne BKW.out BK171.out (by decide)) _ | refine blk_drewN ?_ _ | refine blk_drew ?_)
          ·(try simp only [hl900_1]); exact R_but HO_900.out BK171.out (by decide) (fun k hk => by (repeat refine (Below.heap_setCell _ _ _ k (by exact hk)).trans ?_); rfl)
          ·(try simp only [hl900_1]); exact R_but HO_901.out BK171.out (by decide) (fun k hk => by (repeat refine (Below.heap_setCell _ _ _ k (by exact hk)).trans ?_); rfl)
          ·repeat (first | exact HKT.out | apply KT.drewN | apply KT.drew | apply KT.alloc | refine KT.setn ?_ GN171.out _)
      ·rw [if_neg c15] at H
       exact absurd H (by simp)
     ·rw [if_neg c14] at H
      exact absurd H (by simp)
    ·rw [if_neg c13] at H
     exact absurd H (by simp)
   ·rw [if_neg c12] at H
    have c12b0 : decide (0 ≤ x4_1) = false := decide_eq_false c12
    clear c12
    simp only [Option.some.injEq, Prod.mk.injEq] at H
    obtain ⟨rfl, rfl, rfl, rfl, rfl, rfl⟩ := H
    have hcz48_0 : wr.cell? ⟨gb171, 0, none⟩ = some (.int .i64 x172000_1) := (blk_cell BK171.out 0).trans rfl
    have hcz48_1 : wr.cell? ⟨gb171, 1, none⟩ = some (.int .i64 x172001_1) := (blk_cell BK171.out 1).trans rfl
    have hcz48_2 : wr.cell? ⟨gb171, 2, none⟩ = some (.int .i64 x172002_1) := (blk_cell BK171.out 2).trans rfl
    have hfz48_0 := blk_frozen BK171.out 0
    have hfz48_1 := blk_frozen BK171.out 1
    have hfz48_2 := blk_frozen BK171.out 2
    go_wp2
    refine bodyPost_ret (results_ct rfl _ _ gb171 45 #[.int .i64 0, .int .i64 0, .int .i64 0] (0, 0) _ rfl (by (with_reducible repeat (first | refine blk_drewN ?_ _ | refine blk_drew ?_ | refine blk_alloc ?_ _)); refine blk_put (cs := #[.int .i64 0, .int .i64 0, .int .i64 x172002_1]) ?_ 2 _ rfl; (with_reducible repeat (first | refine blk_drewN ?_ _ | refine blk_drew ?_ | refine blk_alloc ?_ _)); refine blk_put (cs := #[.int .i64 0, .int .i64 x172001_1, .int .i64 x172002_1]) ?_ 1 _ rfl; (with_reducible repeat (first | refine blk_drewN ?_ _ | refine blk_drew ?_ | refine blk_alloc ?_ _)); refine blk_put (cs := #[.int .i64 x172000_1, .int .i64 x172001_1, .int .i64 x172002_1]) ?_ 0 _ rfl; (with_reducible repeat (first | refine blk_drewN ?_ _ | refine blk_drew ?_ | refine blk_alloc ?_ _)); exact BK171.out) Try.underlying45 rfl (by kernel_rfl)) rfl ?_
    refine ⟨by first | rfl | (simp [errW_none, errW_some] <;> rfl) | (simp [*, errW_none, errW_some] <;> rfl), ⟨by repeat (first | (with_reducible first | exact HB.out | apply below_alloc | apply pw_below_drewN | apply below_drew1 | refine below_set ?_ GE171.out) | exact HB.out), GW.out, ?_, ?_, ?_⟩, ?_⟩
    ·(try simp only [hl900_1]); repeat (first | exact BKW.out | refine blk_far ?_ (blk_ne BKW.out BK171.out (by decide)) _ | refine blk_drewN ?_ _ | refine blk_drew ?_)
    ·(try simp only [hl900_1]); exact R_but HO_900.out BK171.out (by decide) (fun k hk => by (repeat refine (Below.heap_setCell _ _ _ k (by exact hk)).trans ?_); rfl)
    ·(try simp only [hl900_1]); exact R_but HO_901.out BK171.out (by decide) (fun k hk => by (repeat refine (Below.heap_setCell _ _ _ k (by exact hk)).trans ?_); rfl)
    ·repeat (first | exact HKT.out | apply KT.drewN | apply KT.drew | apply KT.alloc | refine KT.setn ?_ GN171.out _)
end Go.Proofs.Ythgaihhlbgccoaa.Q
