import Derived.Test.YthgaihhlbgccoaaZWa
/- A range over an iterator that hands out rows of its own: the law that word.Walk's caller wants; word.Walk itself. -/
namespace Go.Proofs.Ythgaihhlbgccoaa.Q
open Go.RowKit Go.Shelf Go.Proofs.YthgaihhlbgccoaaW.PrintWords Go.Proofs.YthgaihhlbgccoaaW.PrintLast Go.Proofs.YthgaihhlbgccoaaW.PrintMore
attribute [local go_sem] Oper.semAt_some
set_option linter.unusedVariables false
set_option linter.unusedSimpArgs false

/-- How the body is left: it goes on, and keeps the blocks from b on. -/
def bodyEnds (b : Nat) (I : Nat → World → Prop) (t : Nat) (W : World) : Exit → Act → World → Prop
 | .normal, _, W' => I t W' ∧ Kp b W W'
 | _, _, _ => False
theorem Mv.putObj {b g : Nat} (W : World) {l : Nat} (o : Obj) (hl : b ≤ l) : Mv b g W (W.putObj l o) :=
 ⟨rfl, rfl, rfl, by simp, fun k hk _ => World.putObj_heap_other (by omega)⟩
theorem R_putObj {W : World} {base : Nat} {v : Value} {xs : List Int} (h : Kd.R (Kd.int .i64) 3 W base (fun _ => True) v xs) {l : Nat} (o : Obj) (hl : l < base) : Kd.R (Kd.int .i64) 3 (W.putObj l o) base (fun _ => True) v xs :=
 Kd.R_mono (Kd.R_move (Kd.R_bound h) (fun k hk => World.putObj_heap_other (by have := hk.2.1; omega))) (fun _ _ => trivial)
theorem wpIn_rangeFunc_rows {g : Operand} {ps : Array Tmp} {assign body : Code} {Q : Exit → Act → World → Prop} {a : Act} {w : World} {n : Nat} (h1 : 1 ≤ n) {gf : Nat} {lb : Array Value}
  (hg : a.eval g = .func (.func gf) #[] lb) (eg : ∀ args w, (callFunc gf args).run Try.prog w = .ok (.enter gf args) w) (gI : Nat) (hgI : gI < w.heap.size) (hps : ps.size = 1)
  (I : Nat → World → Prop) (c : Nat) (Wt : Nat → List Int) (hI : ∀ t A C, I t A → Mv w.heap.size gI A C → I t C) (h0 : I 0 w)
  (hseq : ∀ (l : Nat) (J : Nat → World → Prop) (W : World), W.heap.size = w.heap.size + 2 → Below w.heap.size w W → (∀ t A C, J t A → Mv (w.heap.size + 2) gI A C → J t C) → Owes (n - 1) l (w.heap.size + 2) c Wt J → J 0 W →
   CallsIn Fence.wide (n - 1) Try.prog gf (#[.func (.yield l) #[] #[]] ++ lb) W fun e W' => (∃ v, e = .returned v) ∧ J c W')
  (hassign : ∀ (l : Nat) (v : Value) (W : World) (K : Act → World → Prop), K { tmps := (a.tmps.setIfInBounds 51 v).setIfInBounds 15 v, defers := [] } W →
   assign.wpIn (Fence.wide.inRound l) (n - 1 - 1) Try.prog (Exit.then K (fun _ _ _ => False)) { tmps := (ps.zip #[v]).foldl (fun t (p, v) => t.setIfInBounds p v) a.tmps, defers := [] } W)
  (hbody : ∀ (l t : Nat) (v : Value) (W : World), t < c → I t W → w.heap.size + 2 ≤ W.heap.size → Kd.R (Kd.int .i64) 3 W (w.heap.size + 2) (fun _ => True) v (Wt t) →
   body.wpIn (Fence.wide.inRound l) (n - 1 - 1) Try.prog (bodyEnds w.heap.size I (t + 1) W) { tmps := (a.tmps.setIfInBounds 51 v).setIfInBounds 15 v, defers := [] } W)
  (hdone : ∀ (W : World), I c W → w.heap.size + 2 ≤ W.heap.size → W.heap[w.heap.size]? = some (.deferred (some [])) → Q .normal { a with defers := { target := .collected w.heap.size, args := #[] } :: a.defers } W) :
  (Code.rangeFunc g ps assign body).wpIn Fence.wide n Try.prog Q a w := by
 refine wpIn_rangeFunc ?_
 intro fn hfn
 rw [show Fence.wide.round = none from rfl]
 obtain ⟨rec, hrec⟩ : ∃ rec : LoopState → Option Code → Loop, rec = fun st pe => { state := st, pending := pe, fn, tmps := a.tmps, params := ps, assign, body, defers := w.heap.size } := ⟨_, rfl⟩
 obtain ⟨W1, hW1⟩ : ∃ W1, (w.alloc (.deferred (some []))).alloc (.loop (rec .ready none)) = W1 := ⟨_, rfl⟩
 have hL1 : W1.heap[w.heap.size + 1]? = some (.loop (rec .ready none)) := by
  rw [← hW1]; have := World.alloc_heap_new (w.alloc (.deferred (some []))) (.loop (rec .ready none)); rwa [World.size_alloc] at this
 have hK1 : W1.heap[w.heap.size]? = some (.deferred (some [])) := by
  rw [← hW1]; exact (Below.heap_alloc _ _ _ (by simp)).trans (World.alloc_heap_new w _)
 have hs1 : W1.heap.size = w.heap.size + 2 := by rw [← hW1]; simp
 have hb1 : Below w.heap.size w W1 := by
  rw [← hW1]; exact (((Below.refl _ w).alloc (Nat.le_refl _) _).alloc (by simp) _)
 have hI1 : I 0 W1 := hI 0 _ _ h0 (Mv.of_below hb1 (Nat.le_refl _))
 refine ⟨w.heap.size + 1, [{ target := .collected w.heap.size, args := #[] }], W1, { target := .fn (.func gf) lb, args := #[.func (.yield (w.heap.size + 1)) #[] #[]] }, W1, gf,
  #[.func (.yield (w.heap.size + 1)) #[] #[]] ++ lb, W1, ?_, ?_, ?_, ?_, fun _ => h1, ?_⟩
 ·rw [← hW1, hrec]; exact run_enterLoop_outer _ _ _ _ _
 ·simp only [resolve, hg]
  simp [go_sem]
 ·intro f' hf'; trivial
 ·simp [invoke, go_sem, eg]
 ·refine (hseq (w.heap.size + 1)
   (fun t W => I t W ∧ W.heap[w.heap.size + 1]? = some (.loop (rec .ready none)) ∧ W.heap[w.heap.size]? = some (.deferred (some []))) W1 hs1 hb1
   (fun t A C h hm => ⟨hI t A C h.1 ⟨hm.os, hm.tape, hm.output, hm.size, fun k hk hne => hm.block k (by omega) hne⟩, (hm.block _ (by omega) (by omega)).trans h.2.1, (hm.block _ (by omega) (by omega)).trans h.2.2⟩)
   ?_ ⟨hI1, hL1, hK1⟩).mono ?_
  ·rintro t W v ht ⟨hi, hl, hk⟩ hBW hR
   have hlt : w.heap.size + 1 < W.heap.size := (Array.getElem?_eq_some_iff.1 hl).1
   have hy := run_yield (P := Try.prog) (args := #[v]) hl (by rw [hrec]; simp [hps])
   rw [hrec] at hy
   obtain ⟨bz, hbz⟩ : ∃ bz : Loop, bz = { rec .ready none with state := .busy } := ⟨_, rfl⟩
   have hbr : (Instr.beginRound (w.heap.size + 1)).run Try.prog W = .ok () (W.putObj (w.heap.size + 1) (.loop bz)) := by rw [hbz]; exact run_beginRound hl (by rw [hrec])
   obtain ⟨Wp, hWp⟩ : ∃ Wp, W.putObj (w.heap.size + 1) (.loop bz) = Wp := ⟨_, rfl⟩
   rw [hWp] at hbr
   refine ⟨fn, _, assign, body, hy, roundIn_of_wpIn hfn (hassign _ v W _ ⟨_, hbr, ?_⟩)⟩
   have hl2 : Wp.heap[w.heap.size + 1]? = some (.loop bz) := by rw [← hWp]; exact World.putObj_heap_same hlt
   have ho2 : ∀ k, k ≠ w.heap.size + 1 → Wp.heap[k]? = W.heap[k]? := fun k hk => by rw [← hWp]; exact World.putObj_heap_other hk
   have hk2 : Wp.heap[w.heap.size]? = some (.deferred (some [])) := (ho2 _ (by omega)).trans hk
   have hs2 : Wp.heap.size = W.heap.size := by rw [← hWp]; exact World.putObj_size
   have hiW : I t Wp := by rw [← hWp]; exact hI t _ _ hi (Mv.putObj _ _ (by omega))
   have hRW : Kd.R (Kd.int .i64) 3 Wp (w.heap.size + 2) (fun _ => True) v (Wt t) := by rw [← hWp]; exact R_putObj hR _ (by omega)
   refine wpIn_mono (hbody _ t v _ ht hiW (by omega) hRW) ?_
   rintro e a3 W3 hp
   cases e with
   | normal =>
    obtain ⟨hi3, hk3⟩ := hp
    have hl3 := (hk3.2 (w.heap.size + 1) (by omega) (by omega)).trans hl2
    have hk4 := (hk3.2 w.heap.size (by omega) (by omega)).trans hk2
    have hlt3 : w.heap.size + 1 < W3.heap.size := (Array.getElem?_eq_some_iff.1 hl3).1
    have hr := run_endRound (P := Try.prog) none hl3
    rw [hbz, hrec] at hr
    refine ⟨_, _, hr, rfl, ⟨hI _ _ _ hi3 (Mv.putObj _ _ (by omega)), ?_, (World.putObj_heap_other (by omega)).trans hk4⟩, ?_⟩
    ·rw [hrec]; exact World.putObj_heap_same hlt3
    ·have hs3 := hk3.1
     refine ⟨by simp only [World.putObj_size]; omega, fun k hk5 hk6 => ?_⟩
     exact (World.putObj_heap_other (by omega)).trans ((hk3.2 k (by omega) (by omega)).trans (ho2 k (by omega)))
   | ret => exact hp.elim
   | exit id => exact hp.elim
   | goto t => exact hp.elim
   | panic ch => exact hp.elim
   | outgrown => exact hp.elim
  ·rintro e W2 ⟨⟨v, rfl⟩, hi, hl, hk⟩
   have hlt2 : w.heap.size + 1 < W2.heap.size := (Array.getElem?_eq_some_iff.1 hl).1
   have he := run_endLoop (P := Try.prog) hl (by rw [hrec]; simp)
   rw [hrec] at he
   exact ⟨none, _, he, hdone _ (hI _ _ _ hi (Mv.putObj _ _ (by omega))) (by simp only [World.putObj_size]; omega) ((World.putObj_heap_other (by omega)).trans hk)⟩

/-- word.Walk: a closure over its two boxed arguments. -/
theorem word_Walk.calls (x : Option Addr) (a1 : Int) (w : World) :
  Calls Try.prog 36 #[.pointer x, .int .i64 a1] w fun e w' => e = .returned (.func (.func 56) #[] #[.pointer (some ⟨w.heap.size, 0, none⟩), .pointer (some ⟨w.heap.size + 1, 0, none⟩)]) ∧
   w'.cell? ⟨w.heap.size, 0, none⟩ = some (.pointer x) ∧ w'.cell? ⟨w.heap.size + 1, 0, none⟩ = some (.int .i64 a1) ∧ w'.heap.size = w.heap.size + 2 ∧ Below w.heap.size w w' := by
 go_enter Try.func36, Try.ntmps36
 go_wp2
 go_ret
 have h1 := blk_new (w.alloc (.cells #[.pointer x] 25)) (.cells #[.int .i64 a1] 3)
 rw [World.size_alloc] at h1
 have hb : Below w.heap.size w ((w.alloc (.cells #[.pointer x] 25)).alloc (.cells #[.int .i64 a1] 3)) := below_alloc (below_alloc (Below.refl _ _) _) _
 exact ⟨rfl, (blk_cell (blk_alloc (blk_new w (.cells #[.pointer x] 25)) _) 0).trans rfl, (blk_cell h1 0).trans rfl, by simp, hb⟩
theorem run_eql_func_nil (f : Fn) (fi ca : Array Value) (w : World) : (binOp .eql 60 (.func f fi ca) .nilFunc).run Try.prog w = .ok (.bool false) w := by
 have h : ∀ d : Nat, (Op.equalIn (d + 1) 60 (.func f fi ca) .nilFunc).run Try.prog w = .ok false w := fun d => by
  simp [Op.equalIn, run_underlying Try.underlying60]
 simp only [binOp]
 simp [Op.equal, Op.maxDepth, h 9999]
end Go.Proofs.Ythgaihhlbgccoaa.Q
