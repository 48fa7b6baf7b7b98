/- What the printed Subsets functions compute: the lists of all ranks, in order. Condition: n is from 0 to 64 where it is named. -/
import Derived.Test.YtekojgilikoegaaNxt
import Derived.Test.YtekojgilikoegaaChQ
import Derived.Test.YtekojgilikoegaaQx13
import Derived.Test.YtekojgilikoegaaQx14
namespace Go.Proofs.Ytekojgilikoegaa.SbQ
open Go.RowKit Go.Proofs.Ytekojgilikoegaa.Q Go.Proofs.YtekojgilikoegaaW.PrintWords Go.Proofs.YtekojgilikoegaaW.PrintLast Go.Proofs.Ytekojgilikoegaa.Math Go.Proofs.Ytekojgilikoegaa.ChQ Go.Proofs.Ytekojgilikoegaa.Sub Go.Proofs.Ytekojgilikoegaa.Nxt

theorem Bn (n k : Nat) : B (n : Int) (k : Int) = (C n k : Int) := by unfold B; rw [if_neg (by omega)]; simp
theorem drop_set_ne (s : List Int) (i : Nat) (x : Int) : (s.set i x).drop (i + 1) = s.drop (i + 1) := by
  rw [List.drop_set_of_lt (by omega)]
/-- s[i]++ and then the rest behind it: the list that nxt tells. -/
theorem fill_nxt (n : Int) (s : List Int) (i : Nat) (hi : i < s.length) (hn : nxt n (s.drop (i + 1)) = none) (hx : ¬ rd s i = n - ((s.length : Int) - i)) :
    nxt n s = some (fill (s.set i (rd s i + 1)) (i + 1)) := by
  have h1 : nxt n (s.drop i) = some (run (rd s i + 1) (s.length - i)) := by
    rw [drop_rd s i hi]; simp only [nxt]; rw [hn, List.length_drop]
    simp only []
    rw [if_neg (by omega)]
    have : s.length - (i + 1) + 1 = s.length - i := by omega
    rw [this]
  have h2 := nxt_append n (s.take i) _ _ h1
  rw [List.take_append_drop] at h2
  rw [h2]
  unfold fill
  have e1 : ((i + 1 : Nat) : Int) - 1 = (i : Int) := by omega
  have e2 : rd (s.set i (rd s i + 1)) (i : Int) = rd s i + 1 := by rw [← rd_lt _ i (by simpa using hi)]; simp
  have e3 : (s.set i (rd s i + 1)).take (i + 1) = s.take i ++ [rd s i + 1] := by
    rw [List.take_succ_eq_append_getElem (by simpa using hi), List.take_set_of_le (by omega)]; simp
  have e4 : s.length - i = (s.length - (i + 1)) + 1 := by omega
  rw [e1, e2, e3, List.length_set, e4, List.append_assoc]; simp [run]
theorem nxt_max (n : Int) (s : List Int) (i : Nat) (hi : i < s.length) (hn : nxt n (s.drop (i + 1)) = none) (hx : rd s i = n - ((s.length : Int) - i)) : nxt n (s.drop i) = none := by
  rw [drop_rd s i hi]; simp only [nxt]; rw [hn, List.length_drop]
  simp only []
  rw [if_pos (by omega)]
/-- Behind i loops: s[i] = i. -/
def upto (k i : Nat) : List Int := (List.range k).map fun (t : Nat) => if t < i then (t : Int) else 0
theorem upto_zero (k : Nat) : List.replicate k (0 : Int) = upto k 0 := by
  apply List.ext_getElem?; intro t; unfold upto; rw [List.getElem?_map, List.getElem?_replicate]
  by_cases h : t < k
  · rw [if_pos h, List.getElem?_range h]; simp
  · rw [if_neg h, List.getElem?_eq_none (by simp; omega)]; rfl
theorem upto_length (k i : Nat) : (upto k i).length = k := by simp [upto]
theorem upto_step (k i : Nat) (h : i < k) : (upto k i).set i (i : Int) = upto k (i + 1) := by
  apply List.ext_getElem?; intro t; unfold upto
  by_cases e : t = i
  · subst e; rw [List.getElem?_set_self (by simpa using h), List.getElem?_map, List.getElem?_range h]; simp
  · rw [List.getElem?_set_ne (by omega), List.getElem?_map, List.getElem?_map]
    by_cases h2 : t < k
    · rw [List.getElem?_range h2]; simp only [Option.map_some]; congr 1
      by_cases h3 : t < i
      · rw [if_pos h3, if_pos (by omega)]
      · rw [if_neg h3, if_neg (by omega)]
    · rw [List.getElem?_eq_none (by simp; omega)]; rfl
theorem run_map : ∀ (k : Nat) (a : Int), run a k = (List.range k).map fun (t : Nat) => a + (t : Int)
  | 0, _ => rfl
  | k + 1, a => by
    rw [List.range_succ_eq_map]; simp only [run, List.map_cons, List.map_map]
    rw [run_map k (a + 1)]; simp only [Function.comp_def]
    refine List.cons_eq_cons.2 ⟨by omega, ?_⟩
    apply List.map_congr_left; intro t _; omega
theorem upto_end (k : Nat) : upto k k = run 0 k := by
  rw [run_map]; unfold upto; apply List.map_congr_left; intro t ht
  rw [if_pos (List.mem_range.1 ht)]; omega
/-- The first q lists. -/
def firsts (n k q : Nat) : List (List Int) := (List.range q).map fun (r : Nat) => un n 0 k (r : Int)
theorem firsts_length (n k q : Nat) : (firsts n k q).length = q := by simp [firsts]
theorem firsts_succ (n k q : Nat) : firsts n k q ++ [un n 0 k (q : Int)] = firsts n k (q + 1) := by
  unfold firsts; rw [List.range_succ, List.map_append]; rfl

theorem word_l3 (n kk : Nat) (out : List (List Int)) (r : List (List Int) × Int) (hn : n ≤ 64) (hkk : kk ≤ n) : ∀ (d j : Nat) (s : List Int), j + d = kk → 1 ≤ j → s.length = kk → (∀ x ∈ s, 0 ≤ x ∧ x + d ≤ 200) →
    Ev (fun k => word_Subsets.l1 k (n : Int) (kk : Int) out (fill s j)) r → Ev (fun k => word_Subsets.l3 k (n : Int) (kk : Int) out s (j : Int)) r
  | 0, j, s, hd, hj, hl, hb, h => by
    rw [fill_end s j (by omega)] at h
    refine Ev.step (fun k => ?_) h
    simp only [word_Subsets.l3]; rw [if_neg (by omega)]
  | d + 1, j, s, hd, hj, hl, hb, h => by
    have hbj : 0 ≤ rd s ((j : Int) - 1) ∧ rd s ((j : Int) - 1) + ((d + 1 : Nat) : Int) ≤ 200 := by
      have e : ((j : Int) - 1) = ((j - 1 : Nat) : Int) := by omega
      rw [e, ← rd_lt s (j - 1) (by omega)]; exact hb _ (List.getElem_mem _)
    have e1 : wrap64 ((j : Int) - 1) = (j : Int) - 1 := w64_id (by omega) (by omega)
    have e2 : wrap64 (rd s ((j : Int) - 1) + 1) = rd s ((j : Int) - 1) + 1 := w64_id (by omega) (by omega)
    have e3 : wrap64 ((j : Int) + 1) = ((j + 1 : Nat) : Int) := by rw [w64_id (by omega) (by omega)]; omega
    have ih := word_l3 n kk out r hn hkk d (j + 1) (s.set j (rd s ((j : Int) - 1) + 1)) (by omega) (by omega) (by simpa using hl) (fun x hx => by
      rcases List.mem_or_eq_of_mem_set hx with hx | hx
      · have := hb x hx; omega
      · omega) (by rw [fill_step s j (by omega)]; exact h)
    refine Ev.step (fun k => ?_) ih
    simp only [word_Subsets.l3]
    rw [if_pos (by omega), e1, if_pos (by omega), if_pos (by omega), if_pos (by omega), if_pos (by omega), e2, e3]; simp
/-- From the search at i on: what lies behind i is at its greatest. -/
theorem word_l2 (n kk : Nat) (out : List (List Int)) (r : List (List Int) × Int) (hn : n ≤ 64) (hkk : kk ≤ n) (s : List Int) (hs : s.length = kk) (hv : V (n : Int) 0 s = true)
    (hsome : ∀ s', nxt (n : Int) s = some s' → Ev (fun k => word_Subsets.l1 k (n : Int) (kk : Int) out s') r)
    (hnone : nxt (n : Int) s = none → r = (out, 0)) : ∀ (q : Nat), q ≤ kk → nxt (n : Int) (s.drop q) = none →
    Ev (fun k => word_Subsets.l2 k (n : Int) (kk : Int) out s ((q : Int) - 1)) r
  | 0, hq, hd => by
    rw [List.drop_zero] at hd
    have h := hnone hd
    subst h
    refine Ev.step (f := fun k => word_Subsets.j4 k (n : Int) (kk : Int) out s ((0 : Int) - 1)) (fun k => ?_) (Ev.step (f := fun _ => some (out, 0)) (fun k => ?_) (Ev.now _))
    · simp only [word_Subsets.l2]; rw [if_neg (by omega)]; rfl
    · simp only [word_Subsets.j4]; rw [if_pos (by omega)]
  | q + 1, hq, hd => by
    have hi : q < s.length := by omega
    have hb := V_rd hv q hi
    have e0 : ((q + 1 : Nat) : Int) - 1 = (q : Int) := by omega
    rw [e0]
    have e1 : wrap64 (wrap64 ((n : Int) - (kk : Int)) + (q : Int)) = (n : Int) - ((s.length : Int) - q) := by rw [hs]; unfold wrap64; omega
    have e2 : wrap64 ((q : Int) - 1) = (q : Int) - 1 := w64_id (by omega) (by omega)
    by_cases hx : rd s q = (n : Int) - ((s.length : Int) - q)
    · have ih := word_l2 n kk out r hn hkk s hs hv hsome hnone q (by omega) (nxt_max (n : Int) s q hi hd hx)
      refine Ev.step (fun k => ?_) ih
      simp only [word_Subsets.l2]
      rw [if_pos (by omega), if_pos (by omega), if_pos (by omega), e1, if_pos hx, e2]
    · have hf := fill_nxt (n : Int) s q hi hd hx
      have h := hsome _ hf
      have e3 : wrap64 (rd s q + 1) = rd s q + 1 := w64_id (by omega) (by omega)
      have e4 : wrap64 ((q : Int) + 1) = ((q + 1 : Nat) : Int) := by rw [w64_id (by omega) (by omega)]; omega
      have h3 := word_l3 n kk out r hn hkk (kk - (q + 1)) (q + 1) (s.set q (rd s q + 1)) (by omega) (by omega) (by simpa using hs) (fun x hx => by
        rcases List.mem_or_eq_of_mem_set hx with hx | hx
        · have := V_bounds s 0 hv x hx; omega
        · omega) h
      refine Ev.step (f := fun k => word_Subsets.j4 k (n : Int) (kk : Int) out s (q : Int)) (fun k => ?_) (Ev.step (fun k => ?_) h3)
      · simp only [word_Subsets.l2]
        rw [if_pos (by omega), if_pos (by omega), if_pos (by omega), e1, if_neg hx]
      · simp only [word_Subsets.j4]
        rw [if_neg (by omega), if_pos (by omega), if_pos (by omega), e3, e4]; simp

theorem ref_l3 (n kk : Nat) (c : Int) (t : Int) (wt : Aside0 (wrap64 (t + 1) = t + 1)) (out : List (List Int)) (r : List (List Int) × Int) (hn : n ≤ 64) (hkk : kk ≤ n) : ∀ (d j : Nat) (s : List Int), j + d = kk → 1 ≤ j → s.length = kk → (∀ x ∈ s, 0 ≤ x ∧ x + d ≤ 200) →
    Ev (fun k => codewrightref11_Subsets.l1 k (n : Int) (kk : Int) c out (fill s j) (t + 1)) r → Ev (fun k => codewrightref11_Subsets.l3 k (n : Int) (kk : Int) c out s t (j : Int)) r
  | 0, j, s, hd, hj, hl, hb, h => by
    rw [fill_end s j (by omega)] at h
    refine Ev.step (fun k => ?_) h
    simp only [codewrightref11_Subsets.l3]; rw [if_neg (by omega)]; rw [wt.out]
  | d + 1, j, s, hd, hj, hl, hb, h => by
    have hbj : 0 ≤ rd s ((j : Int) - 1) ∧ rd s ((j : Int) - 1) + ((d + 1 : Nat) : Int) ≤ 200 := by
      have e : ((j : Int) - 1) = ((j - 1 : Nat) : Int) := by omega
      rw [e, ← rd_lt s (j - 1) (by omega)]; exact hb _ (List.getElem_mem _)
    have e1 : wrap64 ((j : Int) - 1) = (j : Int) - 1 := w64_id (by omega) (by omega)
    have e2 : wrap64 (rd s ((j : Int) - 1) + 1) = rd s ((j : Int) - 1) + 1 := w64_id (by omega) (by omega)
    have e3 : wrap64 ((j : Int) + 1) = ((j + 1 : Nat) : Int) := by rw [w64_id (by omega) (by omega)]; omega
    have ih := ref_l3 n kk c t wt out r hn hkk d (j + 1) (s.set j (rd s ((j : Int) - 1) + 1)) (by omega) (by omega) (by simpa using hl) (fun x hx => by
      rcases List.mem_or_eq_of_mem_set hx with hx | hx
      · have := hb x hx; omega
      · omega) (by rw [fill_step s j (by omega)]; exact h)
    refine Ev.step (fun k => ?_) ih
    simp only [codewrightref11_Subsets.l3]
    rw [if_pos (by omega), e1, if_pos (by omega), if_pos (by omega), if_pos (by omega), if_pos (by omega), e2, e3]; simp
/-- From the search at i on: what lies behind i is at its greatest. -/
theorem ref_l2 (n kk : Nat) (c : Int) (t : Int) (wt : Aside0 (wrap64 (t + 1) = t + 1)) (out : List (List Int)) (r : List (List Int) × Int) (hn : n ≤ 64) (hkk : kk ≤ n) (s : List Int) (hs : s.length = kk) (hv : V (n : Int) 0 s = true)
    (hsome : ∀ s', nxt (n : Int) s = some s' → Ev (fun k => codewrightref11_Subsets.l1 k (n : Int) (kk : Int) c out s' (t + 1)) r)
    (hnone : nxt (n : Int) s = none → Ev (fun k => codewrightref11_Subsets.l1 k (n : Int) (kk : Int) c out s (t + 1)) r) : ∀ (q : Nat), q ≤ kk → nxt (n : Int) (s.drop q) = none →
    Ev (fun k => codewrightref11_Subsets.l2 k (n : Int) (kk : Int) c out s t ((q : Int) - 1)) r
  | 0, hq, hd => by
    rw [List.drop_zero] at hd
    have h := hnone hd
    refine Ev.step (f := fun k => codewrightref11_Subsets.j4 k (n : Int) (kk : Int) c out s t ((0 : Int) - 1)) (fun k => ?_) (Ev.step (fun k => ?_) h)
    · simp only [codewrightref11_Subsets.l2]; rw [if_neg (by omega)]; rfl
    · simp only [codewrightref11_Subsets.j4]; rw [if_neg (by omega), wt.out]
  | q + 1, hq, hd => by
    have hi : q < s.length := by omega
    have hb := V_rd hv q hi
    have e0 : ((q + 1 : Nat) : Int) - 1 = (q : Int) := by omega
    rw [e0]
    have e1 : wrap64 (wrap64 ((n : Int) - (kk : Int)) + (q : Int)) = (n : Int) - ((s.length : Int) - q) := by rw [hs]; unfold wrap64; omega
    have e2 : wrap64 ((q : Int) - 1) = (q : Int) - 1 := w64_id (by omega) (by omega)
    by_cases hx : rd s q = (n : Int) - ((s.length : Int) - q)
    · have ih := ref_l2 n kk c t wt out r hn hkk s hs hv hsome hnone q (by omega) (nxt_max (n : Int) s q hi hd hx)
      refine Ev.step (fun k => ?_) ih
      simp only [codewrightref11_Subsets.l2]
      rw [if_pos (by omega), if_pos (by omega), if_pos (by omega), e1, if_pos hx, e2]
    · have hf := fill_nxt (n : Int) s q hi hd hx
      have h := hsome _ hf
      have e3 : wrap64 (rd s q + 1) = rd s q + 1 := w64_id (by omega) (by omega)
      have e4 : wrap64 ((q : Int) + 1) = ((q + 1 : Nat) : Int) := by rw [w64_id (by omega) (by omega)]; omega
      have h3 := ref_l3 n kk c t wt out r hn hkk (kk - (q + 1)) (q + 1) (s.set q (rd s q + 1)) (by omega) (by omega) (by simpa using hs) (fun x hx => by
        rcases List.mem_or_eq_of_mem_set hx with hx | hx
        · have := V_bounds s 0 hv x hx; omega
        · omega) h
      refine Ev.step (f := fun k => codewrightref11_Subsets.j4 k (n : Int) (kk : Int) c out s t (q : Int)) (fun k => ?_) (Ev.step (fun k => ?_) h3)
      · simp only [codewrightref11_Subsets.l2]
        rw [if_pos (by omega), if_pos (by omega), if_pos (by omega), e1, if_neg hx]
      · simp only [codewrightref11_Subsets.j4]
        rw [if_pos (by omega), if_pos (by omega), if_pos (by omega), e3, e4]; simp

/-- From the list of rank q on. -/
theorem word_l1 (n kk : Nat) (hn : n ≤ 64) (hkk : kk ≤ n) (hc : C n kk ≤ 65536) : ∀ (d q : Nat), q + d + 1 = C n kk →
    Ev (fun k => word_Subsets.l1 k (n : Int) (kk : Int) (firsts n kk q) (un n 0 kk (q : Int))) (firsts n kk (C n kk), 0) := by
  intro d
  induction d with
  | zero => ?_
  | succ d ih => ?_
  all_goals
    intro q hq
    obtain ⟨hv, hl, _⟩ := un_rank (n : Int) n 0 kk (q : Int) (by omega) (by omega) (by omega)
    have hx := nxt_un (n : Int) n 0 kk (q : Int) (by omega) (by omega) (by omega)
    have e1 : wrap64 ((kk : Int) - 1) = (kk : Int) - 1 := w64_id (by omega) (by omega)
    refine Ev.step (f := fun k => word_Subsets.l2 k (n : Int) (kk : Int) (firsts n kk (q + 1)) (un n 0 kk (q : Int)) ((kk : Int) - 1)) (fun k => ?_) (word_l2 n kk _ _ hn hkk _ hl hv ?_ ?_ kk (Nat.le_refl _) ?_)
    · simp only [word_Subsets.l1, slices_Clone_int_int.f]
      rw [if_pos (by omega)]; simp only [Option.bind_some]; rw [firsts_length, if_pos (by omega), firsts_succ, e1]
  · intro s' hs'; rw [hx, if_neg (by omega)] at hs'; cases hs'
  · intro _; have : q + 1 = C n kk := by omega
    rw [this]
  · rw [List.drop_of_length_le (by omega)]; rfl
  · intro s' hs'; rw [hx, if_pos (by omega)] at hs'; injection hs' with hs'; subst hs'
    have := ih (q + 1) (by omega)
    have e : ((q + 1 : Nat) : Int) = (q : Int) + 1 := by omega
    rw [e] at this; exact this
  · intro h; rw [hx, if_pos (by omega)] at h; cases h
  · rw [List.drop_of_length_le (by omega)]; rfl
theorem ref_l1 (n kk : Nat) (hn : n ≤ 64) (hkk : kk ≤ n) (hc : C n kk ≤ 65536) : ∀ (d q : Nat), q + d + 1 = C n kk →
    Ev (fun k => codewrightref11_Subsets.l1 k (n : Int) (kk : Int) (C n kk : Int) (firsts n kk q) (un n 0 kk (q : Int)) (q : Int)) (firsts n kk (C n kk), 0) := by
  intro d
  induction d with
  | zero => ?_
  | succ d ih => ?_
  all_goals
    intro q hq
    obtain ⟨hv, hl, _⟩ := un_rank (n : Int) n 0 kk (q : Int) (by omega) (by omega) (by omega)
    have hx := nxt_un (n : Int) n 0 kk (q : Int) (by omega) (by omega) (by omega)
    have e1 : wrap64 ((kk : Int) - 1) = (kk : Int) - 1 := w64_id (by omega) (by omega)
    refine Ev.step (f := fun k => codewrightref11_Subsets.l2 k (n : Int) (kk : Int) (C n kk : Int) (firsts n kk (q + 1)) (un n 0 kk (q : Int)) (q : Int) ((kk : Int) - 1)) (fun k => ?_) (ref_l2 n kk _ _ ⟨w64_id (by omega) (by omega)⟩ _ _ hn hkk _ hl hv ?_ ?_ kk (Nat.le_refl _) ?_)
    · simp only [codewrightref11_Subsets.l1]
      rw [if_pos (by omega)]; simp only [Option.bind_some, List.length_nil, List.nil_append]; rw [if_pos (by omega), firsts_length, if_pos (by omega), firsts_succ, e1]
  · intro s' hs'; rw [hx, if_neg (by omega)] at hs'; cases hs'
  · intro _; have e : q + 1 = C n kk := by omega
    rw [e]
    refine Ev.step (f := fun _ => some (firsts n kk (C n kk), 0)) (fun k => ?_) (Ev.now _)
    simp only [codewrightref11_Subsets.l1]; rw [if_neg (by omega)]
  · rw [List.drop_of_length_le (by omega)]; rfl
  · intro s' hs'; rw [hx, if_pos (by omega)] at hs'; injection hs' with hs'; subst hs'
    have := ih (q + 1) (by omega)
    have e : ((q + 1 : Nat) : Int) = (q : Int) + 1 := by omega
    rw [e] at this; exact this
  · intro h; rw [hx, if_pos (by omega)] at h; cases h
  · rw [List.drop_of_length_le (by omega)]; rfl
theorem word_l0 (n kk : Nat) (r : List (List Int) × Int) (hkk : kk ≤ 64) (h : Ev (fun k => word_Subsets.l1 k (n : Int) (kk : Int) ([] : List (List Int)) (run 0 kk)) r) : ∀ (d i : Nat), i + d = kk →
    Ev (fun k => word_Subsets.l0 k (n : Int) (kk : Int) ([] : List (List Int)) (upto kk i) (kk : Int) (i : Int)) r
  | 0, i, hd => by
    have : i = kk := by omega
    subst this
    rw [upto_end]
    refine Ev.step (fun k => ?_) h
    simp only [word_Subsets.l0]; rw [if_neg (by omega)]
  | d + 1, i, hd => by
    refine Ev.step (fun k => ?_) (word_l0 n kk r hkk h d (i + 1) (by omega))
    have e3 : wrap64 ((i : Int) + 1) = ((i + 1 : Nat) : Int) := by rw [w64_id (by omega) (by omega)]; omega
    simp only [word_Subsets.l0]; rw [if_pos (by omega), if_pos (by omega), upto_length, if_pos (by omega), e3]
    have e4 : (i : Int).toNat = i := by omega
    rw [e4, upto_step kk i (by omega)]
theorem ref_l0 (n kk : Nat) (c : Int) (r : List (List Int) × Int) (hkk : kk ≤ 64) (h : Ev (fun k => codewrightref11_Subsets.l1 k (n : Int) (kk : Int) c ([] : List (List Int)) (run 0 kk) 0) r) : ∀ (d i : Nat), i + d = kk →
    Ev (fun k => codewrightref11_Subsets.l0 k (n : Int) (kk : Int) c ([] : List (List Int)) (upto kk i) (i : Int)) r
  | 0, i, hd => by
    have : i = kk := by omega
    subst this
    rw [upto_end]
    refine Ev.step (fun k => ?_) h
    simp only [codewrightref11_Subsets.l0]; rw [if_neg (by omega)]
  | d + 1, i, hd => by
    refine Ev.step (fun k => ?_) (ref_l0 n kk c r hkk h d (i + 1) (by omega))
    have e3 : wrap64 ((i : Int) + 1) = ((i + 1 : Nat) : Int) := by rw [w64_id (by omega) (by omega)]; omega
    simp only [codewrightref11_Subsets.l0]; rw [if_pos (by omega), if_pos (by omega), upto_length, if_pos (by omega), e3]
    have e4 : (i : Int).toNat = i := by omega
    rw [e4, upto_step kk i (by omega)]
/-- What both Subsets tell. -/
def All (n k : Int) : List (List Int) × Int := if n < 0 ∨ 64 < n ∨ k < 0 ∨ n < k then ([], 6) else if 65536 < C n.toNat k.toNat then ([], 8) else (firsts n.toNat k.toNat (C n.toNat k.toNat), 0)
theorem word_ev (n k : Int) : Ev (fun r => word_Subsets.f r n k) (All n k) := by
  unfold All
  by_cases h : n < 0 ∨ 64 < n ∨ k < 0 ∨ n < k
  · rw [if_pos h]
    have hj : Ev (fun r => word_Subsets.j0 r n k true) (([] : List (List Int)), 6) := Ev.step (f := fun _ => some (([] : List (List Int)), 6)) (fun r => by simp only [word_Subsets.j0]; rw [if_pos trivial]) (Ev.now _)
    by_cases c1 : n < 0
    · exact Ev.congr (fun r => by unfold word_Subsets.f; rw [if_pos c1]) hj
    by_cases c2 : n > 64
    · exact Ev.congr (fun r => by unfold word_Subsets.f; rw [if_neg c1, if_pos c2]) hj
    by_cases c3 : k < 0
    · exact Ev.congr (fun r => by unfold word_Subsets.f; rw [if_neg c1, if_neg c2, if_pos c3]) hj
    exact Ev.congr (fun r => by unfold word_Subsets.f; rw [if_neg c1, if_neg c2, if_neg c3, decide_eq_true (by omega)]) hj
  · rw [if_neg h]
    obtain ⟨m, rfl⟩ := Int.eq_ofNat_of_zero_le (show 0 ≤ n by omega)
    obtain ⟨q, rfl⟩ := Int.eq_ofNat_of_zero_le (show 0 ≤ k by omega)
    have hch := choose_ev (m : Int) (q : Int) (by omega) (by omega)
    rw [Bn] at hch
    simp only [Int.toNat_natCast]
    refine Ev.congr (f := fun r => word_Subsets.j0 r (m : Int) (q : Int) false) (fun r => by unfold word_Subsets.f; rw [if_neg (by omega), if_neg (by omega), if_neg (by omega), decide_eq_false (by omega)]) ?_
    refine Ev.step (f := fun r => (word_choose.f r (m : Int) (q : Int)).bind _) (fun r => by simp only [word_Subsets.j0]; rw [if_neg (by simp)]) (hch.bind ?_)
    by_cases hb : 65536 < C m q
    · rw [if_pos hb]; exact Ev.congr (fun r => if_pos (by omega)) (Ev.now _)
    · rw [if_neg hb]
      have hp := C_pos m q (by omega)
      have h1 := word_l1 m q (by omega) (by omega) (by omega) (C m q - 1) 0 (by omega)
      have e0 : ((0 : Nat) : Int) = 0 := rfl
      rw [e0, un_zero m 0 q (by omega)] at h1
      have h0 := word_l0 m q _ (by omega) h1 q 0 (by omega)
      refine Ev.congr (fun r => ?_) h0
      rw [if_neg (by omega), if_pos (by omega), if_pos (by omega), if_pos (by omega), if_pos (by omega)]
      simp only [Option.bind_some, Int.toNat_natCast, List.length_replicate]
      rw [upto_zero]; rfl
theorem refs_ev (n k : Int) : Ev (fun r => codewrightref11_Subsets.f r n k) (All n k) := by
  unfold All
  have hj : ∀ c, Ev (fun r => codewrightref11_Subsets.j0 r n k c true) (([] : List (List Int)), 6) := fun c => Ev.step (f := fun _ => some (([] : List (List Int)), 6)) (fun r => by simp only [codewrightref11_Subsets.j0]; rw [if_pos trivial]) (Ev.now _)
  by_cases h1 : n < 0 ∨ 64 < n
  · rw [if_pos (by omega)]
    refine Ev.congr (f := fun r => (codewrightref11_Binomial.f r n k).bind _) (fun r => rfl) ((ref_out n k h1).bind ?_)
    exact Ev.congr (fun r => if_neg (by omega)) (Ev.now _)
  refine Ev.congr (f := fun r => (codewrightref11_Binomial.f r n k).bind _) (fun r => rfl) ((ref_ev n k (by omega) (by omega)).bind ?_)
  refine Ev.congr (fun r => if_pos rfl) ?_
  by_cases h : n < 0 ∨ 64 < n ∨ k < 0 ∨ n < k
  · rw [if_pos h]
    by_cases c3 : k < 0
    · exact Ev.congr (fun r => if_pos c3) (hj _)
    exact Ev.congr (fun r => by rw [if_neg c3, decide_eq_true (by omega)]) (hj _)
  · rw [if_neg h]
    obtain ⟨m, rfl⟩ := Int.eq_ofNat_of_zero_le (show 0 ≤ n by omega)
    obtain ⟨q, rfl⟩ := Int.eq_ofNat_of_zero_le (show 0 ≤ k by omega)
    rw [Bn]
    simp only [Int.toNat_natCast]
    refine Ev.congr (f := fun r => codewrightref11_Subsets.j0 r (m : Int) (q : Int) (C m q : Int) false) (fun r => by rw [if_neg (by omega), decide_eq_false (by omega)]) ?_
    by_cases hb : 65536 < C m q
    · rw [if_pos hb]
      refine Ev.step (f := fun _ => some (([] : List (List Int)), 8)) (fun r => ?_) (Ev.now _)
      simp only [codewrightref11_Subsets.j0]; rw [if_neg (by simp), if_pos (by omega)]
    · rw [if_neg hb]
      have hp := C_pos m q (by omega)
      have h1 := ref_l1 m q (by omega) (by omega) (by omega) (C m q - 1) 0 (by omega)
      have e0 : ((0 : Nat) : Int) = 0 := rfl
      rw [e0, un_zero m 0 q (by omega)] at h1
      have h0 := ref_l0 m q _ _ (by omega) h1 q 0 (by omega)
      refine Ev.step (fun r => ?_) h0
      simp only [codewrightref11_Subsets.j0]
      rw [if_neg (by simp), if_neg (by omega), if_pos (by omega), if_pos (by omega)]
      simp only [Int.toNat_natCast]
      rw [upto_zero]; rfl
end Go.Proofs.Ytekojgilikoegaa.SbQ
