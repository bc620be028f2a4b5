/- The least linearization of steps, as plain functions on lists. No program is named. -/
import Derived.Test.YtlbgmegciomofaaW2
namespace Go.Proofs.Ytlbgmegciomofaa

def stepAt (l : List Step) (i : Nat) : Step := l.getD i ⟨0, 0, [], []⟩
def lessP (a b : Step) : Bool := decide (a.g < b.g) || (a.g == b.g && decide (a.case_ < b.case_))
/-- All steps before number i on which it depends are chosen. -/
def freeI (l : List Step) (ch : List Bool) (i : Nat) : Bool := (List.range i).all fun k => ch.getD k false || !dep (stepAt l k) (stepAt l i)
def pickI (l : List Step) (ch : List Bool) (b : Int) (i : Nat) : Int :=
  if ch.getD i false || !freeI l ch i then b else if decide (b < 0) || lessP (stepAt l i) (stepAt l b.toNat) then (i : Int) else b
def bestTo (l : List Step) (ch : List Bool) : Nat → Int
  | 0 => -1
  | i + 1 => pickI l ch (bestTo l ch i) i
def chosenTo (l : List Step) : Nat → List Bool
  | 0 => List.replicate l.length false
  | r + 1 => (chosenTo l r).set (bestTo l (chosenTo l r) l.length).toNat true
def outAt (l : List Step) (r : Nat) : Nat := (bestTo l (chosenTo l r) l.length).toNat
def outTo (l : List Step) (r : Nat) : List Nat := (List.range r).map (outAt l)

theorem chosenTo_length (l : List Step) (r : Nat) : (chosenTo l r).length = l.length := by
  induction r with
  | zero => simp [chosenTo]
  | succ r ih => simp [chosenTo, ih]

theorem bestTo_ge (l : List Step) (ch : List Bool) (i : Nat) : -1 ≤ bestTo l ch i := by
  induction i with
  | zero => exact Int.le_refl _
  | succ i ih =>
    show -1 ≤ pickI l ch (bestTo l ch i) i
    unfold pickI
    split
    · exact ih
    · split
      · omega
      · exact ih
theorem bestTo_lt (l : List Step) (ch : List Bool) (i : Nat) : bestTo l ch i < i := by
  induction i with
  | zero => show (-1 : Int) < ((0 : Nat) : Int); omega
  | succ i ih =>
    show pickI l ch (bestTo l ch i) i < ((i + 1 : Nat) : Int)
    unfold pickI
    split
    · omega
    · split <;> omega
theorem bestTo_mono {l : List Step} {ch : List Bool} {i j : Nat} (h : i ≤ j) (h0 : 0 ≤ bestTo l ch i) : 0 ≤ bestTo l ch j := by
  induction j with
  | zero =>
    obtain rfl : i = 0 := by omega
    exact h0
  | succ j ih =>
    rcases Nat.lt_or_ge j i with hj | hj
    · obtain rfl : i = j + 1 := by omega
      exact h0
    · have := ih hj
      show 0 ≤ pickI l ch (bestTo l ch j) j
      unfold pickI
      split
      · exact this
      · split <;> omega
/-- What is picked is neither chosen nor waits. -/
theorem bestTo_free {l : List Step} {ch : List Bool} {i : Nat} (h0 : 0 ≤ bestTo l ch i) : ch.getD (bestTo l ch i).toNat false = false ∧ freeI l ch (bestTo l ch i).toNat = true := by
  induction i with
  | zero => exact absurd h0 (by show ¬ (0 : Int) ≤ -1; omega)
  | succ i ih =>
    have e : bestTo l ch (i + 1) = pickI l ch (bestTo l ch i) i := rfl
    rw [e] at h0 ⊢
    unfold pickI at h0 ⊢
    split
    · rename_i hc
      rw [if_pos hc] at h0
      exact ih h0
    · rename_i hc
      rw [if_neg hc] at h0
      split
      · simp only [Int.toNat_natCast]
        simpa using hc
      · rename_i hd
        rw [if_neg hd] at h0
        exact ih h0
/-- The first step that is not chosen is free. -/
theorem first_free {l : List Step} {ch : List Bool} {i : Nat} (h : ∀ k, k < i → ch.getD k false = true) : freeI l ch i = true := by
  unfold freeI
  rw [List.all_eq_true]
  intro k hk
  rw [h k (by simpa using hk)]
  rfl
theorem bestTo_some {l : List Step} {ch : List Bool} {i n : Nat} (hi : i < n) (hc : ch.getD i false = false) : 0 ≤ bestTo l ch n := by
  induction i using Nat.strongRecOn with
  | ind i ih =>
    by_cases h : ∃ k, k < i ∧ ch.getD k false = false
    · obtain ⟨k, hk, hk0⟩ := h
      exact ih k hk (by omega) hk0
    · have hall : ∀ k, k < i → ch.getD k false = true := by
        intro k hk
        cases hv : ch.getD k false with
        | true => rfl
        | false => exact absurd ⟨k, hk, hv⟩ h
      refine bestTo_mono (i := i + 1) hi ?_
      show 0 ≤ pickI l ch (bestTo l ch i) i
      unfold pickI
      rw [hc, first_free hall]
      simp only [Bool.not_true, Bool.or_false, Bool.false_eq_true, if_false]
      split
      · omega
      · rename_i hd
        simp only [Bool.or_eq_true, not_or] at hd
        have := hd.1
        simp only [decide_eq_true_eq] at this
        omega
theorem count_set (ch : List Bool) (i : Nat) : (ch.set i true).count true ≤ ch.count true + 1 := by
  induction ch generalizing i with
  | nil => simp
  | cons b ch ih =>
    cases i with
    | zero => cases b <;> simp
    | succ i =>
      simp only [List.set_cons_succ, List.count_cons]
      have := ih i
      omega
theorem chosenTo_count (l : List Step) (r : Nat) : (chosenTo l r).count true ≤ r := by
  induction r with
  | zero => simp [chosenTo, List.count_replicate]
  | succ r ih =>
    have := count_set (chosenTo l r) (bestTo l (chosenTo l r) l.length).toNat
    show ((chosenTo l r).set _ true).count true ≤ r + 1
    omega
theorem exists_unset {ch : List Bool} (h : ch.count true < ch.length) : ∃ i, i < ch.length ∧ ch.getD i false = false := by
  induction ch with
  | nil => simp at h
  | cons b ch ih =>
    cases b with
    | false => exact ⟨0, by simp, rfl⟩
    | true =>
      simp only [List.count_cons_self, List.length_cons] at h
      obtain ⟨i, hi, hv⟩ := ih (by omega)
      exact ⟨i + 1, by simp; omega, by simpa using hv⟩
theorem best_ok {l : List Step} {r : Nat} (hr : r < l.length) : 0 ≤ bestTo l (chosenTo l r) l.length := by
  obtain ⟨i, hi, hv⟩ := exists_unset (ch := chosenTo l r) (by rw [chosenTo_length]; have := chosenTo_count l r; omega)
  rw [chosenTo_length] at hi
  exact bestTo_some hi hv
theorem best_eq {l : List Step} {r : Nat} (hr : r < l.length) : bestTo l (chosenTo l r) l.length = (outAt l r : Int) := by
  have := best_ok hr
  unfold outAt
  omega
theorem outAt_lt {l : List Step} {r : Nat} (hr : r < l.length) : outAt l r < l.length := by
  have := bestTo_lt l (chosenTo l r) l.length
  have := best_eq hr
  omega
theorem chosenTo_succ (l : List Step) (r : Nat) : chosenTo l (r + 1) = (chosenTo l r).set (outAt l r) true := rfl
theorem outTo_succ (l : List Step) (r : Nat) : outTo l (r + 1) = outTo l r ++ [outAt l r] := by simp [outTo, List.range_succ]
theorem outTo_length (l : List Step) (r : Nat) : (outTo l r).length = r := by simp [outTo]

/-- A step is valid: its goroutines are numbers below 8, in order, its own among them. -/
def okI (gs : List Int) (i : Nat) : Bool :=
  !(decide (gs.getD i 0 < 0) || decide (8 ≤ gs.getD i 0) || (decide (0 < i) && decide (gs.getD i 0 ≤ gs.getD (i - 1) 0)))
def validS (s : Step) : Bool := (List.range s.gs.length).all (okI s.gs) && hasI s.gs s.g
def validA (l : List Step) : Bool := l.all validS

theorem valid_bad {s : Step} {i : Nat} (hi : i < s.gs.length) (h : okI s.gs i = false) : validS s = false := by
  unfold validS
  rw [show (List.range s.gs.length).all (okI s.gs) = false from List.all_eq_false.2 ⟨i, by simpa using hi, by rw [h]; simp⟩]
  rfl
theorem valid_good {s : Step} (h : ∀ i, i < s.gs.length → okI s.gs i = true) : validS s = hasI s.gs s.g := by
  unfold validS
  rw [show (List.range s.gs.length).all (okI s.gs) = true from List.all_eq_true.2 fun i hi => h i (by simpa using hi)]
  rfl
theorem ok_more {gs : List Int} {k : Nat} (h : ∀ j, j < k → okI gs j = true) (hk : okI gs k = true) : ∀ j, j < k + 1 → okI gs j = true := by
  intro j hj
  rcases Nat.lt_or_ge j k with h' | h'
  · exact h j h'
  · obtain rfl : j = k := by omega
    exact hk
theorem validA_no {l : List Step} {k : Nat} (hk : k < l.length) (h : validS (stepAt l k) = false) : validA l = false := by
  unfold validA
  rw [List.all_eq_false]
  refine ⟨stepAt l k, ?_, by rw [h]; simp⟩
  unfold stepAt
  rw [List.getD_eq_getElem?_getD, List.getElem?_eq_getElem hk]
  exact List.getElem_mem hk
theorem validA_yes {l : List Step} (h : ∀ k, k < l.length → validS (stepAt l k) = true) : validA l = true := by
  unfold validA
  rw [List.all_eq_true]
  intro x hx
  obtain ⟨j, hj, he⟩ := List.getElem_of_mem hx
  have := h j hj
  unfold stepAt at this
  rw [List.getD_eq_getElem?_getD, List.getElem?_eq_getElem hj, he] at this
  exact this
theorem upto_more {p : Nat → Prop} {k : Nat} (h : ∀ j, j < k → p j) (hk : p k) : ∀ j, j < k + 1 → p j := by
  intro j hj
  rcases Nat.lt_or_ge j k with h' | h'
  · exact h j h'
  · obtain rfl : j = k := by omega
    exact hk

/-- Few and small steps. -/
def fewS (l : List Step) : Bool := decide (l.length ≤ 16) && l.all (fun s => decide (s.gs.length ≤ 8) && decide (s.touches.length ≤ 8))
theorem few_long {l : List Step} (h : 16 < l.length) : fewS l = false := by
  unfold fewS; rw [decide_eq_false (by omega)]; rfl
theorem few_no {l : List Step} {k : Nat} (hk : k < l.length) (h : 8 < (stepAt l k).gs.length ∨ 8 < (stepAt l k).touches.length) : fewS l = false := by
  unfold fewS
  rw [show l.all (fun s => decide (s.gs.length ≤ 8) && decide (s.touches.length ≤ 8)) = false from List.all_eq_false.2 ⟨stepAt l k, ?_, ?_⟩, Bool.and_false]
  · unfold stepAt
    rw [List.getD_eq_getElem?_getD, List.getElem?_eq_getElem hk]
    exact List.getElem_mem hk
  · rcases h with h | h
    · rw [decide_eq_false (show ¬ (stepAt l k).gs.length ≤ 8 by omega)]; simp
    · rw [decide_eq_false (show ¬ (stepAt l k).touches.length ≤ 8 by omega)]; simp
theorem few_yes {l : List Step} (hl : l.length ≤ 16) (h : ∀ k, k < l.length → (stepAt l k).gs.length ≤ 8 ∧ (stepAt l k).touches.length ≤ 8) : fewS l = true := by
  unfold fewS
  rw [decide_eq_true hl, Bool.true_and, List.all_eq_true]
  intro x hx
  obtain ⟨j, hj, he⟩ := List.getElem_of_mem hx
  have := h j hj
  unfold stepAt at this
  rw [List.getD_eq_getElem?_getD, List.getElem?_eq_getElem hj, he] at this
  simp only [Option.getD_some] at this
  rw [decide_eq_true this.1, decide_eq_true this.2]
  rfl

end Go.Proofs.Ytlbgmegciomofaa
