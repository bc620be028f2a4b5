/- The least linearization by indices is the least linearization by removal. No program is named. -/
import Derived.Test.YtlbgmegciomofaaP1
namespace Go.Proofs.Ytlbgmegciomofaa

theorem free_iff {l : List Step} {ch : List Bool} {i : Nat} : freeI l ch i = true ↔ ∀ k, k < i → ch.getD k false = true ∨ dep (stepAt l k) (stepAt l i) = false := by
  unfold freeI
  rw [List.all_eq_true]
  constructor
  · intro h k hk
    have := h k (by simpa using hk)
    simpa using this
  · intro h k hk
    rcases h k (by simpa using hk) with e | e <;> rw [e] <;> simp
theorem stepAt_succ (x : Step) (l : List Step) (i : Nat) : stepAt (x :: l) (i + 1) = stepAt l i := by unfold stepAt; simp
theorem stepAt_zero (x : Step) (l : List Step) : stepAt (x :: l) 0 = x := rfl
theorem stepAt_mem {l : List Step} {i : Nat} (h : i < l.length) : stepAt l i ∈ l := by
  unfold stepAt
  rw [List.getD_eq_getElem?_getD, List.getElem?_eq_getElem h]
  exact List.getElem_mem h

theorem rest_none : ∀ (l : List Step) (n : Nat), restOf l (List.replicate n false) = l
  | [], _ => rfl
  | x :: l, 0 => by simp [restOf]; exact rest_none l 0
  | x :: l, n + 1 => by simp [restOf, List.replicate_succ]; exact rest_none l n
theorem rest_mem : ∀ {l : List Step} {ch : List Bool} {z : Step}, z ∈ restOf l ch → z ∈ l
  | [], _, _, h => by simp [restOf] at h
  | x :: l, [], z, h => by
    simp only [restOf, List.mem_cons] at h
    rcases h with rfl | h
    · simp
    · simp [rest_mem h]
  | x :: l, b :: ch, z, h => by
    unfold restOf at h
    split at h
    · simp [rest_mem h]
    · rcases List.mem_cons.1 h with rfl | h
      · simp
      · simp [rest_mem h]

theorem take_index : ∀ {l : List Step} {ch : List Bool} {m : Nat}, ch.length = l.length → m < l.length → (∀ z, z ∈ l → validS z = true) → ch.getD m false = false →
    (∀ k, k < m → ch.getD k false = true ∨ dep (stepAt l k) (stepAt l m) = false) → take1 (stepAt l m) (restOf l ch) = some (restOf l (ch.set m true))
  | [], _, _, _, hm, _, _, _ => by simp at hm
  | x :: l, [], _, hl, _, _, _, _ => by simp at hl
  | x :: l, b :: ch, 0, hl, hm, hv, hc, hf => by
    have hb : b = false := by simpa using hc
    subst hb
    simp only [restOf, Bool.false_eq_true, if_false, stepAt_zero, List.set_cons_zero, if_true]
    exact take1_self _ _
  | x :: l, b :: ch, m + 1, hl, hm, hv, hc, hf => by
    have ih := take_index (l := l) (ch := ch) (m := m) (by simpa using hl) (by simpa using hm) (fun z hz => hv z (by simp [hz])) (by simpa using hc) (fun k hk => by
      have := hf (k + 1) (by omega)
      rw [stepAt_succ, stepAt_succ] at this
      simpa using this)
    rw [stepAt_succ, List.set_cons_succ]
    cases b with
    | true => simpa [restOf] using ih
    | false =>
      have h0 := hf 0 (by omega)
      rw [stepAt_zero, stepAt_succ] at h0
      have hd : dep x (stepAt l m) = false := by simpa using h0
      have hne : x ≠ stepAt l m := by
        intro e
        have hx := hv x (by simp)
        rw [← e, dep_same_g hx hx rfl] at hd
        cases hd
      simp only [restOf, Bool.false_eq_true, if_false]
      rw [take1_skip hne hd, ih]
      rfl
theorem take_from : ∀ {l : List Step} {ch : List Bool} {y : Step} {l' : List Step}, ch.length = l.length → take1 y (restOf l ch) = some l' →
    ∃ i, i < l.length ∧ ch.getD i false = false ∧ (∀ k, k < i → ch.getD k false = true ∨ dep (stepAt l k) (stepAt l i) = false) ∧ stepAt l i = y
  | [], _, _, _, _, h => by simp [restOf, take1] at h
  | x :: l, [], _, _, hl, _ => by simp at hl
  | x :: l, true :: ch, y, l', hl, h => by
    obtain ⟨i, h1, h2, h3, h4⟩ := take_from (l := l) (ch := ch) (by simpa using hl) (by simpa [restOf] using h)
    refine ⟨i + 1, by simpa using h1, by simpa using h2, fun k hk => ?_, by rw [stepAt_succ]; exact h4⟩
    cases k with
    | zero => exact .inl rfl
    | succ k =>
      rw [stepAt_succ, stepAt_succ]
      have := h3 k (by omega)
      simpa using this
  | x :: l, false :: ch, y, l', hl, h => by
    simp only [restOf, Bool.false_eq_true, if_false] at h
    rcases take1_cases h with ⟨rfl, _⟩ | ⟨_, hd, m, hm, _⟩
    · exact ⟨0, by simp, rfl, fun k hk => absurd hk (by omega), rfl⟩
    · obtain ⟨i, h1, h2, h3, h4⟩ := take_from (l := l) (ch := ch) (by simpa using hl) hm
      refine ⟨i + 1, by simpa using h1, by simpa using h2, fun k hk => ?_, by rw [stepAt_succ]; exact h4⟩
      cases k with
      | zero => rw [stepAt_zero, stepAt_succ, h4]; exact .inr hd
      | succ k =>
        rw [stepAt_succ, stepAt_succ]
        have := h3 k (by omega)
        simpa using this

theorem less_trans {a b c : Step} (h1 : lessP a b = true) (h2 : lessP b c = true) : lessP a c = true := by
  unfold lessP at *
  simp only [Bool.or_eq_true, Bool.and_eq_true, decide_eq_true_eq, beq_iff_eq] at *
  omega
theorem less_irrefl (a : Step) : lessP a a = false := by
  unfold lessP
  simp
theorem less_asymm {a b : Step} (h : lessP a b = true) : lessP b a = false := by
  cases h' : lessP b a with
  | false => rfl
  | true =>
    have := less_trans h h'
    rw [less_irrefl] at this
    cases this
theorem best_min {l : List Step} {ch : List Bool} : ∀ {n i : Nat}, i < n → ch.getD i false = false → freeI l ch i = true → 0 ≤ bestTo l ch n ∧ lessP (stepAt l i) (stepAt l (bestTo l ch n).toNat) = false
  | 0, i, h, _, _ => by omega
  | n + 1, i, h, hc, hf => by
    have e : bestTo l ch (n + 1) = pickI l ch (bestTo l ch n) n := rfl
    rw [e]
    unfold pickI
    rcases Nat.lt_or_ge i n with hi | hi
    · obtain ⟨h0, h1⟩ := best_min hi hc hf
      split
      · exact ⟨h0, h1⟩
      · split
        · rename_i hd
          refine ⟨by omega, ?_⟩
          simp only [Bool.or_eq_true, decide_eq_true_eq] at hd
          rcases hd with hd | hd
          · omega
          · rw [Int.toNat_natCast]
            cases h2 : lessP (stepAt l i) (stepAt l n) with
            | false => rfl
            | true => rw [less_trans h2 hd] at h1; cases h1
        · exact ⟨h0, h1⟩
    · obtain rfl : i = n := by omega
      rw [hc, hf]
      simp only [Bool.not_true, Bool.or_false, Bool.false_eq_true, if_false]
      split
      · exact ⟨by omega, by rw [Int.toNat_natCast]; exact less_irrefl _⟩
      · rename_i hd
        simp only [Bool.or_eq_true, decide_eq_true_eq, not_or] at hd
        exact ⟨by omega, by simpa using hd.2⟩

theorem rest_step {l : List Step} (hv : ∀ z, z ∈ l → validS z = true) {r : Nat} (hr : r < l.length) :
    take1 (stepAt l (outAt l r)) (restOf l (chosenTo l r)) = some (restOf l (chosenTo l (r + 1))) ∧
    ∀ y l'', take1 y (restOf l (chosenTo l r)) = some l'' → lessP y (stepAt l (outAt l r)) = false := by
  have hf := bestTo_free (best_ok hr)
  refine ⟨?_, fun y l'' hy => ?_⟩
  · rw [chosenTo_succ]
    exact take_index (chosenTo_length l r) (outAt_lt hr) hv hf.1 (free_iff.1 hf.2)
  · obtain ⟨i, h1, h2, h3, h4⟩ := take_from (chosenTo_length l r) hy
    rw [← h4]
    exact (best_min h1 h2 (free_iff.2 h3)).2
theorem rest_length {l : List Step} (hv : ∀ z, z ∈ l → validS z = true) : ∀ {r : Nat}, r ≤ l.length → (restOf l (chosenTo l r)).length = l.length - r
  | 0, _ => by unfold chosenTo; rw [rest_none]; rfl
  | r + 1, h => by
    have h1 := take1_length (rest_step hv (r := r) (by omega)).1
    have h2 := rest_length hv (r := r) (by omega)
    omega
/-- The least linearization, the steps themselves. -/
def linS (l : List Step) : List Step := (outTo l l.length).map (stepAt l)
theorem lin_NF {l : List Step} (hv : ∀ z, z ∈ l → validS z = true) : ∀ (d r : Nat), r + d = l.length → NF (restOf l (chosenTo l r)) ((List.range' r d).map fun r => stepAt l (outAt l r))
  | 0, r, h => by
    have := rest_length hv (r := r) (by omega)
    exact List.eq_nil_of_length_eq_zero (by omega)
  | d + 1, r, h => by
    obtain ⟨h1, h2⟩ := rest_step hv (r := r) (by omega)
    rw [List.range'_succ, List.map_cons]
    exact ⟨_, h1, h2, lin_NF hv d (r + 1) (by omega)⟩
theorem linS_NF {l : List Step} (hv : ∀ z, z ∈ l → validS z = true) : NF l (linS l) := by
  have h := lin_NF hv l.length 0 (by omega)
  have h0 : restOf l (chosenTo l 0) = l := by unfold chosenTo; exact rest_none l _
  rw [h0] at h
  unfold linS outTo
  rw [List.map_map, List.range_eq_range']
  exact h
theorem linS_length (l : List Step) : (linS l).length = l.length := by unfold linS; simp [outTo_length]
/-- Two sequences of valid steps are equivalent just where their least linearizations are one. -/
theorem lin_iff {a b : List Step} (va : ∀ z, z ∈ a → validS z = true) (vb : ∀ z, z ∈ b → validS z = true) : refE a b ↔ linS a = linS b := by
  constructor
  · exact fun h => NF_eq va vb h (linS_NF va) (linS_NF vb)
  · intro h
    have h1 := NF_refE (linS_NF va)
    rw [h] at h1
    exact refE_trans h1 (refE_symm (NF_refE (linS_NF vb)))

theorem refE_prefix : ∀ (p : List Step) {u v : List Step}, refE u v → refE (p ++ u) (p ++ v)
  | [], _, _, h => h
  | _ :: p, _, v, h => ⟨p ++ v, take1_self _ _, refE_prefix p h⟩
theorem refE_cancel : ∀ (p : List Step) {u v : List Step}, refE (p ++ u) (p ++ v) → refE u v
  | [], _, _, h => h
  | x :: p, _, v, ⟨b', hb, h⟩ => by
    have : take1 x (x :: (p ++ v)) = some b' := hb
    rw [take1_self] at this
    injection this with this
    subst this
    exact refE_cancel p h
theorem refE_swap {x y : Step} (hne : y ≠ x) (hd : dep x y = false) (p s : List Step) : refE (p ++ x :: y :: s) (p ++ y :: x :: s) :=
  refE_prefix p ⟨y :: s, by rw [take1_skip hne (by rw [dep_symm]; exact hd), take1_self]; rfl, refE_refl _⟩
theorem refE_noswap {x y : Step} (hne : y ≠ x) (hd : dep x y = true) (p s : List Step) : ¬ refE (p ++ x :: y :: s) (p ++ y :: x :: s) := by
  intro h
  obtain ⟨b', hb, _⟩ := refE_cancel p h
  rw [take1_stop hne (by rw [dep_symm]; exact hd)] at hb
  cases hb

end Go.Proofs.Ytlbgmegciomofaa
