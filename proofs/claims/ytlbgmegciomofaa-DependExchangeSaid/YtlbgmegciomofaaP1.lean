/- Equivalence of sequences of steps, as plain functions on lists. No program is named. -/
import Derived.Test.YtlbgmegciomofaaP0
namespace Go.Proofs.Ytlbgmegciomofaa

open Classical in
/-- Removes a step that stands behind independent steps only. -/
noncomputable def take1 (x : Step) : List Step → Option (List Step)
  | [] => none
  | y :: l => if y = x then some l else if dep y x = true then none else (take1 x l).map (y :: ·)
/-- Each step of the first sequence is found in the second behind independent steps only, and removed there. -/
def refE : List Step → List Step → Prop
  | [], b => b = []
  | x :: a, b => ∃ b', take1 x b = some b' ∧ refE a b'

theorem has_iff {l : List Int} {x : Int} : hasI l x = true ↔ x ∈ l := by unfold hasI; simp
theorem conf_symm (x y : Touch) : conf x y = conf y x := by
  unfold conf
  rw [Bool.eq_iff_iff]
  simp only [Bool.and_eq_true, Bool.or_eq_true, beq_iff_eq]
  constructor <;> rintro ⟨⟨⟨h1, h2⟩, h3⟩, h4⟩ <;> exact ⟨⟨⟨h1.symm, h2.symm⟩, h3.symm⟩, h4.symm⟩
theorem dep_iff (a b : Step) : dep a b = true ↔ (∃ g, g ∈ a.gs ∧ g ∈ b.gs) ∨ (∃ x y, x ∈ a.touches ∧ y ∈ b.touches ∧ conf x y = true) := by
  unfold dep
  simp only [Bool.or_eq_true, List.any_eq_true, has_iff]
  constructor
  · rintro (⟨g, h1, h2⟩ | ⟨x, h1, y, h2, h3⟩)
    · exact .inl ⟨g, h1, h2⟩
    · exact .inr ⟨x, y, h1, h2, h3⟩
  · rintro (⟨g, h1, h2⟩ | ⟨x, y, h1, h2, h3⟩)
    · exact .inl ⟨g, h1, h2⟩
    · exact .inr ⟨x, h1, y, h2, h3⟩
theorem dep_symm (a b : Step) : dep a b = dep b a := by
  rw [Bool.eq_iff_iff, dep_iff, dep_iff]
  constructor
  · rintro (⟨g, h1, h2⟩ | ⟨x, y, h1, h2, h3⟩)
    · exact .inl ⟨g, h2, h1⟩
    · exact .inr ⟨y, x, h2, h1, by rw [conf_symm]; exact h3⟩
  · rintro (⟨g, h1, h2⟩ | ⟨x, y, h1, h2, h3⟩)
    · exact .inl ⟨g, h2, h1⟩
    · exact .inr ⟨y, x, h2, h1, by rw [conf_symm]; exact h3⟩
theorem valid_own {s : Step} (h : validS s = true) : s.g ∈ s.gs := by
  unfold validS at h
  simp only [Bool.and_eq_true] at h
  exact has_iff.1 h.2
theorem dep_same_g {a b : Step} (ha : validS a = true) (hb : validS b = true) (h : a.g = b.g) : dep a b = true :=
  (dep_iff a b).2 (.inl ⟨a.g, valid_own ha, by rw [h]; exact valid_own hb⟩)

theorem take1_self (x : Step) (l : List Step) : take1 x (x :: l) = some l := by simp [take1]
theorem take1_skip {x y : Step} (hne : y ≠ x) (hd : dep y x = false) (l : List Step) : take1 x (y :: l) = (take1 x l).map (y :: ·) := by simp [take1, hne, hd]
theorem take1_stop {x y : Step} (hne : y ≠ x) (hd : dep y x = true) (l : List Step) : take1 x (y :: l) = none := by simp [take1, hne, hd]
theorem take1_cases {x y : Step} {l l' : List Step} (h : take1 x (y :: l) = some l') : (y = x ∧ l' = l) ∨ (y ≠ x ∧ dep y x = false ∧ ∃ m, take1 x l = some m ∧ l' = y :: m) := by
  by_cases e : y = x
  · subst e
    rw [take1_self] at h
    injection h with h
    exact .inl ⟨rfl, h.symm⟩
  · cases hd : dep y x with
    | true => rw [take1_stop e hd] at h; cases h
    | false =>
      rw [take1_skip e hd] at h
      obtain ⟨m, hm, he⟩ := Option.map_eq_some_iff.1 h
      exact .inr ⟨e, rfl, m, hm, he.symm⟩
theorem take1_length {x : Step} : ∀ {l l' : List Step}, take1 x l = some l' → l.length = l'.length + 1
  | [], _, h => by simp [take1] at h
  | y :: l, l', h => by
    rcases take1_cases h with ⟨_, rfl⟩ | ⟨_, _, m, hm, rfl⟩
    · rfl
    · simp [take1_length hm]
theorem take1_mem {x : Step} : ∀ {l l' : List Step}, take1 x l = some l' → x ∈ l ∧ ∀ z, z ∈ l' → z ∈ l
  | [], _, h => by simp [take1] at h
  | y :: l, l', h => by
    rcases take1_cases h with ⟨rfl, rfl⟩ | ⟨_, _, m, hm, rfl⟩
    · exact ⟨by simp, fun z hz => by simp [hz]⟩
    · have := take1_mem hm
      refine ⟨by simp [this.1], fun z hz => ?_⟩
      rcases List.mem_cons.1 hz with rfl | hz
      · simp
      · simp [this.2 z hz]
/-- Two removals, in the other order. -/
theorem take1_comm {x y : Step} (hne : x ≠ y) (hd : dep y x = false) : ∀ {b b0 b1 : List Step}, take1 y b = some b0 → take1 x b0 = some b1 → ∃ b', take1 x b = some b' ∧ take1 y b' = some b1
  | [], _, _, h, _ => by simp [take1] at h
  | z :: c, b0, b1, h, h' => by
    rcases take1_cases h with ⟨rfl, rfl⟩ | ⟨hz, hzd, c0, hc, rfl⟩
    · exact ⟨z :: b1, by rw [take1_skip (Ne.symm hne) hd, h']; rfl, take1_self _ _⟩
    · rcases take1_cases h' with ⟨rfl, rfl⟩ | ⟨hx, hxd, c1, hc1, rfl⟩
      · exact ⟨c, take1_self _ _, hc⟩
      · obtain ⟨b', e1, e2⟩ := take1_comm hne hd hc hc1
        exact ⟨z :: b', by rw [take1_skip hx hxd, e1]; rfl, by rw [take1_skip hz hzd, e2]; rfl⟩
/-- Two different steps that both can be removed are independent. -/
theorem take1_both {x y : Step} (hne : x ≠ y) : ∀ {b b0 b1 : List Step}, take1 x b = some b0 → take1 y b = some b1 → dep x y = false ∧ ∃ b2, take1 y b0 = some b2 ∧ take1 x b1 = some b2
  | [], _, _, h, _ => by simp [take1] at h
  | z :: c, b0, b1, h, h' => by
    rcases take1_cases h with ⟨rfl, rfl⟩ | ⟨hz, hzd, c0, hc, rfl⟩
    · rcases take1_cases h' with ⟨rfl, rfl⟩ | ⟨hy, hyd, c1, hc1, rfl⟩
      · exact absurd rfl hne
      · exact ⟨hyd, c1, hc1, take1_self _ _⟩
    · rcases take1_cases h' with ⟨rfl, rfl⟩ | ⟨hy, hyd, c1, hc1, rfl⟩
      · exact ⟨by rw [dep_symm]; exact hzd, c0, take1_self _ _, hc⟩
      · obtain ⟨hd, b2, e1, e2⟩ := take1_both hne hc hc1
        exact ⟨hd, z :: b2, by rw [take1_skip hy hyd, e1]; rfl, by rw [take1_skip hz hzd, e2]; rfl⟩

theorem refE_refl : ∀ a, refE a a
  | [] => rfl
  | _ :: a => ⟨a, take1_self _ _, refE_refl a⟩
theorem refE_take {x : Step} : ∀ {a b a' : List Step}, refE a b → take1 x a = some a' → ∃ b', take1 x b = some b' ∧ refE a' b'
  | [], _, _, _, h => by simp [take1] at h
  | y :: a0, b, a', ⟨b0, hb, hr⟩, h => by
    rcases take1_cases h with ⟨rfl, rfl⟩ | ⟨hy, hyd, a0', ha, rfl⟩
    · exact ⟨b0, hb, hr⟩
    · obtain ⟨b0', e1, e2⟩ := refE_take hr ha
      obtain ⟨b', e3, e4⟩ := take1_comm (Ne.symm hy) hyd hb e1
      exact ⟨b', e3, b0', e4, e2⟩
theorem refE_take' {y : Step} : ∀ {a b b' : List Step}, refE a b → take1 y b = some b' → ∃ a', take1 y a = some a' ∧ refE a' b'
  | [], b, b', h, h' => by
    have : b = [] := h
    subst this
    simp [take1] at h'
  | x :: a0, _, _, ⟨b0, hb, hr⟩, h' => by
    by_cases e : x = y
    · subst e
      rw [hb] at h'
      injection h' with h'
      subst h'
      exact ⟨a0, take1_self _ _, hr⟩
    · obtain ⟨hd, b2, e1, e2⟩ := take1_both e hb h'
      obtain ⟨a0', e3, e4⟩ := refE_take' hr e1
      exact ⟨x :: a0', by rw [take1_skip e hd, e3]; rfl, b2, e2, e4⟩
theorem refE_trans : ∀ {a b c : List Step}, refE a b → refE b c → refE a c
  | [], b, c, h, h' => by
    have : b = [] := h
    subst this
    exact h'
  | x :: a0, b, c, ⟨b0, hb, hr⟩, h' => by
    obtain ⟨c0, hc, hr'⟩ := refE_take h' hb
    exact ⟨c0, hc, refE_trans hr hr'⟩
theorem refE_symm : ∀ {b a : List Step}, refE a b → refE b a
  | [], a, h => by
    cases a with
    | nil => rfl
    | cons x a =>
      obtain ⟨b', hb, _⟩ := h
      simp [take1] at hb
  | y :: b0, a, h => by
    obtain ⟨a', ha, hr⟩ := refE_take' h (take1_self y b0)
    exact ⟨a', ha, refE_symm hr⟩
theorem refE_length : ∀ {a b : List Step}, refE a b → a.length = b.length
  | [], b, h => by
    have : b = [] := h
    subst this
    rfl
  | x :: a, b, ⟨b', hb, hr⟩ => by rw [take1_length hb, ← refE_length hr]; rfl

/-- The least linearization, said of lists. -/
def NF : List Step → List Step → Prop
  | l, [] => l = []
  | l, x :: out => ∃ l', take1 x l = some l' ∧ (∀ y l'', take1 y l = some l'' → lessP y x = false) ∧ NF l' out
theorem NF_refE : ∀ {out l : List Step}, NF l out → refE l out
  | [], l, h => by
    have : l = [] := h
    subst this
    rfl
  | x :: out, l, ⟨l', hl, _, h⟩ => refE_symm ⟨l', hl, refE_symm (NF_refE h)⟩
theorem less_both {x y : Step} (h1 : lessP x y = false) (h2 : lessP y x = false) : x.g = y.g := by
  unfold lessP at h1 h2
  simp only [Bool.or_eq_false_iff, decide_eq_false_iff_not] at h1 h2
  omega
theorem NF_eq : ∀ {o1 o2 a b : List Step}, (∀ z, z ∈ a → validS z = true) → (∀ z, z ∈ b → validS z = true) → refE a b → NF a o1 → NF b o2 → o1 = o2
  | [], [], _, _, _, _, _, _, _ => rfl
  | [], y :: o2, a, b, _, _, h, h1, ⟨b', hb, _, _⟩ => by
    have : a = [] := h1
    subst this
    have hl := refE_length h
    rw [take1_length hb] at hl
    cases hl
  | x :: o1, [], a, b, _, _, h, ⟨a', ha, _, _⟩, h2 => by
    have : b = [] := h2
    subst this
    have hl := refE_length h
    rw [take1_length ha] at hl
    cases hl
  | x :: o1, y :: o2, a, b, va, vb, h, ⟨a', ha, la, h1⟩, ⟨b', hb, lb, h2⟩ => by
    obtain ⟨bx, hbx, hrx⟩ := refE_take h ha
    obtain ⟨ay, hay, hry⟩ := refE_take' h hb
    have e1 := lb x bx hbx
    have e2 := la y ay hay
    have hg := less_both e1 e2
    have hxy : x = y := by
      by_cases e : x = y
      · exact e
      · have := (take1_both e hbx hb).1
        rw [dep_same_g (vb x (take1_mem hbx).1) (vb y (take1_mem hb).1) hg] at this
        cases this
    subst hxy
    rw [hb] at hbx
    injection hbx with hbx
    subst hbx
    exact congrArg _ (NF_eq (fun z hz => va z ((take1_mem ha).2 z hz)) (fun z hz => vb z ((take1_mem hb).2 z hz)) hrx h1 h2)

/-- What has not been chosen. -/
def restOf : List Step → List Bool → List Step
  | [], _ => []
  | x :: l, [] => x :: restOf l []
  | x :: l, b :: ch => if b then restOf l ch else x :: restOf l ch

end Go.Proofs.Ytlbgmegciomofaa
