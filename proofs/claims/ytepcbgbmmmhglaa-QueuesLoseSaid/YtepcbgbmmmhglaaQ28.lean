/- What New, Add, Next and Valid return, for any arguments. -/
import Derived.Test.YtepcbgbmmmhglaaQ26
import Derived.Test.YtepcbgbmmmhglaaQ27
namespace Go.Proofs.Ytepcbgbmmmhglaa
open Go.RowKit

/-- New. -/
def newR (p : Int) : Option Qs := if badP p then none else some (newQ p.toNat)
theorem newR_k {k : Nat} (h1 : 1 ≤ k) (h4 : k ≤ 4) : newR (k : Int) = some (newQ k) := by
  unfold newR
  rw [if_neg (by unfold badP; rw [decide_eq_false (by omega), decide_eq_false (by omega)]; simp)]
  rfl
theorem new_any (w : World) (p : Int) : Calls Try.prog 10 #[.int .i64 p] w (RetAdd (newR p) w) := by
  cases hb : badP p with
  | true =>
    unfold newR
    rw [if_pos hb]
    exact new_bad w p hb
  | false =>
    have h : 1 ≤ p ∧ p ≤ 4 := by
      unfold badP at hb
      rw [Bool.or_eq_false_iff] at hb
      have h1 := of_decide_eq_false hb.1
      have h2 := of_decide_eq_false hb.2
      omega
    obtain ⟨k, rfl⟩ := Int.eq_ofNat_of_zero_le (show 0 ≤ p by omega)
    rw [newR_k (by omega) (by omega)]
    exact new_good w k (by omega) (by omega)
theorem refNew_any (w : World) (p : Int) : Calls Try.prog 11 #[.int .i64 p] w (RetAdd (newR p) w) := by
  cases hb : badP p with
  | true =>
    unfold newR
    rw [if_pos hb]
    exact refNew_bad w p hb
  | false =>
    have h : 1 ≤ p ∧ p ≤ 4 := by
      unfold badP at hb
      rw [Bool.or_eq_false_iff] at hb
      have h1 := of_decide_eq_false hb.1
      have h2 := of_decide_eq_false hb.2
      omega
    obtain ⟨k, rfl⟩ := Int.eq_ofNat_of_zero_le (show 0 ≤ p by omega)
    rw [newR_k (by omega) (by omega)]
    exact refNew_good w k (by omega) (by omega)

theorem addQ_cases (q : Qs) (p g : Int) : (validQ q = false ∨ p < 0 ∨ (q.loc.length : Int) ≤ p ∨ g < 0 ∨ 8 ≤ g ∨ queuedQ q g = true) ∨ (validQ q = true ∧ 0 ≤ g ∧ g < 8 ∧ queuedQ q g = false ∧ ∃ (k : Nat) (own : List Int), p = (k : Int) ∧ q.loc[k]? = some own) := by
  by_cases h : validQ q = false ∨ p < 0 ∨ (q.loc.length : Int) ≤ p ∨ g < 0 ∨ 8 ≤ g ∨ queuedQ q g = true
  · exact .inl h
  · refine .inr ?_
    have h1 : validQ q = true := by
      cases hv : validQ q with
      | true => rfl
      | false => exact absurd (.inl hv) h
    have h2 : ¬ p < 0 := fun e => h (.inr (.inl e))
    have h3 : ¬ (q.loc.length : Int) ≤ p := fun e => h (.inr (.inr (.inl e)))
    have h4 : ¬ g < 0 := fun e => h (.inr (.inr (.inr (.inl e))))
    have h5 : ¬ 8 ≤ g := fun e => h (.inr (.inr (.inr (.inr (.inl e)))))
    have h6 : queuedQ q g = false := by
      cases hv : queuedQ q g with
      | false => rfl
      | true => exact absurd (.inr (.inr (.inr (.inr (.inr hv))))) h
    obtain ⟨k, rfl⟩ := Int.eq_ofNat_of_zero_le (show 0 ≤ p by omega)
    exact ⟨h1, by omega, by omega, h6, k, q.loc[k]'(by omega), rfl, List.getElem?_eq_getElem _⟩
theorem nextQ_cases (q : Qs) (p r : Int) : (validQ q = false ∨ p < 0 ∨ (q.loc.length : Int) ≤ p ∨ r < 0) ∨ (validQ q = true ∧ ∃ (k t : Nat) (own : List Int), p = (k : Int) ∧ r = (t : Int) ∧ q.loc[k]? = some own) := by
  by_cases h : validQ q = false ∨ p < 0 ∨ (q.loc.length : Int) ≤ p ∨ r < 0
  · exact .inl h
  · refine .inr ?_
    have h1 : validQ q = true := by
      cases hv : validQ q with
      | true => rfl
      | false => exact absurd (.inl hv) h
    have h2 : ¬ p < 0 := fun e => h (.inr (.inl e))
    have h3 : ¬ (q.loc.length : Int) ≤ p := fun e => h (.inr (.inr (.inl e)))
    have h4 : ¬ r < 0 := fun e => h (.inr (.inr (.inr e)))
    obtain ⟨k, rfl⟩ := Int.eq_ofNat_of_zero_le (show 0 ≤ p by omega)
    obtain ⟨t, rfl⟩ := Int.eq_ofNat_of_zero_le (show 0 ≤ r by omega)
    exact ⟨h1, k, t, q.loc[k]'(by omega), rfl, rfl, List.getElem?_eq_getElem _⟩
theorem addQ_some {q : Qs} {k : Nat} {g : Int} {own : List Int} (hv : validQ q = true) (ho : q.loc[k]? = some own) (h0 : 0 ≤ g) (h8 : g < 8) (hq : queuedQ q g = false) : ∃ r, addQ q k g = some r := by
  by_cases h : own.length < 4
  · exact ⟨_, addQ_few hv ho h0 h8 hq h⟩
  · exact ⟨_, addQ_many hv ho h0 h8 hq h⟩

section
variable (w : World) (B n c m d : Nat) (A C : Option Addr) (q : Qs) (p g : Int) (hl : Sl w (lt B) A n q.loc) (hc : Sl w (lt B) C m q.com) (hn : n ≤ maxLen) (hB : B ≤ w.heap.size)
include hl hc hn hB
theorem add_any (hmd : m ≤ d) (hd63 : d ≤ maxLen) : Calls Try.prog 16 #[.agg #[.slice A n c, .slice C m d], .int .i64 p, .int .i64 g] w (RetAdd (addQ q p g) w) := by
  rcases addQ_cases q p g with h | ⟨h1, h2, h3, h4, k, own, rfl, h5⟩
  · rw [addQ_bad h]
    exact add_bad w B n c m d A C q p g hl hc hn hmd hd63 hB h
  · obtain ⟨r, hr⟩ := addQ_some h1 h5 h2 h3 h4
    rw [hr]
    exact (add_good w B n c m d A C q k g own hl hc hn hmd hd63 hB h1 h5 h2 h3 h4 r hr).mono fun e w' h => h.e
theorem refAdd_any (hm8 : m * 8 ≤ 140737488351232) : Calls Try.prog 17 #[.agg #[.slice A n c, .slice C m d], .int .i64 p, .int .i64 g] w (RetAdd (addQ q p g) w) := by
  rcases addQ_cases q p g with h | ⟨h1, h2, h3, h4, k, own, rfl, h5⟩
  · rw [addQ_bad h]
    exact refAdd_bad w B n c m d A C q p g hl hc hn hm8 hB h
  · obtain ⟨r, hr⟩ := addQ_some h1 h5 h2 h3 h4
    rw [hr]
    exact refAdd_good w B n c m d A C q k g own hl hc hn hB h1 h5 h2 h3 h4 r hr
theorem next_any (hr63 : g < 2 ^ 63) (hmd : m ≤ d) (hd63 : d ≤ maxLen) : Calls Try.prog 18 #[.agg #[.slice A n c, .slice C m d], .int .i64 p, .int .i64 g] w (RetNext (nextQ q p g) w) := by
  rcases nextQ_cases q p g with h | ⟨h1, k, t, own, rfl, rfl, h5⟩
  · rw [nextQ_bad h]
    exact next_bad w B n c m d A C q p g hl hc hmd hd63 hB h
  · exact next_good w B n c m d A C q k t own hl hc hn hmd hd63 hB h1 h5 (by omega) _ rfl
theorem refNext_any (hr63 : g < 2 ^ 63) (hm8 : m * 8 ≤ 140737488351232) : Calls Try.prog 19 #[.agg #[.slice A n c, .slice C m d], .int .i64 p, .int .i64 g] w (RetNext (nextQ q p g) w) := by
  rcases nextQ_cases q p g with h | ⟨h1, k, t, own, rfl, rfl, h5⟩
  · rw [nextQ_bad h]
    exact refNext_bad w B n c m d A C q p g hl hc hn hm8 hB h
  · exact refNext_good w B n c m d A C q k t own hl hc hn hB h1 h5 (by omega) _ rfl
end

end Go.Proofs.Ytepcbgbmmmhglaa
