/- Numerals and texts of outcomes: plain Lean; no program is named. -/
import Derived.Lib.ItoaNum
import Derived.Lib.ItoaLen
import Derived.Test.YtojddklogigihaaGreatDoorO6
namespace Go.Proofs.YtojddklogigihaaGreatDoor.Tx
open Go.Lib

/-! ### Digits -/
def val : List UInt8 → Nat := fun l => l.foldl (fun a c => a * 10 + (c.toNat - 48)) 0
theorem dig (d : Nat) (h : d < 10) : (UInt8.ofNat (48 + d)).toNat = 48 + d := by
  rw [UInt8.toNat_ofNat']
  omega
theorem val_snoc (l : List UInt8) (c : UInt8) : val (l ++ [c]) = val l * 10 + (c.toNat - 48) := by simp [val, List.foldl_append]
theorem val_dec : ∀ u, val (decDigits u) = u := by
  intro u
  induction u using Nat.strongRecOn with
  | _ u ih =>
    rw [decDigits]
    by_cases h : u < 10
    · rw [dif_pos h]
      simp [val]
      omega
    · rw [dif_neg h, val_snoc, ih (u / 10) (by omega), dig (u % 10) (by omega)]
      omega
theorem dec_inj {u v : Nat} (h : decDigits u = decDigits v) : u = v := by rw [← val_dec u, ← val_dec v, h]
theorem dec_dig : ∀ u, ∀ c ∈ decDigits u, 48 ≤ c.toNat ∧ c.toNat ≤ 57 := by
  intro u
  induction u using Nat.strongRecOn with
  | _ u ih =>
    intro c hc
    rw [decDigits] at hc
    by_cases h : u < 10
    · rw [dif_pos h] at hc
      rw [List.mem_singleton.1 hc, dig u h]
      omega
    · rw [dif_neg h] at hc
      rcases List.mem_append.1 hc with hc | hc
      · exact ih (u / 10) (by omega) c hc
      · rw [List.mem_singleton.1 hc, dig (u % 10) (by omega)]
        omega
theorem dec_ne (u : Nat) : decDigits u ≠ [] := by
  rw [decDigits]
  by_cases h : u < 10
  · rw [dif_pos h]; simp
  · rw [dif_neg h]; simp
theorem itoa_inj {m n : Int} (h : itoa m = itoa n) : m = n := by
  unfold itoa at h
  have no : ∀ u v, 45 :: decDigits u ≠ decDigits v := fun u v e => by
    have := dec_dig v 45 (by rw [← e]; simp)
    simp at this
  by_cases hm : m < 0
  · rw [if_pos hm] at h
    by_cases hn : n < 0
    · rw [if_pos hn] at h
      have := dec_inj (List.cons.inj h).2
      omega
    · rw [if_neg hn] at h
      exact absurd h (no _ _)
  · rw [if_neg hm] at h
    by_cases hn : n < 0
    · rw [if_pos hn] at h
      exact absurd h.symm (no _ _)
    · rw [if_neg hn] at h
      have := dec_inj h
      omega
/-- A sign of a numeral. -/
def good (c : UInt8) : Bool := c.toNat == 45 || (decide (48 ≤ c.toNat) && decide (c.toNat ≤ 57))
theorem itoa_good (n : Int) : ∀ c ∈ itoa n, good c = true := by
  intro c hc
  unfold itoa at hc
  split at hc
  · rcases List.mem_cons.1 hc with rfl | hc
    · rfl
    · have := dec_dig _ c hc
      simp [good, this]
  · have := dec_dig _ c hc
    simp [good, this]
/-- What begins with no such sign. -/
def stops : List UInt8 → Bool
  | [] => true
  | c :: _ => !good c
theorem split_good : ∀ {p q u v : List UInt8}, (∀ c ∈ p, good c = true) → (∀ c ∈ q, good c = true) → stops u = true → stops v = true → p ++ u = q ++ v → p = q ∧ u = v
  | [], [], u, v, _, _, _, _, h => ⟨rfl, h⟩
  | [], d :: q, u, v, _, hq, hu, _, h => by
    simp only [List.nil_append, List.cons_append] at h
    rw [h] at hu
    simp [stops, hq d (by simp)] at hu
  | c :: p, [], u, v, hp, _, _, hv, h => by
    simp only [List.nil_append, List.cons_append] at h
    rw [← h] at hv
    simp [stops, hp c (by simp)] at hv
  | c :: p, d :: q, u, v, hp, hq, hu, hv, h => by
    simp only [List.cons_append, List.cons.injEq] at h
    obtain ⟨rfl, h⟩ := h
    obtain ⟨a, b⟩ := split_good (fun x hx => hp x (by simp [hx])) (fun x hx => hq x (by simp [hx])) hu hv h
    exact ⟨by rw [a], b⟩
/-! ### The text -/
def sp (n : Int) : List UInt8 := 32 :: itoa n
def semi : List UInt8 → Bool
  | [] => true
  | c :: _ => c.toNat == 59
theorem stops_of {xs : List Int} {r : List UInt8} (hr : semi r = true) : stops (xs.flatMap sp ++ r) = true := by
  cases xs with
  | nil =>
    cases r with
    | nil => rfl
    | cons c r =>
      simp only [semi, beq_iff_eq] at hr
      simp [stops, good, hr]
  | cons x xs => rfl
theorem flat_inj : ∀ {xs ys : List Int} {r s : List UInt8}, semi r = true → semi s = true → xs.flatMap sp ++ r = ys.flatMap sp ++ s → xs = ys ∧ r = s
  | [], [], r, s, _, _, h => ⟨rfl, h⟩
  | [], y :: ys, r, s, hr, _, h => by
    simp only [List.flatMap_nil, List.nil_append, List.flatMap_cons, sp, List.cons_append] at h
    rw [h] at hr
    simp [semi] at hr
  | x :: xs, [], r, s, _, hs, h => by
    simp only [List.flatMap_nil, List.nil_append, List.flatMap_cons, sp, List.cons_append] at h
    rw [← h] at hs
    simp [semi] at hs
  | x :: xs, y :: ys, r, s, hr, hs, h => by
    simp only [List.flatMap_cons, List.append_assoc] at h
    have h1 : itoa x ++ (xs.flatMap sp ++ r) = itoa y ++ (ys.flatMap sp ++ s) := by
      have : 32 :: (itoa x ++ (xs.flatMap sp ++ r)) = 32 :: (itoa y ++ (ys.flatMap sp ++ s)) := h
      exact (List.cons.inj this).2
    obtain ⟨h2, h3⟩ := split_good (itoa_good x) (itoa_good y) (stops_of hr) (stops_of hs) h1
    obtain ⟨h4, h5⟩ := flat_inj hr hs h3
    exact ⟨by rw [itoa_inj h2, h4], h5⟩
def hOut : List UInt8 := [111, 117, 116, 112, 117, 116]
def hFau : List UInt8 := [59, 32, 102, 97, 117, 108, 116, 115]
def hDead : List UInt8 := [59, 32, 100, 101, 97, 100, 108, 111, 99, 107]
def deadB (d : Bool) : List UInt8 := if d then hDead else []
def txtOf (out fau : List Int) (dead : Bool) : List UInt8 := hOut ++ (out.flatMap sp ++ (hFau ++ (fau.flatMap sp ++ deadB dead)))
theorem txt_inj {o f o' f' : List Int} {d d' : Bool} (h : txtOf o f d = txtOf o' f' d') : o = o' ∧ f = f' ∧ d = d' := by
  unfold txtOf at h
  have h1 := List.append_cancel_left h
  obtain ⟨h2, h3⟩ := flat_inj rfl rfl h1
  have h4 := List.append_cancel_left h3
  obtain ⟨h5, h6⟩ := flat_inj (by cases d <;> rfl) (by cases d' <;> rfl) h4
  refine ⟨h2, h5, ?_⟩
  cases d <;> cases d' <;> first | rfl | (simp [deadB, hDead] at h6)
theorem flat_le {B : Nat} : ∀ {xs : List Int}, (∀ x ∈ xs, -9223372036854775808 ≤ x ∧ x ≤ 9223372036854775807) → xs.length ≤ B → (xs.flatMap sp).length ≤ B * 22
  | [], _, _ => by simp
  | x :: xs, h, hb => by
    obtain ⟨B, rfl⟩ : ∃ b, B = b + 1 := ⟨B - 1, by simp at hb; omega⟩
    have h1 := itoa_length_le x (h x (by simp)).1 (h x (by simp)).2
    have h2 := flat_le (B := B) (xs := xs) (fun y hy => h y (by simp [hy])) (by simpa using hb)
    simp only [List.flatMap_cons, List.length_append, sp, List.length_cons]
    omega
/-! ### The reference's numeral -/
theorem dec_small {u : Nat} (h : u < 10) : decDigits u = [UInt8.ofNat (48 + u)] := by rw [decDigits, dif_pos h]
theorem dec_big {u : Nat} (h : ¬ u < 10) : decDigits u = decDigits (u / 10) ++ [UInt8.ofNat (48 + u % 10)] := by rw [decDigits, dif_neg h]
end Go.Proofs.YtojddklogigihaaGreatDoor.Tx
