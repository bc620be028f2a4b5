/- New; whether a goroutine is queued. -/
import Derived.Test.YtepcbgbmmmhglaaQ8
namespace Go.Proofs.Ytepcbgbmmmhglaa
open Go.RowKit

theorem hasIn_any (w : World) (B n c ga : Nat) (A : Option Addr) (xs : List Int) (g : Int) (hs : Sl w (lt B) A n xs) (hn : n ≤ maxLen) (hg : w.cell? ⟨ga, 0, none⟩ = some (.int .i64 g)) :
    Calls Try.prog 29 #[.slice A n c, .pointer (some ⟨ga, 0, none⟩)] w (Ret (.bool (hasI xs g)) w) := by
  go_enter Try.func29, Try.ntmps29
  go_wp2_with fail
  refine (contains_any w B n c A xs g hs hn).mono ?_
  rintro e w1 ⟨rfl, rfl⟩
  go_wp2
  go_ret
  exact Ret.mk rfl

/-- Whether some list holds the number. -/
def anyHas (xss : List (List Int)) (g : Int) : Bool := xss.any fun xs => hasI xs g
theorem anyHas_yes {xss : List (List Int)} {g : Int} {k : Nat} {xs : List Int} (h : xss[k]? = some xs) (hx : hasI xs g = true) : anyHas xss g = true :=
  List.any_eq_true.2 ⟨xs, List.mem_of_getElem? h, hx⟩
theorem anyHas_no {xss : List (List Int)} {g : Int} (h : ∀ (j : Nat) (xs : List Int), xss[j]? = some xs → hasI xs g = false) : anyHas xss g = false := by
  cases he : anyHas xss g with
  | false => rfl
  | true =>
    obtain ⟨xs, hm, hx⟩ := List.any_eq_true.1 he
    obtain ⟨j, hj, e⟩ := List.getElem_of_mem hm
    rw [h j xs (by rw [List.getElem?_eq_getElem hj, e])] at hx
    cases hx
theorem hasIn_b (w : World) (B n c ga : Nat) {A : Option Addr} {xs : List Int} {g : Int} {r : Bool} (hr : hasI xs g = r) (hs : Sl w (lt B) A n xs) (hn : n ≤ maxLen) (hg : w.cell? ⟨ga, 0, none⟩ = some (.int .i64 g)) :
    Calls Try.prog 29 #[.slice A n c, .pointer (some ⟨ga, 0, none⟩)] w (Ret (.bool r) w) := hr ▸ hasIn_any w B n c ga A xs g hs hn hg

set_option maxHeartbeats 1000000 in
theorem indexFunc_any (w : World) (B n c ga : Nat) (A : Option Addr) (xss : List (List Int)) (g : Int) (hs : Sl w (lt B) A n xss) (hn : n ≤ maxLen) (hg : w.cell? ⟨ga, 0, none⟩ = some (.int .i64 g)) :
    Calls Try.prog 31 #[.slice A n c, .func (.func 29) #[] #[.pointer (some ⟨ga, 0, none⟩)]] w (fun e w' => ∃ z : Int, e = .returned (.int .i64 z) ∧ decide (0 ≤ z) = anyHas xss g ∧ w = w') := by
  unfold maxLen at hn
  have hl : Hid (xss.length = n) := hs.1
  go_enter Try.func31, Try.ntmps31
  go_wp2
  go_loop [8, 5, 4] (fun i _ _ => ∃ k : Nat, k ≤ n ∧ i = .int .i64 k ∧ ∀ (j : Nat) (xs : List Int), j < k → xss[j]? = some xs → hasI xs g = false) (fun i _ _ => n - (intOf i).toNat)
  case atStart => exact ⟨0, Nat.zero_le _, rfl, fun j _ h => absurd h (by omega)⟩
  case round =>
    obtain ⟨k, hk, rfl, hno⟩ := hrel
    have HN := Lib.hid hno
    clear hno
    by_cases hlt : k < n
    · obtain ⟨b, o, rfl, hbb, xs, A', n', c', hx, hcell, hn', hc', hsx⟩ := hs.list_ hlt
      have HX := Lib.hid hx
      clear hx
      cases hr : hasI xs g with
      | true =>
        have HR := Lib.hid hr
        have HC := Lib.hid (hasIn_b w B n' c' ga hr hsx (Nat.le_trans hn' hc') hg)
        clear hr hsx
        go_wp2_with (go_at_call 29; refine HC.out.mono ?_; rintro e w1 ⟨rfl, rfl⟩)
        go_ret
        exact ⟨_, rfl, by rw [anyHas_yes HX.out HR.out]; exact decide_eq_true (by omega), rfl⟩
      | false =>
        have HR := Lib.hid hr
        have HC := Lib.hid (hasIn_b w B n' c' ga hr hsx (Nat.le_trans hn' hc') hg)
        clear hr hsx
        go_wp2_with (go_at_call 29; refine HC.out.mono ?_; rintro e w1 ⟨rfl, rfl⟩)
        go_round
        case rel => exact ⟨k + 1, by omega, by go_num, fun j ys hj hy => by
          rcases Nat.lt_or_ge j k with h | h
          · exact HN.out j ys h hy
          · obtain rfl : j = k := by omega
            rw [HX.out] at hy
            injection hy with hy
            rw [← hy]
            exact HR.out⟩
        case measure => simp [intOf]; omega
    · obtain rfl : k = n := by omega
      go_wp2
      go_ret
      exact ⟨_, rfl, by rw [anyHas_no fun j xs hj => HN.out j xs (by rw [← hl.out]; exact (List.getElem?_eq_some_iff.1 hj).1) hj]; rfl, rfl⟩

end Go.Proofs.Ytepcbgbmmmhglaa
