/- queued; New. -/
import Derived.Test.YtepcbgbmmmhglaaQ9
namespace Go.Proofs.Ytepcbgbmmmhglaa
open Go.RowKit

set_option maxHeartbeats 400000 in
theorem containsFunc_b (w : World) (B n c ga : Nat) {A : Option Addr} {xss : List (List Int)} {g : Int} {r : Bool} (hr : anyHas xss g = r) (hs : Sl w (lt B) A n xss) (hn : n ≤ maxLen) (hg : w.cell? ⟨ga, 0, none⟩ = some (.int .i64 g)) :
    Calls Try.prog 28 #[.slice A n c, .func (.func 29) #[] #[.pointer (some ⟨ga, 0, none⟩)]] w (Ret (.bool r) w) := by
  have HR := Lib.hid hr
  clear hr
  go_enter Try.func28, Try.ntmps28
  go_wp2_with fail
  refine (indexFunc_any w B n c ga A xss g hs hn hg).mono ?_
  rintro e w1 ⟨z, rfl, hz, rfl⟩
  rw [HR.out] at hz
  go_wp2
  go_ret
  exact Ret.mk rfl

theorem contains_b (w : World) (B n c : Nat) {A : Option Addr} {xs : List Int} {x : Int} {r : Bool} (hr : hasI xs x = r) (hs : Sl w (lt B) A n xs) (hn : n ≤ maxLen) :
    Calls Try.prog 27 #[.slice A n c, .int .i64 x] w (Ret (.bool r) w) := hr ▸ contains_any w B n c A xs x hs hn

/-- Whether a goroutine is queued. -/
def queuedQ (q : Qs) (g : Int) : Bool := hasI q.com g || anyHas q.loc g

set_option maxHeartbeats 1000000 in
theorem queued_any (w : World) (B n c m d : Nat) (A C : Option Addr) (q : Qs) (g : Int) (hl : Sl w (lt B) A n q.loc) (hc : Sl w (lt B) C m q.com) (hn : n ≤ maxLen) (hm : m ≤ maxLen) (hB : B ≤ w.heap.size) :
    Calls Try.prog 24 #[.agg #[.slice A n c, .slice C m d], .int .i64 g] w (RetB (.bool (queuedQ q g)) w) := by
  have hb : Below w.heap.size w ((w.alloc (.cells #[.slice A n c, .slice C m d] 26)).alloc (.cells #[.int .i64 g] 3)) := ((Below.refl _ _).alloc (Nat.le_refl _) _).alloc (by simp) _
  have hcell : ((w.alloc (.cells #[.slice A n c, .slice C m d] 26)).alloc (.cells #[.int .i64 g] 3)).cell? ⟨w.heap.size + 1, 0, none⟩ = some (.int .i64 g) := cell_new _ _ _ (by simp) 0 _ rfl
  have HB := Lib.hid hb
  have HG := Lib.hid hcell
  clear hb hcell
  cases hcom : hasI q.com g with
  | true =>
    have hr : Hid (queuedQ q g = true) := Lib.hid (by unfold queuedQ; rw [hcom]; rfl)
    have HC := Lib.hid (contains_b _ B m d hcom (hc.below (HB.out.mono hB)) hm)
    clear hcom
    go_enter Try.func24, Try.ntmps24
    go_wp2_with fail
    refine HC.out.mono ?_
    rintro e w1 ⟨rfl, rfl⟩
    go_wp2
    go_ret
    exact RetB.mk (bool_eq hr.out.symm) HB.out
  | false =>
    have HC := Lib.hid (contains_b _ B m d hcom (hc.below (HB.out.mono hB)) hm)
    obtain ⟨r, hr0⟩ : ∃ r, anyHas q.loc g = r := ⟨_, rfl⟩
    have hr : Hid (queuedQ q g = r) := Lib.hid (by unfold queuedQ; rw [hcom, hr0]; rfl)
    have HF := Lib.hid (containsFunc_b _ B n c (w.heap.size + 1) hr0 (hl.below (HB.out.mono hB)) hn HG.out)
    clear hcom hr0
    go_enter Try.func24, Try.ntmps24
    go_wp2_with fail
    refine HC.out.mono ?_
    rintro e w1 ⟨rfl, rfl⟩
    go_wp2_with fail
    refine HF.out.mono ?_
    rintro e w1 ⟨rfl, rfl⟩
    go_wp2
    go_ret
    exact RetB.mk (bool_eq hr.out.symm) HB.out

end Go.Proofs.Ytepcbgbmmmhglaa
