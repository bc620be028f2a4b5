/- Subset of outcomes: the program's. -/
import Derived.Test.YtojddklogigihaaGreatDoorO6
namespace Go.Proofs.YtojddklogigihaaGreatDoor
open Go.RowKit

theorem Sl.outc {w : World} {F : Nat → Prop} {n : Nat} {A : Option Addr} {xs : List Outc} (h : Sl w F A n xs) {k : Nat} (hk : k < n) :
    ∃ b o, A = some ⟨b, o, none⟩ ∧ F b ∧ ∃ x x0 x1 x2, xs[k]? = some x ∧ Rep.cells w F x [x0, x1, x2] ∧ w.cell? ⟨b, o + k * 3, none⟩ = some x0 ∧ w.cell? ⟨b, o + k * 3 + 1, none⟩ = some x1 ∧ w.cell? ⟨b, o + k * 3 + 2, none⟩ = some x2 := by
  obtain ⟨b, o, e, hb, x, vs, hx, hr, hv⟩ := h.at_ hk
  have hl : vs.length = 3 := Rep.len hr
  match vs, hl with
  | [x0, x1, x2], _ => exact ⟨b, o, e, hb, x, x0, x1, x2, hx, hr, by simpa [Rep.size] using hv 0 _ rfl, by simpa [Rep.size] using hv 1 _ rfl, by simpa [Rep.size] using hv 2 _ rfl⟩

set_option maxRecDepth 100000 in
set_option maxHeartbeats 2000000 in
theorem sub1_any (w : World) (B g : Nat) (x y : Outc) (x0 x1 x2 y0 y1 y2 : Value) (hx : Rep.cells w (lt B) x [x0, x1, x2]) (hy : Rep.cells w (lt B) y [y0, y1, y2]) (hB : B ≤ w.heap.size) (hg : g < w.heap.size)
    (c0 : w.cell? ⟨g, 0, none⟩ = some x0) (c1 : w.cell? ⟨g, 1, none⟩ = some x1) (c2 : w.cell? ⟨g, 2, none⟩ = some x2) (r : Bool) (hr : (cmpO x y == 0) = r) :
    Calls Tryz.prog 22 #[.agg #[y0, y1, y2], .pointer (some ⟨g, 0, none⟩)] w (RetB (.bool r) w) := by
  obtain ⟨z, hz⟩ : ∃ z, cmpO x y = z := ⟨_, rfl⟩
  rw [hz] at hr
  have HZ := Lib.hid hz
  have HX := Lib.hid hx
  have HY := Lib.hid hy
  clear hx hy hz
  go_enter Tryz.func22, Tryz.ntmps22
  go_upto_region 1 with fail
  obtain ⟨w1, hw1⟩ : ∃ w1, w1 = w.alloc (.cells #[y0, y1, y2] 24) := ⟨_, rfl⟩
  rw [← hw1]
  have hbw : Below w.heap.size w w1 := by rw [hw1]; exact (Below.refl _ _).alloc (Nat.le_refl _) _
  have hk1 : Blk w1 w.heap.size 24 #[y0, y1, y2] := by rw [hw1]; exact Blk.new w _ _
  have t0 : w1.cell? ⟨g, 0, none⟩ = some x0 := (hbw.cell (p := ⟨g, 0, none⟩) hg).trans c0
  have t1 : w1.cell? ⟨g, 1, none⟩ = some x1 := (hbw.cell (p := ⟨g, 1, none⟩) hg).trans c1
  have t2 : w1.cell? ⟨g, 2, none⟩ = some x2 := (hbw.cell (p := ⟨g, 2, none⟩) hg).trans c2
  have t3 : w1.cell? ⟨w.heap.size, 0, none⟩ = some y0 := hk1.at_ 0 rfl
  have t4 : w1.cell? ⟨w.heap.size, 1, none⟩ = some y1 := hk1.at_ 1 rfl
  have t5 : w1.cell? ⟨w.heap.size, 2, none⟩ = some y2 := hk1.at_ 2 rfl
  have HB := Lib.hid hbw
  clear hw1 hk1 hbw c0 c1 c2
  go_wp2_with (go_at_call 8; refine (pcmp_any w1 B x y x0 x1 x2 y0 y1 y2 (Rep.below HX.out (HB.out.mono hB)) (Rep.below HY.out (HB.out.mono hB)) (Nat.le_trans hB HB.out.size) z HZ.out).mono ?_; rintro e w2 ⟨rfl, hb2⟩)
  go_ret
  exact RetB.mk (by first | rfl | simp [← hr]) (HB.out.trans (hb2.mono HB.out.size))

def idxP {α : Type} (p : α → Bool) : List α → Int
  | [] => -1
  | y :: l => if p y then 0 else if idxP p l < 0 then -1 else idxP p l + 1
theorem idxP_at {α : Type} {p : α → Bool} {xs : List α} {x : α} : ∀ {k : Nat}, xs[k]? = some x → p x = true → (∀ (j : Nat) (y : α), j < k → xs[j]? = some y → p y = false) → idxP p xs = k := by
  induction xs with
  | nil => intro k hk; simp at hk
  | cons y l ih =>
    intro k hk hp hno
    unfold idxP
    cases k with
    | zero => simp at hk; subst hk; simp [hp]
    | succ k =>
      have h0 := hno 0 y (by omega) rfl
      rw [h0, ih (k := k) (by simpa using hk) hp (fun j z hj hz => hno (j + 1) z (by omega) (by simpa using hz))]
      simp only [Bool.false_eq_true, if_false]
      rw [if_neg (by omega)]
      omega
theorem idxP_no {α : Type} {p : α → Bool} {xs : List α} : (∀ (j : Nat) (y : α), j < xs.length → xs[j]? = some y → p y = false) → idxP p xs = -1 := by
  induction xs with
  | nil => intro _; rfl
  | cons y l ih =>
    intro hno
    unfold idxP
    rw [hno 0 y (by simp) rfl, ih (fun j z hj hz => hno (j + 1) z (by simp; omega) (by simpa using hz))]
    simp
theorem idxP_any {α : Type} (p : α → Bool) : ∀ xs : List α, decide (0 ≤ idxP p xs) = xs.any p
  | [] => rfl
  | y :: l => by
    have ih := idxP_any p l
    unfold idxP
    rw [List.any_cons, ← ih]
    cases p y with
    | true => simp
    | false =>
      simp only [Bool.false_eq_true, if_false, Bool.false_or]
      split <;> simp <;> omega
theorem no_more {α : Type} {p : α → Bool} {xs : List α} {k : Nat} {x : α} (h : ∀ (j : Nat) (y : α), j < k → xs[j]? = some y → p y = false) (hk : xs[k]? = some x) (hp : p x = false) : ∀ (j : Nat) (y : α), j < k + 1 → xs[j]? = some y → p y = false := by
  intro j y hj hy
  rcases Nat.lt_or_ge j k with h' | h'
  · exact h j y h' hy
  · obtain rfl : j = k := by omega
    rw [hk] at hy
    rw [← Option.some.inj hy]
    exact hp

set_option maxRecDepth 100000 in
set_option maxHeartbeats 2000000 in
theorem idxf_any (w : World) (B g n c : Nat) (A : Option Addr) (x : Outc) (x0 x1 x2 : Value) (ys : List Outc) (hy : Sl w (lt B) A n ys) (hn : n ≤ maxLen) (hx : Rep.cells w (lt B) x [x0, x1, x2]) (hB : B ≤ w.heap.size) (hg : g < w.heap.size)
    (c0 : w.cell? ⟨g, 0, none⟩ = some x0) (c1 : w.cell? ⟨g, 1, none⟩ = some x1) (c2 : w.cell? ⟨g, 2, none⟩ = some x2) :
    Calls Tryz.prog 35 #[.slice A n c, .func (.func 22) #[] #[.pointer (some ⟨g, 0, none⟩)]] w (RetB (.int .i64 (idxP (fun y => cmpO x y == 0) ys)) w) := by
  unfold maxLen at hn
  have hl : Hid (ys.length = n) := hy.1
  have HX := Lib.hid hx
  have HY := Lib.hid hy
  have HC := Lib.hid (And.intro c0 (And.intro c1 c2))
  clear hx hy c0 c1 c2
  go_enter Tryz.func35, Tryz.ntmps35
  go_wp2
  go_loopw [8, 5, 4] (fun i _ _ wr => ∃ k : Nat, k ≤ n ∧ i = .int .i64 k ∧ (∀ (j : Nat) (y : Outc), j < k → ys[j]? = some y → (cmpO x y == 0) = false) ∧ Below w.heap.size w wr) (fun i _ _ _ => n - (intOf i).toNat)
  case atStart => exact ⟨0, Nat.zero_le _, rfl, fun j _ hj => absurd hj (by omega), Below.refl _ _⟩
  case round =>
    obtain ⟨k, hk, rfl, hno, hbr⟩ := hrel
    obtain ⟨w1, rfl⟩ : ∃ w1 : World, w1 = wr := ⟨_, rfl⟩
    have HN := Lib.hid hno
    have HB := Lib.hid hbr
    clear hno hbr
    by_cases hlt : k < n
    · obtain ⟨b, o, rfl, hb, y, y0, y1, y2, hy1, hr, s0, s1, s2⟩ := (HY.out.below (HB.out.mono hB)).outc hlt
      have HR := Lib.hid hr
      have HY1 := Lib.hid hy1
      clear hr hy1
      cases hxy : (cmpO x y == 0) with
      | true =>
        have HE := Lib.hid hxy
        clear hxy
        go_wp2_with (go_at_call 22; refine (sub1_any w1 B g x y x0 x1 x2 y0 y1 y2 (Rep.below HX.out (HB.out.mono hB)) HR.out (Nat.le_trans hB HB.out.size) (Nat.lt_of_lt_of_le hg HB.out.size) ((HB.out.cell (p := ⟨g, 0, none⟩) hg).trans HC.out.1) ((HB.out.cell (p := ⟨g, 1, none⟩) hg).trans HC.out.2.1) ((HB.out.cell (p := ⟨g, 2, none⟩) hg).trans HC.out.2.2) true HE.out).mono ?_; rintro e w2 ⟨rfl, hb2⟩)
        go_ret
        exact RetB.mk (int_eq (idxP_at HY1.out HE.out HN.out).symm) (HB.out.trans (hb2.mono HB.out.size))
      | false =>
        have HE := Lib.hid hxy
        clear hxy
        go_wp2_with (go_at_call 22; refine (sub1_any w1 B g x y x0 x1 x2 y0 y1 y2 (Rep.below HX.out (HB.out.mono hB)) HR.out (Nat.le_trans hB HB.out.size) (Nat.lt_of_lt_of_le hg HB.out.size) ((HB.out.cell (p := ⟨g, 0, none⟩) hg).trans HC.out.1) ((HB.out.cell (p := ⟨g, 1, none⟩) hg).trans HC.out.2.1) ((HB.out.cell (p := ⟨g, 2, none⟩) hg).trans HC.out.2.2) false HE.out).mono ?_; rintro e w2 ⟨rfl, hb2⟩)
        go_roundw
        case rel => exact ⟨k + 1, by omega, by go_num, no_more HN.out HY1.out HE.out, HB.out.trans (hb2.mono HB.out.size)⟩
        case measure => simp [intOf]; omega
    · obtain rfl : k = n := by omega
      go_wp2
      go_ret
      exact RetB.mk (int_eq (idxP_no (fun j y hj hy => HN.out j y (by rw [hl.out] at hj; exact hj) hy)).symm) HB.out

set_option maxRecDepth 100000 in
theorem conf_any (w : World) (B g n c : Nat) (A : Option Addr) (x : Outc) (x0 x1 x2 : Value) (ys : List Outc) (hy : Sl w (lt B) A n ys) (hn : n ≤ maxLen) (hx : Rep.cells w (lt B) x [x0, x1, x2]) (hB : B ≤ w.heap.size) (hg : g < w.heap.size)
    (c0 : w.cell? ⟨g, 0, none⟩ = some x0) (c1 : w.cell? ⟨g, 1, none⟩ = some x1) (c2 : w.cell? ⟨g, 2, none⟩ = some x2) (r : Bool) (hr : (ys.any fun y => cmpO x y == 0) = r) :
    Calls Tryz.prog 21 #[.slice A n c, .func (.func 22) #[] #[.pointer (some ⟨g, 0, none⟩)]] w (RetB (.bool r) w) := by
  obtain ⟨z, hz⟩ : ∃ z, idxP (fun y => cmpO x y == 0) ys = z := ⟨_, rfl⟩
  have hr' : decide (0 ≤ z) = r := by rw [← hr, ← hz, idxP_any]
  have HA := Lib.hid (hz ▸ idxf_any w B g n c A x x0 x1 x2 ys hy hn hx hB hg c0 c1 c2)
  clear hy hx c0 c1 c2 hr hz
  go_enter Tryz.func21, Tryz.ntmps21
  go_wp2_with (go_at_call 35; refine HA.out.mono ?_; rintro e w2 ⟨rfl, hb2⟩)
  go_ret
  exact RetB.mk (by first | rfl | simp [← hr']) hb2

def subO (xs ys : List Outc) : Bool := xs.all fun x => ys.any fun y => cmpO x y == 0
theorem all_no {α : Type} {p : α → Bool} {xs : List α} {k : Nat} {x : α} (h : xs[k]? = some x) (hp : p x = false) : xs.all p = false := by
  rw [List.all_eq_false]
  exact ⟨x, List.mem_of_getElem? h, by simp [hp]⟩
theorem all_yes {α : Type} {p : α → Bool} {xs : List α} {n : Nat} (hn : xs.length = n) (h : ∀ (j : Nat) (y : α), j < n → xs[j]? = some y → p y = true) : xs.all p = true := by
  rw [List.all_eq_true]
  intro x hx
  obtain ⟨i, hi⟩ := List.getElem?_of_mem hx
  exact h i x (by rw [← hn]; exact (List.getElem?_eq_some_iff.1 hi).1) hi
theorem yes_more {α : Type} {p : α → Bool} {xs : List α} {k : Nat} {x : α} (h : ∀ (j : Nat) (y : α), j < k → xs[j]? = some y → p y = true) (hk : xs[k]? = some x) (hp : p x = true) : ∀ (j : Nat) (y : α), j < k + 1 → xs[j]? = some y → p y = true := by
  intro j y hj hy
  rcases Nat.lt_or_ge j k with h' | h'
  · exact h j y h' hy
  · obtain rfl : j = k := by omega
    rw [hk] at hy
    rw [← Option.some.inj hy]
    exact hp

set_option maxRecDepth 100000 in
set_option maxHeartbeats 2000000 in
theorem subset_any (w : World) (B n c m d : Nat) (A A' : Option Addr) (xs ys : List Outc) (hx : Sl w (lt B) A n xs) (hy : Sl w (lt B) A' m ys) (hn : n ≤ maxLen) (hm : m ≤ maxLen) (hB : B ≤ w.heap.size) (r : Bool) (hr : subO xs ys = r) :
    Calls Tryz.prog 12 #[.slice A n c, .slice A' m d] w (RetB (.bool r) w) := by
  have HM := Lib.hid hm
  unfold maxLen at hn
  have hl : Hid (xs.length = n) := hx.1
  have HX := Lib.hid hx
  have HY := Lib.hid hy
  have HR := Lib.hid hr
  clear hx hy hm hr
  go_enter Tryz.func12, Tryz.ntmps12
  go_wp2
  go_loopw [9, 6, 4] (fun i _ _ wr => ∃ k : Nat, k ≤ n ∧ i = .int .i64 k ∧ (∀ (j : Nat) (x : Outc), j < k → xs[j]? = some x → (ys.any fun y => cmpO x y == 0) = true) ∧ Below w.heap.size w wr) (fun i _ _ _ => n - (intOf i).toNat)
  case atStart => exact ⟨0, Nat.zero_le _, rfl, fun j _ hj => absurd hj (by omega), Below.refl _ _⟩
  case round =>
    obtain ⟨k, hk, rfl, hno, hbr⟩ := hrel
    obtain ⟨w1, rfl⟩ : ∃ w1 : World, w1 = wr := ⟨_, rfl⟩
    have HN := Lib.hid hno
    have HB := Lib.hid hbr
    clear hno hbr
    by_cases hlt : k < n
    · obtain ⟨b, o, rfl, hb, x, x0, x1, x2, hx1, hr, s0, s1, s2⟩ := (HX.out.below (HB.out.mono hB)).outc hlt
      have HXR := Lib.hid hr
      have HX1 := Lib.hid hx1
      obtain ⟨P1, p1, q1, P2, p2, q2, ex, -⟩ := hr
      simp only [List.cons.injEq, and_true] at ex
      obtain ⟨rfl, rfl, rfl⟩ := ex
      clear hx1
      cases hxy : (ys.any fun y => cmpO x y == 0) with
      | true =>
        have HE := Lib.hid hxy
        clear hxy
        go_wp2_with (go_at_call 21; refine (conf_any _ B w1.heap.size m d A' x (.slice P1 p1 q1) (.slice P2 p2 q2) (.bool x.dead) ys ((HY.out.below (HB.out.mono hB)).below ((Below.refl _ _).alloc (Nat.le_trans hB HB.out.size) (.cells #[.slice P1 p1 q1, .slice P2 p2 q2, .bool x.dead] 24))) HM.out (Rep.below HXR.out ((Below.refl _ _).alloc (Nat.le_trans hB HB.out.size) (.cells #[.slice P1 p1 q1, .slice P2 p2 q2, .bool x.dead] 24))) (Nat.le_trans (Nat.le_trans hB HB.out.size) (Below.alloc (Below.refl w1.heap.size w1) (Nat.le_refl _) (.cells #[.slice P1 p1 q1, .slice P2 p2 q2, .bool x.dead] 24)).size) (Blk.lt (Blk.new w1 24 #[.slice P1 p1 q1, .slice P2 p2 q2, .bool x.dead])) ((Blk.new w1 24 #[.slice P1 p1 q1, .slice P2 p2 q2, .bool x.dead]).at_ 0 rfl) ((Blk.new w1 24 #[.slice P1 p1 q1, .slice P2 p2 q2, .bool x.dead]).at_ 1 rfl) ((Blk.new w1 24 #[.slice P1 p1 q1, .slice P2 p2 q2, .bool x.dead]).at_ 2 rfl) true HE.out).mono ?_; rintro e w2 ⟨rfl, hb2⟩)
        go_roundw
        case rel => exact ⟨k + 1, by omega, by go_num, yes_more HN.out HX1.out HE.out, (HB.out.trans ((Below.alloc (Below.refl w1.heap.size w1) (Nat.le_refl _) (.cells #[.slice P1 p1 q1, .slice P2 p2 q2, .bool x.dead] 24)).mono HB.out.size)).trans (hb2.mono (Nat.le_trans HB.out.size (Below.alloc (Below.refl w1.heap.size w1) (Nat.le_refl _) (.cells #[.slice P1 p1 q1, .slice P2 p2 q2, .bool x.dead] 24)).size))⟩
        case measure => simp [intOf]; omega
      | false =>
        have HE := Lib.hid hxy
        clear hxy
        go_wp2_with (go_at_call 21; refine (conf_any _ B w1.heap.size m d A' x (.slice P1 p1 q1) (.slice P2 p2 q2) (.bool x.dead) ys ((HY.out.below (HB.out.mono hB)).below ((Below.refl _ _).alloc (Nat.le_trans hB HB.out.size) (.cells #[.slice P1 p1 q1, .slice P2 p2 q2, .bool x.dead] 24))) HM.out (Rep.below HXR.out ((Below.refl _ _).alloc (Nat.le_trans hB HB.out.size) (.cells #[.slice P1 p1 q1, .slice P2 p2 q2, .bool x.dead] 24))) (Nat.le_trans (Nat.le_trans hB HB.out.size) (Below.alloc (Below.refl w1.heap.size w1) (Nat.le_refl _) (.cells #[.slice P1 p1 q1, .slice P2 p2 q2, .bool x.dead] 24)).size) (Blk.lt (Blk.new w1 24 #[.slice P1 p1 q1, .slice P2 p2 q2, .bool x.dead])) ((Blk.new w1 24 #[.slice P1 p1 q1, .slice P2 p2 q2, .bool x.dead]).at_ 0 rfl) ((Blk.new w1 24 #[.slice P1 p1 q1, .slice P2 p2 q2, .bool x.dead]).at_ 1 rfl) ((Blk.new w1 24 #[.slice P1 p1 q1, .slice P2 p2 q2, .bool x.dead]).at_ 2 rfl) false HE.out).mono ?_; rintro e w2 ⟨rfl, hb2⟩)
        go_ret
        exact RetB.mk (bool_eq (by rw [← HR.out]; exact (all_no HX1.out HE.out).symm)) ((HB.out.trans ((Below.alloc (Below.refl w1.heap.size w1) (Nat.le_refl _) (.cells #[.slice P1 p1 q1, .slice P2 p2 q2, .bool x.dead] 24)).mono HB.out.size)).trans (hb2.mono (Nat.le_trans HB.out.size (Below.alloc (Below.refl w1.heap.size w1) (Nat.le_refl _) (.cells #[.slice P1 p1 q1, .slice P2 p2 q2, .bool x.dead] 24)).size)))
    · obtain rfl : k = n := by omega
      go_wp2
      go_ret
      exact RetB.mk (bool_eq (by rw [← HR.out]; exact (all_yes hl.out HN.out).symm)) HB.out
end Go.Proofs.YtojddklogigihaaGreatDoor
