/- Small functions: Ints, Clone, Contains, count. -/
import Derived.Test.YtepcbgbmmmhglaaQ2
import Derived.Test.YtepcbgbmmmhglaaRows
import Derived.Deep.QuietTactic
import Derived.BigQuiet
import Derived.StillTailTactics
import Derived.Deep.Cut
namespace Go.Proofs.Ytepcbgbmmmhglaa
open Go.RowKit

/-- Run queues. -/
structure Qs where
  loc : List (List Int)
  com : List Int
instance : Rep Qs where
  size := 2
  cells w F q vs := ∃ A n c C m d, vs = [.slice A n c, .slice C m d] ∧ n ≤ c ∧ c ≤ maxLen ∧ m ≤ d ∧ d ≤ maxLen ∧ Sl w F A n q.loc ∧ Sl w F C m q.com
  len h := by obtain ⟨A, n, c, T, m, d, rfl, _⟩ := h; rfl
  keep hk h := by obtain ⟨A, n, c, T, m, d, rfl, h1, h2, h3, h4, h5, h6⟩ := h; exact ⟨A, n, c, T, m, d, rfl, h1, h2, h3, h4, h5.keep hk, h6.keep hk⟩
  mono hB h := by obtain ⟨A, n, c, T, m, d, rfl, h1, h2, h3, h4, h5, h6⟩ := h; exact ⟨A, n, c, T, m, d, rfl, h1, h2, h3, h4, h5.wide hB, h6.wide hB⟩
/-- A slice of lists, at index k. -/
theorem Sl.list_ {w : World} {F : Nat → Prop} {n : Nat} {A : Option Addr} {xss : List (List Int)} (h : Sl w F A n xss) {k : Nat} (hk : k < n) :
    ∃ b o, A = some ⟨b, o, none⟩ ∧ F b ∧ ∃ xs A' n' c', xss[k]? = some xs ∧ w.cell? ⟨b, o + k, none⟩ = some (.slice A' n' c') ∧ n' ≤ c' ∧ c' ≤ maxLen ∧ Sl w F A' n' xs := by
  obtain ⟨b, o, e, hb, x, vs, hx, hr, hv⟩ := h.at_ hk
  obtain ⟨A', n', c', h1, h2, h3, h4⟩ : ∃ A' n' c', vs = [.slice A' n' c'] ∧ n' ≤ c' ∧ c' ≤ maxLen ∧ Sl w F A' n' x := hr
  subst h1
  refine ⟨b, o, e, hb, x, A', n', c', hx, ?_, h2, h3, h4⟩
  have := hv 0 _ rfl
  simpa [Rep.size] using this

def eqBy {α : Type} (f : α → α → Bool) : List α → List α → Bool
  | [], [] => true
  | x :: xs, y :: ys => f x y && eqBy f xs ys
  | _, _ => false
theorem eqBy_len {α : Type} {f : α → α → Bool} : ∀ {xs ys : List α}, xs.length ≠ ys.length → eqBy f xs ys = false
  | [], [], h => absurd rfl h
  | [], _ :: _, _ => rfl
  | _ :: _, [], _ => rfl
  | x :: xs, y :: ys, h => by
    unfold eqBy
    rw [eqBy_len (xs := xs) (ys := ys) (by simpa using h), Bool.and_false]
theorem eqBy_no {α : Type} {f : α → α → Bool} : ∀ {xs ys : List α} {k : Nat} {x y : α}, xs[k]? = some x → ys[k]? = some y → f x y = false → eqBy f xs ys = false
  | [], _, _, _, _, h, _, _ => by simp at h
  | _ :: _, [], _, _, _, _, h, _ => by simp at h
  | x :: xs, y :: ys, 0, a, b, h1, h2, h3 => by
    simp at h1 h2
    subst h1
    subst h2
    unfold eqBy
    rw [h3]
    rfl
  | x :: xs, y :: ys, k + 1, a, b, h1, h2, h3 => by
    unfold eqBy
    rw [eqBy_no (k := k) (by simpa using h1) (by simpa using h2) h3, Bool.and_false]
theorem eqBy_yes {α : Type} {f : α → α → Bool} : ∀ {xs ys : List α} {n : Nat}, xs.length = n → ys.length = n → (∀ k x y, k < n → xs[k]? = some x → ys[k]? = some y → f x y = true) → eqBy f xs ys = true
  | [], [], _, _, _, _ => rfl
  | [], _ :: _, _, h, h', _ => by simp at h h'; omega
  | _ :: _, [], _, h, h', _ => by simp at h h'; omega
  | x :: xs, y :: ys, n, h, h', H => by
    unfold eqBy
    simp only [List.length_cons] at h h'
    rw [H 0 x y (by omega) rfl rfl, eqBy_yes (n := n - 1) (by omega) (by omega) fun k a b hk ha hb => H (k + 1) a b (by omega) (by simpa using ha) (by simpa using hb)]
    rfl
theorem eq_more {α : Type} {f : α → α → Bool} {xs ys : List α} {k : Nat} (h : ∀ j x y, j < k → xs[j]? = some x → ys[j]? = some y → f x y = true) {x y : α} (hx : xs[k]? = some x) (hy : ys[k]? = some y) (hf : f x y = true) :
    ∀ j x y, j < k + 1 → xs[j]? = some x → ys[j]? = some y → f x y = true := by
  intro j a b hj ha hb
  rcases Nat.lt_or_ge j k with h' | h'
  · exact h j a b h' ha hb
  · obtain rfl : j = k := by omega
    rw [hx] at ha
    rw [hy] at hb
    injection ha with ha
    injection hb with hb
    rw [← ha, ← hb]
    exact hf
def eqI (x y : Int) : Bool := x == y
def eqInts (xs ys : List Int) : Bool := eqBy eqI xs ys

set_option maxHeartbeats 400000 in
theorem ints_any (w : World) (F F' : Nat → Prop) (n c m d : Nat) (A A' : Option Addr) (xs ys : List Int) (hx : Sl w F A n xs) (hy : Sl w F' A' m ys) (hn : n ≤ maxLen) (hm : m ≤ maxLen) :
    Calls Try.prog 22 #[.slice A n c, .slice A' m d] w (RetB (.bool (eqInts xs ys)) w) := by
  unfold maxLen at hn hm
  have hl : Hid (xs.length = n) := hx.1
  have hl' : Hid (ys.length = m) := hy.1
  by_cases hnm : n = m
  · subst hnm
    have hb0 : ((n : Int) != (n : Int)) = false := by simp
    go_enter Try.func22, Try.ntmps22
    go_wp2
    go_loopw [5, 4] (fun i _ wr => ∃ k : Nat, k ≤ n ∧ i = .int .i64 k ∧ (∀ j x y, j < k → xs[j]? = some x → ys[j]? = some y → eqI x y = true) ∧ ∃ e, wr = w.drewN e) (fun i _ _ => n - (intOf i).toNat)
    case atStart => exact ⟨0, Nat.zero_le _, rfl, fun j _ _ hj => absurd hj (by omega), 0, rfl⟩
    case round =>
      obtain ⟨k, hk, rfl, hno, e, rfl⟩ := hrel
      have HN := Lib.hid hno
      clear hno
      by_cases hlt : k < n
      · obtain ⟨b, o, rfl, hb, x, hx1, hcell⟩ := hx.int hlt
        obtain ⟨b', o', rfl, hb', y, hy1, hcell'⟩ := hy.int hlt
        have HX := Lib.hid hx1
        have HY := Lib.hid hy1
        clear hx1 hy1
        by_cases hxy : x = y
        · have hb1 : (x != y) = false := by simpa using hxy
          have HE : Hid (eqI x y = true) := Lib.hid (by unfold eqI; simpa using hxy)
          clear hxy
          go_wp2
          go_quiet (fail)
          go_wp2
          go_roundw
          case rel => exact ⟨k + 1, by omega, by go_num, eq_more HN.out HX.out HY.out HE.out, _, rfl⟩
          case measure => simp [intOf]; omega
        · have hb1 : (x != y) = true := by simpa using hxy
          have HE : Hid (eqI x y = false) := Lib.hid (by unfold eqI; simpa using hxy)
          clear hxy
          go_wp2
          go_quiet (fail)
          go_wp2
          go_ret
          exact RetB.mk (bool_eq (eqBy_no HX.out HY.out HE.out).symm) (below_drewN (below_drewN (Below.refl _ _) _) _)
      · obtain rfl : k = n := by omega
        go_wp2
        go_ret
        exact RetB.mk (bool_eq (eqBy_yes hl.out hl'.out HN.out).symm) (below_drewN (Below.refl _ _) _)
  · have hb0 : ((n : Int) != (m : Int)) = true := by simp; omega
    have hne : Hid (¬ n = m) := hnm
    clear hnm
    go_enter Try.func22, Try.ntmps22
    go_wp2
    go_ret
    exact RetB.mk (bool_eq (eqBy_len (by rw [hl.out, hl'.out]; exact hne.out)).symm) (Below.refl _ _)


theorem run_eql_nil {P : Program} (w : World) (t e : TypeId) (a : Option Addr) (l c : Nat) (h : P.underlying t = some (.slice e)) : (binOp .eql t (.slice a l c) (.slice none 0 0)).run P w = .ok (.bool a.isNone) w := by
  unfold binOp
  simp [run_equal_slice_nil w t e a l c h]
theorem info_int : (Try.prog.info? 3).map (fun i => (i.zero, i.size, i.bytes)) = some (some (.int .i64 0), 1, 8) := by kernel_rfl
theorem info_ints : (Try.prog.info? 24).map (fun i => (i.zero, i.size, i.bytes)) = some (some (.slice none 0 0), 1, 24) := by kernel_rfl

/-- slices.Index. -/
def idxZ : List Int → Int → Int
  | [], _ => -1
  | y :: l, x => if y = x then 0 else if idxZ l x < 0 then -1 else idxZ l x + 1

theorem idxZ_at {xs : List Int} {x : Int} : ∀ {k : Nat}, xs[k]? = some x → (∀ j : Nat, j < k → xs[j]? ≠ some x) → idxZ xs x = k := by
  induction xs with
  | nil => intro k hk; simp at hk
  | cons y l ih =>
    intro k hk hno
    unfold idxZ
    cases k with
    | zero => simp at hk; simp [hk]
    | succ k =>
      have h0 := hno 0 (by omega)
      have hy : ¬ y = x := by simpa using h0
      rw [if_neg hy, ih (k := k) (by simpa using hk) (fun j hj => by simpa using hno (j + 1) (by omega))]
      rw [if_neg (by omega)]
      omega

theorem idxZ_no {xs : List Int} {x : Int} {n : Nat} (hn : xs.length ≤ n) (hno : ∀ j : Nat, j < n → xs[j]? ≠ some x) : idxZ xs x = -1 := by
  induction xs generalizing n with
  | nil => rfl
  | cons y l ih =>
    unfold idxZ
    simp only [List.length_cons] at hn
    have h0 := hno 0 (by omega)
    have hy : ¬ y = x := by simpa using h0
    rw [if_neg hy, ih (n := n - 1) (by omega) (fun j hj => by simpa using hno (j + 1) (by omega))]
    rfl

/-- slices.Contains. -/
def hasI (xs : List Int) (x : Int) : Bool := xs.contains x

theorem idxZ_geq (xs : List Int) (x : Int) : decide (0 ≤ idxZ xs x) = hasI xs x := by
  show _ = xs.contains x
  induction xs with
  | nil => rfl
  | cons y l ih =>
    unfold idxZ
    rw [List.contains_cons, ← (show decide (0 ≤ idxZ l x) = l.contains x from ih)]
    by_cases hy : y = x
    · simp [hy]
    · have : ¬ x = y := fun e => hy e.symm
      simp only [hy, if_false, beq_eq_false_iff_ne.2 this, Bool.false_or]
      split <;> simp <;> omega

theorem no_snoc {xs : List Int} {x y : Int} {k : Nat} (hno : ∀ j : Nat, j < k → xs[j]? ≠ some x) (hk : xs[k]? = some y) (hne : ¬ x = y) : ∀ j : Nat, j < k + 1 → xs[j]? ≠ some x := by
  intro j hj e
  rcases Nat.lt_or_ge j k with h | h
  · exact hno j h e
  · obtain rfl : j = k := by omega
    rw [hk] at e
    injection e with e
    exact hne e.symm

set_option maxHeartbeats 400000 in
theorem index_any (w : World) (B n c : Nat) (A : Option Addr) (xs : List Int) (x : Int) (hs : Sl w (lt B) A n xs) (hn : n ≤ maxLen) :
    Calls Try.prog 30 #[.slice A n c, .int .i64 x] w (Ret (.int .i64 (idxZ xs x)) w) := by
  unfold maxLen at hn
  have hl : Hid (xs.length = n) := hs.1
  go_enter Try.func30, Try.ntmps30
  go_wp2
  go_loop [8, 5, 4] (fun i _ _ => ∃ k : Nat, k ≤ n ∧ i = .int .i64 k ∧ ∀ j : Nat, j < k → xs[j]? ≠ some x) (fun i _ _ => n - (intOf i).toNat)
  case atStart => exact ⟨0, Nat.zero_le _, rfl, fun j hj => absurd hj (by omega)⟩
  case round =>
    obtain ⟨k, hk, rfl, hno⟩ := hrel
    have HN := Lib.hid hno
    clear hno
    by_cases hlt : k < n
    · obtain ⟨b, o, rfl, hb, y, hy, hcell⟩ := hs.int hlt
      have HY := Lib.hid hy
      clear hy
      by_cases hxy : x = y
      · have hb1 : (x == y) = true := by simpa using hxy
        have HX := Lib.hid hxy
        clear hxy
        go_wp2
        go_ret
        exact Ret.mk (int_eq (idxZ_at (by rw [HX.out]; exact HY.out) HN.out).symm)
      · have hb1 : (x == y) = false := by simpa using hxy
        have HX := Lib.hid hxy
        clear hxy
        go_wp2
        go_round
        case rel => exact ⟨k + 1, by omega, by go_num, no_snoc HN.out HY.out HX.out⟩
        case measure => simp [intOf]; omega
    · go_wp2
      go_ret
      exact Ret.mk (int_eq (idxZ_no (by rw [hl.out]; omega) HN.out).symm)

set_option maxHeartbeats 400000 in
theorem contains_any (w : World) (B n c : Nat) (A : Option Addr) (xs : List Int) (x : Int) (hs : Sl w (lt B) A n xs) (hn : n ≤ maxLen) :
    Calls Try.prog 27 #[.slice A n c, .int .i64 x] w (Ret (.bool (hasI xs x)) w) := by
  rw [← idxZ_geq]
  go_enter Try.func27, Try.ntmps27
  go_wp2_with (go_at_call 30; refine (index_any _ B n c A xs x hs hn).mono ?_; rintro e w' ⟨rfl, rfl⟩)
  go_ret
  exact ⟨rfl, rfl⟩


set_option maxHeartbeats 1000000 in
theorem clone_any (w : World) (B n c : Nat) (A : Option Addr) (xs : List Int) (hx : Sl w (lt B) A n xs) (hn : n ≤ maxLen) (h8 : n * 8 ≤ 140737488355328) (hB : B ≤ w.heap.size) :
    Calls Try.prog 26 #[.slice A n c] w (RetO 3 (fun _ => False) xs w) := by
  obtain ⟨i0, hi, hz0, hz1, hz2⟩ := info_parts info_int
  have HI := Lib.hid (And.intro hi (And.intro hz0 (And.intro hz1 hz2)))
  clear hi hz0 hz1 hz2
  cases A with
  | none =>
    have h0 : xs = [] := by
      rcases Nat.eq_zero_or_pos n with h | h
      · exact List.eq_nil_of_length_eq_zero (hx.1.trans h)
      · obtain ⟨b, o, e, _⟩ := hx.2 h
        cases e
    have he := run_eql_nil w 24 3 none n c Try.underlying24
    go_enter Try.func26, Try.ntmps26
    go_wp2
    go_ret
    subst h0
    exact RetO.mk (Below.refl _ _) (Own.nil _ _ _ _)
  | some a =>
    have HO := Lib.hid (Own.empty (α := Int) w w.heap.size 3 (fun _ => False) (Nat.le_refl _))
    have HBO := Lib.hid ((Below.refl w.heap.size w).alloc (Nat.le_refl _) (.cells #[] 3))
    have HS := Lib.hid ((hx.below (HBO.out.mono hB)).src)
    have he := run_eql_nil w 24 3 (some a) n c Try.underlying24
    go_enter Try.func26, Try.ntmps26
    go_wp2_with (at_builtin; refine wpList_cat (α := Int) rfl (.tmp 5) (.tmp 6) 24 rfl w.heap.size 3 i0 (.int .i64 0) 8 Try.underlying24 HI.out.1 HI.out.2.1 HI.out.2.2.1 HI.out.2.2.2 rfl (by decide) (fun _ => False) _ [] xs (some a) n c rfl HO.out rfl HS.out (fun b hb => hb.elim) HBO.out.size (by simp; omega) (by simp; omega) ?_; intro v1 w3 hown3 hg3 hat3)
    go_ret
    exact RetO.mk (own_below HO.out HBO.out hg3 (Nat.le_refl _) HBO.out.size) (by rw [List.nil_append] at hown3; exact hown3)

end Go.Proofs.Ytepcbgbmmmhglaa
