/- Valid run queues: the plain side of the program's way; Clone of a slice of slices. -/
import Derived.Test.YtepcbgbmmmhglaaQ5
import Derived.Deep.RegionLaw
namespace Go.Proofs.Ytepcbgbmmmhglaa
open Go.RowKit

theorem okL_comm (a b : List Int) : okL (a ++ b) = okL (b ++ a) := by
  unfold okL
  have h1 : (a ++ b).all okI = (b ++ a).all okI := by rw [List.all_append, List.all_append, Bool.and_comm]
  have h2 : (a ++ b).Nodup ↔ (b ++ a).Nodup := List.Perm.nodup_iff List.perm_append_comm
  rw [h1, decide_eq_decide.2 h2]
theorem okL_left {a b : List Int} (h : okL (a ++ b) = true) : okL a = true := by
  unfold okL at h ⊢
  rw [Bool.and_eq_true, List.all_append, Bool.and_eq_true] at h
  rw [Bool.and_eq_true]
  exact ⟨h.1.1, decide_eq_true ((List.nodup_append.1 (of_decide_eq_true h.2)).1)⟩
theorem okL_snoc {a : List Int} {x : Int} (h : okL a = true) (hx : okI x = true) (hc : a.contains x = false) : okL (a ++ [x]) = true := by
  unfold okL at h ⊢
  rw [Bool.and_eq_true] at h
  have hn : ¬ x ∈ a := by
    intro hm
    rw [List.contains_iff_mem.2 hm] at hc
    cases hc
  rw [Bool.and_eq_true, List.all_append, h.1]
  refine ⟨by simp [hx], decide_eq_true (List.nodup_append.2 ⟨of_decide_eq_true h.2, by simp, fun y hy z hz e => ?_⟩)⟩
  simp only [List.mem_singleton] at hz
  subst hz
  subst e
  exact hn hy
theorem okL_bad {a : List Int} {x : Int} (hx : okI x = false ∨ a.contains x = true) : okL (a ++ [x]) = false := by
  rcases hx with hx | hx
  · exact okL_no (j := a.length) (by simp) hx
  · obtain ⟨i, hi, e⟩ := List.getElem_of_mem (List.contains_iff_mem.1 hx)
    exact okL_twice (i := i) (j := a.length) (x := x) hi (by rw [List.getElem?_append_left hi, List.getElem?_eq_getElem hi, e]) (by simp)
theorem okL_stop {a b : List Int} (h : okL a = false) : okL (a ++ b) = false := by
  cases he : okL (a ++ b) with
  | false => rfl
  | true => rw [okL_left he] at h; cases h

/-- The marks of the numbers below 8. -/
def marks (p : List Int) : Array Value := ((List.range 8).map fun (i : Nat) => Value.bool (p.contains (i : Int))).toArray
theorem marks_nil : marks [] = #[.bool false, .bool false, .bool false, .bool false, .bool false, .bool false, .bool false, .bool false] := rfl
theorem marks_size (p : List Int) : (marks p).size = 8 := by unfold marks; simp
theorem marks_at {p : List Int} {x : Nat} (h : x < 8) : (marks p)[x]? = some (.bool (p.contains (x : Int))) := by
  unfold marks
  simp [h]
theorem marks_set {p : List Int} {x : Nat} (h : x < 8) : (marks p).setIfInBounds x (.bool true) = marks (p ++ [(x : Int)]) := by
  apply Array.ext
  · simp [marks_size]
  · intro i h1 h2
    rw [marks_size] at h2
    have e1 := marks_at (p := p ++ [(x : Int)]) h2
    have e2 := marks_at (p := p) h2
    have e3 : ((marks p).setIfInBounds x (.bool true))[i]? = (marks (p ++ [(x : Int)]))[i]? := by
      rw [e1, Array.getElem?_setIfInBounds]
      split
      · rename_i hxi
        subst hxi
        rw [marks_size, if_pos h]
        simp
      · rename_i hxi
        rw [e2]
        have : ¬ ((i : Int) = (x : Int)) := by omega
        simp [this]
    rw [Array.getElem?_eq_getElem h1, Array.getElem?_eq_getElem (by rw [marks_size]; exact h2)] at e3
    exact Option.some.inj e3

theorem rows_cut {rows : List (List Int)} {r e : Nat} {row : List Int} {x : Int} (h : rows[r]? = some row) (hx : row[e]? = some x) : ∃ rest, rows.flatten = ((rows.take r).flatten ++ row.take e) ++ [x] ++ rest := by
  obtain ⟨hr, er⟩ := List.getElem?_eq_some_iff.1 h
  obtain ⟨he, ee⟩ := List.getElem?_eq_some_iff.1 hx
  have h1 : rows = rows.take r ++ row :: rows.drop (r + 1) := by rw [← er, List.getElem_cons_drop, List.take_append_drop]
  have h2 : row = row.take e ++ x :: row.drop (e + 1) := by rw [← ee, List.getElem_cons_drop, List.take_append_drop]
  refine ⟨row.drop (e + 1) ++ (rows.drop (r + 1)).flatten, ?_⟩
  have h3 : rows.flatten = (rows.take r).flatten ++ (row ++ (rows.drop (r + 1)).flatten) := by
    conv => lhs; rw [h1]
    rw [List.flatten_append, List.flatten_cons]
  rw [h3]
  conv => lhs; rw [h2]
  simp

set_option maxHeartbeats 1000000 in
theorem cloneL_any (w : World) (B n c : Nat) (A : Option Addr) (xs : List (List Int)) (hx : Sl w (lt B) A n xs) (hn : n ≤ maxLen) (h8 : n * 24 ≤ 140737488355328) (hB : B ≤ w.heap.size) :
    Calls Try.prog 23 #[.slice A n c] w (RetO 24 (lt B) xs w) := by
  obtain ⟨i0, hi, hz0, hz1, hz2⟩ := info_parts info_ints
  have HI := Lib.hid (And.intro hi (And.intro hz0 (And.intro hz1 hz2)))
  clear hi hz0 hz1 hz2
  cases A with
  | none =>
    have h0 : xs = [] := by
      rcases Nat.eq_zero_or_pos n with h | h
      · exact List.eq_nil_of_length_eq_zero (hx.1.trans h)
      · obtain ⟨b, o, e, _⟩ := hx.2 h
        cases e
    have he := run_eql_nil w 23 24 none n c Try.underlying23
    go_enter Try.func23, Try.ntmps23
    go_wp2
    go_ret
    subst h0
    exact RetO.mk (Below.refl _ _) (Own.nil _ _ _ _)
  | some a =>
    have HO := Lib.hid (Own.empty (α := List Int) w w.heap.size 24 (lt B) (Nat.le_refl _))
    have HBO := Lib.hid ((Below.refl w.heap.size w).alloc (Nat.le_refl _) (.cells #[] 24))
    have HS := Lib.hid ((hx.below (HBO.out.mono hB)).src)
    have he := run_eql_nil w 23 24 (some a) n c Try.underlying23
    go_enter Try.func23, Try.ntmps23
    go_wp2_with (at_builtin; refine wpList_cat (α := List Int) rfl (.tmp 5) (.tmp 6) 23 rfl w.heap.size 24 i0 (.slice none 0 0) 24 Try.underlying23 HI.out.1 HI.out.2.1 HI.out.2.2.1 HI.out.2.2.2 rfl (by decide) (lt B) _ [] xs (some a) n c rfl HO.out rfl HS.out (fun b hb => Nat.lt_of_lt_of_le hb hB) HBO.out.size (by simp; omega) (by simp; omega) ?_; intro v1 w3 hown3 hg3 hat3)
    go_ret
    exact RetO.mk (own_below HO.out HBO.out hg3 (Nat.le_refl _) HBO.out.size) (by rw [List.nil_append] at hown3; exact hown3)

end Go.Proofs.Ytepcbgbmmmhglaa
