/- New, where the number of processors is good. -/
import Derived.Test.YtepcbgbmmmhglaaQ11
namespace Go.Proofs.Ytepcbgbmmmhglaa
open Go.RowKit

def newQ (k : Nat) : Qs := ⟨List.replicate k [], []⟩
theorem sl_nils {W : World} {g k : Nat} {t : TypeId} {cs : Array Value} (hb : Blk W g t cs) (hc : ∀ i, i < k → cs[i]? = some (.slice none 0 0)) : Sl W (lt W.heap.size) (some ⟨g, 0, none⟩) k (List.replicate k ([] : List Int)) := by
  refine ⟨by simp, fun _ => ⟨g, 0, rfl, hb.lt, fun i x hx => ?_⟩⟩
  have hi : i < k := by have := (List.getElem?_eq_some_iff.1 hx).1; simpa using this
  have hx' : x = [] := by
    obtain ⟨_, e⟩ := List.getElem?_eq_some_iff.1 hx
    simpa using e.symm
  subst hx'
  refine ⟨[.slice none 0 0], ⟨none, 0, 0, rfl, Nat.le_refl _, Nat.zero_le _, Sl.nil⟩, fun j v hj => ?_⟩
  cases j with
  | succ j => simp at hj
  | zero =>
    simp only [List.getElem?_cons_zero, Option.some.injEq] at hj
    subst hj
    show W.cell? ⟨g, 0 + i * 1 + 0, none⟩ = _
    rw [Nat.zero_add, Nat.add_zero, Nat.mul_one]
    exact hb.at_ i (hc i hi)

theorem heap_alloc_new' (W : World) (cs : Array Value) {t : TypeId} {g : Nat} (hg : g = W.heap.size) : Blk (W.alloc (.cells cs t)) g t cs := by subst hg; exact Blk.new W t cs

set_option maxHeartbeats 1000000 in
theorem new_good (w : World) (k : Nat) (h1 : 1 ≤ k) (h4 : k ≤ 4) : Calls Try.prog 10 #[.int .i64 (k : Int)] w (RetQE (newQ k) 0 w) := by
  obtain ⟨i0, hi, hz0, hz1, hz2⟩ := info_parts info_ints
  have hd : decide ((k : Int) < 1) = false := decide_eq_false (by omega)
  have hd' : decide (4 < (k : Int)) = false := decide_eq_false (by omega)
  have hmk := run_makeSlice (P := Try.prog) (w := w.alloc (.cells #[.slice none 0 0, .slice none 0 0] 26)) 23 24 i0 (.slice none 0 0) Try.underlying23 hi hz0 .i64 .i64 (k : Int) (k : Int) (by omega) (by omega) (by rw [hz1]; simp; omega) (by rw [hz2]; simp; omega) (by omega)
  rw [hz1] at hmk
  clear hi hz0 hz1 hz2
  have HM : Hid (∀ i, i < k → (madeCells #[Value.slice none 0 0] k)[i]? = some (.slice none 0 0)) := Lib.hid (by
    intro i hi
    unfold madeCells
    simp [hi, Nat.mod_one])
  have hk63 : k ≤ maxLen := by unfold maxLen; omega
  go_enter Try.func10, Try.ntmps10
  go_wp2
  refine bodyPost_ret (v := .tuple #[.agg #[.slice (some ⟨w.heap.size + 1, 0, none⟩) k k, .slice none 0 0], .int .i64 0]) (by simp [results, Try.results10, go_sem]) rfl ?_
  exact ⟨_, k, k, _, 0, 0, rfl, Nat.le_refl _, hk63, Nat.le_refl _, Nat.zero_le _, sl_nils (t := 24) (cs := madeCells #[Value.slice none 0 0] k) (heap_alloc_new' _ _ (by simp)) HM.out, Sl.nil, ((Below.refl _ _).alloc (Nat.le_refl _) _).alloc (by simp) _⟩

set_option maxHeartbeats 1000000 in
theorem refNew_good (w : World) (k : Nat) (h1 : 1 ≤ k) (h4 : k ≤ 4) : Calls Try.prog 11 #[.int .i64 (k : Int)] w (RetQE (newQ k) 0 w) := by
  obtain ⟨i0, hi, hz0, hz1, hz2⟩ := info_parts info_ints
  have hd : decide ((k : Int) < 1) = false := decide_eq_false (by omega)
  have hd' : decide (4 < (k : Int)) = false := decide_eq_false (by omega)
  have hmk := run_makeSlice (P := Try.prog) (w := w.alloc (.cells #[.slice none 0 0, .slice none 0 0] 26)) 23 24 i0 (.slice none 0 0) Try.underlying23 hi hz0 .i64 .i64 (k : Int) (k : Int) (by omega) (by omega) (by rw [hz1]; simp; omega) (by rw [hz2]; simp; omega) (by omega)
  rw [hz1] at hmk
  clear hi hz0 hz1 hz2
  have HM : Hid (∀ i, i < k → (madeCells #[Value.slice none 0 0] k)[i]? = some (.slice none 0 0)) := Lib.hid (by
    intro i hi
    unfold madeCells
    simp [hi, Nat.mod_one])
  have hk63 : k ≤ maxLen := by unfold maxLen; omega
  go_enter Try.func11, Try.ntmps11
  go_wp2
  refine bodyPost_ret (v := .tuple #[.agg #[.slice (some ⟨w.heap.size + 1, 0, none⟩) k k, .slice none 0 0], .int .i64 0]) (by simp [results, Try.results11, go_sem]) rfl ?_
  exact ⟨_, k, k, _, 0, 0, rfl, Nat.le_refl _, hk63, Nat.le_refl _, Nat.zero_le _, sl_nils (t := 24) (cs := madeCells #[Value.slice none 0 0] k) (heap_alloc_new' _ _ (by simp)) HM.out, Sl.nil, ((Below.refl _ _).alloc (Nat.le_refl _) _).alloc (by simp) _⟩

end Go.Proofs.Ytepcbgbmmmhglaa
