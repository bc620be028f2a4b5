/- order: the least linearization, or nothing where a step is not valid. -/
import Derived.Test.YtlbgmegciomofaaW6
namespace Go.Proofs.Ytlbgmegciomofaa
open Go.RowKit

theorem info_bool : (Try.prog.info? 4).map (fun i => (i.zero, i.size, i.bytes)) = some (some (.bool false), 1, 1) := by kernel_rfl
theorem info_int : (Try.prog.info? 3).map (fun i => (i.zero, i.size, i.bytes)) = some (some (.int .i64 0), 1, 8) := by kernel_rfl

def boolCells (ch : List Bool) : Array Value := (ch.map Value.bool).toArray
theorem made_bools (n : Nat) : madeCells (Value.cells (.bool false)) (n * 1) = boolCells (List.replicate n false) := by
  rw [Nat.mul_one]
  unfold madeCells boolCells
  apply Array.ext
  · simp
  · intro i h1 h2
    simp [Value.cells, Nat.mod_one]
theorem boolCells_get {ch : List Bool} {i : Nat} (h : i < ch.length) : (boolCells ch)[i]? = some (.bool (ch.getD i false)) := by
  unfold boolCells
  simp [h]
theorem boolCells_set (ch : List Bool) (i : Nat) : (boolCells ch).setIfInBounds i (.bool true) = boolCells (ch.set i true) := by
  unfold boolCells
  simp [List.map_set]
theorem sl_bools {w : World} {g : Nat} {t : TypeId} {ch : List Bool} {F : Nat → Prop} (h : Blk w g t (boolCells ch)) (hF : F g) : Sl w F (some ⟨g, 0, none⟩) ch.length ch := by
  refine ⟨rfl, fun _ => ⟨g, 0, rfl, hF, fun i x hx => ⟨[.bool x], rfl, fun j v hj => ?_⟩⟩⟩
  have hi : i < ch.length := (List.getElem?_eq_some_iff.1 hx).1
  cases j with
  | zero =>
    simp only [List.getElem?_cons_zero, Option.some.injEq] at hj
    subst hj
    rw [h.cell, show 0 + i * Rep.size Bool + 0 = i from by simp [Rep.size], boolCells_get hi, List.getD_eq_getElem?_getD, hx]
    rfl
  | succ j => simp at hj

theorem run_bools (n : Nat) (hn : n ≤ 65536) : ∀ W : World, (Instr.makeSlice 45 (.int .i64 (n : Int)) (.int .i64 (n : Int))).run Try.prog W = .ok (.slice (some ⟨W.heap.size, 0, none⟩) n n) (W.alloc (.cells (boolCells (List.replicate n false)) 4)) := by
  intro W
  obtain ⟨i, hi, hz, hs, hb⟩ := info_parts info_bool
  have hr := run_make (P := Try.prog) W 45 4 i (.bool false) Try.underlying45 hi hz .i64 .i64 (n : Int) (n : Int) (by omega) (by omega) (by rw [hb]; omega) (by omega)
  rw [hr, hs, Int.toNat_natCast, made_bools]

theorem valid_s (w : World) (B : Nat) (s : Step) {b : Bool} (hb : validS s = b) {A T : Option Addr} {n k m d : Nat} (hg : Sl w (lt B) A n s.gs) (hn : n ≤ k) (hk : k ≤ maxLen) (hB : B ≤ w.heap.size) :
    Calls Try.prog 30 #[.agg #[.int .i64 s.g, .int .i64 s.case_, .slice A n k, .slice T m d]] w (RetB (.bool b) w) :=
  hb ▸ valid_any w B s.g s.case_ A T n k m d s.gs s.touches hg (Nat.le_trans hn hk) hB

theorem validA_at {l : List Step} (h : validA l = true) {q : Nat} (hq : q < l.length) : validS (stepAt l q) = true := by
  unfold validA at h
  rw [List.all_eq_true] at h
  refine h _ ?_
  unfold stepAt
  rw [List.getD_eq_getElem?_getD, List.getElem?_eq_getElem hq]
  exact List.getElem_mem hq

theorem best_skip {l : List Step} {ch : List Bool} {i : Nat} (h : ch.getD i false = true ∨ freeI l ch i = false) : bestTo l ch (i + 1) = bestTo l ch i := by
  show pickI l ch (bestTo l ch i) i = _
  unfold pickI
  rw [if_pos]
  rcases h with h | h <;> rw [h] <;> simp
theorem best_first {l : List Step} {ch : List Bool} {i : Nat} (h1 : ch.getD i false = false) (h2 : freeI l ch i = true) (h3 : bestTo l ch i < 0) : bestTo l ch (i + 1) = i := by
  show pickI l ch (bestTo l ch i) i = _
  unfold pickI
  rw [if_neg (by rw [h1, h2]; simp), if_pos (by rw [decide_eq_true h3]; rfl)]
theorem best_less {l : List Step} {ch : List Bool} {i m : Nat} (h1 : ch.getD i false = false) (h2 : freeI l ch i = true) (h3 : bestTo l ch i = (m : Int)) (h4 : lessP (stepAt l i) (stepAt l m) = true) : bestTo l ch (i + 1) = i := by
  show pickI l ch (bestTo l ch i) i = _
  unfold pickI
  rw [if_neg (by rw [h1, h2]; simp), h3, Int.toNat_natCast, if_pos (by rw [h4]; simp)]
theorem best_more {l : List Step} {ch : List Bool} {i m : Nat} (h1 : ch.getD i false = false) (h2 : freeI l ch i = true) (h3 : bestTo l ch i = (m : Int)) (h4 : lessP (stepAt l i) (stepAt l m) = false) : bestTo l ch (i + 1) = (m : Int) := by
  show pickI l ch (bestTo l ch i) i = _
  unfold pickI
  rw [if_neg (by rw [h1, h2]; simp), h3, Int.toNat_natCast, if_neg (by rw [h4, decide_eq_false (by omega)]; simp)]

set_option maxHeartbeats 1000000 in
theorem order_no (w : World) (B n c : Nat) (A : Option Addr) (l : List Step) (hl : Sl w (lt B) A n l) (hn : n ≤ 65536) (hv : validA l = false) (hB : B ≤ w.heap.size) :
    Calls Try.prog 23 #[.slice A n c] w (OrderNo w) := by
  have hlen : Hid (l.length = n) := hl.1
  have HV := Lib.hid hv
  clear hv
  go_enter Try.func23, Try.ntmps23
  go_wp2
  go_loopw [14, 5, 2, 3] (fun i _ _ _ wr => ∃ q : Nat, q ≤ n ∧ i = .int .i64 q ∧ (∀ j, j < q → validS (stepAt l j) = true) ∧ Below w.heap.size w wr ∧ Blk wr w.heap.size 30 #[.slice A n c]) (fun i _ _ _ _ => n - (intOf i).toNat)
  case atStart => exact ⟨0, Nat.zero_le _, rfl, fun j hj => absurd hj (by omega), (Below.refl _ _).alloc (Nat.le_refl _) _, Blk.new _ _ _⟩
  case round =>
    obtain ⟨w1, rfl⟩ : ∃ w1 : World, w1 = wr := ⟨_, rfl⟩
    obtain ⟨q, hq, rfl, hno, hb1, hx⟩ := hrel
    have HQ := Lib.hid hno
    clear hno
    have hz := hb1.size
    by_cases hlt : q < n
    · obtain ⟨b, o, rfl, hbb, G, p, c1, T, m, d1, hp, hc1, hm, hd1, sg, st, e0, e1, e2, e3⟩ := (hl.below (hb1.mono hB)).step hlt
      have hbe : ∀ O, Below w.heap.size w (w1.alloc O) := hb1.alloc hz
      have hxe := fun O => hx.alloc O
      have hsl : ∀ O, Sl (w1.alloc O) (lt B) G p (stepAt l q).gs := fun O => sg.below ((Below.refl _ _).alloc (Nat.le_trans hB hz) O)
      cases hv : validS (stepAt l q) with
      | true =>
        have HC := Lib.hid fun O => valid_s (w1.alloc O) B (stepAt l q) hv (T := T) (m := m) (d := d1) (hsl O) hp hc1 (by simp; omega)
        have HV' := Lib.hid hv
        clear hv hsl sg st hc1 hd1
        go_wp2_with (go_at_call 30; refine (HC.out _).mono ?_; rintro e w2 ⟨rfl, hb2⟩)
        go_roundw
        case rel => exact ⟨q + 1, by omega, by go_num, upto_more HQ.out HV'.out, (hbe _).trans (hb2.mono (by simp; omega)), (hxe _).below hb2 (by simp; omega)⟩
        case measure => simp [intOf]; omega
      | false =>
        have HC := Lib.hid fun O => valid_s (w1.alloc O) B (stepAt l q) hv (T := T) (m := m) (d := d1) (hsl O) hp hc1 (by simp; omega)
        have HV' := Lib.hid hv
        clear hv hsl sg st hc1 hd1
        go_wp2_with (go_at_call 30; refine (HC.out _).mono ?_; rintro e w2 ⟨rfl, hb2⟩)
        go_ret2
        exact ⟨rfl, (hbe _).trans (hb2.mono (by simp; omega))⟩
    · obtain rfl : q = n := by omega
      have h1 := validA_yes (l := l) (by rw [hlen.out]; exact HQ.out)
      rw [HV.out] at h1
      cases h1

end Go.Proofs.Ytlbgmegciomofaa
