/- Picks; the canonical picks, as the program and as the reference reckon them; equality of lists of picks. -/
import Derived.Test.YtlbgmegciomofaaW11
namespace Go.Proofs.Ytlbgmegciomofaa
open Go.RowKit

structure Pick where
  g : Int
  case_ : Int
instance : Rep Pick where
  size := 2
  cells _ _ x vs := vs = [.int .i64 x.g, .int .i64 x.case_]
  len h := by subst h; rfl
  keep _ h := h
  mono _ h := h
def pickOf (s : Step) : Pick := ⟨s.g, s.case_⟩
theorem Sl.pick {w : World} {F : Nat → Prop} {n : Nat} {A : Option Addr} {xs : List Pick} (h : Sl w F A n xs) {k : Nat} (hk : k < n) :
    ∃ b o, A = some ⟨b, o, none⟩ ∧ F b ∧ ∃ x, xs[k]? = some x ∧ w.cell? ⟨b, o + k * 2, none⟩ = some (.int .i64 x.g) ∧ w.cell? ⟨b, o + k * 2 + 1, none⟩ = some (.int .i64 x.case_) := by
  obtain ⟨b, o, e, hb, x, vs, hx, hr, hv⟩ := h.at_ hk
  have hr' : vs = [.int .i64 x.g, .int .i64 x.case_] := hr
  subst hr'
  exact ⟨b, o, e, hb, x, hx, hv 0 _ rfl, hv 1 _ rfl⟩

theorem info_pick : (Try.prog.info? 23).map (fun i => (i.zero, i.size, i.bytes)) = some (some (.agg #[.int .i64 0, .int .i64 0]), 2, 16) := by kernel_rfl

theorem take_map_succ {l : List Step} {q : Nat} (h : q < l.length) : (l.take (q + 1)).map pickOf = (l.take q).map pickOf ++ [pickOf (stepAt l q)] := by
  rw [List.take_succ_eq_append_getElem h, List.map_append]
  unfold stepAt
  rw [List.getD_eq_getElem?_getD, List.getElem?_eq_getElem h]
  rfl

set_option maxHeartbeats 1000000 in
theorem picks_any (w : World) (B n c : Nat) (A : Option Addr) (l : List Step) (hl : Sl w (lt B) A n l) (hn : n ≤ 65536) (hB : B ≤ w.heap.size) :
    Calls Try.prog 24 #[.slice A n c] w (RetO 23 (fun _ => False) (l.map pickOf) w) := by
  have hlen : Hid (l.length = n) := hl.1
  obtain ⟨i0, hi, hz0, hz1, hz2⟩ := info_parts info_pick
  have HI := Lib.hid (And.intro hi (And.intro hz0 (And.intro hz1 hz2)))
  clear hi hz0 hz1 hz2
  go_enter Try.func24, Try.ntmps24
  go_wp2
  go_loopw [4, 3] (fun i out wr => ∃ q : Nat, q ≤ n ∧ i = .int .i64 q ∧ Own wr w.heap.size 23 (fun _ => False) out ((l.take q).map pickOf) ∧ Below w.heap.size w wr) (fun i _ _ => n - (intOf i).toNat)
  case atStart => exact ⟨0, Nat.zero_le _, rfl, Own.nil _ _ _ _, Below.refl _ _⟩
  case round =>
    obtain ⟨w1, rfl⟩ : ∃ w1 : World, w1 = wr := ⟨_, rfl⟩
    obtain ⟨q, hq, rfl, hown, hb1⟩ := hrel
    by_cases hlt : q < n
    · obtain ⟨bl, ol, rfl, hbb, G, p, c1, T, m, d1, -, -, -, -, -, -, e0, e1, -, -⟩ := (hl.below (hb1.mono hB)).step hlt
      have hz := hb1.size
      have hlq : Hid (q < l.length) := by rw [hlen.out]; exact hlt
      have hxl : ((l.take q).map pickOf).length ≤ 65536 := by rw [List.length_map]; have := List.length_take_le q l; omega
      have HO := Lib.hid fun O => hown.alloc O false_lt
      have HBO := Lib.hid fun O => hb1.alloc hz O
      go_wp2_with (at_builtin; refine wpList_push (α := Pick) rfl (.tmp 11) (.tmp 17) 33 rfl w.heap.size 23 i0 (.agg #[.int .i64 0, .int .i64 0]) 16 Try.underlying33 HI.out.1 HI.out.2.1 HI.out.2.2.1 HI.out.2.2.2 rfl (by decide) (fun _ => False) _ _ (pickOf (stepAt l q)) [.int .i64 (stepAt l q).g, .int .i64 (stepAt l q).case_] _ 1 rfl (HO.out _) rfl rfl (cell_new w1 #[.int .i64 (stepAt l q).g, .int .i64 (stepAt l q).case_] 23 rfl) (by simp [Value.oneCell']) (fun _ h => h.elim) (by simp; omega) (by unfold maxLen; omega) (by omega) ?_; intro v1 w2 hown2 hg2 hat2)
      go_roundw
      case rel => exact ⟨q + 1, by omega, by go_num, by rw [take_map_succ hlq.out]; exact hown2, own_below (HO.out _) (HBO.out _) hg2 (Nat.le_refl _) (by simp; omega)⟩
      case measure => simp [intOf]; omega
    · obtain rfl : q = n := by omega
      go_wp2
      go_ret
      exact RetO.mk hb1 (by rw [← hlen.out, List.take_length] at hown; exact hown)

def canon (l : List Step) : List Pick := if validA l then (linS l).map pickOf else []
theorem canon_no {l : List Step} (h : validA l = false) : canon l = [] := by unfold canon; rw [h]; rfl
theorem canon_yes {l : List Step} (h : validA l = true) : canon l = (linS l).map pickOf := by unfold canon; rw [if_pos h]
theorem lin_at {l : List Step} {q : Nat} (h : q < l.length) : stepAt (linS l) q = stepAt l (outAt l q) := by
  have h1 : (linS l)[q]? = some (stepAt l (outAt l q)) := by
    unfold linS outTo
    simp [h]
  unfold stepAt
  rw [List.getD_eq_getElem?_getD, ← List.getD_eq_getElem?_getD, List.getD_eq_getElem?_getD, h1]
  rfl
theorem out_at {l : List Step} {q : Nat} (h : q < l.length) : ((outTo l l.length).map (fun i : Nat => (i : Int))).getD q 0 = (outAt l q : Int) := by
  unfold outTo
  rw [List.getD_eq_getElem?_getD]
  simp [h]

set_option maxHeartbeats 1000000 in
theorem canonical_no (w : World) (B n c : Nat) (A : Option Addr) (l : List Step) (hl : Sl w (lt B) A n l) (hn : n ≤ 65536) (hv : validA l = false) (hB : B ≤ w.heap.size) :
    Calls Try.prog 12 #[.slice A n c] w (RetO 23 (fun _ => False) (canon l) w) := by
  rw [canon_no hv]
  have HC := Lib.hid (order_no w B n c A l hl hn hv hB)
  clear hv
  go_enter Try.func12, Try.ntmps12
  go_wp2_with (go_at_call 23; refine HC.out.mono ?_; rintro e w1 ⟨rfl, hb1⟩)
  refine wp_loop_rounds 1 ?_
  rw [rounds_succ]
  go_wp2
  go_ret
  exact RetO.mk hb1 (Own.nil _ _ _ _)

set_option maxHeartbeats 1000000 in
theorem canonical_yes (w : World) (B n c : Nat) (A : Option Addr) (l : List Step) (hl : Sl w (lt B) A n l) (hn : n ≤ 65536) (hv : validA l = true) (hB : B ≤ w.heap.size) :
    Calls Try.prog 12 #[.slice A n c] w (RetO 23 (fun _ => False) (canon l) w) := by
  rw [canon_yes hv]
  have hlen : Hid (l.length = n) := hl.1
  have HC := Lib.hid (order_yes w B n c A l hl hn hv hB)
  clear hv
  obtain ⟨i0, hi, hz0, hz1, hz2⟩ := info_parts info_pick
  have HI := Lib.hid (And.intro hi (And.intro hz0 (And.intro hz1 hz2)))
  clear hi hz0 hz1 hz2
  go_enter Try.func12, Try.ntmps12
  go_wp2_with (go_at_call 23; refine HC.out.mono ?_; rintro e w1 ⟨A', c', rfl, hc1, hc2, hb1, hsl⟩)
  go_loopw [15, 5] (fun i out wr => ∃ q : Nat, q ≤ n ∧ i = .int .i64 q ∧ Own wr w1.heap.size 23 (fun _ => False) out (((linS l).take q).map pickOf) ∧ Below w1.heap.size w1 wr) (fun i _ _ => n - (intOf i).toNat)
  case atStart => exact ⟨0, Nat.zero_le _, rfl, Own.nil _ _ _ _, Below.refl _ _⟩
  case round =>
    obtain ⟨w2, rfl⟩ : ∃ w2 : World, w2 = wr := ⟨_, rfl⟩
    obtain ⟨q, hq, rfl, hown, hb2⟩ := hrel
    have hbw : Below w.heap.size w w2 := hb1.trans (hb2.mono hb1.size)
    by_cases hlt : q < n
    · have hlq : Hid (q < l.length) := by rw [hlen.out]; exact hlt
      obtain ⟨bo, oo, hA, hbo, eo⟩ := (hsl.below hb2).int' hlt
      subst hA
      rw [out_at hlq.out] at eo
      have hmn : outAt l q < n := by have := outAt_lt hlq.out; rw [hlen.out] at this; exact this
      obtain ⟨mm, hmm⟩ : ∃ mm, mm = outAt l q := ⟨_, rfl⟩
      rw [← hmm] at eo hmn
      have HMM := Lib.hid hmm
      clear hmm
      obtain ⟨bl, ol, rfl, hbb, G, p, cc, T, m, dd, -, -, -, -, -, -, e0, e1, -, -⟩ := (hl.below (hbw.mono hB)).step hmn
      have hz := hb2.size
      have hxl : (((linS l).take q).map pickOf).length ≤ 65536 := by rw [List.length_map]; have := List.length_take_le q (linS l); omega
      have HO := Lib.hid fun O => hown.alloc O false_lt
      have HBO := Lib.hid fun O => hb2.alloc hz O
      have HL : Hid (stepAt l mm = stepAt (linS l) q) := by rw [HMM.out, lin_at hlq.out]; exact rfl
      go_wp2_with (at_builtin; refine wpList_push (α := Pick) rfl (.tmp 19) (.tmp 25) 33 rfl w1.heap.size 23 i0 (.agg #[.int .i64 0, .int .i64 0]) 16 Try.underlying33 HI.out.1 HI.out.2.1 HI.out.2.2.1 HI.out.2.2.2 rfl (by decide) (fun _ => False) _ _ (pickOf (stepAt l mm)) [.int .i64 (stepAt l mm).g, .int .i64 (stepAt l mm).case_] _ 1 rfl (HO.out _) rfl rfl (cell_new w2 #[.int .i64 (stepAt l mm).g, .int .i64 (stepAt l mm).case_] 23 rfl) (by simp [Value.oneCell']) (fun _ h => h.elim) (by simp; omega) (by unfold maxLen; omega) (by omega) ?_; intro v1 w3 hown2 hg2 hat2)
      go_roundw
      case rel => exact ⟨q + 1, by omega, by go_num, by rw [take_map_succ (by rw [linS_length]; exact hlq.out), ← HL.out]; exact hown2, own_below (HO.out _) (HBO.out _) hg2 (Nat.le_refl _) (by simp; omega)⟩
      case measure => simp [intOf]; omega
    · obtain rfl : q = n := by omega
      go_wp2
      go_ret
      exact RetO.mk hbw (by rw [← hlen.out, ← linS_length l, List.take_length] at hown; exact hown.base hb1.size)

theorem canonical_any (w : World) (B n c : Nat) (A : Option Addr) (l : List Step) (hl : Sl w (lt B) A n l) (hn : n ≤ 65536) (hB : B ≤ w.heap.size) :
    Calls Try.prog 12 #[.slice A n c] w (RetO 23 (fun _ => False) (canon l) w) := by
  cases hv : validA l with
  | true => exact canonical_yes w B n c A l hl hn hv hB
  | false => exact canonical_no w B n c A l hl hn hv hB

end Go.Proofs.Ytlbgmegciomofaa
