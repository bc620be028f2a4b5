/- The reference's Canonical; equality of lists of picks; the example of the document. -/
import Derived.Test.YtlbgmegciomofaaW12
namespace Go.Proofs.Ytlbgmegciomofaa
open Go.RowKit

theorem refValidAll_s (w : World) (B n c : Nat) {A : Option Addr} {l : List Step} {b : Bool} (hb : validA l = b) (hl : Sl w (lt B) A n l) (hn : n ≤ 65536) (hB : B ≤ w.heap.size) :
    Calls Try.prog 16 #[.slice A n c] w (RetB (.bool b) w) := hb ▸ refValidAll_any w B n c A l hl (by unfold maxLen; omega) hB

set_option maxHeartbeats 400000 in
theorem refCanonical_any (w : World) (B n c : Nat) (A : Option Addr) (l : List Step) (hl : Sl w (lt B) A n l) (hn : n ≤ 65536) (hB : B ≤ w.heap.size) :
    Calls Try.prog 13 #[.slice A n c] w (RetO 23 (fun _ => False) (canon l) w) := by
  cases hv : validA l with
  | false =>
    rw [canon_no hv]
    have HC := Lib.hid (refValidAll_s w B n c hv hl hn hB)
    clear hv
    go_enter Try.func13, Try.ntmps13
    go_wp2_with (go_at_call 16; refine HC.out.mono ?_; rintro e w1 ⟨rfl, hb1⟩)
    go_ret
    exact RetO.mk hb1 (Own.nil _ _ _ _)
  | true =>
    rw [canon_yes hv]
    have hlen : Hid (l.length = n) := hl.1
    have HC := Lib.hid (refValidAll_s w B n c hv hl hn hB)
    clear hv
    go_enter Try.func13, Try.ntmps13
    go_wp2_with fail
    refine HC.out.mono ?_
    rintro e w1 ⟨rfl, hb1⟩
    go_wp2_with fail
    refine (least_any w1 B n c A l (hl.below (hb1.mono hB)) hn (Nat.le_trans hB hb1.size)).mono ?_
    rintro e w2 ⟨v, rfl, hb2, hown⟩
    obtain ⟨A', c', hA, hc', hm', hsl⟩ := hown.sl (fun b hb => Nat.lt_of_lt_of_le hb (Nat.le_trans hB (Nat.le_trans hb1.size hb2.size)))
    rw [linS_length, hlen.out] at hA hc' hsl
    subst hA
    go_wp2_with fail
    refine (picks_any w2 w2.heap.size n c' A' (linS l) hsl hn (Nat.le_refl _)).mono ?_
    rintro e w3 ⟨v, rfl, hb3, hown3⟩
    go_wp2
    go_ret
    exact RetO.mk (hb1.trans ((hb2.mono hb1.size).trans (hb3.mono (Nat.le_trans hb1.size hb2.size)))) (hown3.base (Nat.le_trans hb1.size hb2.size))

def eqPick (x y : Pick) : Bool := x.g == y.g && x.case_ == y.case_
def eqPicks (xs ys : List Pick) : Bool := eqBy eqPick xs ys
theorem eqPick_yes {x y : Pick} (h : eqPick x y = true) : (x.g == y.g) = true ∧ (x.case_ == y.case_) = true := by
  unfold eqPick at h
  simpa only [Bool.and_eq_true] using h
theorem eqPick_not {x y : Pick} (h : eqPick x y = false) : (x.g == y.g) = false ∨ ((x.g == y.g) = true ∧ (x.case_ == y.case_) = false) := by
  unfold eqPick at h
  cases h1 : (x.g == y.g) <;> cases h2 : (x.case_ == y.case_) <;> simp_all
theorem eqPicks_refl (xs : List Pick) : eqPicks xs xs = true := by
  unfold eqPicks
  refine eqBy_yes rfl rfl fun k x y hk hx hy => ?_
  rw [hx] at hy
  injection hy with hy
  subst hy
  unfold eqPick
  simp

set_option maxHeartbeats 400000 in
theorem samePicks_any (w : World) (F F' : Nat → Prop) (n c m d : Nat) (A A' : Option Addr) (xs ys : List Pick) (hx : Sl w F A n xs) (hy : Sl w F' A' m ys) (hn : n ≤ maxLen) (hm : m ≤ maxLen) :
    Calls Try.prog 11 #[.slice A n c, .slice A' m d] w (RetB (.bool (eqPicks xs ys)) w) := by
  unfold maxLen at hn hm
  have hl : Hid (xs.length = n) := hx.1
  have hl' : Hid (ys.length = m) := hy.1
  by_cases hnm : n = m
  · subst hnm
    have hb0 : ((n : Int) != (n : Int)) = false := by simp
    go_enter Try.func11, Try.ntmps11
    go_wp2
    go_loopw [5, 4] (fun i _ wr => ∃ k : Nat, k ≤ n ∧ i = .int .i64 k ∧ (∀ j x y, j < k → xs[j]? = some x → ys[j]? = some y → eqPick x y = true) ∧ ∃ e, wr = w.drewN e) (fun i _ _ => n - (intOf i).toNat)
    case atStart => exact ⟨0, Nat.zero_le _, rfl, fun j _ _ hj => absurd hj (by omega), 0, rfl⟩
    case round =>
      obtain ⟨k, hk, rfl, hno, e, rfl⟩ := hrel
      have HN := Lib.hid hno
      clear hno
      by_cases hlt : k < n
      · obtain ⟨b, o, rfl, hb, x, hx1, e0, e1⟩ := hx.pick hlt
        obtain ⟨b', o', rfl, hb', y, hy1, f0, f1⟩ := hy.pick hlt
        have HX := Lib.hid hx1
        have HY := Lib.hid hy1
        clear hx1 hy1
        cases hxy : eqPick x y with
        | true =>
          obtain ⟨t1, t2⟩ := eqPick_yes hxy
          have HE := Lib.hid hxy
          clear hxy
          go_wp2
          go_quiet (fail)
          go_wp2
          go_roundw
          case rel => exact ⟨k + 1, by omega, by go_num, eq_more HN.out HX.out HY.out HE.out, _, rfl⟩
          case measure => simp [intOf]; omega
        | false =>
          have HE := Lib.hid hxy
          rcases eqPick_not hxy with t1 | ⟨t1, t2⟩
          all_goals
            clear hxy
            go_wp2
            go_quiet (fail)
            go_wp2
            go_ret
            exact RetB.mk (bool_eq (eqBy_no HX.out HY.out HE.out).symm) (below_drewN (below_drewN (Below.refl _ _) _) _)
      · obtain rfl : k = n := by omega
        go_wp2
        go_ret
        exact RetB.mk (bool_eq (eqBy_yes hl.out hl'.out HN.out).symm) (below_drewN (Below.refl _ _) _)
  · have hb0 : ((n : Int) != (m : Int)) = true := by simp; omega
    have hne : Hid (¬ n = m) := hnm
    clear hnm
    go_enter Try.func11, Try.ntmps11
    go_wp2
    go_ret
    exact RetB.mk (bool_eq (eqBy_len (by rw [hl.out, hl'.out]; exact hne.out)).symm) (Below.refl _ _)

def storeS (g off : Int) : Step := ⟨g, 0, [g], [⟨1, 0, off, true⟩]⟩
def loadS (g off : Int) : Step := ⟨g, 0, [g], [⟨1, 0, off, false⟩]⟩
/-- A step that was just made. -/
def RetS (s : Step) (w : World) (e : Ending) (w' : World) : Prop :=
  ∃ A p c T m d, e = .returned (.agg #[.int .i64 s.g, .int .i64 s.case_, .slice A p c, .slice T m d]) ∧ Below w.heap.size w w' ∧ p ≤ c ∧ c ≤ maxLen ∧ m ≤ d ∧ d ≤ maxLen ∧ Sl w' (lt w'.heap.size) A p s.gs ∧ Sl w' (lt w'.heap.size) T m s.touches

theorem blk_new (W : World) (t : TypeId) (cs : Array Value) {g : Nat} (hg : g = W.heap.size) : Blk (W.alloc (.cells cs t)) g t cs := by subst hg; exact Blk.new W t cs
theorem sl_one {α : Type} [Rep α] {W : World} {F : Nat → Prop} {g : Nat} {t : TypeId} {x : α} {cs : Array Value} (hr : Rep.cells W F x cs.toList) (hF : F g) (hb : Blk W g t cs) : Sl W F (some ⟨g, 0, none⟩) 1 [x] := by
  refine ⟨rfl, fun _ => ⟨g, 0, rfl, hF, fun i y hy => ?_⟩⟩
  match i, hy with
  | 0, hy =>
    simp at hy
    subst hy
    refine ⟨cs.toList, hr, fun j u hj => ?_⟩
    rw [hb.cell, show 0 + 0 * Rep.size α + j = j by omega]
    simpa using hj
  | k + 1, hy => simp at hy
theorem sl_pair {α : Type} [Rep α] {W : World} {F : Nat → Prop} {g : Nat} {t : TypeId} {x y : α} {cs ds : List Value} (hr : Rep.cells W F x cs) (hs : Rep.cells W F y ds) (hF : F g) (hb : Blk W g t (cs ++ ds).toArray) : Sl W F (some ⟨g, 0, none⟩) 2 [x, y] := by
  have hl := Rep.len hr
  refine ⟨rfl, fun _ => ⟨g, 0, rfl, hF, fun i z hz => ?_⟩⟩
  match i, hz with
  | 0, hz =>
    simp at hz
    subst hz
    refine ⟨cs, hr, fun j u hj => ?_⟩
    have hjl : j < cs.length := (List.getElem?_eq_some_iff.1 hj).1
    rw [hb.cell, show 0 + 0 * Rep.size α + j = j by omega]
    simp only [List.getElem?_toArray]
    rw [List.getElem?_append_left hjl]
    exact hj
  | 1, hz =>
    simp at hz
    subst hz
    refine ⟨ds, hs, fun j u hj => ?_⟩
    rw [hb.cell, show 0 + 1 * Rep.size α + j = cs.length + j by omega]
    simp only [List.getElem?_toArray]
    rw [List.getElem?_append_right (by omega), show cs.length + j - cs.length = j by omega]
    exact hj
  | k + 2, hz => simp at hz

set_option maxHeartbeats 400000 in
theorem store_any (w : World) (g off : Int) : Calls Try.prog 20 #[.int .i64 g, .int .i64 off] w (RetS (storeS g off) w) := by
  go_enter Try.func20, Try.ntmps20
  go_wp2
  refine bodyPost_ret (v := .agg #[.int .i64 g, .int .i64 0, .slice (some ⟨w.heap.size + 1, 0, none⟩) 1 1, .slice (some ⟨w.heap.size + 1 + 1, 0, none⟩) 1 1]) (by simp [results, Try.results20, go_sem]) rfl ?_
  refine ⟨_, 1, 1, _, 1, 1, rfl, (((Below.refl _ _).alloc (Nat.le_refl _) _).alloc (by simp) _).alloc (by simp; omega) _, Nat.le_refl _, by unfold maxLen; omega, Nat.le_refl _, by unfold maxLen; omega, ?_, ?_⟩
  · exact sl_one (t := 3) (cs := #[.int .i64 g]) rfl (by simp) ((blk_new _ _ _ (by simp)).alloc _)
  · exact sl_one (t := 41) (cs := #[.int .i64 1, .int .i64 0, .int .i64 off, .bool true]) rfl (by simp) (blk_new _ _ _ (by simp))
set_option maxHeartbeats 400000 in
theorem load_any (w : World) (g off : Int) : Calls Try.prog 21 #[.int .i64 g, .int .i64 off] w (RetS (loadS g off) w) := by
  go_enter Try.func21, Try.ntmps21
  go_wp2
  refine bodyPost_ret (v := .agg #[.int .i64 g, .int .i64 0, .slice (some ⟨w.heap.size + 1, 0, none⟩) 1 1, .slice (some ⟨w.heap.size + 1 + 1, 0, none⟩) 1 1]) (by simp [results, Try.results21, go_sem]) rfl ?_
  refine ⟨_, 1, 1, _, 1, 1, rfl, (((Below.refl _ _).alloc (Nat.le_refl _) _).alloc (by simp) _).alloc (by simp; omega) _, Nat.le_refl _, by unfold maxLen; omega, Nat.le_refl _, by unfold maxLen; omega, ?_, ?_⟩
  · exact sl_one (t := 3) (cs := #[.int .i64 g]) rfl (by simp) ((blk_new _ _ _ (by simp)).alloc _)
  · exact sl_one (t := 41) (cs := #[.int .i64 1, .int .i64 0, .int .i64 off, .bool false]) rfl (by simp) (blk_new _ _ _ (by simp))

theorem awake_canon : canon [storeS 1 0, storeS 0 1] = [⟨0, 0⟩, ⟨1, 0⟩] := rfl
theorem awake_dep1 : dep (loadS 0 4) (loadS 1 4) = false := rfl
theorem awake_dep2 : dep (loadS 0 4) (storeS 1 4) = true := rfl

theorem canonical_c (w : World) (B n c : Nat) {A : Option Addr} {l : List Step} {r : List Pick} (hr : canon l = r) (hl : Sl w (lt B) A n l) (hn : n ≤ 65536) (hB : B ≤ w.heap.size) :
    Calls Try.prog 12 #[.slice A n c] w (RetO 23 (fun _ => False) r w) := hr ▸ canonical_any w B n c A l hl hn hB
theorem dependent_b (w : World) (B : Nat) {s t : Step} {b : Bool} (hb : dep s t = b) {A1 T1 A2 T2 : Option Addr} {n1 k1 m1 d1 n2 k2 m2 d2 : Nat}
    (hg1 : Sl w (lt B) A1 n1 s.gs) (ht1 : Sl w (lt B) T1 m1 s.touches) (hg2 : Sl w (lt B) A2 n2 t.gs) (ht2 : Sl w (lt B) T2 m2 t.touches) (hn1 : n1 ≤ k1) (hk1 : k1 ≤ maxLen) (hm1 : m1 ≤ d1) (hd1 : d1 ≤ maxLen) (hn2 : n2 ≤ k2) (hk2 : k2 ≤ maxLen) (hm2 : m2 ≤ d2) (hd2 : d2 ≤ maxLen) (hB : B ≤ w.heap.size) :
    Calls Try.prog 9 #[.agg #[.int .i64 s.g, .int .i64 s.case_, .slice A1 n1 k1, .slice T1 m1 d1], .agg #[.int .i64 t.g, .int .i64 t.case_, .slice A2 n2 k2, .slice T2 m2 d2]] w (RetB (.bool b) w) :=
  hb ▸ dependent_s w B s t hg1 ht1 hg2 ht2 hn1 hk1 hm1 hd1 hn2 hk2 hm2 hd2 hB

set_option maxHeartbeats 1000000 in
theorem awake_any (w : World) : Calls Try.prog 7 #[] w (RetB (.bool true) w) := by
  go_enter Try.func7, Try.ntmps7
  go_wp2_with fail
  refine (store_any w 1 0).mono ?_
  rintro e w1 ⟨A1, p1, c1, T1, m1, d1, rfl, hb1, hp1, hc1, hm1, hd1, sg1, st1⟩
  go_wp2_with fail
  refine (store_any w1 0 1).mono ?_
  rintro e w2 ⟨A2, p2, c2, T2, m2, d2, rfl, hb2, hp2, hc2, hm2, hd2, sg2, st2⟩
  have hz2 := hb2.size
  have HS : Hid (∀ W, Below w2.heap.size w2 W → Blk W w2.heap.size 27 ([.int .i64 (storeS 1 0).g, .int .i64 (storeS 1 0).case_, .slice A1 p1 c1, .slice T1 m1 d1] ++ [.int .i64 (storeS 0 1).g, .int .i64 (storeS 0 1).case_, .slice A2 p2 c2, .slice T2 m2 d2] : List Value).toArray →
      Sl W (lt (w2.heap.size + 1)) (some ⟨w2.heap.size, 0, none⟩) 2 [storeS 1 0, storeS 0 1]) := fun W hW hB =>
    sl_pair (rep_step hp1 hc1 hm1 hd1 (((sg1.below hb2).below (hW.mono hz2)).mono (by omega)) (((st1.below hb2).below (hW.mono hz2)).mono (by omega)))
      (rep_step hp2 hc2 hm2 hd2 ((sg2.below hW).mono (by omega)) ((st2.below hW).mono (by omega))) (by show w2.heap.size < w2.heap.size + 1; omega) hB
  clear sg1 st1 sg2 st2 hp1 hc1 hm1 hd1 hp2 hc2 hm2 hd2
  go_wp2_with fail
  refine (canonical_c _ (w2.heap.size + 1) 2 2 awake_canon (HS.out _ ((Below.refl _ _).alloc (Nat.le_refl _) _) (Blk.new _ _ _)) (by omega) (by simp)).mono ?_
  rintro e w3 ⟨v, rfl, hb3, hown⟩
  obtain ⟨A3, c3, hA3, hc3, hm3, hsl⟩ := hown.sl false_lt
  subst hA3
  have hb3' : Below w.heap.size w w3 := hb1.trans ((hb2.mono hb1.size).trans (((Below.refl _ _).alloc (Nat.le_trans hb1.size hz2) _).trans (hb3.mono (by simp; have := hb1.size; omega))))
  go_wp2_with fail
  refine (load_any w3 0 4).mono ?_
  rintro e w4 ⟨A1, p1, c1, T1, m1, d1, rfl, hb4, hp1, hc1, hm1, hd1, sg1, st1⟩
  go_wp2_with fail
  refine (load_any w4 1 4).mono ?_
  rintro e w5 ⟨A2, p2, c2, T2, m2, d2, rfl, hb5, hp2, hc2, hm2, hd2, sg2, st2⟩
  go_wp2_with fail
  refine (dependent_b w5 w5.heap.size awake_dep1 ((sg1.below hb5).mono hb5.size) ((st1.below hb5).mono hb5.size) sg2 st2 hp1 hc1 hm1 hd1 hp2 hc2 hm2 hd2 (Nat.le_refl _)).mono ?_
  rintro e w6 ⟨rfl, hb6⟩
  clear sg1 st1 sg2 st2 hp1 hc1 hm1 hd1 hp2 hc2 hm2 hd2
  go_wp2_with fail
  refine (load_any w6 0 4).mono ?_
  rintro e w7 ⟨A1, p1, c1, T1, m1, d1, rfl, hb7, hp1, hc1, hm1, hd1, sg1, st1⟩
  go_wp2_with fail
  refine (store_any w7 1 4).mono ?_
  rintro e w8 ⟨A2, p2, c2, T2, m2, d2, rfl, hb8, hp2, hc2, hm2, hd2, sg2, st2⟩
  go_wp2_with fail
  refine (dependent_b w8 w8.heap.size awake_dep2 ((sg1.below hb8).mono hb8.size) ((st1.below hb8).mono hb8.size) sg2 st2 hp1 hc1 hm1 hd1 hp2 hc2 hm2 hd2 (Nat.le_refl _)).mono ?_
  rintro e w9 ⟨rfl, hb9⟩
  clear sg1 st1 sg2 st2 hp1 hc1 hm1 hd1 hp2 hc2 hm2 hd2
  have s3 := hb4.size
  have s4 := hb5.size
  have s5 := hb6.size
  have s6 := hb7.size
  have s7 := hb8.size
  have hb39 : Below w3.heap.size w3 w9 := hb4.trans ((hb5.mono s3).trans ((hb6.mono (by omega)).trans ((hb7.mono (by omega)).trans ((hb8.mono (by omega)).trans (hb9.mono (by omega))))))
  obtain ⟨b, o, rfl, hbb, x, hx, e0, e1⟩ := (hsl.below hb39).pick (k := 0) (by decide)
  obtain ⟨b', o', hbe, -, y, hy, f0, f1⟩ := (hsl.below hb39).pick (k := 1) (by decide)
  injection hbe with hbe
  injection hbe with hbe1 hbe2
  subst hbe1
  subst hbe2
  have hx0 : x = ⟨0, 0⟩ := by injection hx with hx; exact hx.symm
  have hy0 : y = ⟨1, 0⟩ := by injection hy with hy; exact hy.symm
  rw [hx0] at e0
  rw [hy0] at f0
  have g0 : w9.cell? ⟨b, o, none⟩ = some (.int .i64 0) := e0
  have g1 : w9.cell? ⟨b, o + 2, none⟩ = some (.int .i64 1) := f0
  clear e0 e1 f0 f1 hx hy hx0 hy0
  go_wp2
  go_ret
  exact RetB.mk rfl (hb3'.trans (hb39.mono hb3'.size))

end Go.Proofs.Ytlbgmegciomofaa
