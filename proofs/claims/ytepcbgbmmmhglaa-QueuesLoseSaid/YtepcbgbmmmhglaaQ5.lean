/- Valid run queues: the reference. -/
import Derived.Test.YtepcbgbmmmhglaaQ4
namespace Go.Proofs.Ytepcbgbmmmhglaa
open Go.RowKit

def okI (x : Int) : Bool := decide (0 ≤ x) && decide (x < 8)
def okL (l : List Int) : Bool := l.all okI && decide l.Nodup
def fits (xss : List (List Int)) : Bool := xss.all fun l => decide (l.length ≤ 4)
/-- Whether run queues are possible. -/
def validQ (q : Qs) : Bool := decide (1 ≤ q.loc.length) && decide (q.loc.length ≤ 4) && fits q.loc && okL (allQ q)

theorem okL_yes {l : List Int} (h : ∀ j x, l[j]? = some x → okI x = true ∧ ∀ (i : Nat) y, i < j → l[i]? = some y → y ≠ x) : okL l = true := by
  unfold okL
  rw [Bool.and_eq_true]
  refine ⟨List.all_eq_true.2 fun x hx => ?_, decide_eq_true (List.pairwise_iff_getElem.2 fun i j hi hj hij => ?_)⟩
  · obtain ⟨j, hj, e⟩ := List.getElem_of_mem hx
    exact (h j x (by rw [List.getElem?_eq_getElem hj, e])).1
  · exact (h j _ (List.getElem?_eq_getElem hj)).2 i _ hij (List.getElem?_eq_getElem hi)
theorem okL_no {l : List Int} {j : Nat} {x : Int} (h : l[j]? = some x) (hx : okI x = false) : okL l = false := by
  cases he : okL l with
  | false => rfl
  | true =>
    unfold okL at he
    rw [Bool.and_eq_true] at he
    have := List.all_eq_true.1 he.1 x (List.mem_of_getElem? h)
    rw [hx] at this
    cases this
theorem okL_twice {l : List Int} {i j : Nat} {x : Int} (hij : i < j) (h : l[i]? = some x) (h' : l[j]? = some x) : okL l = false := by
  cases he : okL l with
  | false => rfl
  | true =>
    unfold okL at he
    rw [Bool.and_eq_true] at he
    obtain ⟨hi, e⟩ := List.getElem?_eq_some_iff.1 h
    obtain ⟨hj, e'⟩ := List.getElem?_eq_some_iff.1 h'
    exact absurd (e.trans e'.symm) (List.pairwise_iff_getElem.1 (of_decide_eq_true he.2) i j hi hj hij)
theorem okI_lo {x : Int} (h : x < 0) : okI x = false := by unfold okI; rw [decide_eq_false (by omega)]; rfl
theorem okI_hi {x : Int} (h : 8 ≤ x) : okI x = false := by unfold okI; rw [decide_eq_false (p := x < 8) (by omega), Bool.and_false]
theorem okI_mk {x : Int} (h : 0 ≤ x) (h' : x < 8) : okI x = true := by unfold okI; rw [decide_eq_true h, decide_eq_true h']; rfl
theorem fits_yes {xss : List (List Int)} (h : ∀ (j : Nat) (xs : List Int), xss[j]? = some xs → xs.length ≤ 4) : fits xss = true := by
  unfold fits
  refine List.all_eq_true.2 fun xs hx => ?_
  obtain ⟨j, hj, e⟩ := List.getElem_of_mem hx
  exact decide_eq_true (h j xs (by rw [List.getElem?_eq_getElem hj, e]))
theorem fits_no {xss : List (List Int)} {j : Nat} {xs : List Int} (h : xss[j]? = some xs) (hx : 4 < xs.length) : fits xss = false := by
  cases he : fits xss with
  | false => rfl
  | true =>
    have := of_decide_eq_true (List.all_eq_true.1 he xs (List.mem_of_getElem? h))
    omega
theorem fits_at {xss : List (List Int)} (h : fits xss = true) {j : Nat} {xs : List Int} (hx : xss[j]? = some xs) : xs.length ≤ 4 := of_decide_eq_true (List.all_eq_true.1 h xs (List.mem_of_getElem? hx))
theorem fits_flat : ∀ {xss : List (List Int)}, fits xss = true → xss.flatten.length ≤ xss.length * 4
  | [], _ => by simp
  | xs :: xss, h => by
    unfold fits at h
    rw [List.all_cons, Bool.and_eq_true] at h
    have h1 := fits_flat (xss := xss) h.2
    have h2 := of_decide_eq_true h.1
    rw [List.flatten_cons, List.length_append, List.length_cons, Nat.add_mul]
    omega
theorem valid_loc {q : Qs} (h : validQ q = true) : 1 ≤ q.loc.length ∧ q.loc.length ≤ 4 ∧ fits q.loc = true ∧ okL (allQ q) = true := by
  unfold validQ at h
  rw [Bool.and_eq_true, Bool.and_eq_true, Bool.and_eq_true] at h
  exact ⟨of_decide_eq_true h.1.1.1, of_decide_eq_true h.1.1.2, h.1.2, h.2⟩
theorem validQ_few {q : Qs} (h : q.loc.length < 1) : validQ q = false := by unfold validQ; rw [decide_eq_false (p := 1 ≤ q.loc.length) (by omega)]; rfl
theorem validQ_many {q : Qs} (h : 4 < q.loc.length) : validQ q = false := by unfold validQ; rw [decide_eq_false (p := q.loc.length ≤ 4) (by omega), Bool.and_false]; rfl
theorem validQ_big {q : Qs} (h : fits q.loc = false) : validQ q = false := by unfold validQ; rw [h, Bool.and_false]; rfl
theorem validQ_ok {q : Qs} (h1 : 1 ≤ q.loc.length) (h2 : q.loc.length ≤ 4) (h : fits q.loc = true) : validQ q = okL (allQ q) := by unfold validQ; rw [h, decide_eq_true h1, decide_eq_true h2]; rfl

set_option maxHeartbeats 2000000 in
theorem refValid_any (w : World) (B n c m d : Nat) (A C : Option Addr) (q : Qs) (hl : Sl w (lt B) A n q.loc) (hc : Sl w (lt B) C m q.com) (hn : n ≤ maxLen) (hm : m ≤ maxLen) (h8 : m * 8 ≤ 140737488351232) (hB : B ≤ w.heap.size) :
    Calls Try.prog 14 #[.agg #[.slice A n c, .slice C m d]] w (RetB (.bool (validQ q)) w) := by
  have hll : Hid (q.loc.length = n) := hl.1
  have hcl : Hid (q.com.length = m) := hc.1
  by_cases h0 : n < 1
  · have hv := Lib.hid (validQ_few (q := q) (by rw [hll.out]; exact h0))
    have hd : decide ((n : Int) < 1) = true := decide_eq_true (by omega)
    go_enter Try.func14, Try.ntmps14
    go_upto_region 1 with fail
    obtain ⟨w0, hw0⟩ : ∃ w0, w0 = w.alloc (.cells #[.slice A n c, .slice C m d] 26) := ⟨_, rfl⟩
    rw [← hw0]
    have hb0 : Below w.heap.size w w0 := by rw [hw0]; exact (Below.refl _ _).alloc (Nat.le_refl _) _
    have hk0 : Blk w0 w.heap.size 26 #[.slice A n c, .slice C m d] := by rw [hw0]; exact Blk.new _ _ _
    clear hw0
    have c0 : w0.cell? ⟨w.heap.size, 0, none⟩ = some (.slice A n c) := hk0.at_ 0 rfl
    go_wp2
    go_ret
    exact RetB.mk (bool_eq hv.out.symm) hb0
  · by_cases h4 : 4 < n
    · have hv := Lib.hid (validQ_many (q := q) (by rw [hll.out]; exact h4))
      have hd : decide ((n : Int) < 1) = false := decide_eq_false (by omega)
      have hd' : decide (4 < (n : Int)) = true := decide_eq_true (by omega)
      go_enter Try.func14, Try.ntmps14
      go_upto_region 1 with fail
      obtain ⟨w0, hw0⟩ : ∃ w0, w0 = w.alloc (.cells #[.slice A n c, .slice C m d] 26) := ⟨_, rfl⟩
      rw [← hw0]
      have hb0 : Below w.heap.size w w0 := by rw [hw0]; exact (Below.refl _ _).alloc (Nat.le_refl _) _
      have hk0 : Blk w0 w.heap.size 26 #[.slice A n c, .slice C m d] := by rw [hw0]; exact Blk.new _ _ _
      clear hw0
      have c0 : w0.cell? ⟨w.heap.size, 0, none⟩ = some (.slice A n c) := hk0.at_ 0 rfl
      go_wp2
      go_ret
      exact RetB.mk (bool_eq hv.out.symm) hb0
    · have hd : decide ((n : Int) < 1) = false := decide_eq_false (by omega)
      have hd' : decide (4 < (n : Int)) = false := decide_eq_false (by omega)
      go_enter Try.func14, Try.ntmps14
      go_upto_region 1 with fail
      obtain ⟨w0, hw0⟩ : ∃ w0, w0 = w.alloc (.cells #[.slice A n c, .slice C m d] 26) := ⟨_, rfl⟩
      rw [← hw0]
      have hb0 : Below w.heap.size w w0 := by rw [hw0]; exact (Below.refl _ _).alloc (Nat.le_refl _) _
      have hk0 : Blk w0 w.heap.size 26 #[.slice A n c, .slice C m d] := by rw [hw0]; exact Blk.new _ _ _
      clear hw0
      have c0 : w0.cell? ⟨w.heap.size, 0, none⟩ = some (.slice A n c) := hk0.at_ 0 rfl
      have c1 : w0.cell? ⟨w.heap.size, 1, none⟩ = some (.slice C m d) := hk0.at_ 1 rfl
      have hz := hb0.size
      have hlt0 := hk0.lt
      go_wp2
      go_loop [3, 2] (fun i _ => ∃ k : Nat, k ≤ n ∧ i = .int .i64 k ∧ ∀ j xs, j < k → q.loc[j]? = some xs → xs.length ≤ 4) (fun i _ => n - (intOf i).toNat)
      case atStart => exact ⟨0, Nat.zero_le _, rfl, fun j _ h => absurd h (by omega)⟩
      case round =>
        obtain ⟨k, hk, rfl, hno⟩ := hrel
        have HN := Lib.hid hno
        clear hno
        by_cases hlt : k < n
        · obtain ⟨b, o, rfl, hbb, xs, A', n', c', hx, hcell, hn', hc', hsx⟩ := (hl.below (hb0.mono hB)).list_ hlt
          have HX := Lib.hid hx
          have hxl : Hid (xs.length = n') := hsx.1
          clear hx hsx
          by_cases hbig : 4 < n'
          · have hd2 : decide (4 < (n' : Int)) = true := decide_eq_true (by omega)
            have hv := Lib.hid (validQ_big (fits_no HX.out (by rw [hxl.out]; exact hbig)))
            go_wp2
            go_ret
            exact RetB.mk (bool_eq hv.out.symm) hb0
          · have hd2 : decide (4 < (n' : Int)) = false := decide_eq_false (by omega)
            go_wp2
            go_round
            case rel => exact ⟨k + 1, by omega, by go_num, fun j ys hj hy => by
              rcases Nat.lt_or_ge j k with h | h
              · exact HN.out j ys h hy
              · obtain rfl : j = k := by omega
                rw [HX.out] at hy
                injection hy with hy
                subst hy
                rw [hxl.out]
                omega⟩
            case measure => simp [intOf]; omega
        · obtain rfl : k = n := by omega
          have hfit : Hid (fits q.loc = true) := Lib.hid (fits_yes fun j xs hj => HN.out j xs (by rw [← hll.out]; exact (List.getElem?_eq_some_iff.1 hj).1) hj)
          have hv := Lib.hid (validQ_ok (by rw [hll.out]; omega) (by rw [hll.out]; omega) hfit.out)
          clear HN
          have hbig : (allQ q).length * 8 ≤ 140737488355328 := by
            have h1 := fits_flat hfit.out
            rw [hll.out] at h1
            unfold allQ
            rw [List.length_append, hcl.out]
            omega
          have HAL := Lib.hid (all_any w0 B k c m d A C q (hl.below (hb0.mono hB)) (hc.below (hb0.mono hB)) hn hm hbig (by omega))
          obtain ⟨N, hN⟩ : ∃ N, N = (allQ q).length := ⟨_, rfl⟩
          have HNN := Lib.hid hN
          rw [← hN] at hbig
          clear hN
          go_wp2_with (go_at_call 20; refine HAL.out.mono ?_; rintro e w1 ⟨v1, rfl, hb1, hown1⟩; obtain ⟨A1, c1', rfl, -, -, hs1⟩ := hown1.sl false_lt)
          rw [← HNN.out] at hs1 hown1 ⊢
          clear hown1 HAL
          have HL := Lib.hid hs1
          clear hs1
          have hN63 : N ≤ 17592186044416 := by omega
          have hbw1 : Below w.heap.size w w1 := hb0.trans (hb1.mono hz)
          go_loopw [6, 5, 2] (fun _ i _ wr => ∃ p : Nat, p ≤ N ∧ i = .int .i64 p ∧ (∀ j x, j < p → (allQ q)[j]? = some x → okI x = true ∧ ∀ (e : Nat) y, e < j → (allQ q)[e]? = some y → y ≠ x) ∧ Below w1.heap.size w1 wr) (fun _ i _ _ => N - (intOf i).toNat)
          case atStart => exact ⟨0, Nat.zero_le _, rfl, fun j _ h => absurd h (by omega), Below.refl _ _⟩
          case round =>
            obtain ⟨w2, rfl⟩ : ∃ w2 : World, w2 = wr := ⟨_, rfl⟩
            obtain ⟨p, hp, rfl, hno, hb2⟩ := hrel
            have HN := Lib.hid hno
            clear hno
            have hsl := HL.out.below hb2
            have hbw2 : Below w.heap.size w w2 := hbw1.trans (hb2.mono hbw1.size)
            by_cases hlp : p < N
            · obtain ⟨b1, o1, rfl, hbb1, x, hx, hcx⟩ := hsl.int hlp
              have HX := Lib.hid hx
              clear hx
              by_cases hlo : x < 0
              · have hd1 : decide (x < 0) = true := decide_eq_true hlo
                have hr := Lib.hid (hv.out.trans (okL_no HX.out (okI_lo hlo)))
                go_wp2
                go_ret
                exact RetB.mk (bool_eq hr.out.symm) hbw2
              · by_cases hhi : 8 ≤ x
                · have hd1 : decide (x < 0) = false := decide_eq_false hlo
                  have hd2 : decide (8 ≤ x) = true := decide_eq_true hhi
                  have hr := Lib.hid (hv.out.trans (okL_no HX.out (okI_hi hhi)))
                  go_wp2
                  go_ret
                  exact RetB.mk (bool_eq hr.out.symm) hbw2
                · have hd1 : decide (x < 0) = false := decide_eq_false hlo
                  have hd2 : decide (8 ≤ x) = false := decide_eq_false hhi
                  have HOK := Lib.hid (okI_mk (x := x) (by omega) (by omega))
                  clear hlo hhi
                  go_wp2
                  go_loopw [6, 2] (fun k _ wr => ∃ e : Nat, e ≤ p ∧ k = .int .i64 e ∧ (∀ (j : Nat) y, j < e → (allQ q)[j]? = some y → y ≠ x) ∧ Below w2.heap.size w2 wr) (fun k _ _ => p - (intOf k).toNat)
                  case atStart => exact ⟨0, Nat.zero_le _, rfl, fun j _ h => absurd h (by omega), Below.refl _ _⟩
                  case round =>
                    obtain ⟨w3, rfl⟩ : ∃ w3 : World, w3 = wr := ⟨_, rfl⟩
                    obtain ⟨e, he, rfl, hne, hb3⟩ := hrel
                    have HE := Lib.hid hne
                    clear hne
                    have hb13 : Below w1.heap.size w1 w3 := hb2.trans (hb3.mono hb2.size)
                    by_cases hle : e < p
                    · have hlN : e < N := by omega
                      obtain ⟨b2, o2, hA, hbb2, y, hy, hcy⟩ := (HL.out.below hb13).int hlN
                      simp only [Option.some.injEq, Addr.mk.injEq, and_true] at hA
                      obtain ⟨rfl, rfl⟩ := hA
                      have hcx3 : w3.cell? ⟨b1, o1 + p, none⟩ = some (.int .i64 x) := (hb3.cell (Nat.lt_of_lt_of_le hbb1 hb2.size)).trans hcx
                      have HY := Lib.hid hy
                      clear hy
                      by_cases hyx : y = x
                      · have hb9 : (y == x) = true := by simpa using hyx
                        have hr := Lib.hid (hv.out.trans (okL_twice hle (by rw [← hyx]; exact HY.out) HX.out))
                        clear hyx
                        go_wp2
                        go_quiet (fail)
                        go_wp2
                        go_ret
                        exact RetB.mk (bool_eq hr.out.symm) (below_drewN (hbw2.trans (hb3.mono hbw2.size)) _)
                      · have hb9 : (y == x) = false := by simpa using hyx
                        have HYX := Lib.hid hyx
                        clear hyx
                        go_wp2
                        go_quiet (fail)
                        go_wp2
                        go_roundw
                        case rel => exact ⟨e + 1, by omega, by go_num, fun j z hj hz => by
                          rcases Nat.lt_or_ge j e with h | h
                          · exact HE.out j z h hz
                          · obtain rfl : j = e := by omega
                            rw [HY.out] at hz
                            injection hz with hz
                            rw [← hz]
                            exact HYX.out, below_drewN hb3 _⟩
                        case measure => simp [intOf]; omega
                    · obtain rfl : e = p := by omega
                      go_wp2
                      go_roundw
                      case rel => exact ⟨e + 1, by omega, by go_num, fun j z hj hz => by
                        rcases Nat.lt_or_ge j e with h | h
                        · exact HN.out j z h hz
                        · obtain rfl : j = e := by omega
                          rw [HX.out] at hz
                          injection hz with hz
                          rw [← hz]
                          exact ⟨HOK.out, HE.out⟩, hb13⟩
                      case measure => simp [intOf]; omega
            · obtain rfl : p = N := by omega
              have hr := Lib.hid (hv.out.trans (okL_yes fun j x hx => HN.out j x (by rw [HNN.out]; exact (List.getElem?_eq_some_iff.1 hx).1) hx))
              go_wp2
              go_ret
              exact RetB.mk (bool_eq hr.out.symm) hbw2

end Go.Proofs.Ytepcbgbmmmhglaa
