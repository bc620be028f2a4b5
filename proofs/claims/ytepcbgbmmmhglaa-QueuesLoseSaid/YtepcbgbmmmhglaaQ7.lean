/- Valid run queues: the program. -/
import Derived.Test.YtepcbgbmmmhglaaQ6
namespace Go.Proofs.Ytepcbgbmmmhglaa
open Go.RowKit

theorem src_one {W : World} {F : Nat → Prop} {g n c : Nat} {A : Option Addr} {xs : List Int} (h : Sl W F A n xs) (hn : n ≤ c) (hc : c ≤ maxLen) (hcell : W.cell? ⟨g, 0, none⟩ = some (.slice A n c)) : Src W F (some ⟨g, 0, none⟩) 1 [xs] := by
  refine ⟨rfl, [.slice A n c], rfl, fun u hu => ?_, fun i x hx => ?_, fun _ => ⟨g, 0, rfl, fun j u hj => ?_⟩⟩
  · simp only [List.mem_singleton] at hu
    subst hu
    rfl
  · cases i with
    | succ i => simp at hx
    | zero =>
      simp only [List.getElem?_cons_zero, Option.some.injEq] at hx
      subst hx
      exact ⟨[.slice A n c], ⟨A, n, c, rfl, hn, hc, h⟩, fun j u hj => by rw [Nat.zero_mul, Nat.zero_add]; exact hj⟩
  · cases j with
    | succ j => simp at hj
    | zero =>
      simp only [List.getElem?_cons_zero, Option.some.injEq] at hj
      subst hj
      exact hcell

/-- The element at index k of a source of append. -/
theorem Src.list_ {w : World} {F : Nat → Prop} {A : Option Addr} {n k : Nat} {xss : List (List Int)} (h : Src w F A n xss) (hk : k < n) :
    ∃ b o, A = some ⟨b, o, none⟩ ∧ ∃ xs A' n' c', xss[k]? = some xs ∧ w.cell? ⟨b, o + k, none⟩ = some (.slice A' n' c') ∧ n' ≤ c' ∧ c' ≤ maxLen ∧ Sl w F A' n' xs := by
  obtain ⟨hl, news, h1, h2, h3, h4⟩ := h
  obtain ⟨b, o, rfl, hc⟩ := h4 (by omega)
  have hx : xss[k]? = some (xss[k]'(by omega)) := List.getElem?_eq_getElem _
  obtain ⟨cs, hr, hv⟩ := h3 k _ hx
  obtain ⟨A', n', c', e1, e2, e3, e4⟩ : ∃ A' n' c', cs = [.slice A' n' c'] ∧ n' ≤ c' ∧ c' ≤ maxLen ∧ Sl w F A' n' (xss[k]'(by omega)) := hr
  subst e1
  refine ⟨b, o, rfl, _, A', n', c', hx, ?_, e2, e3, e4⟩
  have := hc _ _ (hv 0 _ rfl)
  simpa [Rep.size] using this

theorem take_snoc {xs : List Int} {t : Nat} {x : Int} (h : xs[t]? = some x) : xs.take (t + 1) = xs.take t ++ [x] := by
  obtain ⟨hk, he⟩ := List.getElem?_eq_some_iff.1 h
  rw [List.take_succ_eq_append_getElem hk, he]

set_option maxHeartbeats 8000000 in
theorem valid_main (w : World) (B n c m d : Nat) (A C : Option Addr) (q : Qs) (hl : Sl w (lt B) A n q.loc) (hc : Sl w (lt B) C m q.com) (hmd : m ≤ d) (hd63 : d ≤ maxLen) (h1 : 1 ≤ n) (h4 : n ≤ 4) (hB : B ≤ w.heap.size) :
    Calls Try.prog 13 #[.agg #[.slice A n c, .slice C m d]] w (RetB (.bool (validQ q)) w) := by
  have hll : Hid (q.loc.length = n) := hl.1
  have hcl : Hid (q.com.length = m) := hc.1
  have hd : decide ((n : Int) < 1) = false := decide_eq_false (by omega)
  have hd' : decide (4 < (n : Int)) = false := decide_eq_false (by omega)
  obtain ⟨i0, hi, hz0, hz1, hz2⟩ := info_parts info_ints
  have HI := Lib.hid (And.intro hi (And.intro hz0 (And.intro hz1 hz2)))
  clear hi hz0 hz1 hz2
  go_enter Try.func13, Try.ntmps13
  go_upto_region 1 with fail
  obtain ⟨w0, hw0⟩ : ∃ w0, w0 = w.alloc (.cells #[.slice A n c, .slice C m d] 26) := ⟨_, rfl⟩
  rw [← hw0]
  have hb0 : Below w.heap.size w w0 := by rw [hw0]; exact (Below.refl _ _).alloc (Nat.le_refl _) _
  have hk0 : Blk w0 w.heap.size 26 #[.slice A n c, .slice C m d] := by rw [hw0]; exact Blk.new _ _ _
  clear hw0
  have c0 : w0.cell? ⟨w.heap.size, 0, none⟩ = some (.slice A n c) := hk0.at_ 0 rfl
  go_upto_region 4 with fail
  obtain ⟨w1, hw1⟩ : ∃ w1, w1 = w0.alloc (.cells #[.bool false, .bool false, .bool false, .bool false, .bool false, .bool false, .bool false, .bool false] 42) := ⟨_, rfl⟩
  rw [← hw1]
  have hz0' := hb0.size
  have hb1 : Below w.heap.size w w1 := by rw [hw1]; exact hb0.alloc hz0' _
  have hk1 : Blk w1 w.heap.size 26 #[.slice A n c, .slice C m d] := by rw [hw1]; exact hk0.alloc _
  have hs1 : Blk w1 w0.heap.size 42 (marks []) := by rw [hw1, marks_nil]; exact Blk.new _ _ _
  have hgs : w.heap.size < w0.heap.size := hk0.lt
  clear hw1 c0 hk0 hb0 hz0'
  obtain ⟨gs, hgs'⟩ : ∃ gs, gs = w0.heap.size := ⟨_, rfl⟩
  rw [← hgs'] at hs1 hgs ⊢
  clear hgs'
  have c0 : w1.cell? ⟨w.heap.size, 0, none⟩ = some (.slice A n c) := hk1.at_ 0 rfl
  have c1 : w1.cell? ⟨w.heap.size, 1, none⟩ = some (.slice C m d) := hk1.at_ 1 rfl
  have hz1' := hb1.size
  have hg1 := hk1.lt
  have hg2 := hs1.lt
  have HCL := Lib.hid fun W (h : Below w.heap.size w W) => cloneL_any W B n c A q.loc (hl.below (h.mono hB)) (by unfold maxLen; omega) (by omega) (Nat.le_trans hB h.size)
  have HB1 := Lib.hid hb1.drew
  have HB2 := Lib.hid (hb1.drew.alloc (by show w.heap.size ≤ w1.heap.size; omega) (.cells #[.slice C m d] 24))
  have HP : Hid (∀ W w2, Below w.heap.size w W → Blk W w.heap.size 26 #[.slice A n c, .slice C m d] → Blk W gs 42 (marks []) → Below W.heap.size W w2 → Below w.heap.size w w2 ∧ Blk w2 w.heap.size 26 #[.slice A n c, .slice C m d] ∧ Blk w2 gs 42 (marks [])) :=
    fun W w2 h1 h2 h3 h4 => ⟨h1.trans (h4.mono h1.size), h2.below h4 h2.lt, h3.below h4 h3.lt⟩
  have HK1 := Lib.hid (hk1.drew)
  have HS1 := Lib.hid (hs1.drew)
  have HK2 := Lib.hid (hk1.drew.alloc (.cells #[.slice C m d] 24))
  have HS2 := Lib.hid (hs1.drew.alloc (.cells #[.slice C m d] 24))
  have HC := Lib.hid hc
  clear hc
  have HLEN : Hid ((q.loc ++ [q.com]).length = n + 1) := Lib.hid (by rw [List.length_append, hll.out]; rfl)
  go_region_law (first
    | (rw [if_pos (by rfl)]; go_simp; refine (HCL.out w1.drew HB1.out).mono ?_; rintro e w2 ⟨v2, rfl, hb2, hown2⟩; obtain ⟨hbw2, hkw2, hsw2⟩ := HP.out _ w2 HB1.out HK1.out HS1.out hb2; clear hb2; have c1' : w2.cell? ⟨w.heap.size, 1, none⟩ = some (.slice C m d) := hkw2.at_ 1 rfl; have hzw2 := hbw2.size
       have HO2 := Lib.hid ((hown2.base (base' := w.heap.size) HB1.out.size).alloc (.cells #[.slice C m d] 24) (fun b hb => Nat.lt_of_lt_of_le hb (Nat.le_trans hB hzw2)))
       have HBO := Lib.hid (hbw2.alloc hzw2 (.cells #[.slice C m d] 24))
       have HKO := Lib.hid (hkw2.alloc (.cells #[.slice C m d] 24))
       have HSO := Lib.hid (hsw2.alloc (.cells #[.slice C m d] 24))
       have HSR := Lib.hid (src_one (HC.out.below (HBO.out.mono hB)) hmd hd63 ((Blk.new w2 24 #[.slice C m d]).at_ 0 rfl))
       clear hown2)
    | (rw [if_pos (by rfl)]; go_simp; refine (HCL.out _ HB2.out).mono ?_; rintro e w2 ⟨v2, rfl, hb2, hown2⟩; obtain ⟨hbw2, hkw2, hsw2⟩ := HP.out _ w2 HB2.out HK2.out HS2.out hb2; have c1' : w2.cell? ⟨w.heap.size, 1, none⟩ = some (.slice C m d) := hkw2.at_ 1 rfl; have hzw2 := hbw2.size
       have HO2 := Lib.hid (hown2.base (base' := w.heap.size) HB2.out.size)
       have HBO := Lib.hid hbw2
       have HKO := Lib.hid hkw2
       have HSO := Lib.hid hsw2
       have HSR := Lib.hid (src_one (HC.out.below (HBO.out.mono hB)) hmd hd63 (((Blk.new w1.drew 24 #[.slice C m d]).below hb2 (Blk.new w1.drew 24 #[.slice C m d]).lt).at_ 0 rfl))
       clear hown2 hb2)
    | (refine step_cat (α := List Int) rfl (.tmp 20) (.tmp 23) 23 rfl w.heap.size 24 i0 (.slice none 0 0) 24 Try.underlying23 HI.out.1 HI.out.2.1 HI.out.2.2.1 HI.out.2.2.2 rfl (by decide) (lt B) _ q.loc [q.com] _ 1 1 (by simp [Act.eval]) HO2.out (by simp [Act.eval]) HSR.out (fun b hb => Nat.lt_of_lt_of_le hb hB) HBO.out.size (by rw [hll.out]; unfold maxLen; omega) (by rw [hll.out]; omega) ?_; intro v3 w3 hown3 hg3 hat3
       have hb3 : Below w.heap.size w w3 := own_below HO2.out HBO.out hg3 (Nat.le_refl _) HBO.out.size
       have hk3 := HKO.out.grown hg3 (HO2.out.ne HKO.out (by decide))
       have hs3 := HSO.out.grown hg3 (HO2.out.ne HSO.out (by decide))
       obtain ⟨A3, c3, hA3, hc3, hm3, -⟩ := hown3.slice
       rw [HLEN.out] at hA3 hc3
       subst hA3
       clear hg3 hat3 HO2 HBO HKO HSO HSR))
  all_goals
    have HOW3 := Lib.hid hown3
    clear hown3
    go_simp
    go_wp2
    go_loopw [26, 4, 5, 7, 2] (fun r _ _ _ _ wr => ∃ p : Nat, p ≤ n + 1 ∧ r = .int .i64 p ∧ okL ((q.loc ++ [q.com]).take p).flatten = true ∧ (∀ (j : Nat) (xs : List Int), j < p → q.loc[j]? = some xs → xs.length ≤ 4) ∧ Blk wr gs 42 (marks ((q.loc ++ [q.com]).take p).flatten) ∧
      Own wr w.heap.size 24 (lt B) (.slice A3 (n + 1) c3) (q.loc ++ [q.com]) ∧ Blk wr w.heap.size 26 #[.slice A n c, .slice C m d] ∧ Below w.heap.size w wr) (fun r _ _ _ _ _ => n + 1 - (intOf r).toNat)
    case atStart => exact ⟨0, Nat.zero_le _, rfl, rfl, fun j _ h => absurd h (by omega), hs3, HOW3.out, hk3, hb3⟩
    case round =>
      obtain ⟨w4, rfl⟩ : ∃ w4 : World, w4 = wr := ⟨_, rfl⟩
      obtain ⟨p, hp, rfl, hok, hfit, hs4, hown4, hk4, hb4⟩ := hrel
      clear hs3 HOW3 hk3 hb3
      have HOK := Lib.hid hok
      have HFIT := Lib.hid hfit
      clear hok hfit
      have hz4 := hb4.size
      have c04 : w4.cell? ⟨w.heap.size, 0, none⟩ = some (.slice A n c) := hk4.at_ 0 rfl
      have HNE := Lib.hid (hown4.ne hs4 (by decide))
      by_cases hlt : p < n + 1
      · obtain ⟨b3, o3, rfl, xs, A', n', c', hx, hcell, hn', hc', hsx⟩ := (hown4.src HLEN.out).list_ hlt
        have HX := Lib.hid hx
        have hxl : Hid (xs.length = n') := hsx.1
        have HSX := Lib.hid hsx
        have HOW4 := Lib.hid hown4
        clear hx hsx hown4
        have hip : (p : Int) < (n : Int) + 1 := by omega
        unfold maxLen at hc'
        by_cases hbig : p < n ∧ 4 < n'
        · obtain ⟨hpn, hn4⟩ := hbig
          have hd1 : decide ((p : Int) < (n : Int)) = true := decide_eq_true (by omega)
          have hd2 : decide (4 < (n' : Int)) = true := decide_eq_true (by omega)
          have hxq : q.loc[p]? = some xs := by rw [← HX.out, List.getElem?_append_left (by rw [hll.out]; exact hpn)]
          have hr := Lib.hid (validQ_big (fits_no hxq (by rw [hxl.out]; exact hn4)))
          clear hxq
          go_wp2
          go_ret
          exact RetB.mk (bool_eq hr.out.symm) hb4
        · have HSM : Hid (∀ (j : Nat) (ys : List Int), j < p + 1 → q.loc[j]? = some ys → ys.length ≤ 4) := Lib.hid (by
            intro j ys hj hy
            rcases Nat.lt_or_ge j p with h | h
            · exact HFIT.out j ys h hy
            · obtain rfl : j = p := by omega
              have hjn : j < n := by rw [← hll.out]; exact (List.getElem?_eq_some_iff.1 hy).1
              have h5 : (q.loc ++ [q.com])[j]? = some ys := by rw [List.getElem?_append_left (by rw [hll.out]; exact hjn)]; exact hy
              rw [HX.out] at h5
              injection h5 with h5
              subst h5
              rw [hxl.out]
              omega)
          have hcond : (p < n ∧ decide (4 < (n' : Int)) = false) ∨ (¬ p < n ∧ True) := by
            rcases Nat.lt_or_ge p n with h | h
            · exact .inl ⟨h, decide_eq_false (by omega)⟩
            · exact .inr ⟨by omega, trivial⟩
          clear hbig
          rcases hcond with ⟨hd1, hd2⟩ | ⟨hd1, hd2⟩
          all_goals
            go_wp2
            go_loopw [43, 7, 2] (fun e _ _ wr => ∃ t : Nat, t ≤ n' ∧ e = .int .i64 t ∧ okL (((q.loc ++ [q.com]).take p).flatten ++ xs.take t) = true ∧ Blk wr gs 42 (marks (((q.loc ++ [q.com]).take p).flatten ++ xs.take t)) ∧
              Own wr w.heap.size 24 (lt B) (.slice (some ⟨b3, o3, none⟩) (n + 1) c3) (q.loc ++ [q.com]) ∧ Blk wr w.heap.size 26 #[.slice A n c, .slice C m d] ∧ Below w.heap.size w wr ∧ Below B w4 wr) (fun e _ _ _ => n' - (intOf e).toNat)
            case atStart => exact ⟨0, Nat.zero_le _, rfl, by simpa using HOK.out, by simpa using hs4, HOW4.out, hk4, hb4, Below.refl _ _⟩
            case round =>
              obtain ⟨w5, rfl⟩ : ∃ w5 : World, w5 = wr := ⟨_, rfl⟩
              obtain ⟨t, ht, rfl, hok5, hs5, hown5, hk5, hb5, hbB5⟩ := hrel
              have HOK5 := Lib.hid hok5
              have HOW5 := Lib.hid hown5
              clear hok5 hown5
              have hz5 := hb5.size
              by_cases htn : t < n'
              · obtain ⟨b6, o6, rfl, hbb6, x, hx6, hcx⟩ := (HSX.out.below hbB5).int htn
                obtain ⟨rest, hrest⟩ := rows_cut HX.out hx6
                have HR := Lib.hid hrest
                have HX6 := Lib.hid hx6
                clear hrest hx6
                have HBAD : Hid (okI x = false ∨ (((q.loc ++ [q.com]).take p).flatten ++ xs.take t).contains x = true → validQ q = false) := Lib.hid (by
                  intro hb
                  have h6 : okL (q.loc ++ [q.com]).flatten = false := by rw [HR.out]; exact okL_stop (okL_bad hb)
                  cases hv : validQ q with
                  | false => rfl
                  | true =>
                    have h7 := (valid_loc hv).2.2.2
                    unfold allQ at h7
                    rw [okL_comm] at h7
                    rw [List.flatten_append, List.flatten_cons, List.flatten_nil, List.append_nil, h7] at h6
                    cases h6)
                by_cases hlo : x < 0
                · have hd3 : decide (x < 0) = true := decide_eq_true hlo
                  have hr := Lib.hid (HBAD.out (.inl (okI_lo hlo)))
                  go_wp2
                  go_ret
                  exact RetB.mk (bool_eq hr.out.symm) hb5
                · by_cases hhi : 8 ≤ x
                  · have hd3 : decide (x < 0) = false := decide_eq_false hlo
                    have hd4 : decide (8 ≤ x) = true := decide_eq_true hhi
                    have hr := Lib.hid (HBAD.out (.inl (okI_hi hhi)))
                    go_wp2
                    go_ret
                    exact RetB.mk (bool_eq hr.out.symm) hb5
                  · obtain ⟨y, rfl⟩ : ∃ y : Nat, x = (y : Int) := ⟨x.toNat, by omega⟩
                    have hd3 : decide ((y : Int) < 0) = false := decide_eq_false hlo
                    have hd4 : decide (8 ≤ (y : Int)) = false := decide_eq_false hhi
                    have hy8 : y < 8 := by omega
                    have hiy : (y : Int) < 8 := by omega
                    clear hlo hhi
                    cases hse : (((q.loc ++ [q.com]).take p).flatten ++ xs.take t).contains (y : Int) with
                    | true =>
                      have hcs : w5.cell? ⟨gs, y, none⟩ = some (.bool true) := by rw [← hse]; exact hs5.at_ y (marks_at hy8)
                      have hr := Lib.hid (HBAD.out (.inr hse))
                      clear hse
                      go_wp2
                      go_ret
                      exact RetB.mk (bool_eq hr.out.symm) hb5
                    | false =>
                      have hcs : w5.cell? ⟨gs, y, none⟩ = some (.bool false) := by rw [← hse]; exact hs5.at_ y (marks_at hy8)
                      have hfz : w5.frozen? ⟨gs, y, none⟩ = false := hs5.frozen y
                      have HSE := Lib.hid hse
                      clear hse
                      have HYO := Lib.hid (okI_mk (x := (y : Int)) (by omega) hiy)
                      go_wp2
                      go_roundw
                      case rel => exact ⟨t + 1, by omega, by go_num, by rw [take_snoc HX6.out, ← List.append_assoc]; exact okL_snoc HOK5.out HYO.out HSE.out, by rw [take_snoc HX6.out, ← List.append_assoc, ← marks_set hy8]; exact hs5.set_ y _, HOW5.out.setCell _ (by show ¬ gs < B; omega) HNE.out, hk5.far (by show w.heap.size ≠ gs; omega) _, hb5.setCell (by show w.heap.size ≤ gs; omega) _, hbB5.setCell (by show B ≤ gs; omega) _⟩
                      case measure => simp [intOf]; omega
              · obtain rfl : t = n' := by omega
                go_wp2
                go_roundw
                case rel => exact ⟨p + 1, by omega, by go_num, by rw [flat_take HX.out, ← List.take_of_length_le (l := xs) (i := t) (by rw [hxl.out]; omega)]; exact HOK5.out, HSM.out, by rw [flat_take HX.out]; rw [List.take_of_length_le (l := xs) (i := t) (by rw [hxl.out]; omega)] at hs5; exact hs5, HOW5.out, hk5, hb5⟩
                case measure => simp [intOf]; omega
      · obtain rfl : p = n + 1 := by omega
        have hr : Hid (validQ q = true) := Lib.hid (by
          rw [List.take_of_length_le (by rw [HLEN.out]; omega)] at HOK
          have h6 := HOK.out
          rw [List.flatten_append, List.flatten_cons, List.flatten_nil, List.append_nil, okL_comm] at h6
          have h7 : fits q.loc = true := fits_yes fun j ys hy => HFIT.out j ys (by have h8 := (List.getElem?_eq_some_iff.1 hy).1; rw [hll.out] at h8; omega) hy
          rw [validQ_ok (by rw [hll.out]; exact h1) (by rw [hll.out]; exact h4) h7]
          exact h6)
        clear HNE
        go_wp2
        go_ret
        exact RetB.mk (bool_eq hr.out.symm) hb4

end Go.Proofs.Ytepcbgbmmmhglaa
