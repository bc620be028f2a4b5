/- The document's example. -/
import Derived.Test.YtepcbgbmmmhglaaQ28
namespace Go.Proofs.Ytepcbgbmmmhglaa
open Go.RowKit

def wakeQ : Nat → Qs
  | 0 => ⟨[[], []], []⟩
  | 1 => ⟨[[0], []], []⟩
  | 2 => ⟨[[0, 1], []], []⟩
  | 3 => ⟨[[0, 1, 2], []], []⟩
  | 4 => ⟨[[0, 1, 2, 3], []], []⟩
  | _ => ⟨[[2, 3], []], [0, 1, 4]⟩
theorem wake_good : ∀ (k : Nat), k < 5 → ∃ own, (wakeQ k).loc[0]? = some own ∧ validQ (wakeQ k) = true ∧ queuedQ (wakeQ k) (k : Int) = false ∧ addQ (wakeQ k) ((0 : Nat) : Int) (k : Int) = some (wakeQ (k + 1))
  | 0, _ => ⟨_, rfl, rfl, rfl, rfl⟩
  | 1, _ => ⟨_, rfl, rfl, rfl, rfl⟩
  | 2, _ => ⟨_, rfl, rfl, rfl, rfl⟩
  | 3, _ => ⟨_, rfl, rfl, rfl, rfl⟩
  | 4, _ => ⟨_, rfl, rfl, rfl, rfl⟩
  | k + 5, h => absurd h (by omega)
theorem wake_len : ∀ k : Nat, (wakeQ k).loc.length = 2
  | 0 => rfl
  | 1 => rfl
  | 2 => rfl
  | 3 => rfl
  | 4 => rfl
  | _ + 5 => rfl
theorem wake_next : nextQ (wakeQ 5) ((1 : Nat) : Int) ((0 : Nat) : Int) = some (⟨[[2, 3], []], [1, 4]⟩, 0) := rfl

theorem Sl.alloc_ {α : Type} [Rep α] {w : World} {F : Nat → Prop} {A : Option Addr} {n : Nat} {xs : List α} (h : Sl w F A n xs) (hF : ∀ b, F b → b < w.heap.size) (O : Obj) : Sl (w.alloc O) F A n xs :=
  h.keep fun p hp => World.cell?_alloc_lt w O p (hF _ hp)
theorem Sl.set_ {α : Type} [Rep α] {w : World} {F : Nat → Prop} {A : Option Addr} {n : Nat} {xs : List α} (h : Sl w F A n xs) {g o : Nat} (hF : ¬ F g) (u : Value) : Sl (w.setCell ⟨g, o, none⟩ u) F A n xs :=
  h.keep fun p hp => World.cell?_setCell_other w ⟨g, o, none⟩ p u fun e => hF (by rw [← e] at hp; exact hp)
theorem sl_ints {w : World} {F : Nat → Prop} {g n : Nat} {t : TypeId} {cs : Array Value} {xs : List Int} (hb : Blk w g t cs) (hF : F g) (hn : xs.length = n) (h : ∀ (i : Nat) (x : Int), xs[i]? = some x → cs[i]? = some (.int .i64 x)) : Sl w F (some ⟨g, 0, none⟩) n xs := by
  refine ⟨hn, fun _ => ⟨g, 0, rfl, hF, fun i x hx => ⟨[.int .i64 x], rfl, fun j u hj => ?_⟩⟩⟩
  cases j with
  | succ j => simp at hj
  | zero =>
    simp only [List.getElem?_cons_zero, Option.some.injEq] at hj
    subst hj
    show w.cell? ⟨g, 0 + i * 1 + 0, none⟩ = _
    rw [Nat.zero_add, Nat.add_zero, Nat.mul_one]
    exact hb.at_ i (h i x hx)
theorem sl_rows {w : World} {F : Nat → Prop} {g n : Nat} {t : TypeId} {cs : Array Value} {xss : List (List Int)} (hb : Blk w g t cs) (hF : F g) (hn : xss.length = n) (h : ∀ (i : Nat) (xs : List Int), xss[i]? = some xs → ∃ A c, cs[i]? = some (.slice A xs.length c) ∧ xs.length ≤ c ∧ c ≤ maxLen ∧ Sl w F A xs.length xs) : Sl w F (some ⟨g, 0, none⟩) n xss := by
  refine ⟨hn, fun _ => ⟨g, 0, rfl, hF, fun i x hx => ?_⟩⟩
  obtain ⟨A, c, h1, h2, h3, h4⟩ := h i x hx
  refine ⟨[.slice A x.length c], ⟨A, _, c, rfl, h2, h3, h4⟩, fun j u hj => ?_⟩
  cases j with
  | succ j => simp at hj
  | zero =>
    simp only [List.getElem?_cons_zero, Option.some.injEq] at hj
    subst hj
    show w.cell? ⟨g, 0 + i * 1 + 0, none⟩ = _
    rw [Nat.zero_add, Nat.add_zero, Nat.mul_one]
    exact hb.at_ i h1

set_option maxRecDepth 100000 in
set_option maxHeartbeats 8000000 in
theorem awake_any (w : World) : Calls Try.prog 9 #[] w (RetB (.bool true) w) := by
  have H2 : Hid (Calls Try.prog 10 #[.int .i64 2] w (RetQE (newQ 2) 0 w)) := new_good w 2 (by omega) (by omega)
  go_enter Try.func9, Try.ntmps9
  go_wp2_with fail
  refine H2.out.mono ?_
  rintro e w1 ⟨A, n, c, C, m, d, rfl, hn1, hn2, hm1, hm2, hsl, hsc, hb1⟩
  have hz1 := hb1.size
  go_upto_region 2 with fail
  obtain ⟨g1, hg1⟩ : ∃ g1, g1 = w1.heap.size := ⟨_, rfl⟩
  obtain ⟨w2, hw2⟩ : ∃ w2, w2 = w1.alloc (.cells #[.slice A n c, .slice C m d] 26) := ⟨_, rfl⟩
  rw [← hw2, ← hg1]
  have hk2 : Blk w2 g1 26 #[.slice A n c, .slice C m d] := by rw [hw2]; exact heap_alloc_new' _ _ hg1
  have hb2 : Below w.heap.size w w2 := by rw [hw2]; exact hb1.alloc hz1 _
  have hsl2 : Sl w2 (lt g1) A n (wakeQ 0).loc := by rw [hw2, hg1]; exact hsl.alloc_ (fun b h => h) _
  have hsc2 : Sl w2 (lt g1) C m (wakeQ 0).com := by rw [hw2, hg1]; exact hsc.alloc_ (fun b h => h) _
  have hg1w : w.heap.size ≤ g1 := by rw [hg1]; exact hz1
  clear hw2 hg1 hsl hsc hb1 hz1
  have HS : Hid (∃ A n c C m d F, Blk w2 g1 26 #[.slice A n c, .slice C m d] ∧ n ≤ c ∧ c ≤ maxLen ∧ m ≤ d ∧ d ≤ maxLen ∧ Sl w2 F A n (wakeQ 0).loc ∧ Sl w2 F C m (wakeQ 0).com ∧ ¬ F g1 ∧ (∀ b, F b → b < w2.heap.size)) := ⟨A, n, c, C, m, d, lt g1, hk2, hn1, hn2, hm1, hm2, hsl2, hsc2, Nat.lt_irrefl _, fun b h => Nat.lt_trans h hk2.lt⟩
  clear hk2 hsl2 hsc2 hn1 hn2 hm1 hm2
  go_wp2
  go_loopw [3, 4, 5] (fun i _ _ wr => ∃ k : Nat, k ≤ 5 ∧ i = .int .i64 k ∧ Below w.heap.size w wr ∧ ∃ A n c C m d F, Blk wr g1 26 #[.slice A n c, .slice C m d] ∧ n ≤ c ∧ c ≤ maxLen ∧ m ≤ d ∧ d ≤ maxLen ∧ Sl wr F A n (wakeQ k).loc ∧ Sl wr F C m (wakeQ k).com ∧ ¬ F g1 ∧ (∀ b, F b → b < wr.heap.size)) (fun i _ _ _ => 5 - (intOf i).toNat)
  case atStart => exact ⟨0, by omega, rfl, hb2, HS.out⟩
  case round =>
    obtain ⟨w3, rfl⟩ : ∃ w3 : World, w3 = wr := ⟨_, rfl⟩
    obtain ⟨k, hk, rfl, hb3, A, n, c, C, m, d, F, hk3, hn1, hn2, hm1, hm2, hsl, hsc, hF1, hF2⟩ := hrel
    clear hb2 HS
    have hz3 := hb3.size
    obtain rfl : n = 2 := by rw [← hsl.1, wake_len]
    have a0 : w3.cell? ⟨g1, 0, none⟩ = some (.slice A 2 c) := hk3.at_ 0 rfl
    have a1 : w3.cell? ⟨g1, 1, none⟩ = some (.slice C m d) := hk3.at_ 1 rfl
    by_cases hlt : k < 5
    · obtain ⟨own, o1, o2, o3, o4⟩ := wake_good k hlt
      have HA : Hid (Calls Try.prog 16 #[.agg #[.slice A 2 c, .slice C m d], .int .i64 0, .int .i64 (k : Int)] w3 (RetQF (wakeQ (k + 1)) 0 w3)) := (add_good w3 w3.heap.size 2 c m d A C (wakeQ k) 0 k own (hsl.wide hF2) (hsc.wide hF2) (by unfold maxLen; omega) hm1 hm2 (Nat.le_refl _) o2 o1 (by omega) (by omega) o3 (wakeQ (k + 1)) o4)
      clear o1 o2 o3 o4 hsl hsc
      go_wp2_with fail
      refine HA.out.mono ?_
      rintro e w4 ⟨A', n', c', C', m', d', rfl, hn1', hn2', hm1', hm2', hsl', hsc', hb4⟩
      have hz4 := hb4.size
      have hg4 := Nat.lt_of_lt_of_le hk3.lt hz4
      have hk4 := hk3.below hb4 hk3.lt
      have hno : ¬ fr w3.heap.size w4.heap.size g1 := fun h => absurd h.1 (Nat.not_le.2 hk3.lt)
      clear hF1 hF2 hk3 a0 a1
      go_upto_region 8 with fail
      obtain ⟨g4, hg4'⟩ : ∃ g4, g4 = w4.heap.size := ⟨_, rfl⟩
      obtain ⟨w5, hw5⟩ : ∃ w5, w5 = w4.alloc (.cells #[.slice A' n' c', .slice C' m' d'] 26) := ⟨_, rfl⟩
      rw [← hw5, ← hg4']
      have hk5 : Blk w5 g1 26 #[.slice A 2 c, .slice C m d] := by rw [hw5]; exact hk4.alloc _
      have hk6 : Blk w5 g4 26 #[.slice A' n' c', .slice C' m' d'] := by rw [hw5]; exact heap_alloc_new' _ _ hg4'
      have hsl5 : Sl w5 (fr w3.heap.size w4.heap.size) A' n' (wakeQ (k + 1)).loc := by rw [hw5]; exact hsl'.alloc_ (fun b h => h.2) _
      have hsc5 : Sl w5 (fr w3.heap.size w4.heap.size) C' m' (wakeQ (k + 1)).com := by rw [hw5]; exact hsc'.alloc_ (fun b h => h.2) _
      have hb5 : Below w.heap.size w w5 := by rw [hw5]; exact (hb3.trans (hb4.mono hz3)).alloc (by omega) _
      have hz5 : w4.heap.size ≤ w5.heap.size := by rw [hw5]; simp
      clear hw5 hg4' hk4
      have b0 : w5.cell? ⟨g1, 0, none⟩ = some (.slice A 2 c) := hk5.at_ 0 rfl
      have b1 : w5.cell? ⟨g1, 1, none⟩ = some (.slice C m d) := hk5.at_ 1 rfl
      have b2 : w5.cell? ⟨g4, 0, none⟩ = some (.slice A' n' c') := hk6.at_ 0 rfl
      have b3 : w5.cell? ⟨g4, 1, none⟩ = some (.slice C' m' d') := hk6.at_ 1 rfl
      have c0 : w5.frozen? ⟨g1, 0, none⟩ = false := hk5.frozen 0
      have c1 : w5.frozen? ⟨g1, 1, none⟩ = false := hk5.frozen 1
      have HREL : Hid (Below w.heap.size w ((w5.setCell ⟨g1, 0, none⟩ (.slice A' n' c')).setCell ⟨g1, 1, none⟩ (.slice C' m' d')) ∧ ∃ A n c C m d F, Blk ((w5.setCell ⟨g1, 0, none⟩ (.slice A' n' c')).setCell ⟨g1, 1, none⟩ (.slice C' m' d')) g1 26 #[.slice A n c, .slice C m d] ∧ n ≤ c ∧ c ≤ maxLen ∧ m ≤ d ∧ d ≤ maxLen ∧ Sl ((w5.setCell ⟨g1, 0, none⟩ (.slice A' n' c')).setCell ⟨g1, 1, none⟩ (.slice C' m' d')) F A n (wakeQ (k + 1)).loc ∧ Sl ((w5.setCell ⟨g1, 0, none⟩ (.slice A' n' c')).setCell ⟨g1, 1, none⟩ (.slice C' m' d')) F C m (wakeQ (k + 1)).com ∧ ¬ F g1 ∧ (∀ b, F b → b < ((w5.setCell ⟨g1, 0, none⟩ (.slice A' n' c')).setCell ⟨g1, 1, none⟩ (.slice C' m' d')).heap.size)) := by
        refine ⟨(hb5.setCell hg1w _).setCell hg1w _, A', n', c', C', m', d', fr w3.heap.size w4.heap.size, (hk5.set_ 0 _).set_ 1 _, hn1', hn2', hm1', hm2', (hsl5.set_ hno _).set_ hno _, (hsc5.set_ hno _).set_ hno _, hno, fun b h => ?_⟩
        have := h.2
        simp
        omega
      clear hsl' hsc' hk5 hk6 hsl5 hsc5
      go_wp2
      go_roundw
      case rel => exact ⟨k + 1, by omega, by go_num, HREL.out⟩
      case measure => simp [intOf]; omega
    · obtain rfl : k = 5 := by omega
      have HN : Hid (Calls Try.prog 18 #[.agg #[.slice A 2 c, .slice C m d], .int .i64 1, .int .i64 0] w3 (RetNext (some (⟨[[2, 3], []], [1, 4]⟩, 0)) w3)) := (next_good w3 w3.heap.size 2 c m d A C (wakeQ 5) 1 0 [] (hsl.wide hF2) (hsc.wide hF2) (by unfold maxLen; omega) hm1 hm2 (Nat.le_refl _) rfl rfl (by omega) _ wake_next)
      go_wp2_with fail
      refine HN.out.mono ?_
      rintro e w4 ⟨A', n', c', C', m', d', rfl, hn1', hn2', hm1', hm2', hsl', hsc', hb4⟩
      have hz4 := hb4.size
      obtain rfl : m = 3 := hsc.1.symm
      obtain rfl : n' = 2 := hsl'.1.symm
      obtain rfl : m' = 2 := hsc'.1.symm
      have hk4 := hk3.below hb4 hk3.lt
      have hq4 := (hsl.wide hF2).below (w' := w4) hb4
      have hr4 := (hsc.wide hF2).below (w' := w4) hb4
      clear HN a0 a1 hk3 hF1 hF2 hsl hsc
      go_upto_region 10 with fail
      obtain ⟨g6, hg6⟩ : ∃ g6, g6 = w4.heap.size := ⟨_, rfl⟩
      obtain ⟨w5, hw5⟩ : ∃ w5, w5 = w4.alloc (.cells #[.slice A' 2 c', .slice C' 2 d'] 26) := ⟨_, rfl⟩
      rw [← hw5, ← hg6]
      have hk5 : Blk w5 g1 26 #[.slice A 2 c, .slice C 3 d] := by rw [hw5]; exact hk4.alloc _
      have hk6 : Blk w5 g6 26 #[.slice A' 2 c', .slice C' 2 d'] := by rw [hw5]; exact heap_alloc_new' _ _ hg6
      have hq5 : Sl w5 (lt w4.heap.size) A 2 (wakeQ 5).loc := by rw [hw5]; exact (hq4.mono hz4).alloc_ (fun b h => h) _
      have hr5 : Sl w5 (lt w4.heap.size) C 3 (wakeQ 5).com := by rw [hw5]; exact (hr4.mono hz4).alloc_ (fun b h => h) _
      have hx5 : Sl w5 (lt w4.heap.size) A' 2 [[(2 : Int), 3], []] := by rw [hw5]; exact hsl'.alloc_ (fun b h => h) _
      have hy5 : Sl w5 (lt w4.heap.size) C' 2 [(1 : Int), 4] := by rw [hw5]; exact hsc'.alloc_ (fun b h => h) _
      have hb5 : Below w.heap.size w w5 := by rw [hw5]; exact (hb3.trans (hb4.mono hz3)).alloc (by omega) _
      have hz5 : w4.heap.size ≤ w5.heap.size := by rw [hw5]; simp
      clear hw5 hg6 hk4 hq4 hr4 hsl' hsc'
      have b0 : w5.cell? ⟨g1, 0, none⟩ = some (.slice A 2 c) := hk5.at_ 0 rfl
      have b1 : w5.cell? ⟨g1, 1, none⟩ = some (.slice C 3 d) := hk5.at_ 1 rfl
      have HK6 := Lib.hid hk6
      have HQ5 := Lib.hid hq5
      have HR5 := Lib.hid hr5
      have HX5 := Lib.hid hx5
      have HY5 := Lib.hid hy5
      have hz6 := hb5.size
      clear hk5 hk6 hq5 hr5 hx5 hy5
      go_wp2_with fail
      obtain ⟨W, hW⟩ : ∃ W, W = (((w5.alloc (.cells #[.int .i64 2, .int .i64 3] 3)).alloc (.cells #[] 3)).alloc (.cells #[.slice (some ⟨w5.heap.size, 0, none⟩) 2 2, .slice (some ⟨w5.heap.size + 1, 0, none⟩) 0 0] 24)).alloc (.cells #[.int .i64 0, .int .i64 1, .int .i64 4] 3) := ⟨_, rfl⟩
      rw [← hW]
      have hbW : Below w5.heap.size w5 W := by
        rw [hW]
        exact ((((Below.refl _ _).alloc (Nat.le_refl _) _).alloc (by simp) _).alloc (by simp; omega) _).alloc (by simp; omega) _
      have hzW : w5.heap.size + 4 ≤ W.heap.size := by rw [hW]; simp
      have hi1 : Blk W w5.heap.size 3 #[.int .i64 2, .int .i64 3] := by rw [hW]; exact (((Blk.new _ _ _).alloc _).alloc _).alloc _
      have hi3 : Blk W (w5.heap.size + 2) 24 #[.slice (some ⟨w5.heap.size, 0, none⟩) 2 2, .slice (some ⟨w5.heap.size + 1, 0, none⟩) 0 0] := by rw [hW]; exact (heap_alloc_new' _ _ (by simp)).alloc _
      have hi4 : Blk W (w5.heap.size + 3) 3 #[.int .i64 0, .int .i64 1, .int .i64 4] := by rw [hW]; exact heap_alloc_new' _ _ (by simp)
      have hs1 : Sl W (lt W.heap.size) (some ⟨w5.heap.size, 0, none⟩) 2 [(2 : Int), 3] := sl_ints hi1 hi1.lt rfl fun i x hx => by
        rcases i with _ | _ | i
        · simp at hx; subst hx; rfl
        · simp at hx; subst hx; rfl
        · simp at hx
      have hs2 : Sl W (lt W.heap.size) (some ⟨w5.heap.size + 3, 0, none⟩) 3 (wakeQ 5).com := sl_ints hi4 hi4.lt rfl fun i x hx => by
        rcases i with _ | _ | _ | i
        · simp [wakeQ] at hx; subst hx; rfl
        · simp [wakeQ] at hx; subst hx; rfl
        · simp [wakeQ] at hx; subst hx; rfl
        · simp [wakeQ] at hx
      have hs3 : Sl W (lt W.heap.size) (some ⟨w5.heap.size + 2, 0, none⟩) 2 (wakeQ 5).loc := sl_rows hi3 hi3.lt rfl fun i xs hx => by
        rcases i with _ | _ | i
        · simp [wakeQ] at hx
          subst hx
          exact ⟨_, 2, rfl, Nat.le_refl _, by unfold maxLen; simp, hs1⟩
        · simp [wakeQ] at hx
          subst hx
          exact ⟨_, 0, rfl, Nat.le_refl _, Nat.zero_le _, Sl.nil⟩
        · simp [wakeQ] at hx
      refine (same_yes W W.heap.size 2 c 3 d 2 3 A C (some ⟨w5.heap.size + 2, 0, none⟩) (some ⟨w5.heap.size + 3, 0, none⟩) (wakeQ 5) ((HQ5.out.below (hbW.mono hz5)).mono (by omega)) ((HR5.out.below (hbW.mono hz5)).mono (by omega)) hs3 hs2 (by unfold maxLen; omega) (by unfold maxLen; omega) (Nat.le_refl _)).mono ?_
      rintro e w7 ⟨rfl, hb7⟩
      have hzW' : w5.heap.size ≤ W.heap.size := by omega
      have hbw7 : Below w5.heap.size w5 w7 := hbW.trans (hb7.mono hzW')
      have hk7 := HK6.out.below hbw7 HK6.out.lt
      have e0 : w7.cell? ⟨g6, 0, none⟩ = some (.slice A' 2 c') := hk7.at_ 0 rfl
      have e1 : w7.cell? ⟨g6, 1, none⟩ = some (.slice C' 2 d') := hk7.at_ 1 rfl
      have HV := Lib.hid (valid_b w7 w4.heap.size 2 c' 2 d' (b := true) A' C' (q := ⟨[[2, 3], []], [1, 4]⟩) rfl (HX5.out.below (hbw7.mono hz5)) (HY5.out.below (hbw7.mono hz5)) hm1' hm2' (Nat.le_trans hz5 hbw7.size))
      clear hW hi1 hi3 hi4 hs1 hs2 hs3 b0 b1
      go_wp2_with fail
      refine HV.out.mono ?_
      rintro e w8 ⟨rfl, hb8⟩
      have hk8 := hk7.below hb8 hk7.lt
      have e2 : w8.cell? ⟨g6, 1, none⟩ = some (.slice C' 2 d') := hk8.at_ 1 rfl
      have hb9 : Below w.heap.size w w8 := hb5.trans ((hbw7.trans (hb8.mono hbw7.size)).mono hz6)
      clear e0 e1
      go_wp2
      go_ret
      exact RetB.mk rfl hb9

end Go.Proofs.Ytepcbgbmmmhglaa
