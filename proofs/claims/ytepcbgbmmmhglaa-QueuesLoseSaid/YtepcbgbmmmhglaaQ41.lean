/- Add and Next keep every queued goroutine exactly once. Plain. -/
import Derived.Test.YtepcbgbmmmhglaaQ39
namespace Go.Proofs.Ytepcbgbmmmhglaa
open Go.RowKit

theorem okL_iff {l : List Int} : okL l = true ↔ ∀ x : Int, l.count x ≤ 1 ∧ (0 < l.count x → okI x = true) := by
  unfold okL
  rw [Bool.and_eq_true, decide_eq_true_iff, List.nodup_iff_count, List.all_eq_true]
  constructor
  · rintro ⟨h1, h2⟩ x
    exact ⟨h2 x, fun h => h1 x (List.count_pos_iff.1 h)⟩
  · intro h
    exact ⟨fun x hx => (h x).2 (List.count_pos_iff.2 hx), fun x => (h x).1⟩
theorem count_set : ∀ {xss : List (List Int)} {p : Nat} {own xs : List Int} (x : Int), xss[p]? = some own → (xss.set p xs).flatten.count x + own.count x = xss.flatten.count x + xs.count x
  | [], _, _, _, _, h => by simp at h
  | ys :: xss, 0, own, xs, x, h => by
    simp only [List.getElem?_cons_zero, Option.some.injEq] at h
    subst h
    simp only [List.set_cons_zero, List.flatten_cons, List.count_append]
    omega
  | ys :: xss, p + 1, own, xs, x, h => by
    have ih := count_set (xss := xss) (p := p) (own := own) (xs := xs) x (by simpa using h)
    simp only [List.set_cons_succ, List.flatten_cons, List.count_append]
    omega
theorem fits_set {xss : List (List Int)} {p : Nat} {xs : List Int} (h : fits xss = true) (hx : xs.length ≤ 4) : fits (xss.set p xs) = true := by
  refine fits_yes fun j ys hy => ?_
  rw [List.getElem?_set] at hy
  split at hy
  · split at hy
    · injection hy with hy
      subst hy
      exact hx
    · cases hy
  · exact fits_at h hy
theorem count_take_drop (l : List Int) (k : Nat) (x : Int) : (l.take k).count x + (l.drop k).count x = l.count x := by
  rw [← List.count_append, List.take_append_drop]

/-- Valid run queues are those that have the right sizes, and every number at most once. -/
theorem validQ_iff {q : Qs} : validQ q = true ↔ (1 ≤ q.loc.length ∧ q.loc.length ≤ 4) ∧ fits q.loc = true ∧ ∀ x : Int, (allQ q).count x ≤ 1 ∧ (0 < (allQ q).count x → okI x = true) := by
  rw [← okL_iff]
  constructor
  · intro h
    obtain ⟨h1, h2, h3, h4⟩ := valid_loc h
    exact ⟨⟨h1, h2⟩, h3, h4⟩
  · rintro ⟨⟨h1, h2⟩, h3, h4⟩
    rw [validQ_ok h1 h2 h3]
    exact h4

/-- What Add does. -/
theorem add_counts {q a : Qs} {p g : Int} (h : addQ q p g = some a) : validQ q = true ∧ validQ a = true ∧ (allQ q).count g = 0 ∧ (allQ a).count g = 1 ∧ ∀ x : Int, ¬ x = g → (allQ a).count x = (allQ q).count x := by
  rcases addQ_cases q p g with hb | ⟨hv, h0, h8, hq, k, own, rfl, ho⟩
  · rw [addQ_bad hb] at h
    cases h
  · have hc0 : (allQ q).count g = 0 := by
      rw [queuedQ_all] at hq
      refine List.count_eq_zero.2 fun hm => ?_
      rw [List.contains_iff_mem.2 hm] at hq
      cases hq
    obtain ⟨⟨v1, v2⟩, v3, v4⟩ := validQ_iff.1 hv
    have key : a.loc.length = q.loc.length ∧ fits a.loc = true ∧ ∀ x : Int, (allQ a).count x = (allQ q).count x + [g].count x := by
      by_cases hl : own.length < 4
      · rw [addQ_few hv ho h0 h8 hq hl] at h
        obtain rfl := Option.some.inj h
        refine ⟨by simp, fits_set v3 (by simp; omega), fun x => ?_⟩
        have h1 := count_set (xs := own ++ [g]) x ho
        rw [List.count_append] at h1
        unfold allQ
        simp only [List.count_append]
        omega
      · rw [addQ_many hv ho h0 h8 hq hl] at h
        obtain rfl := Option.some.inj h
        have h4 := fits_at v3 ho
        refine ⟨by simp, fits_set v3 (by simp; omega), fun x => ?_⟩
        have h1 := count_set (xs := own.drop 2) x ho
        have h2 := count_take_drop own 2 x
        unfold allQ
        simp only [List.count_append]
        omega
    obtain ⟨k1, k2, k3⟩ := key
    have hgg : [g].count g = 1 := by simp
    have hxg : ∀ x : Int, ¬ x = g → [g].count x = 0 := fun x hx => List.count_eq_zero.2 (by simpa using hx)
    refine ⟨hv, validQ_iff.2 ⟨⟨by omega, by omega⟩, k2, fun x => ?_⟩, hc0, by rw [k3, hc0, hgg], fun x hx => by rw [k3, hxg x hx]; rfl⟩
    by_cases hx : x = g
    · subst hx
      exact ⟨by rw [k3, hc0, hgg]; exact Nat.le_refl _, fun _ => okI_mk h0 h8⟩
    · rw [k3, hxg x hx]
      exact v4 x
/-- What Next does. -/
theorem next_counts {q b : Qs} {p r g : Int} (h : nextQ q p r = some (b, g)) : validQ q = true ∧ validQ b = true ∧ (allQ q).count g = 1 ∧ (allQ b).count g = 0 ∧ ∀ x : Int, ¬ x = g → (allQ b).count x = (allQ q).count x := by
  rcases nextQ_cases q p r with hb | ⟨hv, k, t, own, rfl, rfl, ho⟩
  · rw [nextQ_bad hb] at h
    cases h
  · obtain ⟨⟨v1, v2⟩, v3, v4⟩ := validQ_iff.1 hv
    have key : b.loc.length = q.loc.length ∧ fits b.loc = true ∧ ∀ x : Int, (allQ q).count x = (allQ b).count x + [g].count x := by
      have h4 := fits_at v3 ho
      cases hown : own with
      | cons y rest =>
        rw [hown] at ho h4
        rw [nextQ_own hv ho] at h
        simp only [Option.some.injEq, Prod.mk.injEq] at h
        obtain ⟨rfl, rfl⟩ := h
        refine ⟨by simp, fits_set v3 (by simp at h4; omega), fun x => ?_⟩
        have h1 := count_set (xs := rest) x ho
        rw [show y :: rest = [y] ++ rest from rfl, List.count_append] at h1
        unfold allQ
        simp only [List.count_append]
        omega
      | nil =>
        rw [hown] at ho
        cases hc : q.com with
        | cons y rest =>
          rw [nextQ_com hv ho hc] at h
          simp only [Option.some.injEq, Prod.mk.injEq] at h
          obtain ⟨rfl, rfl⟩ := h
          refine ⟨rfl, v3, fun x => ?_⟩
          unfold allQ
          rw [hc, show y :: rest = [y] ++ rest from rfl]
          simp only [List.count_append]
          omega
        | nil =>
          rw [nextQ_steal hv ho hc] at h
          unfold stealQ at h
          split at h
          · rename_i i hi
            rw [List.find?_range_eq_some] at hi
            obtain ⟨h1, h2, -⟩ := hi
            obtain ⟨v, hve⟩ : ∃ v, v = victim q.loc.length t i := ⟨_, rfl⟩
            rw [← hve] at h h1
            have hvl : v < q.loc.length := by rw [hve]; exact Nat.mod_lt _ (by omega)
            obtain ⟨l, hl⟩ : ∃ l, q.loc[v]? = some l := ⟨_, List.getElem?_eq_getElem hvl⟩
            rw [List.getD_eq_getElem?_getD, hl, Option.getD_some] at h h1
            simp only [Option.some.injEq, Prod.mk.injEq] at h
            obtain ⟨rfl, rfl⟩ := h
            have hl4 := fits_at v3 hl
            have hlp : 0 < l.length := by
              cases l with
              | nil => simp at h1
              | cons a l => simp
            have hkv : ¬ v = k := by
              intro e
              subst e
              rw [ho] at hl
              injection hl with hl
              subst hl
              simp at hlp
            refine ⟨by simp [takeAt], fits_set (fits_set v3 (by simp; omega)) (by simp; omega), fun x => ?_⟩
            have c1 := count_set (xs := l.drop (halfUp l)) x hl
            have c2 := count_set (xss := q.loc.set v (l.drop (halfUp l))) (xs := (l.take (halfUp l)).drop 1) (own := []) (p := k) x (by rw [List.getElem?_set_ne hkv]; exact ho)
            have c3 := count_take_drop l (halfUp l) x
            have c4 := count_take_drop (l.take (halfUp l)) 1 x
            have c5 : (l.take (halfUp l)).take 1 = [l.headD 0] := by
              have hh := halfUp_pos hlp
              cases l with
              | nil => simp at hlp
              | cons a l =>
                obtain ⟨z, hz⟩ : ∃ z, halfUp (a :: l) = z + 1 := ⟨halfUp (a :: l) - 1, by omega⟩
                rw [hz]
                rfl
            rw [c5] at c4
            simp only [List.count_nil] at c2
            unfold takeAt allQ
            simp only [List.count_append]
            omega
          · cases h
    obtain ⟨k1, k2, k3⟩ := key
    have hgg : [g].count g = 1 := by simp
    have hxg : ∀ x : Int, ¬ x = g → [g].count x = 0 := fun x hx => List.count_eq_zero.2 (by simpa using hx)
    have hg1 := k3 g
    have hg2 := (v4 g).1
    refine ⟨hv, validQ_iff.2 ⟨⟨by omega, by omega⟩, k2, fun x => ?_⟩, by omega, by omega, fun x hx => by have := k3 x; rw [hxg x hx] at this; omega⟩
    have h5 := k3 x
    have h6 := v4 x
    exact ⟨by omega, fun hp => h6.2 (by omega)⟩

theorem count_b (w : World) (F : Nat → Prop) (n c : Nat) {A : Option Addr} {xs : List Int} {y z : Int} (hz : ((xs.count y : Nat) : Int) = z) (hs : Sl w F A n xs) (hn : n ≤ maxLen) :
    Calls Try.prog 21 #[.slice A n c, .int .i64 y] w (Ret (.int .i64 z) w) := by
  subst hz
  exact count_any w F n c A xs y hs hn

end Go.Proofs.Ytepcbgbmmmhglaa
