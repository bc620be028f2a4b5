/- The law on New. -/
import Derived.Test.YtepcbgbmmmhglaaQ29
namespace Go.Proofs.Ytepcbgbmmmhglaa
open Go.RowKit

def qOf (r : Option Qs) : Qs := r.getD noQ
def errOf (r : Option Qs) : Int := if r.isSome then 0 else 1
theorem RetAdd.qe {r : Option Qs} {w w' : World} {e : Ending} (h : RetAdd r w e w') : RetQE (qOf r) (errOf r) w e w' := by
  cases r with
  | none => exact h
  | some q => exact h
theorem same_any (w : World) (B n c m d n' m' c' d' : Nat) (A C A' C' : Option Addr) (q : Qs) (hl : Sl w (lt B) A n q.loc) (hc : Sl w (lt B) C m q.com) (hl' : Sl w (lt B) A' n' q.loc) (hc' : Sl w (lt B) C' m' q.com) (hn : n ≤ maxLen) (hm : m ≤ maxLen) (hB : B ≤ w.heap.size) :
    Calls Try.prog 12 #[.agg #[.slice A n c, .slice C m d], .agg #[.slice A' n' c', .slice C' m' d']] w (RetB (.bool true) w) := by
  obtain rfl : n' = n := hl'.1.symm.trans hl.1
  obtain rfl : m' = m := hc'.1.symm.trans hc.1
  exact same_yes w B n' c m' d c' d' A C A' C' q hl hc hl' hc' hn hm hB

set_option maxRecDepth 100000 in
set_option maxHeartbeats 4000000 in
theorem law_made (w : World) (p : Int) : Calls Try.prog 3 #[.int .i64 p] w (RetB (.bool true) w) := by
  obtain ⟨r, hr⟩ : ∃ r, newR p = r := ⟨_, rfl⟩
  obtain ⟨q, hq⟩ : ∃ q, q = qOf r := ⟨_, rfl⟩
  obtain ⟨E, hE⟩ : ∃ E, E = errOf r := ⟨_, rfl⟩
  have HN : ∀ w, Calls Try.prog 10 #[.int .i64 p] w (RetQE q E w) := fun w => (new_any w p).mono fun e w' h => by rw [hr] at h; rw [hq, hE]; exact h.qe
  have HR : ∀ w, Calls Try.prog 11 #[.int .i64 p] w (RetQE q E w) := fun w => (refNew_any w p).mono fun e w' h => by rw [hr] at h; rw [hq, hE]; exact h.qe
  have HN := Lib.hid HN
  have HR := Lib.hid HR
  clear hr hq hE
  have hee : (E == E) = true := beq_self_eq_true E
  go_enter Try.func3, Try.ntmps3
  go_wp2_with fail
  refine (awake_any w).mono ?_
  rintro e w1 ⟨rfl, hb1⟩
  go_wp2_with fail
  refine (HN.out w1).mono ?_
  rintro e w2 ⟨A, n, c, C, m, d, rfl, hn1, hn2, hm1, hm2, hsl, hsc, hb2⟩
  go_upto_region 4 with fail
  obtain ⟨g1, hg1⟩ : ∃ g1, g1 = w2.heap.size := ⟨_, rfl⟩
  obtain ⟨w3, hw3⟩ : ∃ w3, w3 = w2.alloc (.cells #[.slice A n c, .slice C m d] 26) := ⟨_, rfl⟩
  rw [← hw3, ← hg1]
  have hk3 : Blk w3 g1 26 #[.slice A n c, .slice C m d] := by rw [hw3]; exact heap_alloc_new' _ _ hg1
  have hsl3 : Sl w3 (lt w2.heap.size) A n q.loc := by rw [hw3]; exact hsl.alloc_ (fun b h => h) _
  have hsc3 : Sl w3 (lt w2.heap.size) C m q.com := by rw [hw3]; exact hsc.alloc_ (fun b h => h) _
  have hz12 := hb2.size
  have hz1 := hb1.size
  have hb3 : Below w.heap.size w w3 := by rw [hw3]; exact (hb1.trans (hb2.mono hz1)).alloc (by omega) _
  have hz23 : w2.heap.size ≤ w3.heap.size := by rw [hw3]; simp
  clear hw3 hg1 hsl hsc
  go_wp2_with fail
  refine (HR.out w3).mono ?_
  rintro e w4 ⟨A', n', c', C', m', d', rfl, hn1', hn2', hm1', hm2', hsl', hsc', hb4⟩
  have hz34 := hb4.size
  have hk4 := hk3.below hb4 hk3.lt
  have hsl4 := hsl3.below (hb4.mono hz23)
  have hsc4 := hsc3.below (hb4.mono hz23)
  have hb4' := hb3.trans (hb4.mono hb3.size)
  go_upto_region 5 with fail
  obtain ⟨g2, hg2⟩ : ∃ g2, g2 = w4.heap.size := ⟨_, rfl⟩
  obtain ⟨w5, hw5⟩ : ∃ w5, w5 = w4.alloc (.cells #[.slice A' n' c', .slice C' m' d'] 26) := ⟨_, rfl⟩
  rw [← hw5, ← hg2]
  have hk5 : Blk w5 g1 26 #[.slice A n c, .slice C m d] := by rw [hw5]; exact hk4.alloc _
  have hk6 : Blk w5 g2 26 #[.slice A' n' c', .slice C' m' d'] := by rw [hw5]; exact heap_alloc_new' _ _ hg2
  have hs1 : Sl w5 (lt w4.heap.size) A n q.loc := by rw [hw5]; exact (hsl4.mono (by omega)).alloc_ (fun b h => h) _
  have hs2 : Sl w5 (lt w4.heap.size) C m q.com := by rw [hw5]; exact (hsc4.mono (by omega)).alloc_ (fun b h => h) _
  have hs3 : Sl w5 (lt w4.heap.size) A' n' q.loc := by rw [hw5]; exact hsl'.alloc_ (fun b h => h) _
  have hs4 : Sl w5 (lt w4.heap.size) C' m' q.com := by rw [hw5]; exact hsc'.alloc_ (fun b h => h) _
  have hb5 : Below w.heap.size w w5 := by rw [hw5]; exact hb4'.alloc (by have := hb4'.size; omega) _
  have hz45 : w4.heap.size ≤ w5.heap.size := by rw [hw5]; simp
  clear hw5 hg2
  have e0 : w5.cell? ⟨g1, 0, none⟩ = some (.slice A n c) := hk5.at_ 0 rfl
  have e1 : w5.cell? ⟨g1, 1, none⟩ = some (.slice C m d) := hk5.at_ 1 rfl
  have e2 : w5.cell? ⟨g2, 0, none⟩ = some (.slice A' n' c') := hk6.at_ 0 rfl
  have e3 : w5.cell? ⟨g2, 1, none⟩ = some (.slice C' m' d') := hk6.at_ 1 rfl
  go_wp2_with fail
  refine (same_any w5 w4.heap.size n c m d n' m' c' d' A C A' C' q hs1 hs2 hs3 hs4 (Nat.le_trans hn1 hn2) (Nat.le_trans hm1 hm2) hz45).mono ?_
  rintro e w6 ⟨rfl, hb6⟩
  have hb7 := hb5.trans (hb6.mono hb5.size)
  go_wp2
  go_ret
  exact RetB.mk rfl hb7

end Go.Proofs.Ytepcbgbmmmhglaa
