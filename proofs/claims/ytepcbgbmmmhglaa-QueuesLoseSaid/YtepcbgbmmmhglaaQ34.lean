/- The laws on Add and Next. -/
import Derived.Test.YtepcbgbmmmhglaaQ33
namespace Go.Proofs.Ytepcbgbmmmhglaa
open Go.RowKit

def qOf2 (r : Option (Qs × Int)) : Qs := (r.map (·.1)).getD noQ
def gOf (r : Option (Qs × Int)) : Int := (r.map (·.2)).getD 0
theorem RetNext.qg {r : Option (Qs × Int)} {w w' : World} {e : Ending} (h : RetNext r w e w') : RetQG (qOf2 r) (gOf r) r.isSome w e w' := by
  cases r with
  | none => exact h
  | some q => exact h

set_option maxRecDepth 100000 in
set_option maxHeartbeats 8000000 in
theorem law_add (w : World) (n c m d : Nat) (A C : Option Addr) (q : Qs) (p g : Int) (hl : Sl w (lt w.heap.size) A n q.loc) (hc : Sl w (lt w.heap.size) C m q.com) (hnc : n ≤ c) (hmd : m ≤ d) (hf : Fits q) :
    Calls Try.prog 5 #[.agg #[.slice A n c, .slice C m d], .int .i64 p, .int .i64 g] w (RetB (.bool true) w) := by
  obtain rfl : n = q.loc.length := hl.1.symm
  obtain rfl : m = q.com.length := hc.1.symm
  have hn24 := hf.n
  have hm8 := hf.m
  have hr8 := Lib.hid hf.rows
  clear hf
  obtain ⟨r, hr⟩ : ∃ r, addQ q p g = r := ⟨_, rfl⟩
  obtain ⟨qr, hq⟩ : ∃ qr, qr = qOf r := ⟨_, rfl⟩
  obtain ⟨E, hE⟩ : ∃ E, E = errOf r := ⟨_, rfl⟩
  have HA : ∀ (w : World) (B n c m d : Nat) (A C : Option Addr), Sl w (lt B) A n q.loc → Sl w (lt B) C m q.com → n ≤ maxLen → B ≤ w.heap.size → m ≤ d → d ≤ maxLen → Calls Try.prog 16 #[.agg #[.slice A n c, .slice C m d], .int .i64 p, .int .i64 g] w (RetQE qr E w) := fun w B n c m d A C h1 h2 h3 h4 h5 h6 => (add_any w B n c m d A C q p g h1 h2 h3 h4 h5 h6).mono fun e w' h => by rw [hr] at h; rw [hq, hE]; exact h.qe
  have HR : ∀ (w : World) (B n c m d : Nat) (A C : Option Addr), Sl w (lt B) A n q.loc → Sl w (lt B) C m q.com → n ≤ maxLen → B ≤ w.heap.size → m * 8 ≤ 140737488351232 → Calls Try.prog 17 #[.agg #[.slice A n c, .slice C m d], .int .i64 p, .int .i64 g] w (RetQE qr E w) := fun w B n c m d A C h1 h2 h3 h4 h5 => (refAdd_any w B n c m d A C q p g h1 h2 h3 h4 h5).mono fun e w' h => by rw [hr] at h; rw [hq, hE]; exact h.qe
  clear hr hq hE
  have hee : (E == E) = true := beq_self_eq_true E
  go_enter Try.func5, Try.ntmps5
  go_upto_region 1 with fail
  obtain ⟨k3, hk3⟩ : ∃ k3, k3 = w.heap.size := ⟨_, rfl⟩
  obtain ⟨w0, hw0⟩ : ∃ w0, w0 = w.alloc (.cells #[.slice A q.loc.length c, .slice C q.com.length d] 26) := ⟨_, rfl⟩
  rw [← hw0, ← hk3]
  have b3 : Blk w0 k3 26 #[.slice A q.loc.length c, .slice C q.com.length d] := by rw [hw0]; exact heap_alloc_new' _ _ hk3
  have hb0 : Below w.heap.size w w0 := by rw [hw0]; exact (Below.refl _ _).alloc (Nat.le_refl _) _
  clear hw0 hk3
  go_wp2_with fail
  refine (awake_any w0).mono ?_
  rintro e w1 ⟨rfl, hb1⟩
  have hz0 := hb0.size
  have hb1' := hb0.trans (hb1.mono hz0)
  have b3' := b3.below hb1 b3.lt
  have hz1 := hb1'.size
  have e30 : w1.cell? ⟨k3, 0, none⟩ = some (.slice A q.loc.length c) := b3'.at_ 0 rfl
  have e31 : w1.cell? ⟨k3, 1, none⟩ = some (.slice C q.com.length d) := b3'.at_ 1 rfl
  have HCP := Lib.hid (copy_any w1 w.heap.size q.loc.length c q.com.length d A C q (hl.below hb1') (hc.below hb1') hn24 hm8 hr8.out hz1)
  go_wp2_with fail
  refine HCP.out.mono ?_
  rintro e w2 ⟨v2, rfl, hb2, hown2⟩
  obtain ⟨A2, c2, C2, d2, rfl, hc2, hc2', hd2, hd2', hl2, hm2⟩ := hown2.reads
  clear hown2 HCP
  have hb2' := hb1'.trans (hb2.mono hz1)
  have hz2 := hb2'.size
  have b32 := b3'.below hb2 b3'.lt
  clear e30 e31 b3 b3'
  go_upto_region 4 with fail
  obtain ⟨k7, hk7⟩ : ∃ k7, k7 = w2.heap.size := ⟨_, rfl⟩
  obtain ⟨w3, hw3⟩ : ∃ w3, w3 = w2.alloc (.cells #[.slice A2 q.loc.length c2, .slice C2 q.com.length d2] 26) := ⟨_, rfl⟩
  rw [← hw3, ← hk7]
  have b33 : Blk w3 k3 26 #[.slice A q.loc.length c, .slice C q.com.length d] := by rw [hw3]; exact b32.alloc _
  have b73 : Blk w3 k7 26 #[.slice A2 q.loc.length c2, .slice C2 q.com.length d2] := by rw [hw3]; exact heap_alloc_new' _ _ hk7
  have hl3 : Sl w3 (lt w3.heap.size) A2 q.loc.length q.loc := by rw [hw3]; exact (hl2.alloc_ (fun b h => h) _).mono (by simp)
  have hm3 : Sl w3 (lt w3.heap.size) C2 q.com.length q.com := by rw [hw3]; exact (hm2.alloc_ (fun b h => h) _).mono (by simp)
  have hb3 : Below w.heap.size w w3 := by rw [hw3]; exact hb2'.alloc hz2 _
  have hz3 := hb3.size
  clear hw3 hk7 b32 hl2 hm2
  have e70 : w3.cell? ⟨k7, 0, none⟩ = some (.slice A2 q.loc.length c2) := b73.at_ 0 rfl
  have e71 : w3.cell? ⟨k7, 1, none⟩ = some (.slice C2 q.com.length d2) := b73.at_ 1 rfl
  have HAD := Lib.hid (HA w3 w3.heap.size q.loc.length c2 q.com.length d2 A2 C2 hl3 hm3 (by unfold maxLen; omega) (Nat.le_refl _) hd2 hd2')
  go_wp2_with fail
  refine HAD.out.mono ?_
  rintro e w4 ⟨X, xn, xc, Y, ym, yd, rfl, hx1, hx2, hy1, hy2, hxl, hyl, hb4⟩
  have hb4' := hb3.trans (hb4.mono hz3)
  have hz34 := hb4.size
  have b34 := b33.below hb4 b33.lt
  have b74 := b73.below hb4 b73.lt
  clear HAD e70 e71
  go_upto_region 5 with fail
  obtain ⟨k8, hk8⟩ : ∃ k8, k8 = w4.heap.size := ⟨_, rfl⟩
  obtain ⟨w5, hw5⟩ : ∃ w5, w5 = w4.alloc (.cells #[.slice X xn xc, .slice Y ym yd] 26) := ⟨_, rfl⟩
  rw [← hw5, ← hk8]
  have b35 : Blk w5 k3 26 #[.slice A q.loc.length c, .slice C q.com.length d] := by rw [hw5]; exact b34.alloc _
  have b75 : Blk w5 k7 26 #[.slice A2 q.loc.length c2, .slice C2 q.com.length d2] := by rw [hw5]; exact b74.alloc _
  have b85 : Blk w5 k8 26 #[.slice X xn xc, .slice Y ym yd] := by rw [hw5]; exact heap_alloc_new' _ _ hk8
  have hxl5 : Sl w5 (lt w5.heap.size) X xn qr.loc := by rw [hw5]; exact (hxl.alloc_ (fun b h => h) _).mono (by simp)
  have hyl5 : Sl w5 (lt w5.heap.size) Y ym qr.com := by rw [hw5]; exact (hyl.alloc_ (fun b h => h) _).mono (by simp)
  have hb5 : Below w.heap.size w w5 := by rw [hw5]; exact hb4'.alloc (by omega) _
  have hb35 : Below w3.heap.size w3 w5 := by rw [hw5]; exact hb4.alloc hz34 _
  have hz5 := hb5.size
  clear hw5 hk8 b34 b74 hxl hyl
  have e30 : w5.cell? ⟨k3, 0, none⟩ = some (.slice A q.loc.length c) := b35.at_ 0 rfl
  have e31 : w5.cell? ⟨k3, 1, none⟩ = some (.slice C q.com.length d) := b35.at_ 1 rfl
  have HRD := Lib.hid (HR w5 w.heap.size q.loc.length c q.com.length d A C (hl.below hb5) (hc.below hb5) (by unfold maxLen; omega) hz5 hm8)
  go_wp2_with fail
  refine HRD.out.mono ?_
  rintro e w6 ⟨X', xn', xc', Y', ym', yd', rfl, hx1', hx2', hy1', hy2', hxl', hyl', hb6⟩
  have hb6' := hb5.trans (hb6.mono hz5)
  have hz56 := hb6.size
  have b36 := b35.below hb6 b35.lt
  have b76 := b75.below hb6 b75.lt
  have b86 := b85.below hb6 b85.lt
  clear HRD e30 e31
  go_upto_region 6 with fail
  obtain ⟨k10, hk10⟩ : ∃ k10, k10 = w6.heap.size := ⟨_, rfl⟩
  obtain ⟨w7, hw7⟩ : ∃ w7, w7 = w6.alloc (.cells #[.slice X' xn' xc', .slice Y' ym' yd'] 26) := ⟨_, rfl⟩
  rw [← hw7, ← hk10]
  have b37 : Blk w7 k3 26 #[.slice A q.loc.length c, .slice C q.com.length d] := by rw [hw7]; exact b36.alloc _
  have b77 : Blk w7 k7 26 #[.slice A2 q.loc.length c2, .slice C2 q.com.length d2] := by rw [hw7]; exact b76.alloc _
  have b87 : Blk w7 k8 26 #[.slice X xn xc, .slice Y ym yd] := by rw [hw7]; exact b86.alloc _
  have b97 : Blk w7 k10 26 #[.slice X' xn' xc', .slice Y' ym' yd'] := by rw [hw7]; exact heap_alloc_new' _ _ hk10
  have hxl7' : Sl w7 (lt w7.heap.size) X' xn' qr.loc := by rw [hw7]; exact (hxl'.alloc_ (fun b h => h) _).mono (by simp)
  have hyl7' : Sl w7 (lt w7.heap.size) Y' ym' qr.com := by rw [hw7]; exact (hyl'.alloc_ (fun b h => h) _).mono (by simp)
  have hb57 : Below w5.heap.size w5 w7 := by rw [hw7]; exact hb6.alloc hz56 _
  have hb7 : Below w.heap.size w w7 := hb5.trans (hb57.mono hz5)
  have hb37 : Below w3.heap.size w3 w7 := hb35.trans (hb57.mono hb35.size)
  have hz7 := hb7.size
  clear hw7 hk10 b36 b76 b86 hxl' hyl'
  have hS1 := Lib.hid (same_any w7 w7.heap.size xn xc ym yd xn' ym' xc' yd' X Y X' Y' qr ((hxl5.below hb57).mono hb57.size) ((hyl5.below hb57).mono hb57.size) hxl7' hyl7' (Nat.le_trans hx1 hx2) (Nat.le_trans hy1 hy2) (Nat.le_refl _))
  have e80 : w7.cell? ⟨k8, 0, none⟩ = some (.slice X xn xc) := b87.at_ 0 rfl
  have e81 : w7.cell? ⟨k8, 1, none⟩ = some (.slice Y ym yd) := b87.at_ 1 rfl
  have e90 : w7.cell? ⟨k10, 0, none⟩ = some (.slice X' xn' xc') := b97.at_ 0 rfl
  have e91 : w7.cell? ⟨k10, 1, none⟩ = some (.slice Y' ym' yd') := b97.at_ 1 rfl
  go_wp2_with fail
  refine hS1.out.mono ?_
  rintro e w8 ⟨rfl, hb8⟩
  have b38 := b37.below hb8 b37.lt
  have b78 := b77.below hb8 b77.lt
  have hb8' := hb7.trans (hb8.mono hz7)
  have hb38 : Below w3.heap.size w3 w8 := hb37.trans (hb8.mono hb37.size)
  clear e80 e81 e90 e91 hS1
  have e70 : w8.cell? ⟨k7, 0, none⟩ = some (.slice A2 q.loc.length c2) := b78.at_ 0 rfl
  have e71 : w8.cell? ⟨k7, 1, none⟩ = some (.slice C2 q.com.length d2) := b78.at_ 1 rfl
  have e30 : w8.cell? ⟨k3, 0, none⟩ = some (.slice A q.loc.length c) := b38.at_ 0 rfl
  have e31 : w8.cell? ⟨k3, 1, none⟩ = some (.slice C q.com.length d) := b38.at_ 1 rfl
  have hS2 := Lib.hid (same_any w8 w8.heap.size q.loc.length c2 q.com.length d2 q.loc.length q.com.length c d A2 C2 A C q ((hl3.below hb38).mono hb38.size) ((hm3.below hb38).mono hb38.size) ((hl.below hb8').mono hb8'.size) ((hc.below hb8').mono hb8'.size) (by unfold maxLen; omega) (by unfold maxLen; omega) (Nat.le_refl _))
  go_wp2_with fail
  refine hS2.out.mono ?_
  rintro e w9 ⟨rfl, hb9⟩
  have hb9' := hb8'.trans (hb9.mono hb8'.size)
  go_wp2
  go_ret
  exact RetB.mk rfl hb9'

set_option maxRecDepth 100000 in
set_option maxHeartbeats 8000000 in
theorem law_next (w : World) (n c m d : Nat) (A C : Option Addr) (q : Qs) (p g : Int) (hl : Sl w (lt w.heap.size) A n q.loc) (hc : Sl w (lt w.heap.size) C m q.com) (hnc : n ≤ c) (hmd : m ≤ d) (hf : Fits q) (hg63 : g < 2 ^ 63) :
    Calls Try.prog 6 #[.agg #[.slice A n c, .slice C m d], .int .i64 p, .int .i64 g] w (RetB (.bool true) w) := by
  obtain rfl : n = q.loc.length := hl.1.symm
  obtain rfl : m = q.com.length := hc.1.symm
  have hn24 := hf.n
  have hm8 := hf.m
  have hr8 := Lib.hid hf.rows
  clear hf
  obtain ⟨r, hr⟩ : ∃ r, nextQ q p g = r := ⟨_, rfl⟩
  obtain ⟨qr, hq⟩ : ∃ qr, qr = qOf2 r := ⟨_, rfl⟩
  obtain ⟨E, hE⟩ : ∃ E, E = gOf r := ⟨_, rfl⟩
  obtain ⟨O, hO⟩ : ∃ O, O = r.isSome := ⟨_, rfl⟩
  have HA : ∀ (w : World) (B n c m d : Nat) (A C : Option Addr), Sl w (lt B) A n q.loc → Sl w (lt B) C m q.com → n ≤ maxLen → B ≤ w.heap.size → m ≤ d → d ≤ maxLen → Calls Try.prog 18 #[.agg #[.slice A n c, .slice C m d], .int .i64 p, .int .i64 g] w (RetQG qr E O w) := fun w B n c m d A C h1 h2 h3 h4 h5 h6 => (next_any w B n c m d A C q p g h1 h2 h3 h4 hg63 h5 h6).mono fun e w' h => by rw [hr] at h; rw [hq, hE, hO]; exact h.qg
  have HR : ∀ (w : World) (B n c m d : Nat) (A C : Option Addr), Sl w (lt B) A n q.loc → Sl w (lt B) C m q.com → n ≤ maxLen → B ≤ w.heap.size → m * 8 ≤ 140737488351232 → Calls Try.prog 19 #[.agg #[.slice A n c, .slice C m d], .int .i64 p, .int .i64 g] w (RetQG qr E O w) := fun w B n c m d A C h1 h2 h3 h4 h5 => (refNext_any w B n c m d A C q p g h1 h2 h3 h4 hg63 h5).mono fun e w' h => by rw [hr] at h; rw [hq, hE, hO]; exact h.qg
  clear hr hq hE hO
  have hee : (E == E) = true := beq_self_eq_true E
  have hoo : (O == O) = true := beq_self_eq_true O
  go_enter Try.func6, Try.ntmps6
  go_upto_region 1 with fail
  obtain ⟨k3, hk3⟩ : ∃ k3, k3 = w.heap.size := ⟨_, rfl⟩
  obtain ⟨w0, hw0⟩ : ∃ w0, w0 = w.alloc (.cells #[.slice A q.loc.length c, .slice C q.com.length d] 26) := ⟨_, rfl⟩
  rw [← hw0, ← hk3]
  have b3 : Blk w0 k3 26 #[.slice A q.loc.length c, .slice C q.com.length d] := by rw [hw0]; exact heap_alloc_new' _ _ hk3
  have hb0 : Below w.heap.size w w0 := by rw [hw0]; exact (Below.refl _ _).alloc (Nat.le_refl _) _
  clear hw0 hk3
  go_wp2_with fail
  refine (awake_any w0).mono ?_
  rintro e w1 ⟨rfl, hb1⟩
  have hz0 := hb0.size
  have hb1' := hb0.trans (hb1.mono hz0)
  have b3' := b3.below hb1 b3.lt
  have hz1 := hb1'.size
  have e30 : w1.cell? ⟨k3, 0, none⟩ = some (.slice A q.loc.length c) := b3'.at_ 0 rfl
  have e31 : w1.cell? ⟨k3, 1, none⟩ = some (.slice C q.com.length d) := b3'.at_ 1 rfl
  have HCP := Lib.hid (copy_any w1 w.heap.size q.loc.length c q.com.length d A C q (hl.below hb1') (hc.below hb1') hn24 hm8 hr8.out hz1)
  go_wp2_with fail
  refine HCP.out.mono ?_
  rintro e w2 ⟨v2, rfl, hb2, hown2⟩
  obtain ⟨A2, c2, C2, d2, rfl, hc2, hc2', hd2, hd2', hl2, hm2⟩ := hown2.reads
  clear hown2 HCP
  have hb2' := hb1'.trans (hb2.mono hz1)
  have hz2 := hb2'.size
  have b32 := b3'.below hb2 b3'.lt
  clear e30 e31 b3 b3'
  go_upto_region 4 with fail
  obtain ⟨k7, hk7⟩ : ∃ k7, k7 = w2.heap.size := ⟨_, rfl⟩
  obtain ⟨w3, hw3⟩ : ∃ w3, w3 = w2.alloc (.cells #[.slice A2 q.loc.length c2, .slice C2 q.com.length d2] 26) := ⟨_, rfl⟩
  rw [← hw3, ← hk7]
  have b33 : Blk w3 k3 26 #[.slice A q.loc.length c, .slice C q.com.length d] := by rw [hw3]; exact b32.alloc _
  have b73 : Blk w3 k7 26 #[.slice A2 q.loc.length c2, .slice C2 q.com.length d2] := by rw [hw3]; exact heap_alloc_new' _ _ hk7
  have hl3 : Sl w3 (lt w3.heap.size) A2 q.loc.length q.loc := by rw [hw3]; exact (hl2.alloc_ (fun b h => h) _).mono (by simp)
  have hm3 : Sl w3 (lt w3.heap.size) C2 q.com.length q.com := by rw [hw3]; exact (hm2.alloc_ (fun b h => h) _).mono (by simp)
  have hb3 : Below w.heap.size w w3 := by rw [hw3]; exact hb2'.alloc hz2 _
  have hz3 := hb3.size
  clear hw3 hk7 b32 hl2 hm2
  have e70 : w3.cell? ⟨k7, 0, none⟩ = some (.slice A2 q.loc.length c2) := b73.at_ 0 rfl
  have e71 : w3.cell? ⟨k7, 1, none⟩ = some (.slice C2 q.com.length d2) := b73.at_ 1 rfl
  have HAD := Lib.hid (HA w3 w3.heap.size q.loc.length c2 q.com.length d2 A2 C2 hl3 hm3 (by unfold maxLen; omega) (Nat.le_refl _) hd2 hd2')
  go_wp2_with fail
  refine HAD.out.mono ?_
  rintro e w4 ⟨X, xn, xc, Y, ym, yd, rfl, hx1, hx2, hy1, hy2, hxl, hyl, hb4⟩
  have hb4' := hb3.trans (hb4.mono hz3)
  have hz34 := hb4.size
  have b34 := b33.below hb4 b33.lt
  have b74 := b73.below hb4 b73.lt
  clear HAD e70 e71
  go_upto_region 5 with fail
  obtain ⟨k8, hk8⟩ : ∃ k8, k8 = w4.heap.size := ⟨_, rfl⟩
  obtain ⟨w5, hw5⟩ : ∃ w5, w5 = w4.alloc (.cells #[.slice X xn xc, .slice Y ym yd] 26) := ⟨_, rfl⟩
  rw [← hw5, ← hk8]
  have b35 : Blk w5 k3 26 #[.slice A q.loc.length c, .slice C q.com.length d] := by rw [hw5]; exact b34.alloc _
  have b75 : Blk w5 k7 26 #[.slice A2 q.loc.length c2, .slice C2 q.com.length d2] := by rw [hw5]; exact b74.alloc _
  have b85 : Blk w5 k8 26 #[.slice X xn xc, .slice Y ym yd] := by rw [hw5]; exact heap_alloc_new' _ _ hk8
  have hxl5 : Sl w5 (lt w5.heap.size) X xn qr.loc := by rw [hw5]; exact (hxl.alloc_ (fun b h => h) _).mono (by simp)
  have hyl5 : Sl w5 (lt w5.heap.size) Y ym qr.com := by rw [hw5]; exact (hyl.alloc_ (fun b h => h) _).mono (by simp)
  have hb5 : Below w.heap.size w w5 := by rw [hw5]; exact hb4'.alloc (by omega) _
  have hb35 : Below w3.heap.size w3 w5 := by rw [hw5]; exact hb4.alloc hz34 _
  have hz5 := hb5.size
  clear hw5 hk8 b34 b74 hxl hyl
  have e30 : w5.cell? ⟨k3, 0, none⟩ = some (.slice A q.loc.length c) := b35.at_ 0 rfl
  have e31 : w5.cell? ⟨k3, 1, none⟩ = some (.slice C q.com.length d) := b35.at_ 1 rfl
  have HRD := Lib.hid (HR w5 w.heap.size q.loc.length c q.com.length d A C (hl.below hb5) (hc.below hb5) (by unfold maxLen; omega) hz5 hm8)
  go_wp2_with fail
  refine HRD.out.mono ?_
  rintro e w6 ⟨X', xn', xc', Y', ym', yd', rfl, hx1', hx2', hy1', hy2', hxl', hyl', hb6⟩
  have hb6' := hb5.trans (hb6.mono hz5)
  have hz56 := hb6.size
  have b36 := b35.below hb6 b35.lt
  have b76 := b75.below hb6 b75.lt
  have b86 := b85.below hb6 b85.lt
  clear HRD e30 e31
  go_upto_region 6 with fail
  obtain ⟨k10, hk10⟩ : ∃ k10, k10 = w6.heap.size := ⟨_, rfl⟩
  obtain ⟨w7, hw7⟩ : ∃ w7, w7 = w6.alloc (.cells #[.slice X' xn' xc', .slice Y' ym' yd'] 26) := ⟨_, rfl⟩
  rw [← hw7, ← hk10]
  have b37 : Blk w7 k3 26 #[.slice A q.loc.length c, .slice C q.com.length d] := by rw [hw7]; exact b36.alloc _
  have b77 : Blk w7 k7 26 #[.slice A2 q.loc.length c2, .slice C2 q.com.length d2] := by rw [hw7]; exact b76.alloc _
  have b87 : Blk w7 k8 26 #[.slice X xn xc, .slice Y ym yd] := by rw [hw7]; exact b86.alloc _
  have b97 : Blk w7 k10 26 #[.slice X' xn' xc', .slice Y' ym' yd'] := by rw [hw7]; exact heap_alloc_new' _ _ hk10
  have hxl7' : Sl w7 (lt w7.heap.size) X' xn' qr.loc := by rw [hw7]; exact (hxl'.alloc_ (fun b h => h) _).mono (by simp)
  have hyl7' : Sl w7 (lt w7.heap.size) Y' ym' qr.com := by rw [hw7]; exact (hyl'.alloc_ (fun b h => h) _).mono (by simp)
  have hb57 : Below w5.heap.size w5 w7 := by rw [hw7]; exact hb6.alloc hz56 _
  have hb7 : Below w.heap.size w w7 := hb5.trans (hb57.mono hz5)
  have hb37 : Below w3.heap.size w3 w7 := hb35.trans (hb57.mono hb35.size)
  have hz7 := hb7.size
  clear hw7 hk10 b36 b76 b86 hxl' hyl'
  have hS1 := Lib.hid (same_any w7 w7.heap.size xn xc ym yd xn' ym' xc' yd' X Y X' Y' qr ((hxl5.below hb57).mono hb57.size) ((hyl5.below hb57).mono hb57.size) hxl7' hyl7' (Nat.le_trans hx1 hx2) (Nat.le_trans hy1 hy2) (Nat.le_refl _))
  have e80 : w7.cell? ⟨k8, 0, none⟩ = some (.slice X xn xc) := b87.at_ 0 rfl
  have e81 : w7.cell? ⟨k8, 1, none⟩ = some (.slice Y ym yd) := b87.at_ 1 rfl
  have e90 : w7.cell? ⟨k10, 0, none⟩ = some (.slice X' xn' xc') := b97.at_ 0 rfl
  have e91 : w7.cell? ⟨k10, 1, none⟩ = some (.slice Y' ym' yd') := b97.at_ 1 rfl
  go_wp2_with fail
  refine hS1.out.mono ?_
  rintro e w8 ⟨rfl, hb8⟩
  have b38 := b37.below hb8 b37.lt
  have b78 := b77.below hb8 b77.lt
  have hb8' := hb7.trans (hb8.mono hz7)
  have hb38 : Below w3.heap.size w3 w8 := hb37.trans (hb8.mono hb37.size)
  clear e80 e81 e90 e91 hS1
  have e70 : w8.cell? ⟨k7, 0, none⟩ = some (.slice A2 q.loc.length c2) := b78.at_ 0 rfl
  have e71 : w8.cell? ⟨k7, 1, none⟩ = some (.slice C2 q.com.length d2) := b78.at_ 1 rfl
  have e30 : w8.cell? ⟨k3, 0, none⟩ = some (.slice A q.loc.length c) := b38.at_ 0 rfl
  have e31 : w8.cell? ⟨k3, 1, none⟩ = some (.slice C q.com.length d) := b38.at_ 1 rfl
  have hS2 := Lib.hid (same_any w8 w8.heap.size q.loc.length c2 q.com.length d2 q.loc.length q.com.length c d A2 C2 A C q ((hl3.below hb38).mono hb38.size) ((hm3.below hb38).mono hb38.size) ((hl.below hb8').mono hb8'.size) ((hc.below hb8').mono hb8'.size) (by unfold maxLen; omega) (by unfold maxLen; omega) (Nat.le_refl _))
  go_wp2_with fail
  refine hS2.out.mono ?_
  rintro e w9 ⟨rfl, hb9⟩
  have hb9' := hb8'.trans (hb9.mono hb8'.size)
  go_wp2
  go_ret
  exact RetB.mk rfl hb9'

end Go.Proofs.Ytepcbgbmmmhglaa
