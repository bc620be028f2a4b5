/- All queued goroutines. -/
import Derived.Test.YtepcbgbmmmhglaaQ3
namespace Go.Proofs.Ytepcbgbmmmhglaa
open Go.RowKit

/-- All queued goroutines. -/
def allQ (q : Qs) : List Int := q.com ++ q.loc.flatten
theorem flat_take {xss : List (List Int)} {k : Nat} {xs : List Int} (h : xss[k]? = some xs) : (xss.take (k + 1)).flatten = (xss.take k).flatten ++ xs := by
  obtain ⟨hk, he⟩ := List.getElem?_eq_some_iff.1 h
  rw [List.take_succ_eq_append_getElem hk, List.flatten_append, he]
  simp
theorem flat_le {xss : List (List Int)} : ∀ {k : Nat}, (xss.take k).flatten.length ≤ xss.flatten.length := by
  intro k
  have h : xss.flatten = (xss.take k).flatten ++ (xss.drop k).flatten := by rw [← List.flatten_append, List.take_append_drop]
  rw [h, List.length_append]
  omega

set_option maxHeartbeats 1000000 in
theorem all_any (w : World) (B n c m d : Nat) (A C : Option Addr) (q : Qs) (hl : Sl w (lt B) A n q.loc) (hc : Sl w (lt B) C m q.com) (hn : n ≤ maxLen) (hm : m ≤ maxLen) (hbig : (allQ q).length * 8 ≤ 140737488355328) (hB : B ≤ w.heap.size) :
    Calls Try.prog 20 #[.agg #[.slice A n c, .slice C m d]] w (RetO 3 (fun _ => False) (allQ q) w) := by
  unfold maxLen at hn
  have hll : Hid (q.loc.length = n) := hl.1
  have hcl : Hid (q.com.length = m) := hc.1
  have hbig' : (q.com.length + q.loc.flatten.length) * 8 ≤ 140737488355328 := by unfold allQ at hbig; rw [List.length_append] at hbig; exact hbig
  clear hbig
  have hm8 : m * 8 ≤ 140737488355328 := by rw [hcl.out] at hbig'; omega
  obtain ⟨i0, hi, hz0, hz1, hz2⟩ := info_parts info_int
  have HI := Lib.hid (And.intro hi (And.intro hz0 (And.intro hz1 hz2)))
  clear hi hz0 hz1 hz2
  go_enter Try.func20, Try.ntmps20
  go_upto_region 1 with fail
  obtain ⟨w0, hw0⟩ : ∃ w0, w0 = w.alloc (.cells #[.slice A n c, .slice C m d] 26) := ⟨_, rfl⟩
  rw [← hw0]
  have hb0 : Below w.heap.size w w0 := by rw [hw0]; exact (Below.refl _ _).alloc (Nat.le_refl _) _
  have hk0 : Blk w0 w.heap.size 26 #[.slice A n c, .slice C m d] := by rw [hw0]; exact Blk.new _ _ _
  clear hw0
  have hz := hb0.size
  have hgl := hk0.lt
  have c0 : w0.cell? ⟨w.heap.size, 0, none⟩ = some (.slice A n c) := hk0.at_ 0 rfl
  have c1 : w0.cell? ⟨w.heap.size, 1, none⟩ = some (.slice C m d) := hk0.at_ 1 rfl
  have HO := Lib.hid (Own.empty (α := Int) w0 w.heap.size 3 (fun _ => False) hz)
  have HBO := Lib.hid (hb0.alloc hz (.cells #[] 3))
  have HS := Lib.hid ((hc.below (HBO.out.mono hB)).src)
  have HKO := Lib.hid (hk0.alloc (.cells #[] 3))
  go_wp2_with (at_builtin; refine wpList_cat (α := Int) rfl (.tmp 5) (.tmp 7) 24 rfl w.heap.size 3 i0 (.int .i64 0) 8 Try.underlying24 HI.out.1 HI.out.2.1 HI.out.2.2.1 HI.out.2.2.2 rfl (by decide) (fun _ => False) _ [] q.com C m d rfl HO.out rfl HS.out (fun b hb => hb.elim) HBO.out.size (by simp; omega) (by simp; omega) ?_; intro v1 w1 hown1 hg1 hat1)
  have hb1 : Below w.heap.size w w1 := own_below HO.out HBO.out hg1 (Nat.le_refl _) HBO.out.size
  have hk1 := HKO.out.grown hg1 (HO.out.ne HKO.out (by decide))
  rw [List.nil_append] at hown1
  clear hg1 hat1 HO HBO HS HKO c0 c1 hk0 hb0 hz hgl
  go_loopw [4, 3] (fun i l wr => ∃ k : Nat, k ≤ n ∧ i = .int .i64 k ∧ Own wr w.heap.size 3 (fun _ => False) l (q.com ++ (q.loc.take k).flatten) ∧ Blk wr w.heap.size 26 #[.slice A n c, .slice C m d] ∧ Below w.heap.size w wr) (fun i _ _ => n - (intOf i).toNat)
  case atStart => exact ⟨0, Nat.zero_le _, rfl, by simpa using hown1, hk1, hb1⟩
  case round =>
    obtain ⟨w2, rfl⟩ : ∃ w2 : World, w2 = wr := ⟨_, rfl⟩
    obtain ⟨k, hk, rfl, hown, hk2, hb2⟩ := hrel
    clear hown1 hk1 hb1
    have hz2 := hb2.size
    have c0 : w2.cell? ⟨w.heap.size, 0, none⟩ = some (.slice A n c) := hk2.at_ 0 rfl
    by_cases hlt : k < n
    · obtain ⟨b, o, rfl, hbb, xs, A', n', c', hx, hcell, hn', hc', hsx⟩ := (hl.below (hb2.mono hB)).list_ hlt
      have HX := Lib.hid hx
      have HS := Lib.hid hsx.src
      have hxl : Hid (xs.length = n') := hsx.1
      have hf := flat_le (xss := q.loc) (k := k + 1)
      rw [flat_take HX.out, List.length_append, hxl.out] at hf
      have hsum : ((q.com ++ (q.loc.take k).flatten).length + n') * 8 ≤ 140737488355328 := by rw [List.length_append]; omega
      have hsum' : (q.com ++ (q.loc.take k).flatten).length + n' ≤ maxLen := by unfold maxLen; omega
      have HOW := Lib.hid hown
      clear hx hsx hf hown
      go_wp2_with (at_builtin; refine wpList_cat (α := Int) rfl (.tmp 16) (.tmp 21) 24 rfl w.heap.size 3 i0 (.int .i64 0) 8 Try.underlying24 HI.out.1 HI.out.2.1 HI.out.2.2.1 HI.out.2.2.2 rfl (by decide) (fun _ => False) _ _ xs A' n' c' rfl HOW.out rfl HS.out (fun b hb => hb.elim) hz2 hsum' hsum ?_; intro v1 w3 hown3 hg3 hat3)
      go_roundw
      case rel => exact ⟨k + 1, by omega, by go_num, by rw [flat_take HX.out, ← List.append_assoc]; exact hown3, hk2.grown hg3 (HOW.out.ne hk2 (by decide)), own_below HOW.out hb2 hg3 (Nat.le_refl _) hz2⟩
      case measure => simp [intOf]; omega
    · obtain rfl : k = n := by omega
      go_wp2
      go_ret
      exact RetO.mk hb2 (by rw [← hll.out, List.take_length] at hown; exact hown)

end Go.Proofs.Ytepcbgbmmmhglaa
