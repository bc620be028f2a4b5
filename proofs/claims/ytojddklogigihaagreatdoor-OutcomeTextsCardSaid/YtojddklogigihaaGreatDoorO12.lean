/- The reference's numerals: Num of a number that is not negative, and number of any. -/
import Derived.Test.YtojddklogigihaaGreatDoorO11
namespace Go.Proofs.YtojddklogigihaaGreatDoor
open Go.RowKit Go.Lib

theorem str_add (P : Program) (a b : List UInt8) (h : a.length + b.length ≤ 1000000) (w : World) : (Op.stringOp .add ⟨a.toArray⟩ ⟨b.toArray⟩).run P w = .ok (.string ⟨(a ++ b).toArray⟩) w := by
  have e : (⟨a.toArray⟩ : ByteArray) ++ ⟨b.toArray⟩ = ⟨(a ++ b).toArray⟩ := by
    apply ByteArray.ext
    apply Array.ext'
    simp [ByteArray.data_append]
  have := run_string_add_sum (P := P) (w := w) (⟨a.toArray⟩ : ByteArray) ⟨b.toArray⟩ (by simp [ByteArray.size]; omega)
  rw [this, e]
theorem conv1 (W : World) (x d : Nat) (hd : d < 10) (hc : W.cell? ⟨x, 0, none⟩ = some (.int .u8 (48 + (d : Int)))) : (convert 50 9 (.slice (some ⟨x, 0, none⟩) 1 1)).run Tryz.prog W = .ok (.string ⟨[UInt8.ofNat (48 + d)].toArray⟩) W := by
  have h := run_convert_bytes_back (P := Tryz.prog) W 50 9 5 ⟨x, 0, none⟩ 1 [UInt8.ofNat (48 + d)] Tryz.underlying50 Tryz.underlying5 Tryz.underlying9 (fun j hj => by
    have : j = 0 := by simpa using hj
    subst this
    simp only [Addr.add_zero', hc, List.getElem_cons_zero, Tx.dig d hd]
    simp)
  exact h
theorem dec_len {u : Nat} (h : u ≤ 9223372036854775808) : (decDigits u).length ≤ 22 := by
  rcases Nat.lt_or_ge u 9223372036854775808 with h1 | h1
  · have := itoa_length_le (u : Int) (by omega) (by omega)
    rw [itoa_nonneg] at this
    omega
  · have e : u = 9223372036854775808 := by omega
    subst e
    have := itoa_length_le (-((9223372036854775808 : Nat) : Int)) (by omega) (by omega)
    rw [itoa_neg _ (by omega)] at this
    simp only [List.length_cons] at this
    omega

set_option maxRecDepth 100000 in
set_option maxHeartbeats 1000000 in
theorem num_any : ∀ (u : Nat), u ≤ 9223372036854775807 → ∀ w, Calls Tryz.prog 34 #[.int .i64 (u : Int)] w (RetB (.string ⟨(decDigits u).toArray⟩) w) := by
  intro u
  induction u using Nat.strongRecOn with
  | _ u ih =>
    intro hu w
    have hb0 : decide ((u : Int) < 0) = false := by simp
    by_cases h : u < 10
    · have hb1 : decide ((u : Int) < 10) = true := by simp; omega
      have hcv := conv1 (w.alloc (.cells #[.int .u8 (48 + (u : Int))] 5)) w.heap.size u h ((Blk.new w 5 #[.int .u8 (48 + (u : Int))]).at_ 0 rfl)
      have HE := Lib.hid (Tx.dec_small h)
      go_enter Tryz.func34, Tryz.ntmps34
      go_wp2
      go_ret
      exact RetB.mk (by rw [HE.out]; simp) ((Below.refl _ _).alloc (Nat.le_refl _) _)
    · have hb1 : decide ((u : Int) < 10) = false := by simp; omega
      obtain ⟨q, hq⟩ : ∃ q, q = u / 10 := ⟨_, rfl⟩
      obtain ⟨d, hd⟩ : ∃ d, d = u % 10 := ⟨_, rfl⟩
      have hq1 : (u : Int).tdiv 10 = (q : Int) := by rw [Int.tdiv_eq_ediv_of_nonneg (by omega)]; omega
      have hd1 : (u : Int).tmod 10 = (d : Int) := by rw [Int.tmod_eq_emod_of_nonneg (by omega)]; omega
      have hd10 : d < 10 := by omega
      obtain ⟨ch, hch⟩ : ∃ ch, ch = UInt8.ofNat (48 + d) := ⟨_, rfl⟩
      obtain ⟨ds, hds⟩ : ∃ ds, ds = decDigits q := ⟨_, rfl⟩
      have HE : Hid (decDigits u = ds ++ [ch]) := Lib.hid (by rw [Tx.dec_big h, hch, hds, hq, hd])
      have IH : Hid (∀ w, Calls Tryz.prog 34 #[.int .i64 (q : Int)] w (RetB (.string ⟨ds.toArray⟩) w)) := Lib.hid (by rw [hds]; exact ih q (by omega) (by omega))
      have HCV : Hid (∀ (W : World) (x : Nat), W.cell? ⟨x, 0, none⟩ = some (.int .u8 (48 + (d : Int))) → (convert 50 9 (.slice (some ⟨x, 0, none⟩) 1 1)).run Tryz.prog W = .ok (.string ⟨#[ch]⟩) W) := Lib.hid (fun W x hc => by rw [hch]; exact conv1 W x d hd10 hc)
      have hadd : ∀ W, (Op.stringOp .add ⟨ds.toArray⟩ ⟨#[ch]⟩).run Tryz.prog W = .ok (.string ⟨(ds ++ [ch]).toArray⟩) W := str_add Tryz.prog ds [ch] (by have := dec_len (u := q) (by omega); rw [hds]; simp; omega)
      have hw1 : IntKind.i64.wrap (q : Int) = (q : Int) := IntWalk.i64_in _ (by omega)
      have hw2 : IntKind.i64.wrap (48 + (d : Int)) = 48 + (d : Int) := IntWalk.i64_in _ (by omega)
      have hw3 : IntKind.u8.wrap (48 + (d : Int)) = 48 + (d : Int) := IntWalk.u8_in _ (by omega)
      have hc0 := HCV.out ((w.alloc (.cells #[.int .u8 (48 + (d : Int))] 5)).drew) w.heap.size ((Blk.new w 5 #[.int .u8 (48 + (d : Int))]).at_ 0 rfl)
      clear ih hq hd hch hds
      go_enter Tryz.func34, Tryz.ntmps34
      go_wp2
      go_region_with
        (first
          | (refine (IH.out (w.drew)).mono ?_
             rintro e w2 ⟨rfl, hb2⟩
             have hB2 := Lib.hid hb2
             have hcv := HCV.out (w2.alloc (.cells #[.int .u8 (48 + (d : Int))] 5)) w2.heap.size ((Blk.new w2 5 #[.int .u8 (48 + (d : Int))]).at_ 0 rfl)
             clear hb2)
          | (refine (IH.out ((w.alloc (.cells #[.int .u8 (48 + (d : Int))] 5)).drew)).mono ?_
             rintro e w2 ⟨rfl, hb2⟩
             have hB2 := Lib.hid hb2
             have hcv := HCV.out w2 w.heap.size ((hb2.cell (by simp)).trans ((Blk.new w 5 #[.int .u8 (48 + (d : Int))]).at_ 0 rfl))
             clear hb2))
      all_goals
        go_simp
        go_wp2
        go_ret
        refine RetB.mk (by rw [HE.out]; rfl) ?_
        first
          | exact ((Below.refl _ _).drew.trans hB2.out).alloc hB2.out.size _
          | exact ((Below.refl _ _).alloc (Nat.le_refl _) _).drew.trans (hB2.out.mono (by simp))
          | trace_state
end Go.Proofs.YtojddklogigihaaGreatDoor
