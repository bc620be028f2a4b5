/- Arguments that can be read as data hold Lean data. -/
import Derived.Test.YtlbgmegciomofaaW14
import Derived.ProofKit
import Derived.Deep.Slices
namespace Go.Proofs.Ytlbgmegciomofaa
open Go.RowKit Go.ChangeShapes Go.WideShapes Go.Deep

/-- Whatever reads as data of type t holds a datum of α. -/
def Rd (α : Type) [Rep α] (P : Program) (t : TypeId) : Prop :=
  ∀ (H : Type) (enc : TypeId × Value → H) (w : World) (base : Nat) (spare : Nat → Bool) (held : Bool) (fuel : Nat) (cs : List Value) (x : DataW H × List MemPlace),
    DataW.trod enc P w base spare held fuel t cs = some x → ∃ a : α, Rep.cells w (lt w.heap.size) a cs

theorem rd_int {P : Program} {t : TypeId} (ht : P.underlying t = some (.int .i64)) : Rd Int P t := by
  intro H enc w base spare held fuel cs x h
  obtain ⟨n, rfl, _⟩ := DataW.trod_int ht h
  exact ⟨n, rfl⟩
theorem rd_bool {P : Program} {t : TypeId} (ht : P.underlying t = some .bool) : Rd Bool P t := by
  intro H enc w base spare held fuel cs x h
  obtain ⟨b, rfl, _⟩ := DataW.trod_bool ht h
  exact ⟨b, rfl⟩

theorem list_of {α : Type} {p : Nat → α → Prop} : ∀ (n : Nat), (∀ i, i < n → ∃ a, p i a) → ∃ l : List α, l.length = n ∧ ∀ i a, l[i]? = some a → p i a
  | 0, _ => ⟨[], rfl, fun i a h => by simp at h⟩
  | n + 1, h => by
    obtain ⟨l, hl, hp⟩ := list_of n fun i hi => h i (by omega)
    obtain ⟨a, ha⟩ := h n (by omega)
    refine ⟨l ++ [a], by simp [hl], fun i b hb => ?_⟩
    rw [List.getElem?_append] at hb
    split at hb
    · exact hp i b hb
    · rename_i hi
      have hi0 : i - l.length = 0 := by
        rcases Nat.eq_zero_or_pos (i - l.length) with h' | h'
        · exact h'
        · rw [List.getElem?_eq_none (by simp only [List.length_cons, List.length_nil]; omega)] at hb; cases hb
      rw [hi0] at hb
      simp only [List.getElem?_cons_zero, Option.some.injEq] at hb
      subst hb
      have : i = n := by omega
      subst this
      exact ha

theorem cell_block {w : World} {a : Addr} {v : Value} (h : w.cell? a = some v) : a.block < w.heap.size ∧ a.spot = none := by
  unfold World.cell? at h
  split at h
  · rename_i c t fr hb
    refine ⟨(Array.getElem?_eq_some_iff.1 hb).1, ?_⟩
    cases hs : a.spot with
    | none => rfl
    | some x => rw [hs] at h; simp at h
  · cases h

theorem rd_slice {α : Type} [Rep α] {P : Program} {t e : TypeId} (ht : P.underlying t = some (.slice e)) (hC : P.cellsOf e = Rep.size α) (hpos : 0 < Rep.size α) (he : Rd α P e) : Rd (List α) P t := by
  intro H enc w base spare held fuel cs x h
  rcases open_slice ht h with ⟨rfl, _⟩ | ⟨a, len, cap, m, n, D, Pl, rfl, hb, hl, hm, hmm, _, hi⟩
  · exact ⟨[], none, 0, 0, rfl, Nat.le_refl _, Nat.zero_le _, Sl.nil⟩
  · have hlm : len ≤ m := by rw [hmm]; split <;> omega
    have hel : ∀ i, i < len → ∃ y : α, ∃ vs, Rep.cells w (lt w.heap.size) y vs ∧ ∀ j v, vs[j]? = some v → w.cell? (a.add (i * Rep.size α + j)) = some v := by
      intro i hil
      obtain ⟨cs', hc, ht'⟩ := hi i (by omega)
      obtain ⟨y, hy⟩ := he H enc w base spare held n cs' _ ht'
      obtain ⟨_, hcl, hat⟩ := World.cells?_some hc
      refine ⟨y, cs', hy, fun j v hj => ?_⟩
      have hjl : j < cs'.length := (List.getElem?_eq_some_iff.1 hj).1
      rw [hC] at hcl hat
      have := hat j (by omega)
      rw [add_of_add] at this
      rw [this]
      exact hj
    obtain ⟨l, hll, hlp⟩ := list_of len hel
    refine ⟨l, some a, len, cap, rfl, hl, hm, hll, fun hn => ?_⟩
    obtain ⟨y, hy⟩ : ∃ y, l[0]? = some y := ⟨l[0]'(by omega), List.getElem?_eq_getElem (by omega)⟩
    obtain ⟨vs, hr, hv⟩ := hlp 0 y hy
    have hvl := Rep.len hr
    obtain ⟨v0, hv0⟩ : ∃ v, vs[0]? = some v := ⟨vs[0]'(by omega), List.getElem?_eq_getElem (by omega)⟩
    have h0 := hv 0 v0 hv0
    have ha : a.add (0 * Rep.size α + 0) = a := by rw [show 0 * Rep.size α + 0 = 0 by omega]; exact Addr.add_zero' a
    rw [ha] at h0
    obtain ⟨hblk, hsp⟩ := cell_block h0
    obtain ⟨b, o, s⟩ := a
    simp only at hsp hblk
    subst hsp
    refine ⟨b, o, rfl, hblk, fun i z hz => ?_⟩
    obtain ⟨us, hr', hv'⟩ := hlp i z hz
    refine ⟨us, hr', fun j v hj => ?_⟩
    have := hv' j v hj
    rw [Addr.add_lit] at this
    rw [Nat.add_assoc]
    exact this

theorem some_of {β : Type} {xs : List β} {k i : Nat} {o : Option β} (hl : xs.length = k) (hi : i < k) (e : o = xs[i]?) : ∃ y, o = some y := ⟨xs[i]'(by omega), e.trans (List.getElem?_eq_getElem (by omega))⟩

theorem rd_touch : Rd Touch Try.prog 41 := by
  intro H enc w base spare held fuel cs x h
  obtain ⟨xs, n, rfl, _, hcl, hxl, hf⟩ := DataW.trod_struct Try.underlying41 h
  have hcl' : cs.length = 4 := hcl
  have hxl' : xs.length = 4 := hxl
  match cs, hcl' with
  | [c0, c1, c2, c3], _ =>
    obtain ⟨y0, e0⟩ := some_of hxl' (by omega) (hf 0 _ rfl)
    obtain ⟨y1, e1⟩ := some_of hxl' (by omega) (hf 1 _ rfl)
    obtain ⟨y2, e2⟩ := some_of hxl' (by omega) (hf 2 _ rfl)
    obtain ⟨y3, e3⟩ := some_of hxl' (by omega) (hf 3 _ rfl)
    obtain ⟨a0, h0⟩ := rd_int (t := 3) Try.underlying3 H enc w base spare held n [c0] _ e0
    obtain ⟨a1, h1⟩ := rd_int (t := 3) Try.underlying3 H enc w base spare held n [c1] _ e1
    obtain ⟨a2, h2⟩ := rd_int (t := 3) Try.underlying3 H enc w base spare held n [c2] _ e2
    obtain ⟨a3, h3⟩ := rd_bool (t := 4) Try.underlying4 H enc w base spare held n [c3] _ e3
    have h0' : [c0] = [Value.int .i64 a0] := h0
    have h1' : [c1] = [Value.int .i64 a1] := h1
    have h2' : [c2] = [Value.int .i64 a2] := h2
    have h3' : [c3] = [Value.bool a3] := h3
    simp only [List.cons.injEq, and_true] at h0' h1' h2' h3'
    subst h0' h1' h2' h3'
    exact ⟨⟨a0, a1, a2, a3⟩, rfl⟩
theorem rd_ints : Rd (List Int) Try.prog 24 := rd_slice Try.underlying24 (by kernel_rfl) (by decide) (rd_int Try.underlying3)
theorem rd_touches : Rd (List Touch) Try.prog 25 := rd_slice Try.underlying25 (by kernel_rfl) (by decide) rd_touch
theorem rd_step : Rd Step Try.prog 27 := by
  intro H enc w base spare held fuel cs x h
  obtain ⟨xs, n, rfl, _, hcl, hxl, hf⟩ := DataW.trod_struct Try.underlying27 h
  have hcl' : cs.length = 4 := hcl
  have hxl' : xs.length = 3 := hxl
  match cs, hcl' with
  | [c0, c1, c2, c3], _ =>
    obtain ⟨y0, e0⟩ := some_of hxl' (by omega) (hf 0 _ rfl)
    obtain ⟨y1, e1⟩ := some_of hxl' (by omega) (hf 1 _ rfl)
    obtain ⟨y2, e2⟩ := some_of hxl' (by omega) (hf 2 _ rfl)
    have e0' : DataW.trod enc Try.prog w base spare held n 23 [c0, c1] = some y0 := e0
    obtain ⟨zs, m, rfl, _, _, hzl, hg⟩ := DataW.trod_struct Try.underlying23 e0'
    have hzl' : zs.length = 2 := hzl
    obtain ⟨z0, k0⟩ := some_of hzl' (by omega) (hg 0 _ rfl)
    obtain ⟨z1, k1⟩ := some_of hzl' (by omega) (hg 1 _ rfl)
    obtain ⟨a0, h0⟩ := rd_int (t := 3) Try.underlying3 H enc w base spare held m [c0] _ k0
    obtain ⟨a1, h1⟩ := rd_int (t := 3) Try.underlying3 H enc w base spare held m [c1] _ k1
    obtain ⟨gs, h2⟩ := rd_ints H enc w base spare held (m + 1) [c2] _ e1
    obtain ⟨ts, h3⟩ := rd_touches H enc w base spare held (m + 1) [c3] _ e2
    have h0' : [c0] = [Value.int .i64 a0] := h0
    have h1' : [c1] = [Value.int .i64 a1] := h1
    obtain ⟨A, p, c, h2', hp, hc, sg⟩ : ∃ A p c, [c2] = [Value.slice A p c] ∧ p ≤ c ∧ c ≤ maxLen ∧ Sl w (lt w.heap.size) A p gs := h2
    obtain ⟨T, q, d, h3', hq, hd, st⟩ : ∃ A p c, [c3] = [Value.slice A p c] ∧ p ≤ c ∧ c ≤ maxLen ∧ Sl w (lt w.heap.size) A p ts := h3
    simp only [List.cons.injEq, and_true] at h0' h1' h2' h3'
    subst h0' h1' h2' h3'
    exact ⟨⟨a0, a1, gs, ts⟩, A, p, c, T, q, d, rfl, hp, hc, hq, hd, sg, st⟩
theorem rd_steps : Rd (List Step) Try.prog 30 := rd_slice Try.underlying30 (by kernel_rfl) (by decide) rd_step

theorem Try.own : ownKnob Try.prog.godebug = none := by kernel_rfl
theorem Try.laidOut : laidOutB Try.prog = true := by kernel_rfl

end Go.Proofs.Ytlbgmegciomofaa
