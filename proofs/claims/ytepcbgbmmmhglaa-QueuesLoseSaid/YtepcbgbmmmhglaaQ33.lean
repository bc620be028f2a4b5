/- Run queues that can be read as data, and whose slices are no larger than memory reaches. -/
import Derived.Test.YtepcbgbmmmhglaaQ31
namespace Go.Proofs.Ytepcbgbmmmhglaa
open Go.RowKit Go.ChangeShapes Go.WideShapes Go.Deep

/-- Whatever reads as data of type t, within what memory reaches, holds a datum of α of which 'ok' holds. -/
def ReadsB (α : Type) [Rep α] (ok : α → Prop) (P : Program) (t : TypeId) : Prop :=
  ∀ (H : Type) (enc : TypeId × Value → H) (w : World) (base : Nat) (spare : Nat → Bool) (held : Bool) (fuel : Nat) (cs : List Value) (x : DataW H × List MemPlace),
    DataW.trod enc P w base spare held fuel t cs = some x → (∀ k ∈ x.1.weights P t, k ≤ reachBytes) → ∃ a : α, Rep.cells w (lt w.heap.size) a cs ∧ ok a
theorem Reads.b {α : Type} [Rep α] {P : Program} {t : TypeId} (h : Reads α P t) : ReadsB α (fun _ => True) P t := fun H enc w base spare held fuel cs x hx _ => by
  obtain ⟨a, ha⟩ := h H enc w base spare held fuel cs x hx
  exact ⟨a, ha, trivial⟩
theorem weightsAll_mem {H : Type} {P : Program} {e : TypeId} : ∀ {l : List (DataW H)} {d : DataW H}, d ∈ l → ∀ k ∈ d.weights P e, k ∈ DataW.weightsAll P e l
  | d0 :: l, d, h, k, hk => by
    simp only [DataW.weightsAll, List.mem_append]
    rcases List.mem_cons.1 h with rfl | h
    · exact .inl hk
    · exact .inr (weightsAll_mem h k hk)

def okB {α : Type} (by_ : Nat) (ok : α → Prop) (l : List α) : Prop := l.length * by_ ≤ reachBytes ∧ ∀ (i : Nat) (a : α), l[i]? = some a → ok a
theorem readsB_slice {α : Type} [Rep α] {ok : α → Prop} {P : Program} {t e : TypeId} {by_ : Nat} (ht : P.underlying t = some (.slice e)) (hC : P.cellsOf e = Rep.size α) (hpos : 0 < Rep.size α) (hby : P.bytesOf e = by_) (he : ReadsB α ok P e) :
    ReadsB (List α) (okB by_ ok) P t := by
  intro H enc w base spare held fuel cs x h hw
  rcases open_slice ht h with ⟨rfl, _⟩ | ⟨a, len, cap, m, n, D, Pl, rfl, hb, hl, hm, hmm, hx, hi⟩
  · exact ⟨[], ⟨none, 0, 0, rfl, Nat.le_refl _, Nat.zero_le _, Sl.nil⟩, by rw [List.length_nil, Nat.zero_mul]; exact Nat.zero_le _, fun i a h => by simp at h⟩
  · subst hx
    simp only [DataW.weights, ht] at hw
    have hlen : len * by_ ≤ reachBytes := by
      have := hw _ (List.mem_cons_self ..)
      rw [List.length_map, List.length_range, hby] at this
      exact Nat.le_trans (Nat.mul_le_mul_right _ (Nat.le_add_right _ _)) this
    have hlm : len ≤ m := by rw [hmm]; split <;> omega
    have hel : ∀ i, i < len → ∃ y : α, (∃ vs, Rep.cells w (lt w.heap.size) y vs ∧ ∀ j v, vs[j]? = some v → w.cell? (a.add (i * Rep.size α + j)) = some v) ∧ ok y := by
      intro i hil
      obtain ⟨cs', hc, ht'⟩ := hi i (by omega)
      obtain ⟨y, hy, hok⟩ := he H enc w base spare held n cs' _ ht' fun k hk => hw k (List.mem_cons_of_mem _ (List.mem_append_left _ (weightsAll_mem (List.mem_map.2 ⟨i, List.mem_range.2 hil, rfl⟩) k hk)))
      obtain ⟨_, hcl, hat⟩ := World.cells?_some hc
      refine ⟨y, ⟨cs', hy, fun j v hj => ?_⟩, hok⟩
      have hjl : j < cs'.length := (List.getElem?_eq_some_iff.1 hj).1
      rw [hC] at hcl hat
      have := hat j (by omega)
      rw [add_of_add] at this
      rw [this]
      exact hj
    obtain ⟨l, hll, hlp⟩ := list_of len hel
    refine ⟨l, ⟨some a, len, cap, rfl, hl, hm, hll, fun hn => ?_⟩, by rw [hll]; exact hlen, fun i b hb' => (hlp i b hb').2⟩
    obtain ⟨y, hy⟩ : ∃ y, l[0]? = some y := ⟨l[0]'(by omega), List.getElem?_eq_getElem (by omega)⟩
    obtain ⟨⟨vs, hr, hv⟩, -⟩ := hlp 0 y hy
    have hvl := Rep.len hr
    obtain ⟨v0, hv0⟩ : ∃ v, vs[0]? = some v := ⟨vs[0]'(by omega), List.getElem?_eq_getElem (by omega)⟩
    have h0 := hv 0 v0 hv0
    have ha : a.add (0 * Rep.size α + 0) = a := by rw [show 0 * Rep.size α + 0 = 0 by omega]; exact Addr.add_zero' a
    rw [ha] at h0
    obtain ⟨hblk, hsp⟩ := cell_block h0
    obtain ⟨b, o, s⟩ := a
    simp only at hsp hblk
    subst hsp
    refine ⟨b, o, rfl, hblk, fun i z hz => ?_⟩
    obtain ⟨⟨us, hr', hv'⟩, -⟩ := hlp i z hz
    refine ⟨us, hr', fun j v hj => ?_⟩
    have := hv' j v hj
    rw [Addr.add_lit] at this
    rw [Nat.add_assoc]
    exact this

theorem some_of {β : Type} {xs : List β} {k i : Nat} {o : Option β} (hl : xs.length = k) (hi : i < k) (e : o = xs[i]?) : ∃ y, o = some y ∧ xs[i]? = some y := ⟨xs[i]'(by omega), e.trans (List.getElem?_eq_getElem (by omega)), List.getElem?_eq_getElem (by omega)⟩
theorem readsB_ints : ReadsB (List Int) (okB 8 fun _ => True) Try.prog 24 := readsB_slice (P := Try.prog) (by_ := 8) Try.underlying24 (by kernel_rfl) (by decide) (by kernel_rfl) (rd_int (P := Try.prog) (t := 3) Try.underlying3).b
theorem readsB_lists : ReadsB (List (List Int)) (okB 24 (okB 8 fun _ => True)) Try.prog 23 := readsB_slice (P := Try.prog) (by_ := 24) Try.underlying23 (by kernel_rfl) (by decide) (by kernel_rfl) readsB_ints
/-- Run queues within what memory reaches. -/
structure Fits (q : Qs) : Prop where
  n : q.loc.length * 24 ≤ 140737488351232
  m : q.com.length * 8 ≤ 140737488351232
  rows : ∀ xs, xs ∈ q.loc → xs.length * 8 ≤ 140737488351232
theorem readsB_qs : ReadsB Qs Fits Try.prog 26 := by
  intro H enc w base spare held fuel cs x h hw
  obtain ⟨xs, n, rfl, rfl, hcl, hxl, hf⟩ := DataW.trod_struct Try.underlying26 h
  have hcl' : cs.length = 2 := hcl
  have hxl' : xs.length = 2 := hxl
  match cs, hcl' with
  | [c0, c1], _ =>
    obtain ⟨y0, e0, k0⟩ := some_of hxl' (by omega) (hf 0 _ rfl)
    obtain ⟨y1, e1, k1⟩ := some_of hxl' (by omega) (hf 1 _ rfl)
    match xs, hxl' with
    | [z0, z1], _ =>
      simp only [List.getElem?_cons_zero, Option.some.injEq, List.getElem?_cons_succ] at k0 k1
      subst k0
      subst k1
      have hw' : ∀ k ∈ DataW.weights Try.prog 23 z0.1 ++ (DataW.weights Try.prog 24 z1.1 ++ []), k ≤ reachBytes := by
        intro k hk
        refine hw k ?_
        simp only [DataW.weights, Try.underlying26]
        exact hk
      obtain ⟨l, hl, hl1, hl2⟩ := readsB_lists H enc w base spare held n [c0] _ e0 fun k hk => hw' k (List.mem_append_left _ hk)
      obtain ⟨g, hg, hg1, -⟩ := readsB_ints H enc w base spare held n [c1] _ e1 fun k hk => hw' k (List.mem_append_right _ (List.mem_append_left _ hk))
      obtain ⟨A, p, c, h2', hp, hc, sg⟩ : ∃ A p c, [c0] = [Value.slice A p c] ∧ p ≤ c ∧ c ≤ maxLen ∧ Sl w (lt w.heap.size) A p l := hl
      obtain ⟨T, r, d, h3', hr, hd, st⟩ : ∃ A p c, [c1] = [Value.slice A p c] ∧ p ≤ c ∧ c ≤ maxLen ∧ Sl w (lt w.heap.size) A p g := hg
      simp only [List.cons.injEq, and_true] at h2' h3'
      subst h2' h3'
      refine ⟨⟨l, g⟩, ⟨A, p, c, T, r, d, rfl, hp, hc, hr, hd, sg, st⟩, hl1, hg1, fun xs hx => ?_⟩
      obtain ⟨i, hi⟩ := List.getElem?_of_mem hx
      exact (hl2 i xs hi).1

theorem reads_qs {H : Type} {enc : TypeId × Value → H} {w : World} {base : Nat} {spare : Nat → Bool} {held : Bool} {b0 : Nat} {v : Value} {d : DataW H} {ps : List MemPlace}
    (hv : Value.okWide Try.prog w .any b0 26 v) (h : DataW.Trod enc Try.prog w base spare held 26 v d ps) (hw : ∀ k ∈ d.weights Try.prog 26, k ≤ reachBytes) :
    ∃ (q : Qs) (A : Option Addr) (n c : Nat) (C : Option Addr) (m e : Nat), v = .agg #[.slice A n c, .slice C m e] ∧ n ≤ c ∧ c ≤ maxLen ∧ m ≤ e ∧ e ≤ maxLen ∧ Sl w (lt w.heap.size) A n q.loc ∧ Sl w (lt w.heap.size) C m q.com ∧ Fits q := by
  obtain ⟨cs, rfl, hcs⟩ := okWide_struct Try.underlying26 hv
  obtain ⟨fuel, hf⟩ := h
  obtain ⟨q, hq, hfit⟩ := readsB_qs H enc w base spare held fuel _ _ hf hw
  obtain ⟨A, n, c, C, m, e, h0, h1, h2, h3, h4, h5, h6⟩ : ∃ A n c C m e, (Value.agg cs).cells.toList = [.slice A n c, .slice C m e] ∧ n ≤ c ∧ c ≤ maxLen ∧ m ≤ e ∧ e ≤ maxLen ∧ Sl w (lt w.heap.size) A n q.loc ∧ Sl w (lt w.heap.size) C m q.com := hq
  refine ⟨q, A, n, c, C, m, e, ?_, h1, h2, h3, h4, h5, h6, hfit⟩
  have : cs.toList = [.slice A n c, .slice C m e] := h0
  rw [← Array.toArray_toList (xs := cs), this]

end Go.Proofs.Ytepcbgbmmmhglaa
