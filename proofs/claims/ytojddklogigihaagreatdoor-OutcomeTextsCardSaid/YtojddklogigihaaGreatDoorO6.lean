/- Arguments that can be read as data hold Lean data; the row's post. -/
import Derived.Test.YtojddklogigihaaGreatDoorO5
import Derived.LaidMore
import Derived.Stop.Joined
import Derived.ProofKit
import Derived.Deep.Slices
import Derived.SizedLaws
namespace Go.Proofs.YtojddklogigihaaGreatDoor
open Go.RowKit Go.ChangeShapes Go.WideShapes Go.Deep

/-- Whatever reads as data of type t holds a datum of α. -/
def Reads (α : Type) [Rep α] (P : Program) (t : TypeId) : Prop :=
  ∀ (H : Type) (enc : TypeId × Value → H) (w : World) (base : Nat) (spare : Nat → Bool) (held : Bool) (fuel : Nat) (cs : List Value) (x : DataW H × List MemPlace),
    DataW.trod enc P w base spare held fuel t cs = some x → ∃ a : α, Rep.cells w (lt w.heap.size) a cs

theorem rd_int {P : Program} {t : TypeId} (ht : P.underlying t = some (.int .i64)) : Reads Int P t := by
  intro H enc w base spare held fuel cs x h
  obtain ⟨n, rfl, _⟩ := DataW.trod_int ht h
  exact ⟨n, rfl⟩
theorem rd_bool {P : Program} {t : TypeId} (ht : P.underlying t = some .bool) : Reads Bool P t := by
  intro H enc w base spare held fuel cs x h
  obtain ⟨b, rfl, _⟩ := DataW.trod_bool ht h
  exact ⟨b, rfl⟩

theorem list_of {α : Type} {p : Nat → α → Prop} : ∀ (n : Nat), (∀ i, i < n → ∃ a, p i a) → ∃ l : List α, l.length = n ∧ ∀ i a, l[i]? = some a → p i a
  | 0, _ => ⟨[], rfl, fun i a h => by simp at h⟩
  | n + 1, h => by
    obtain ⟨l, hl, hp⟩ := list_of n fun i hi => h i (by omega)
    obtain ⟨a, ha⟩ := h n (by omega)
    refine ⟨l ++ [a], by simp [hl], fun i b hb => ?_⟩
    rw [List.getElem?_append] at hb
    split at hb
    · exact hp i b hb
    · rename_i hi
      have hi0 : i - l.length = 0 := by
        rcases Nat.eq_zero_or_pos (i - l.length) with h' | h'
        · exact h'
        · rw [List.getElem?_eq_none (by simp only [List.length_cons, List.length_nil]; omega)] at hb; cases hb
      rw [hi0] at hb
      simp only [List.getElem?_cons_zero, Option.some.injEq] at hb
      subst hb
      have : i = n := by omega
      subst this
      exact ha

theorem cell_block {w : World} {a : Addr} {v : Value} (h : w.cell? a = some v) : a.block < w.heap.size ∧ a.spot = none := by
  unfold World.cell? at h
  split at h
  · rename_i c t fr hb
    refine ⟨(Array.getElem?_eq_some_iff.1 hb).1, ?_⟩
    cases hs : a.spot with
    | none => rfl
    | some x => rw [hs] at h; simp at h
  · cases h

theorem rd_slice {α : Type} [Rep α] {P : Program} {t e : TypeId} (ht : P.underlying t = some (.slice e)) (hC : P.cellsOf e = Rep.size α) (hpos : 0 < Rep.size α) (he : Reads α P e) : Reads (List α) P t := by
  intro H enc w base spare held fuel cs x h
  rcases open_slice ht h with ⟨rfl, _⟩ | ⟨a, len, cap, m, n, D, Pl, rfl, hb, hl, hm, hmm, _, hi⟩
  · exact ⟨[], none, 0, 0, rfl, Nat.le_refl _, Nat.zero_le _, Sl.nil⟩
  · have hlm : len ≤ m := by rw [hmm]; split <;> omega
    have hel : ∀ i, i < len → ∃ y : α, ∃ vs, Rep.cells w (lt w.heap.size) y vs ∧ ∀ j v, vs[j]? = some v → w.cell? (a.add (i * Rep.size α + j)) = some v := by
      intro i hil
      obtain ⟨cs', hc, ht'⟩ := hi i (by omega)
      obtain ⟨y, hy⟩ := he H enc w base spare held n cs' _ ht'
      obtain ⟨_, hcl, hat⟩ := World.cells?_some hc
      refine ⟨y, cs', hy, fun j v hj => ?_⟩
      have hjl : j < cs'.length := (List.getElem?_eq_some_iff.1 hj).1
      rw [hC] at hcl hat
      have := hat j (by omega)
      rw [add_of_add] at this
      rw [this]
      exact hj
    obtain ⟨l, hll, hlp⟩ := list_of len hel
    refine ⟨l, some a, len, cap, rfl, hl, hm, hll, fun hn => ?_⟩
    obtain ⟨y, hy⟩ : ∃ y, l[0]? = some y := ⟨l[0]'(by omega), List.getElem?_eq_getElem (by omega)⟩
    obtain ⟨vs, hr, hv⟩ := hlp 0 y hy
    have hvl := Rep.len hr
    obtain ⟨v0, hv0⟩ : ∃ v, vs[0]? = some v := ⟨vs[0]'(by omega), List.getElem?_eq_getElem (by omega)⟩
    have h0 := hv 0 v0 hv0
    have ha : a.add (0 * Rep.size α + 0) = a := by rw [show 0 * Rep.size α + 0 = 0 by omega]; exact Addr.add_zero' a
    rw [ha] at h0
    obtain ⟨hblk, hsp⟩ := cell_block h0
    obtain ⟨b, o, s⟩ := a
    simp only at hsp hblk
    subst hsp
    refine ⟨b, o, rfl, hblk, fun i z hz => ?_⟩
    obtain ⟨us, hr', hv'⟩ := hlp i z hz
    refine ⟨us, hr', fun j v hj => ?_⟩
    have := hv' j v hj
    rw [Addr.add_lit] at this
    rw [Nat.add_assoc]
    exact this

theorem Tryz.own : ownKnob Tryz.prog.godebug = none := by kernel_rfl
theorem Tryz.laidOut : laidOutB Tryz.prog = true := by kernel_rfl

section
variable {H : Type} {enc : TypeId × Value → H} {P : Program}
/-- The row's post, where what was there when the call began is as it was: the results, the arguments and the variables read as the specification says. -/
theorem post_below {f : Func} {s : ChangeSpec} {apart fresh handsOn again : Bool} {W W' : World} {args : Array Value} {v : Value} {ds gs : List (DataW H)} {before pa pv : List MemPlace}
    (hW : DataW.Whole enc P f.params.toList s.vars apart W args.toList ds gs before)
    (hres : ∀ (b : Nat) (sp : Nat → Bool) (hd : Bool), DataW.TrodAll enc P W' b sp hd f.resultTypes.toList (v.resultList f.resultTypes.size) (s.fn H (ds ++ gs)).results [])
    (hargs : ∀ sp : Nat → Bool, (∀ p ∈ before, sp p.block = true) → DataW.TrodAll enc P W' 0 sp true f.params.toList args.toList (s.fn H (ds ++ gs)).args pa)
    (hvars : ∀ sp : Nat → Bool, (∀ p ∈ before, sp p.block = true) → DataW.TrodVars enc P W' sp s.vars (s.fn H (ds ++ gs)).vars pv)
    (hps : before = pa ++ pv) (hb : Below W.heap.size W W')
    (hok : ∀ (j : Nat) (t : TypeId) (r : Value), f.resultTypes[j]? = some t → (v.resultList f.resultTypes.size)[j]? = some r → Value.okWide P W' .any 0 t r) :
    s.post enc P f apart fresh handsOn again W args v W' := by
  have hlt : ∀ p ∈ before, p.block < W.heap.size := fun p hp => hW.lt p hp
  have hold : ∀ p ∈ before, (fun b => decide (b < W.heap.size)) p.block = true := fun p hp => by simpa using hlt p hp
  refine ⟨ds, gs, before, [], pa, pv, hW, hres _ _ _, hargs _ hold, hvars _ hold, World.keptBut_mono (fun p hp => ⟨hp, ?_⟩) (hb.frame (· ∈ before)), fun _ => ?_⟩
  · rw [hps, List.mem_append] at hp
    exact Or.inr hp
  · obtain ⟨_, _, _, _, _, hz, hn⟩ := hW
    refine ⟨hok, _, _, ([] ++ pa) ++ pv, ⟨[] ++ pa, pv, trodAll_append (hargs _ (fun _ _ => rfl)) (hres _ _ _), hvars _ (fun _ _ => rfl), rfl, ?_, ?_⟩, ?_⟩
    · intro b off hp
      have hin : MemPlace.cell b off ∈ before := by rw [hps]; simpa using hp
      rw [hb.frozen (hlt _ hin)]
      exact hz b off hin
    · intro ha
      have := hn ha
      rw [hps] at this
      simpa using this
    · intro p hp _
      rw [hps]
      simpa using hp
end

theorem rd_of {α : Type} [Rep α] {P : Program} {t : TypeId} (hr : Reads α P t) {H : Type} {enc : TypeId × Value → H} {w : World} {base : Nat} {spare : Nat → Bool} {held : Bool} {v : Value} {d : DataW H} {ps : List MemPlace}
    (h : DataW.Trod enc P w base spare held t v d ps) : ∃ a : α, Rep.cells w (lt w.heap.size) a v.cells.toList := by
  obtain ⟨fuel, hf⟩ := h
  exact hr H enc w base spare held fuel _ _ hf

set_option maxRecDepth 100000
theorem some_of {β : Type} {xs : List β} {k i : Nat} {o : Option β} (hl : xs.length = k) (hi : i < k) (e : o = xs[i]?) : ∃ y, o = some y ∧ xs[i]? = some y :=
  ⟨xs[i]'(by omega), e.trans (List.getElem?_eq_getElem (by omega)), List.getElem?_eq_getElem (by omega)⟩
theorem rd_ints : Reads (List Int) Tryz.prog 22 := rd_slice (P := Tryz.prog) Tryz.underlying22 (by kernel_rfl) (by decide) (rd_int (P := Tryz.prog) (t := 3) Tryz.underlying3)
theorem rd_outc : Reads Outc Tryz.prog 24 := by
  intro H enc w base spare held fuel cs x h
  obtain ⟨xs, n, rfl, rfl, hcl, hxl, hf⟩ := DataW.trod_struct Tryz.underlying24 h
  have hcl' : cs.length = 3 := hcl
  have hxl' : xs.length = 3 := hxl
  match cs, hcl' with
  | [c0, c1, c2], _ =>
    obtain ⟨y0, e0, k0⟩ := some_of hxl' (by omega) (hf 0 _ rfl)
    obtain ⟨y1, e1, k1⟩ := some_of hxl' (by omega) (hf 1 _ rfl)
    obtain ⟨y2, e2, k2⟩ := some_of hxl' (by omega) (hf 2 _ rfl)
    obtain ⟨l, hl⟩ := rd_ints H enc w base spare held n [c0] _ e0
    obtain ⟨g, hg⟩ := rd_ints H enc w base spare held n [c1] _ e1
    obtain ⟨b, hb⟩ := rd_bool (P := Tryz.prog) (t := 4) Tryz.underlying4 H enc w base spare held n [c2] _ e2
    obtain ⟨A, p, c, h2', hp, hc, sg⟩ : ∃ A p c, [c0] = [Value.slice A p c] ∧ p ≤ c ∧ c ≤ maxLen ∧ Sl w (lt w.heap.size) A p l := hl
    obtain ⟨T, r, d, h3', hr, hd, st⟩ : ∃ A p c, [c1] = [Value.slice A p c] ∧ p ≤ c ∧ c ≤ maxLen ∧ Sl w (lt w.heap.size) A p g := hg
    have h4' : [c2] = [Value.bool b] := hb
    simp only [List.cons.injEq, and_true] at h2' h3' h4'
    subst h2' h3' h4'
    exact ⟨⟨l, g, b⟩, ⟨A, p, c, T, r, d, rfl, hp, hc, hr, hd, sg, st⟩⟩
theorem read_outc {H : Type} {enc : TypeId × Value → H} {w : World} {base : Nat} {spare : Nat → Bool} {held : Bool} {b0 : Nat} {v : Value} {d : DataW H} {ps : List MemPlace}
    (hv : Value.okWide Tryz.prog w .any b0 24 v) (h : DataW.Trod enc Tryz.prog w base spare held 24 v d ps) :
    ∃ (q : Outc) (v0 v1 v2 : Value), v = .agg #[v0, v1, v2] ∧ Rep.cells w (lt w.heap.size) q [v0, v1, v2] := by
  obtain ⟨cs, rfl, hcs⟩ := okWide_struct Tryz.underlying24 hv
  obtain ⟨q, hq⟩ := rd_of rd_outc h
  have hl : cs.toList.length = 3 := Rep.len hq
  match hcl : cs.toList, hl with
  | [v0, v1, v2], _ =>
    have e : (Value.agg cs).cells.toList = [v0, v1, v2] := hcl
    rw [e] at hq
    refine ⟨q, v0, v1, v2, ?_, hq⟩
    rw [← Array.toArray_toList (xs := cs), hcl]

/-! ### The listed variables -/
def laid3 : List (String × DataW Unit) := [("math/bits.deBruijn32tab", Rows.laid_math_bits_deBruijn32tab), ("math/bits.deBruijn64tab", Rows.laid_math_bits_deBruijn64tab), ("internal/strconv.uint64pow10", Rows.laid_internal_strconv_uint64pow10)]
/-- The door's own heap meets the condition. -/
theorem door_met (os : Os) (args : Array Value) : laidMetH Tryz.prog laid3 ((World.doorLaid Tryz.prog 400 os).forCall (fun _ _ => 0) ⟨#[], args, []⟩).memory :=
  laidMetH_of_parts3 (fuel := 8) (laidMet_of_run' 8 (by kernel_rfl) (by kernel_rfl)) (by kernel_rfl) (by kernel_rfl)

end Go.Proofs.YtojddklogigihaaGreatDoor
