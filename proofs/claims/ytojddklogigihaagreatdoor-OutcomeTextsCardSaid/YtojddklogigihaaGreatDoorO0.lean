/- Data that lies in memory: what it is for cells to hold a Lean datum, read-only. Plain lemmas; no program is named. -/
import Derived.WalkKit
import Derived.WalkSpells
import Derived.WalkLawsBesides
import Derived.Lib.Hide
import Derived.Maps.AppendAt
import Derived.OwnWalk
namespace Go.Proofs.YtojddklogigihaaGreatDoor
open Go.RowKit

theorem block_of_add (a : Addr) (n : Nat) : (a.add n).block = a.block := by unfold Addr.add; split <;> rfl
theorem add_of_add (a : Addr) (i j : Nat) : (a.add i).add j = a.add (i + j) := by
  unfold Addr.add
  by_cases hi : i = 0 <;> by_cases hj : j = 0 <;> simp [hi, hj, Nat.add_assoc]

attribute [go_sem] block_of_add

def Blk (w : World) (g : Nat) (t : TypeId) (cs : Array Value) : Prop := w.heap[g]? = some (.cells cs t (0, 0))

section
variable {w w' : World} {g : Nat} {t : TypeId} {cs : Array Value}
theorem Blk.lt (h : Blk w g t cs) : g < w.heap.size := by
  rcases Nat.lt_or_ge g w.heap.size with hlt | hge
  · exact hlt
  · unfold Blk at h; rw [Array.getElem?_eq_none hge] at h; cases h
theorem Blk.cell (h : Blk w g t cs) (i : Nat) : w.cell? ⟨g, i, none⟩ = cs[i]? := cell_of_row w g i cs t (0, 0) h
theorem Blk.at_ (h : Blk w g t cs) (i : Nat) {v : Value} (hv : cs[i]? = some v) : w.cell? ⟨g, i, none⟩ = some v := (h.cell i).trans hv
theorem Blk.frozen (h : Blk w g t cs) (i : Nat) : w.frozen? ⟨g, i, none⟩ = false := by
  unfold Blk at h
  simp [World.frozen?, h]
theorem Blk.new (w : World) (t : TypeId) (cs : Array Value) : Blk (w.alloc (.cells cs t)) w.heap.size t cs := heap_alloc_new w _
theorem Blk.drew (h : Blk w g t cs) : Blk w.drew g t cs := h
theorem Blk.drewN (h : Blk w g t cs) (n : Nat) : Blk (w.drewN n) g t cs := h
theorem Blk.alloc (h : Blk w g t cs) (o : Obj) : Blk (w.alloc o) g t cs := (Below.heap_alloc w o g h.lt).trans h
theorem Blk.set_ (h : Blk w g t cs) (i : Nat) (u : Value) : Blk (w.setCell ⟨g, i, none⟩ u) g t (cs.setIfInBounds i u) := by
  unfold Blk at h ⊢
  simp [World.setCell, Array.getElem?_modify, h]
theorem Blk.far (h : Blk w g t cs) {p : Addr} (hp : g ≠ p.block) (u : Value) : Blk (w.setCell p u) g t cs := (Below.heap_setCell w p u g hp).trans h
theorem Blk.grown {row : Option Nat} (h : Blk w g t cs) (hb : w.grownBy w' row) (hg : row ≠ some g) : Blk w' g t cs := (hb.block g h.lt (fun e => hg e.symm)).trans h
theorem Blk.below {B : Nat} (h : Blk w g t cs) (hb : Below B w w') (hg : g < B) : Blk w' g t cs := (hb.block g hg).trans h
end

/-- The blocks below number B. -/
abbrev lt (B : Nat) : Nat → Prop := fun b => b < B

/-- The cells of one datum: 'cells w F x vs': the values vs hold the datum x in the world w, and all memory that they lead to lies in blocks of F. -/
class Rep (α : Type) where
  size : Nat
  cells : World → (Nat → Prop) → α → List Value → Prop
  len : ∀ {w F x vs}, cells w F x vs → vs.length = size
  keep : ∀ {w w' : World} {F x vs}, (∀ p : Addr, F p.block → w'.cell? p = w.cell? p) → cells w F x vs → cells w' F x vs
  mono : ∀ {w F F' x vs}, (∀ b, F b → F' b) → cells w F x vs → cells w F' x vs

instance : Rep Int where
  size := 1
  cells _ _ x vs := vs = [.int .i64 x]
  len h := by subst h; rfl
  keep _ h := h
  mono _ h := h

instance : Rep Bool where
  size := 1
  cells _ _ x vs := vs = [.bool x]
  len h := by subst h; rfl
  keep _ h := h
  mono _ h := h

/-- A slice value that reads as a list. -/
def Sl {α : Type} [Rep α] (w : World) (F : Nat → Prop) (A : Option Addr) (n : Nat) (xs : List α) : Prop :=
  xs.length = n ∧ (0 < n → ∃ b o, A = some ⟨b, o, none⟩ ∧ F b ∧
    ∀ i x, xs[i]? = some x → ∃ vs, Rep.cells w F x vs ∧ ∀ j v, vs[j]? = some v → w.cell? ⟨b, o + i * Rep.size α + j, none⟩ = some v)

theorem Sl.keep {α : Type} [Rep α] {w w' : World} {F : Nat → Prop} {n : Nat} {A : Option Addr} {xs : List α} (hk : ∀ p : Addr, F p.block → w'.cell? p = w.cell? p) (h : Sl w F A n xs) : Sl w' F A n xs :=
  ⟨h.1, fun hn => by
    obtain ⟨b, o, e, hb, hc⟩ := h.2 hn
    refine ⟨b, o, e, hb, fun i x hx => ?_⟩
    obtain ⟨vs, hr, hv⟩ := hc i x hx
    exact ⟨vs, Rep.keep hk hr, fun j v hj => (hk _ hb).trans (hv j v hj)⟩⟩
theorem Sl.wide {α : Type} [Rep α] {w : World} {F F' : Nat → Prop} {n : Nat} {A : Option Addr} {xs : List α} (hF : ∀ b, F b → F' b) (h : Sl w F A n xs) : Sl w F' A n xs :=
  ⟨h.1, fun hn => by
    obtain ⟨b, o, e, hb, hc⟩ := h.2 hn
    refine ⟨b, o, e, hF b hb, fun i x hx => ?_⟩
    obtain ⟨vs, hr, hv⟩ := hc i x hx
    exact ⟨vs, Rep.mono hF hr, hv⟩⟩
theorem Sl.mono {α : Type} [Rep α] {w : World} {B B' n : Nat} {A : Option Addr} {xs : List α} (hB : B ≤ B') (h : Sl w (lt B) A n xs) : Sl w (lt B') A n xs := h.wide fun _ hb => Nat.lt_of_lt_of_le hb hB
theorem Sl.below {α : Type} [Rep α] {w w' : World} {B n : Nat} {A : Option Addr} {xs : List α} (h : Sl w (lt B) A n xs) (hb : Below B w w') : Sl w' (lt B) A n xs := h.keep fun _ hp => hb.cell hp
theorem Sl.nil {α : Type} [Rep α] {w : World} {F : Nat → Prop} {A : Option Addr} : Sl (α := α) w F A 0 [] := ⟨rfl, fun h => absurd h (by omega)⟩
/-- The element at index k. -/
theorem Sl.at_ {α : Type} [Rep α] {w : World} {F : Nat → Prop} {n : Nat} {A : Option Addr} {xs : List α} (h : Sl w F A n xs) {k : Nat} (hk : k < n) :
    ∃ b o, A = some ⟨b, o, none⟩ ∧ F b ∧ ∃ x vs, xs[k]? = some x ∧ Rep.cells w F x vs ∧ ∀ j v, vs[j]? = some v → w.cell? ⟨b, o + k * Rep.size α + j, none⟩ = some v := by
  obtain ⟨b, o, e, hb, hc⟩ := h.2 (by omega)
  have hl : k < xs.length := by have := h.1; omega
  obtain ⟨vs, hr, hv⟩ := hc k xs[k] (List.getElem?_eq_getElem hl)
  exact ⟨b, o, e, hb, xs[k], vs, List.getElem?_eq_getElem hl, hr, hv⟩

instance {α : Type} [Rep α] : Rep (List α) where
  size := 1
  cells w F xs vs := ∃ A n c, vs = [.slice A n c] ∧ n ≤ c ∧ c ≤ maxLen ∧ Sl w F A n xs
  len h := by obtain ⟨A, n, c, rfl, _⟩ := h; rfl
  keep hk h := by obtain ⟨A, n, c, rfl, h1, h2, h3⟩ := h; exact ⟨A, n, c, rfl, h1, h2, h3.keep hk⟩
  mono hB h := by obtain ⟨A, n, c, rfl, h1, h2, h3⟩ := h; exact ⟨A, n, c, rfl, h1, h2, h3.wide hB⟩

theorem Rep.below {α : Type} [Rep α] {w w' : World} {B : Nat} {x : α} {vs : List Value} (h : Rep.cells w (lt B) x vs) (hb : Below B w w') : Rep.cells w' (lt B) x vs := Rep.keep (fun _ hp => hb.cell hp) h
theorem Rep.more {α : Type} [Rep α] {w : World} {B B' : Nat} {x : α} {vs : List Value} (h : Rep.cells w (lt B) x vs) (hB : B ≤ B') : Rep.cells w (lt B') x vs := Rep.mono (fun _ hb => Nat.lt_of_lt_of_le hb hB) h

/-- A slice of numbers, at index k. -/
theorem Sl.int {w : World} {F : Nat → Prop} {n : Nat} {A : Option Addr} {xs : List Int} (h : Sl w F A n xs) {k : Nat} (hk : k < n) :
    ∃ b o, A = some ⟨b, o, none⟩ ∧ F b ∧ ∃ x, xs[k]? = some x ∧ w.cell? ⟨b, o + k, none⟩ = some (.int .i64 x) := by
  obtain ⟨b, o, e, hb, x, vs, hx, hr, hv⟩ := h.at_ hk
  have hr' : vs = [.int .i64 x] := hr
  subst hr'
  refine ⟨b, o, e, hb, x, hx, ?_⟩
  have := hv 0 _ rfl
  simpa [Rep.size] using this
theorem Sl.int' {w : World} {F : Nat → Prop} {n : Nat} {A : Option Addr} {xs : List Int} (h : Sl w F A n xs) {k : Nat} (hk : k < n) :
    ∃ b o, A = some ⟨b, o, none⟩ ∧ F b ∧ w.cell? ⟨b, o + k, none⟩ = some (.int .i64 (xs.getD k 0)) := by
  obtain ⟨b, o, e, hb, x, hx, hc⟩ := h.int hk
  exact ⟨b, o, e, hb, by rw [List.getD_eq_getElem?_getD, hx]; exact hc⟩
theorem Sl.bool {w : World} {F : Nat → Prop} {n : Nat} {A : Option Addr} {xs : List Bool} (h : Sl w F A n xs) {k : Nat} (hk : k < n) :
    ∃ b o, A = some ⟨b, o, none⟩ ∧ F b ∧ w.cell? ⟨b, o + k, none⟩ = some (.bool (xs.getD k false)) := by
  obtain ⟨b, o, e, hb, x, vs, hx, hr, hv⟩ := h.at_ hk
  have hr' : vs = [.bool x] := hr
  subst hr'
  refine ⟨b, o, e, hb, ?_⟩
  have := hv 0 _ rfl
  rw [List.getD_eq_getElem?_getD, hx]
  simpa [Rep.size] using this

/-- What a row of the call's own holds: the cells of the elements; what these lead to lies in blocks of F. -/
def Own {α : Type} [Rep α] (w : World) (base : Nat) (E : TypeId) (F : Nat → Prop) (v : Value) (xs : List α) : Prop :=
  ∃ vs, w.ownsRow base E (Rep.size α) v xs.length vs ∧ ∀ i x, xs[i]? = some x → ∃ cs, Rep.cells w F x cs ∧ ∀ j u, cs[j]? = some u → vs[i * Rep.size α + j]? = some u

theorem Own.nil {α : Type} [Rep α] (w : World) (base : Nat) (E : TypeId) (F : Nat → Prop) : Own (α := α) w base E F (.slice none 0 0) [] :=
  ⟨[], World.ownsRow_nil _ _ _ _, fun i x h => by simp at h⟩
theorem Own.sl {α : Type} [Rep α] {w : World} {base : Nat} {E : TypeId} {F : Nat → Prop} {v : Value} {xs : List α} (h : Own w base E F v xs) (hF : ∀ b, F b → b < w.heap.size) :
    ∃ A c, v = .slice A xs.length c ∧ xs.length ≤ c ∧ c ≤ maxLen ∧ Sl w (lt w.heap.size) A xs.length xs := by
  obtain ⟨vs, ⟨hl, ho⟩, he⟩ := h
  rcases ho with ⟨rfl, h0⟩ | ⟨g, cap, cur, rfl, hg, hh, hn, hm, hs, ht⟩
  · have : xs = [] := List.eq_nil_of_length_eq_zero h0
    subst this
    exact ⟨none, 0, rfl, Nat.le_refl _, Nat.zero_le _, Sl.nil⟩
  · refine ⟨some ⟨g, 0, none⟩, cap, rfl, hn, hm, rfl, fun _ => ⟨g, 0, rfl, ?_, fun i x hx => ?_⟩⟩
    · exact Blk.lt (t := E) (cs := cur) hh
    · obtain ⟨cs, hr, hc⟩ := he i x hx
      refine ⟨cs, Rep.mono hF hr, fun j u hj => ?_⟩
      have h1 := hc j u hj
      rw [← ht, List.getElem?_take] at h1
      split at h1
      · rw [Nat.zero_add, Blk.cell (t := E) (cs := cur) hh]
        simpa using h1
      · cases h1
theorem Own.keep {α : Type} [Rep α] {w w' : World} {base : Nat} {E : TypeId} {F : Nat → Prop} {v : Value} {xs : List α} (h : Own w base E F v xs)
    (hF : ∀ p : Addr, F p.block → w'.cell? p = w.cell? p) (hrow : ∀ g, v.ownBlock = some g → w'.heap[g]? = w.heap[g]?) : Own w' base E F v xs := by
  obtain ⟨vs, ⟨hl, ho⟩, he⟩ := h
  refine ⟨vs, ⟨hl, ?_⟩, fun i x hx => ?_⟩
  · rcases ho with ho | ⟨g, cap, cur, rfl, hg, hh, r⟩
    · exact .inl ho
    · exact .inr ⟨g, cap, cur, rfl, hg, by rw [hrow g rfl]; exact hh, r⟩
  · obtain ⟨cs, hr, hc⟩ := he i x hx
    exact ⟨cs, Rep.keep hF hr, hc⟩
theorem Own.lt_ {α : Type} [Rep α] {w : World} {base : Nat} {E : TypeId} {F : Nat → Prop} {v : Value} {xs : List α} (h : Own w base E F v xs) {g : Nat} (hv : v.ownBlock = some g) : base ≤ g ∧ g < w.heap.size := by
  obtain ⟨vs, ⟨hl, ho⟩, he⟩ := h
  rcases ho with ⟨rfl, _⟩ | ⟨g', cap, cur, rfl, hg, hh, r⟩
  · cases hv
  · have e : g' = g := by simpa [Value.ownBlock] using hv
    subst e
    exact ⟨hg, Blk.lt (t := E) (cs := cur) hh⟩
theorem Own.ne {α : Type} [Rep α] {w : World} {base : Nat} {E : TypeId} {F : Nat → Prop} {v : Value} {xs : List α} (h : Own w base E F v xs) {g : Nat} {t : TypeId} {cs : Array Value} (hb : Blk w g t cs) (hne : E ≠ t) : v.ownBlock ≠ some g := by
  obtain ⟨vs, ⟨hl, ho⟩, he⟩ := h
  rcases ho with ⟨rfl, _⟩ | ⟨g', cap, cur, rfl, hg, hh, r⟩
  · simp [Value.ownBlock]
  · intro e
    have e : g' = g := by simpa [Value.ownBlock] using e
    subst e
    unfold Blk at hb
    rw [hh] at hb
    injection hb with hb
    injection hb with _ hb
    exact hne hb
/-- What was there is as it was, and more may be there. -/
theorem Own.ext {α : Type} [Rep α] {w w' : World} {base : Nat} {E : TypeId} {F : Nat → Prop} {v : Value} {xs : List α} (h : Own w base E F v xs) (hb : Below w.heap.size w w') (hF : ∀ b, F b → b < w.heap.size) : Own w' base E F v xs :=
  h.keep (fun _ hp => hb.cell (hF _ hp)) fun g hg => hb.block g (h.lt_ hg).2
theorem Own.alloc {α : Type} [Rep α] {w : World} {base : Nat} {E : TypeId} {F : Nat → Prop} {v : Value} {xs : List α} (h : Own w base E F v xs) (O : Obj) (hF : ∀ b, F b → b < w.heap.size) : Own (w.alloc O) base E F v xs :=
  h.ext ((Below.refl _ _).alloc (Nat.le_refl _) _) hF
theorem Own.setCell {α : Type} [Rep α] {w : World} {base : Nat} {E : TypeId} {F : Nat → Prop} {v : Value} {xs : List α} (h : Own w base E F v xs) {p : Addr} (u : Value) (hF : ¬ F p.block) (hne : v.ownBlock ≠ some p.block) : Own (w.setCell p u) base E F v xs :=
  h.keep (fun q hq => World.cell?_setCell_other w p q u (fun e => hF (e ▸ hq))) fun g hg => Below.heap_setCell w p u g (fun e => hne (e ▸ hg))
/-- append of one element, which lies in a block of its own. -/
theorem wpList_push {α : Type} [Rep α] {P : Program} {w : World} {ops : Array Oper} {rest : List Oper} {o : Oper} {a : Act} {Q : Exit → Act → World → Prop} (hgd : o.guard = none) (s x : Operand) (t : TypeId)
    (ho : o.op = .call { callee := .builtin .append, args := #[s, x], argTypes := #[t, t] })
    (base : Nat) (E : TypeId) (i : TypeInfo) (z : Value) (bytes : Nat) (ht : P.underlying t = some (.slice E)) (hi : P.info? E = some i) (hz : i.zero = some z)
    (hsize : i.size = Rep.size α) (hby : i.bytes = bytes) (hzs : z.cells.size = Rep.size α) (hsz : 0 < Rep.size α)
    (F : Nat → Prop) (v : Value) (xs : List α) (y : α) (cs : List Value) (g c : Nat) (hs : a.eval s = v) (hown : Own w base E F v xs) (hx : a.eval x = .slice (some ⟨g, 0, none⟩) 1 c)
    (hc : Rep.cells w F y cs) (hcell : ∀ j u, cs[j]? = some u → w.cell? ⟨g, j, none⟩ = some u) (h1 : ∀ u ∈ cs, u.oneCell' = true) (hF : ∀ b, F b → b < base) (hbase : base ≤ w.heap.size)
    (h63 : xs.length + 1 ≤ maxLen) (hbytes : (xs.length + 1) * bytes ≤ 140737488355328)
    (h : ∀ v' w', Own w' base E F v' (xs ++ [y]) → w.grownBy w' v.ownBlock → (v'.ownBlock = v.ownBlock ∨ v'.ownBlock = some w.heap.size) → wpList P ops Q rest (a.put o.dst v') w') : wpList P ops Q (o :: rest) a w := by
  obtain ⟨vs, hor, he⟩ := hown
  have hcl := Rep.len hc
  refine wpList_plain hgd fun _ hK => ?_
  obtain ⟨v', w', hrun, h2, h3, _, h5⟩ := run_append_own_at (P := P) w base t o.type E i z (Rep.size α) bytes ht hi hz hsize hby hzs hsz v xs.length vs hor ⟨g, 0, none⟩ 1 c cs (by rw [hcl]; omega)
    (fun j u hj => by rw [Addr.add_lit, Nat.zero_add]; exact hcell j u hj) h1 h63 hbytes hbase
  unfold Oper.wp execOp
  simp only [ho, resolve, invoke, builtin, Sem.run_bind, Sem.run_pure, Result.andThen_ok, List.map_toArray, List.map_cons, List.map_nil, hs, hx, hrun]
  refine hK _ _ (h v' w' ?_ h3 h5)
  have hold : Own w base E F v xs := ⟨vs, hor, he⟩
  have hk : ∀ p : Addr, F p.block → w'.cell? p = w.cell? p := fun p hp => World.cell?_of_block (h3.block p.block (Nat.lt_of_lt_of_le (hF _ hp) hbase) (fun e => by
    have h6 := (hold.lt_ e.symm).1
    have := hF _ hp
    omega))
  refine ⟨vs ++ cs, by simpa using h2, fun k q hq => ?_⟩
  have hvl : vs.length = xs.length * Rep.size α := hor.1
  rw [List.getElem?_append] at hq
  split at hq
  · obtain ⟨ds, hr, hd⟩ := he k q hq
    refine ⟨ds, Rep.keep hk hr, fun j u hj => ?_⟩
    have e1 := hd j u hj
    have e2 : k * Rep.size α + j < vs.length := by
      rcases Nat.lt_or_ge (k * Rep.size α + j) vs.length with h' | h'
      · exact h'
      · rw [List.getElem?_eq_none h'] at e1; cases e1
    rw [List.getElem?_append_left e2]
    exact e1
  · rename_i hge
    have hk0 : k - xs.length = 0 := by
      rcases Nat.eq_zero_or_pos (k - xs.length) with h' | h'
      · exact h'
      · rw [List.getElem?_eq_none (by simp only [List.length_cons, List.length_nil]; omega)] at hq; cases hq
    rw [hk0] at hq
    simp only [List.getElem?_cons_zero, Option.some.injEq] at hq
    subst hq
    refine ⟨cs, Rep.keep hk hc, fun j u hj => ?_⟩
    have hke : k = xs.length := by omega
    rw [hke, ← hvl, List.getElem?_append_right (by omega)]
    simpa using hj

theorem bcell {W w1 : World} (hb : Below W.heap.size W w1) : (∀ b o, b < W.heap.size → w1.cell? ⟨b, o, none⟩ = W.cell? ⟨b, o, none⟩) ∧ (∀ b o, b < W.heap.size → w1.frozen? ⟨b, o, none⟩ = W.frozen? ⟨b, o, none⟩) :=
  ⟨fun b o h => hb.cell (p := ⟨b, o, none⟩) h, fun b o h => hb.frozen (p := ⟨b, o, none⟩) h⟩

/-- A call that only computes. -/
def Ret (v : Value) (w : World) (e : Ending) (w' : World) : Prop := e = .returned v ∧ w = w'
/-- A call that may make memory: what was there is as it was. -/
def RetB (v : Value) (w : World) (e : Ending) (w' : World) : Prop := e = .returned v ∧ Below w.heap.size w w'
theorem Ret.b {v : Value} {w : World} {e : Ending} {w' : World} (h : Ret v w e w') : RetB v w e w' := ⟨h.1, h.2 ▸ Below.refl _ _⟩

theorem Ret.mk {v v' : Value} {w : World} (h : v = v') : Ret v' w (.returned v) w := ⟨congrArg _ h, rfl⟩
theorem RetB.mk {v v' : Value} {w w' : World} (h : v = v') (hb : Below w.heap.size w w') : RetB v' w (.returned v) w' := ⟨congrArg _ h, hb⟩
theorem cell_new (W : World) (cs : Array Value) (t : TypeId) {g : Nat} (hg : g = W.heap.size) : ∀ j u, cs.toList[j]? = some u → (W.alloc (.cells cs t)).cell? ⟨g, j, none⟩ = some u := by
  intro j u hj
  subst hg
  rw [(Blk.new W t cs).cell j]
  simpa using hj
theorem int_eq {k : IntKind} {a b : Int} (h : a = b) : Value.int k a = .int k b := by rw [h]
theorem bool_eq {a b : Bool} (h : a = b) : Value.bool a = .bool b := by rw [h]

end Go.Proofs.YtojddklogigihaaGreatDoor
