/- A run of Go code on values that are known in part: maps from numbers, values, memory, and what single operations yield. No program is named. -/
import Derived.WalkKit
import Derived.Below
import Derived.WalkSpells
import Derived.WalkLawsBesides
import Derived.Maps.AppendAt
import Derived.OwnWalk
import Derived.OrdersHeld
import Derived.LoopN
import Derived.Deep.AppendSrc
import Derived.MapKept
namespace Go.Proofs.YtojddklogigihaaGreatDoor.Sx
section
set_option linter.unusedSimpArgs false

/-! ### Maps from numbers -/
inductive T (α : Type) where
  | e
  | n (v : Option α) (l r : T α)

variable {α β : Type}

def T.get : T α → Nat → Option α
  | .e, _ => none
  | .n v l r, k => match Nat.beq k 0 with
    | true => v
    | false => match Nat.beq (Nat.mod k 2) 1 with
      | true => l.get (Nat.div k 2)
      | false => r.get (Nat.sub (Nat.div k 2) 1)

def T.setF (v : Option α) : Nat → T α → Nat → T α
  | 0, t, _ => t
  | f + 1, .e, k => match Nat.beq k 0 with
    | true => .n v .e .e
    | false => match Nat.beq (Nat.mod k 2) 1 with
      | true => .n none (T.setF v f .e (Nat.div k 2)) .e
      | false => .n none .e (T.setF v f .e (Nat.sub (Nat.div k 2) 1))
  | f + 1, .n u l r, k => match Nat.beq k 0 with
    | true => .n v l r
    | false => match Nat.beq (Nat.mod k 2) 1 with
      | true => .n u (T.setF v f l (Nat.div k 2)) r
      | false => .n u l (T.setF v f r (Nat.sub (Nat.div k 2) 1))
def T.put (t : T α) (k : Nat) (v : Option α) : T α := T.setF v (Nat.succ k) t k
abbrev T.set (t : T α) (k : Nat) (v : α) : T α := t.put k (some v)

theorem T.get_e (k : Nat) : (T.e : T α).get k = none := by simp [T.get]
theorem beq_ff {a b : Nat} (h : a ≠ b) : Nat.beq a b = false := by cases hb : Nat.beq a b; rfl; exact absurd (Nat.eq_of_beq_eq_true hb) h
theorem T.get_setF (v : Option α) : ∀ (f : Nat) (t : T α) (k j : Nat), k < f → (T.setF v f t k).get j = if j = k then v else t.get j := by
  intro f
  induction f with
  | zero => intro t k j h; omega
  | succ f ih =>
    intro t k j h
    by_cases hk : k = 0
    · subst hk
      cases t with
      | e =>
        simp only [T.setF, Nat.beq_refl, T.get]
        by_cases hj : j = 0
        · subst hj; simp
        · simp only [beq_ff hj, hj, if_false]; split <;> rfl
      | n u l r =>
        simp only [T.setF, Nat.beq_refl, T.get]
        by_cases hj : j = 0
        · subst hj; simp
        · simp only [beq_ff hj, hj, if_false]
    · have hdm : ∀ n : Nat, Nat.mod n 2 = n % 2 := fun _ => rfl
      have hdd : ∀ n : Nat, Nat.div n 2 = n / 2 := fun _ => rfl
      have hds : ∀ n m : Nat, Nat.sub n m = n - m := fun _ _ => rfl
      have key : ∀ (u : Option α) (l r : T α),
          (match Nat.beq (Nat.mod k 2) 1 with
            | true => T.n u (T.setF v f l (Nat.div k 2)) r
            | false => T.n u l (T.setF v f r (Nat.sub (Nat.div k 2) 1))).get j = if j = k then v else (T.n u l r).get j := by
        intro u l r
        by_cases ho : k % 2 = 1
        · have hb : Nat.beq (Nat.mod k 2) 1 = true := by rw [hdm, ho]; rfl
          simp only [hb]
          by_cases hj : j = 0
          · subst hj; simp only [T.get, Nat.beq_refl]; rw [if_neg (fun e => hk e.symm)]
          · simp only [T.get, beq_ff hj]
            by_cases hjo : j % 2 = 1
            · have hbj : Nat.beq (Nat.mod j 2) 1 = true := by rw [hdm, hjo]; rfl
              simp only [hbj, hdd]
              rw [ih l (k / 2) (j / 2) (by omega)]
              by_cases hjk : j = k
              · subst hjk; simp
              · rw [if_neg hjk, if_neg (by omega)]
            · have hbj : Nat.beq (Nat.mod j 2) 1 = false := by rw [hdm]; exact beq_ff hjo
              simp only [hbj]
              rw [if_neg (fun e => hjo (by rw [e]; exact ho))]
        · have hb : Nat.beq (Nat.mod k 2) 1 = false := by rw [hdm]; exact beq_ff ho
          simp only [hb]
          by_cases hj : j = 0
          · subst hj; simp only [T.get, Nat.beq_refl]; rw [if_neg (fun e => hk e.symm)]
          · simp only [T.get, beq_ff hj]
            by_cases hjo : j % 2 = 1
            · have hbj : Nat.beq (Nat.mod j 2) 1 = true := by rw [hdm, hjo]; rfl
              simp only [hbj]
              rw [if_neg (fun e => ho (by rw [← e]; exact hjo))]
            · have hbj : Nat.beq (Nat.mod j 2) 1 = false := by rw [hdm]; exact beq_ff hjo
              simp only [hbj, hdd, hds]
              rw [ih r (k / 2 - 1) (j / 2 - 1) (by omega)]
              by_cases hjk : j = k
              · subst hjk; simp
              · rw [if_neg hjk, if_neg (by omega)]
      cases t with
      | e =>
        have := key none .e .e
        simp only [T.setF, beq_ff hk]
        rw [this]
        by_cases hjk : j = k
        · simp [hjk]
        · rw [if_neg hjk, if_neg hjk, T.get_e]
          simp only [T.get]
          split
          · rfl
          · split <;> rfl
      | n u l r =>
        have := key u l r
        simp only [T.setF, beq_ff hk]
        exact this
theorem T.get_put (t : T α) (k j : Nat) (v : Option α) : (t.put k v).get j = if j = k then v else t.get j := T.get_setF v _ t k j (Nat.lt_succ_self k)
end
section
open Go.RowKit
set_option linter.unusedSimpArgs false

/-! ### Blocks of the model -/
theorem block_of_add (a : Addr) (n : Nat) : (a.add n).block = a.block := by unfold Addr.add; split <;> rfl
theorem add_lit (b o n : Nat) : (⟨b, o, none⟩ : Addr).add n = ⟨b, o + n, none⟩ := by unfold Addr.add; split <;> simp_all
/-- A block of cells, none of them frozen. -/
def Blk (w : World) (g : Nat) (t : TypeId) (cs : Array Value) : Prop := ∃ fz : Nat × Nat, w.heap[g]? = some (.cells cs t fz) ∧ (fz.1 = fz.2 ∨ cs.size ≤ fz.1)
section
variable {w w' : World} {g : Nat} {t : TypeId} {cs : Array Value}
theorem Blk.lt (h : Blk w g t cs) : g < w.heap.size := by
  obtain ⟨fz, h, _⟩ := h
  rcases Nat.lt_or_ge g w.heap.size with hlt | hge
  · exact hlt
  · rw [Array.getElem?_eq_none hge] at h; cases h
theorem Blk.cell (h : Blk w g t cs) (i : Nat) : w.cell? ⟨g, i, none⟩ = cs[i]? := by
  obtain ⟨fz, h, _⟩ := h
  exact cell_of_row w g i cs t fz h
theorem Blk.new (w : World) (t : TypeId) (cs : Array Value) : Blk (w.alloc (.cells cs t)) w.heap.size t cs := ⟨(0, 0), heap_alloc_new w _, .inl rfl⟩
theorem Blk.same {x : Nat} (h : Blk w x t cs) (e : w'.heap[x]? = w.heap[x]?) : Blk w' x t cs := by
  obtain ⟨fz, h, hf⟩ := h
  exact ⟨fz, e.trans h, hf⟩
theorem Blk.setRow (h : Blk w g t cs) (cs' : Array Value) (hs : cs'.size = cs.size) : Blk (w.setRow g cs') g t cs' := by
  obtain ⟨fz, h, hf⟩ := h
  exact ⟨fz, setRow_heap w g cs cs' t fz h, by rw [hs]; exact hf⟩
theorem Blk.frozen (h : Blk w g t cs) {i : Nat} (hi : i < cs.size) : w.frozen? ⟨g, i, none⟩ = false := by
  obtain ⟨⟨lo, hi'⟩, h, hf⟩ := h
  simp only [World.frozen?, h, Bool.and_eq_false_iff, decide_eq_false_iff_not]
  simp only at hf
  omega
theorem run_storeB (P : Program) (g o : Nat) (t : TypeId) : ∀ (vs : List Value) (i : Nat) (cur : Array Value) (w : World), Blk w g t cur → o + i + vs.length ≤ cur.size → (∀ v ∈ vs, v.oneCell' = true) →
    (storeCells ⟨g, o, none⟩ vs i).run P w = .ok () (w.setRow g (cur.toList.take (o + i) ++ vs ++ cur.toList.drop (o + i + vs.length)).toArray)
  | [], i, cur, w, hg, _, _ => by
    obtain ⟨fz, hg, _⟩ := hg
    simp only [storeCells, List.append_nil, List.length_nil, Nat.add_zero, List.take_append_drop, Array.toArray_toList]
    rw [setRow_self w g cur t fz hg]
    rfl
  | v :: rest, i, cur, w, hb, hl, h1 => by
    have hi : o + i < cur.size := by simp at hl; omega
    have hadd : (⟨g, o, none⟩ : Addr).add i = ⟨g, o + i, none⟩ := by unfold Addr.add; split <;> simp_all
    have hcell : w.cell? ⟨g, o + i, none⟩ = some cur[o + i] := by rw [hb.cell]; simp [hi]
    have hfro := hb.frozen hi
    have hst : (store ((⟨g, o, none⟩ : Addr).add i) v).run P w = .ok () (w.setRow g (cur.setIfInBounds (o + i) v)) := by
      obtain ⟨fz, hg, _⟩ := hb
      rw [hadd, run_store P w _ v _ (h1 v (by simp)), hcell]
      simp [hfro, setCell_eq_setRow w g (o + i) cur t fz v hg]
    have ih := run_storeB P g o t rest (i + 1) (cur.setIfInBounds (o + i) v) (w.setRow g (cur.setIfInBounds (o + i) v)) (hb.setRow _ (by simp)) (by simp at hl ⊢; omega) (fun x hx => h1 x (by simp [hx]))
    simp only [storeCells, Sem.run_bind, hst, Result.andThen_ok, ih, setRow_setRow]
    congr 3
    have e := list_seg_step cur.toList (o + i) v rest (by simp at hl ⊢; omega)
    simpa [Array.toList_setIfInBounds, Nat.add_assoc] using e
end

/-- The blocks of K are as they were. -/
structure Kp (K : Nat → Prop) (w w' : World) : Prop where
  os : w'.os = w.os
  tape : w'.tape = w.tape
  output : w'.output = w.output
  size : w.heap.size ≤ w'.heap.size
  block : ∀ k, K k → w'.heap[k]? = w.heap[k]?
theorem Kp.refl (K : Nat → Prop) (w : World) : Kp K w w := ⟨rfl, rfl, rfl, Nat.le_refl _, fun _ _ => rfl⟩
theorem Kp.trans {K : Nat → Prop} {a b c : World} (h : Kp K a b) (k : Kp K b c) : Kp K a c :=
  ⟨k.os.trans h.os, k.tape.trans h.tape, k.output.trans h.output, Nat.le_trans h.size k.size, fun i hi => (k.block i hi).trans (h.block i hi)⟩
theorem Kp.mono {K K' : Nat → Prop} {a b : World} (h : Kp K a b) (hk : ∀ k, K' k → K k) : Kp K' a b := ⟨h.os, h.tape, h.output, h.size, fun k hk' => h.block k (hk k hk')⟩
abbrev lt (B : Nat) : Nat → Prop := fun b => b < B
theorem Kp.below {B : Nat} {a b : World} (h : Kp (lt B) a b) : Below B a b := ⟨h.os, h.tape, h.output, h.size, h.block⟩
theorem Kp.of_below {B : Nat} {a b : World} (h : Below B a b) : Kp (lt B) a b := ⟨h.os, h.tape, h.output, h.size, h.block⟩
theorem Kp.alloc {K : Nat → Prop} (w : World) (o : Obj) (hK : ∀ b, K b → b < w.heap.size) : Kp K w (w.alloc o) :=
  ⟨rfl, rfl, rfl, (Below.alloc (Below.refl w.heap.size w) (Nat.le_refl _) o).size, fun k hk => Below.heap_alloc w o k (hK k hk)⟩
theorem Kp.drew (K : Nat → Prop) (w : World) : Kp K w w.drew := ⟨rfl, rfl, rfl, Nat.le_refl _, fun _ _ => rfl⟩

/-! ### Values -/
inductive AV where
  /-- an address-free value that is known -/
  | lit (v : Value)
  | sint (k : IntKind) (n : Int)
  | sbool (b : Bool)
  | ptr (b off : Nat)
  /-- 'op': the capacity is that of the block less 'cap' -/
  | sl (b off len cap : Nat) (op : Bool)
  /-- a slice of length 0, wherever it lies -/
  | emp
  /-- a map -/
  | mp (b : Nat)
  | fn (f : FuncId) (caps : List AV)
  | agg (l : List AV)
  | tup (l : List AV)
  | dead
abbrev Rho := Nat → Option (Nat × Nat)
def Rho.le (ρ ρ' : Rho) : Prop := ∀ i x, ρ i = some x → ρ' i = some x
theorem Rho.le.refl (ρ : Rho) : ρ.le ρ := fun _ _ h => h
theorem Rho.le.trans {a b c : Rho} (h : a.le b) (k : b.le c) : a.le c := fun i x e => k i x (h i x e)

mutual
def den (ρ : Rho) : AV → Value → Prop
  | .lit u, v => v = u
  | .sint k n, v => v = .int k n
  | .sbool b, v => v = .bool b
  | .ptr b off, v => ∃ x c, ρ b = some (x, c) ∧ v = .pointer (some ⟨x, off, none⟩)
  | .sl b off len cap op, v => ∃ x c, ρ b = some (x, c) ∧ v = .slice (some ⟨x, off, none⟩) len (if op then c - cap else cap) ∧ (op = true → cap ≤ c) ∧ len ≤ (if op then c - cap else cap)
  | .emp, v => ∃ A c, v = .slice A 0 c
  | .mp b, v => ∃ x c, ρ b = some (x, c) ∧ v = .map (some x)
  | .fn f caps, v => ∃ vs, v = .func (.func f) #[] vs.toArray ∧ dens ρ caps vs
  | .agg l, v => ∃ vs, v = .agg vs.toArray ∧ dens ρ l vs
  | .tup l, v => ∃ vs, v = .tuple vs.toArray ∧ dens ρ l vs
  | .dead, _ => True
def dens (ρ : Rho) : List AV → List Value → Prop
  | [], vs => vs = []
  | a :: l, vs => ∃ v vs', vs = v :: vs' ∧ den ρ a v ∧ dens ρ l vs'
end

mutual
theorem den_mono {ρ ρ' : Rho} (h : ρ.le ρ') : ∀ {a : AV} {v : Value}, den ρ a v → den ρ' a v
  | .lit _, _, hd => by simpa only [den] using hd
  | .sint .., _, hd => by simpa only [den] using hd
  | .sbool _, _, hd => by simpa only [den] using hd
  | .ptr b off, _, hd => by
    simp only [den] at hd ⊢
    obtain ⟨x, c, e, r⟩ := hd
    exact ⟨x, c, h _ _ e, r⟩
  | .sl .., _, hd => by
    simp only [den] at hd ⊢
    obtain ⟨x, c, e, r⟩ := hd
    exact ⟨x, c, h _ _ e, r⟩
  | .emp, _, hd => by simpa only [den] using hd
  | .mp b, _, hd => by
    simp only [den] at hd ⊢
    obtain ⟨x, c, e, r⟩ := hd
    exact ⟨x, c, h _ _ e, r⟩
  | .fn f caps, _, hd => by
    simp only [den] at hd ⊢
    obtain ⟨vs, e, r⟩ := hd
    exact ⟨vs, e, dens_mono h r⟩
  | .agg l, _, hd => by
    simp only [den] at hd ⊢
    obtain ⟨vs, e, r⟩ := hd
    exact ⟨vs, e, dens_mono h r⟩
  | .tup l, _, hd => by
    simp only [den] at hd ⊢
    obtain ⟨vs, e, r⟩ := hd
    exact ⟨vs, e, dens_mono h r⟩
  | .dead, _, _ => by simp only [den]
theorem dens_mono {ρ ρ' : Rho} (h : ρ.le ρ') : ∀ {l : List AV} {vs : List Value}, dens ρ l vs → dens ρ' l vs
  | [], _, hd => by simpa only [dens] using hd
  | a :: l, _, hd => by
    simp only [dens] at hd ⊢
    obtain ⟨v, vs', e, h1, h2⟩ := hd
    exact ⟨v, vs', e, den_mono h h1, dens_mono h h2⟩
end

theorem dens_length {ρ : Rho} : ∀ {l : List AV} {vs : List Value}, dens ρ l vs → vs.length = l.length
  | [], _, h => by simp only [dens] at h; subst h; rfl
  | a :: l, _, h => by simp only [dens] at h; obtain ⟨v, vs', rfl, _, h2⟩ := h; simp [dens_length h2]
theorem dens_get {ρ : Rho} : ∀ {l : List AV} {vs : List Value} (i : Nat) {a : AV}, dens ρ l vs → l[i]? = some a → ∃ v, vs[i]? = some v ∧ den ρ a v
  | [], _, i, a, h, e => by simp at e
  | a :: l, _, i, b, h, e => by
    simp only [dens] at h
    obtain ⟨v, vs', rfl, h1, h2⟩ := h
    cases i with
    | zero => simp at e; subst e; exact ⟨v, rfl, h1⟩
    | succ i => obtain ⟨u, hu, hd⟩ := dens_get i h2 (by simpa using e); exact ⟨u, by simpa using hu, hd⟩
theorem dens_get' {ρ : Rho} : ∀ {l : List AV} {vs : List Value} (i : Nat) {v : Value}, dens ρ l vs → vs[i]? = some v → ∃ a, l[i]? = some a ∧ den ρ a v
  | [], _, i, a, h, e => by simp only [dens] at h; subst h; simp at e
  | a :: l, _, i, b, h, e => by
    simp only [dens] at h
    obtain ⟨v, vs', rfl, h1, h2⟩ := h
    cases i with
    | zero => simp at e; subst e; exact ⟨a, rfl, h1⟩
    | succ i => obtain ⟨u, hu, hd⟩ := dens_get' i h2 (by simpa using e); exact ⟨u, by simpa using hu, hd⟩
theorem dens_append {ρ : Rho} : ∀ {l m : List AV} {us vs : List Value}, dens ρ l us → dens ρ m vs → dens ρ (l ++ m) (us ++ vs)
  | [], m, _, vs, h, k => by simp only [dens] at h; subst h; exact k
  | a :: l, m, _, vs, h, k => by
    simp only [dens] at h
    obtain ⟨v, vs', rfl, h1, h2⟩ := h
    simp only [List.cons_append, dens]
    exact ⟨v, _, rfl, h1, dens_append h2 k⟩
theorem dens_take {ρ : Rho} : ∀ (n : Nat) {l : List AV} {us : List Value}, dens ρ l us → dens ρ (l.take n) (us.take n)
  | 0, l, us, h => by simp [dens]
  | n + 1, [], _, h => by simp only [dens] at h; subst h; simp [dens]
  | n + 1, a :: l, _, h => by
    simp only [dens] at h
    obtain ⟨v, vs', rfl, h1, h2⟩ := h
    simp only [List.take_succ_cons, dens]
    exact ⟨v, _, rfl, h1, dens_take n h2⟩
theorem dens_drop {ρ : Rho} : ∀ (n : Nat) {l : List AV} {us : List Value}, dens ρ l us → dens ρ (l.drop n) (us.drop n)
  | 0, l, us, h => by simpa using h
  | n + 1, [], _, h => by simp only [dens] at h; subst h; simp [dens]
  | n + 1, a :: l, _, h => by
    simp only [dens] at h
    obtain ⟨v, vs', rfl, h1, h2⟩ := h
    simpa using dens_drop n h2
theorem dens_map_lit {ρ : Rho} : ∀ (vs : List Value), dens ρ (vs.map AV.lit) vs
  | [] => by simp [dens]
  | v :: vs => by simp only [List.map_cons, dens]; exact ⟨v, vs, rfl, by simp only [den], dens_map_lit vs⟩
theorem dens_replicate {ρ : Rho} {a : AV} {v : Value} (h : den ρ a v) : ∀ n, dens ρ (List.replicate n a) (List.replicate n v)
  | 0 => by simp [dens]
  | n + 1 => by simp only [List.replicate_succ, dens]; exact ⟨v, _, rfl, h, dens_replicate h n⟩

/-- What a constant is. -/
def AV.of : Value → AV
  | .agg cs => .agg (cs.toList.map .lit)
  | v => .lit v
theorem den_of {ρ : Rho} (v : Value) : den ρ (AV.of v) v := by
  cases v <;> simp only [AV.of, den]
  exact ⟨_, by simp, dens_map_lit _⟩
/-- The cells that a value takes. -/
def AV.cells : AV → List AV
  | .agg l => l
  | a => [a]
/-- Is it a value of one cell, or of several such? -/
def AV.one : AV → Bool
  | .lit v => v.oneCell'
  | .agg _ | .tup _ | .dead => false
  | _ => true
def AV.flat : AV → Bool
  | .agg l => l.all AV.one
  | a => a.one
theorem den_one {ρ : Rho} {a : AV} {v : Value} (h : den ρ a v) (h1 : a.one = true) : v.oneCell' = true := by
  cases a with
  | lit u => simp only [den] at h; subst h; exact h1
  | sint k n => simp only [den] at h; subst h; rfl
  | sbool b => simp only [den] at h; subst h; rfl
  | ptr b off => simp only [den] at h; obtain ⟨x, c, _, rfl⟩ := h; rfl
  | sl b off len cap op => simp only [den] at h; obtain ⟨x, c, _, rfl, _⟩ := h; rfl
  | emp => simp only [den] at h; obtain ⟨A, c, rfl⟩ := h; rfl
  | mp b => simp only [den] at h; obtain ⟨x, c, _, rfl⟩ := h; rfl
  | fn f caps => simp only [den] at h; obtain ⟨vs, rfl, _⟩ := h; rfl
  | agg l => cases h1
  | tup l => cases h1
  | dead => cases h1
theorem dens_one {ρ : Rho} : ∀ {l : List AV} {vs : List Value}, dens ρ l vs → l.all AV.one = true → ∀ v ∈ vs, v.oneCell' = true
  | [], _, h, _ => by simp only [dens] at h; subst h; simp
  | a :: l, _, h, h1 => by
    simp only [dens] at h
    obtain ⟨v, vs', rfl, h2, h3⟩ := h
    simp only [List.all_cons, Bool.and_eq_true] at h1
    intro u hu
    rcases List.mem_cons.1 hu with rfl | hu
    · exact den_one h2 h1.1
    · exact dens_one h3 h1.2 u hu
theorem cells_of_one {v : Value} (h : v.oneCell' = true) : v.cells = #[v] := by cases v <;> first | rfl | cases h
theorem den_cells {ρ : Rho} {a : AV} {v : Value} (h : den ρ a v) (hf : a.flat = true) : dens ρ a.cells v.cells.toList ∧ ∀ u ∈ v.cells.toList, u.oneCell' = true := by
  cases a with
  | agg l =>
    simp only [den] at h
    obtain ⟨vs, rfl, h⟩ := h
    exact ⟨by simpa [AV.cells, Value.cells] using h, by simpa [Value.cells] using dens_one h hf⟩
  | tup l => cases hf
  | dead => cases hf
  | _ =>
    have h1 := den_one h hf
    rw [cells_of_one h1]
    refine ⟨?_, by simpa using h1⟩
    simp only [AV.cells, dens]
    exact ⟨v, [], by simp, h, rfl⟩

/-! ### The memory of a run -/
structure Bk where
  ty : TypeId
  cells : List AV
  /-- 'some s': behind the cells there may be spare ones; s: the size of an element -/
  op : Option Nat
structure St where
  h : T Bk
  /-- the next number -/
  n : Nat
  /-- what may be written to -/
  wr : Nat → Bool

def CellsR (ρ : Rho) (w : World) (x c : Nat) (bk : Bk) : Prop :=
  ∃ vs rest, dens ρ bk.cells vs ∧ Blk w x bk.ty (vs ++ rest).toArray ∧ (∀ v ∈ vs, v.oneCell' = true) ∧ (bk.op = none → rest = []) ∧ (∀ s, bk.op = some s → (vs ++ rest).length = c * s)
/-- The entries of a map out of its keys and values, one behind the other. -/
def mapEntries : Nat → List Value → List MapEntry
  | i, k :: v :: l => { key := k, val := v, born := i } :: mapEntries (i + 1) l
  | _, _ => []
def MapR (ρ : Rho) (w : World) (x : Nat) (bk : Bk) : Prop :=
  ∃ vs n, dens ρ bk.cells vs ∧ vs.length = 2 * n ∧ w.heap[x]? = some (.map (mapEntries 0 vs).toArray n)
/-- 'some 0' tells a map: its keys and values, one behind the other. -/
def BkR (ρ : Rho) (w : World) (x c : Nat) (bk : Bk) : Prop := (bk.op ≠ some 0 → CellsR ρ w x c bk) ∧ (bk.op = some 0 → MapR ρ w x bk)
theorem BkR.mono {ρ ρ' : Rho} {w w' : World} {x c : Nat} {bk : Bk} (h : BkR ρ w x c bk) (hr : ρ.le ρ') (e : w'.heap[x]? = w.heap[x]?) : BkR ρ' w' x c bk := by
  refine ⟨fun hn => ?_, fun hn => ?_⟩
  · obtain ⟨vs, rest, h1, h2, h3, h4, h5⟩ := h.1 hn
    exact ⟨vs, rest, dens_mono hr h1, h2.same e, h3, h4, h5⟩
  · obtain ⟨vs, n, h1, h2, h3⟩ := h.2 hn
    exact ⟨vs, n, dens_mono hr h1, h2, e.trans h3⟩
theorem heap_lt {w : World} {x : Nat} {o : Obj} (h : w.heap[x]? = some o) : x < w.heap.size := by
  rcases Nat.lt_or_ge x w.heap.size with hlt | hge
  · exact hlt
  · rw [Array.getElem?_eq_none hge] at h; cases h
theorem BkR.lt {ρ : Rho} {w : World} {x c : Nat} {bk : Bk} (h : BkR ρ w x c bk) : x < w.heap.size := by
  by_cases hn : bk.op = some 0
  · obtain ⟨vs, n, h1, h2, h3⟩ := h.2 hn
    exact heap_lt h3
  · obtain ⟨vs, rest, h1, h2, h3, h4⟩ := h.1 hn
    exact h2.lt
def getC (h : T Bk) (b : Nat) : Option Bk := match h.get b with
  | some bk => match bk.op with
    | some 0 => none
    | _ => some bk
  | none => none
theorem getC_some {h : T Bk} {b : Nat} {bk : Bk} (e : getC h b = some bk) : h.get b = some bk ∧ bk.op ≠ some 0 := by
  unfold getC at e
  split at e
  · rename_i bk' hb
    split at e
    · cases e
    · rename_i hn
      obtain rfl := Option.some.inj e
      exact ⟨hb, fun h => hn h⟩
  · cases e
def getM (h : T Bk) (b : Nat) : Option (List AV) := match h.get b with
  | some bk => match bk.op with
    | some 0 => some bk.cells
    | _ => none
  | none => none
theorem getM_some {h : T Bk} {b : Nat} {l : List AV} (e : getM h b = some l) : ∃ bk, h.get b = some bk ∧ bk.op = some 0 ∧ bk.cells = l := by
  unfold getM at e
  split at e
  · rename_i bk' hb
    split at e
    · rename_i hn; obtain rfl := Option.some.inj e; exact ⟨_, hb, hn, rfl⟩
    · cases e
  · cases e

structure Sim (K : Nat → Prop) (w0 : World) (ρ : Rho) (st : St) (w : World) : Prop where
  kp : Kp K w0 w
  lt : ∀ b, K b → b < w0.heap.size
  blk : ∀ i bk, st.h.get i = some bk → ∃ x c, ρ i = some (x, c) ∧ BkR ρ w x c bk ∧ (st.wr i = true → ¬ K x)
  inj : ∀ i j bi bj x c c', st.h.get i = some bi → st.h.get j = some bj → ρ i = some (x, c) → ρ j = some (x, c') → i = j
  dom : ∀ i, ρ i ≠ none → i < st.n

variable {K : Nat → Prop} {w0 w : World} {ρ : Rho} {st : St}
theorem Sim.ltw (h : Sim K w0 ρ st w) : ∀ b, K b → b < w.heap.size := fun b hb => Nat.lt_of_lt_of_le (h.lt b hb) h.kp.size
/-- The world has turned where nothing lies. -/
theorem Sim.to {w' : World} (h : Sim K w0 ρ st w) (hk : Kp (fun b => b < w.heap.size) w w') : Sim K w0 ρ st w' :=
  ⟨h.kp.trans (hk.mono h.ltw), h.lt, fun i bk hi => by
    obtain ⟨x, c, e, hb, hn⟩ := h.blk i bk hi
    exact ⟨x, c, e, hb.mono (.refl ρ) (hk.block x hb.lt), hn⟩, h.inj, h.dom⟩
theorem Sim.drew (h : Sim K w0 ρ st w) : Sim K w0 ρ st w.drew := h.to (Kp.drew _ w)

def Rho.up (ρ : Rho) (n : Nat) (x : Nat × Nat) : Rho := fun i => if i = n then some x else ρ i
theorem Rho.le_up {ρ : Rho} {n : Nat} {x : Nat × Nat} (h : ρ n = none) : ρ.le (ρ.up n x) := fun i y e => by
  unfold Rho.up
  by_cases hi : i = n
  · subst hi; rw [h] at e; cases e
  · rw [if_neg hi]; exact e
theorem Sim.fresh (h : Sim K w0 ρ st w) : ρ st.n = none := by
  cases e : ρ st.n with
  | none => rfl
  | some x => exact absurd (h.dom st.n (by rw [e]; simp)) (Nat.lt_irrefl _)

/-- The numbers so far stand for what they stood for. -/
structure Ext (n n' : Nat) (ρ ρ' : Rho) : Prop where
  le : ρ.le ρ'
  same : ∀ i, i < n → ρ' i = ρ i
  num : n ≤ n'
theorem Ext.refl (n : Nat) (ρ : Rho) : Ext n n ρ ρ := ⟨.refl ρ, fun _ _ => rfl, Nat.le_refl n⟩
theorem Ext.trans {n n' n'' : Nat} {ρ ρ' ρ'' : Rho} (h : Ext n n' ρ ρ') (k : Ext n' n'' ρ' ρ'') : Ext n n'' ρ ρ'' :=
  ⟨h.le.trans k.le, fun i hi => (k.same i (Nat.lt_of_lt_of_le hi h.num)).trans (h.same i hi), Nat.le_trans h.num k.num⟩
theorem Ext.up {ρ : Rho} {n : Nat} (x : Nat × Nat) (h : ρ n = none) : Ext n (n + 1) ρ (ρ.up n x) :=
  ⟨Rho.le_up h, fun i hi => by unfold Rho.up; rw [if_neg (by omega)], by omega⟩
/-- A new block. -/
theorem Sim.new (h : Sim K w0 ρ st w) (bk0 : Bk) (c : Nat) (o : Obj) (hb0 : BkR (ρ.up st.n (w.heap.size, c)) (w.alloc o) w.heap.size c bk0) :
    Sim K w0 (ρ.up st.n (w.heap.size, c)) ⟨st.h.set st.n bk0, st.n + 1, st.wr⟩ (w.alloc o) ∧ Ext st.n (st.n + 1) ρ (ρ.up st.n (w.heap.size, c)) := by
  have hle : ρ.le (ρ.up st.n (w.heap.size, c)) := Rho.le_up h.fresh
  refine ⟨⟨h.kp.trans (Kp.alloc w _ h.ltw), h.lt, fun i bk hi => ?_, fun i j bi bj x c1 c2 hi hj ei ej => ?_, fun i hi => ?_⟩, Ext.up _ h.fresh⟩
  · rw [T.get_put] at hi
    by_cases hin : i = st.n
    · subst hin
      rw [if_pos rfl] at hi
      obtain rfl := Option.some.inj hi
      refine ⟨w.heap.size, c, by simp [Rho.up], hb0, fun _ hK => ?_⟩
      exact absurd (h.ltw _ hK) (Nat.lt_irrefl _)
    · rw [if_neg hin] at hi
      obtain ⟨x, c', e, hb, hn⟩ := h.blk i bk hi
      exact ⟨x, c', hle _ _ e, hb.mono hle (Below.heap_alloc w _ x hb.lt), hn⟩
  · rw [T.get_put] at hi hj
    have old : ∀ {i : Nat} {bi : Bk} {c1 : Nat}, i ≠ st.n → st.h.get i = some bi → (ρ.up st.n (w.heap.size, c)) i = some (x, c1) → x < w.heap.size ∧ ρ i = some (x, c1) := fun {i bi c1} hin hi ei => by
      have ei' : ρ i = some (x, c1) := by simpa [Rho.up, hin] using ei
      obtain ⟨x', c', e, hb, _⟩ := h.blk i bi hi
      rw [e] at ei'
      obtain ⟨rfl, rfl⟩ := Prod.mk.inj (Option.some.inj ei')
      exact ⟨hb.lt, e⟩
    by_cases hin : i = st.n
    · by_cases hjn : j = st.n
      · rw [hin, hjn]
      · rw [if_neg hjn] at hj
        obtain ⟨hlt, _⟩ := old hjn hj ej
        have : x = w.heap.size := by simpa [Rho.up, hin] using (congrArg (Option.map Prod.fst) ei).symm
        omega
    · rw [if_neg hin] at hi
      obtain ⟨hlt, ei'⟩ := old hin hi ei
      by_cases hjn : j = st.n
      · have : x = w.heap.size := by simpa [Rho.up, hjn] using (congrArg (Option.map Prod.fst) ej).symm
        omega
      · rw [if_neg hjn] at hj
        obtain ⟨_, ej'⟩ := old hjn hj ej
        exact h.inj i j bi bj x c1 c2 hi hj ei' ej'
  · show i < st.n + 1
    simp only [Rho.up] at hi
    by_cases hin : i = st.n
    · omega
    · rw [if_neg hin] at hi
      have := h.dom i hi
      omega
theorem Sim.alloc (h : Sim K w0 ρ st w) (ty : TypeId) (cells : List AV) (op : Option Nat) (hop : op ≠ some 0) (c : Nat) (vs rest : List Value) (hd : dens ρ cells vs) (h1 : ∀ v ∈ vs, v.oneCell' = true) (ho : op = none → rest = []) (hs : ∀ s, op = some s → (vs ++ rest).length = c * s) :
    Sim K w0 (ρ.up st.n (w.heap.size, c)) ⟨st.h.set st.n ⟨ty, cells, op⟩, st.n + 1, st.wr⟩ (w.alloc (.cells (vs ++ rest).toArray ty)) ∧ Ext st.n (st.n + 1) ρ (ρ.up st.n (w.heap.size, c)) :=
  h.new _ c _ ⟨fun _ => ⟨vs, rest, dens_mono (Rho.le_up h.fresh) hd, Blk.new w ty _, h1, ho, hs⟩, fun e => absurd e hop⟩
theorem Sim.blkC (h : Sim K w0 ρ st w) {i : Nat} {bk : Bk} (hi : getC st.h i = some bk) : ∃ x c, ρ i = some (x, c) ∧ CellsR ρ w x c bk ∧ (st.wr i = true → ¬ K x) := by
  obtain ⟨h1, h2⟩ := getC_some hi
  obtain ⟨x, c, h3, h4, h5⟩ := h.blk i bk h1
  exact ⟨x, c, h3, h4.1 h2, h5⟩
/-- Without some blocks. -/
theorem Sim.less (h : Sim K w0 ρ st w) (st' : St) (hg : ∀ i bk, st'.h.get i = some bk → st.h.get i = some bk) (hn : st.n ≤ st'.n) (hl : ∀ i, st'.wr i = true → st.wr i = true) : Sim K w0 ρ st' w :=
  ⟨h.kp, h.lt, fun i bk hi => by
    obtain ⟨x, c, e, hb, hk⟩ := h.blk i bk (hg i bk hi)
    exact ⟨x, c, e, hb, fun hli => hk (hl i hli)⟩, fun i j bi bj x c c' hi hj => h.inj i j bi bj x c c' (hg i bi hi) (hg j bj hj), fun i hi => Nat.lt_of_lt_of_le (h.dom i hi) hn⟩

/-- One block has been written to. -/
theorem Sim.write (h : Sim K w0 ρ st w) (i : Nat) {bk : Bk} {x c : Nat} (hi : st.h.get i = some bk) (hl : st.wr i = true) (he : ρ i = some (x, c)) (bk' : Bk) (w' : World) (hw : Kp (fun b => b < w.heap.size ∧ b ≠ x) w w') (hb' : BkR ρ w' x c bk') :
    Sim K w0 ρ ⟨st.h.set i bk', st.n, st.wr⟩ w' := by
  obtain ⟨x', c', e, hb, hn⟩ := h.blk i bk hi
  rw [he] at e
  obtain ⟨rfl, rfl⟩ := Prod.mk.inj (Option.some.inj e)
  have hnk := hn hl
  refine ⟨h.kp.trans (hw.mono fun b hb => ⟨h.ltw b hb, fun e => hnk (e ▸ hb)⟩), h.lt, fun j bj hj => ?_, fun j k bj bk2 y c1 c2 hj hk ej ek => ?_, h.dom⟩
  · rw [T.get_put] at hj
    by_cases hji : j = i
    · subst hji
      rw [if_pos rfl] at hj
      obtain rfl := Option.some.inj hj
      exact ⟨x, c, he, hb', fun _ => hnk⟩
    · rw [if_neg hji] at hj
      obtain ⟨y, cy, ey, hby, hny⟩ := h.blk j bj hj
      refine ⟨y, cy, ey, hby.mono (.refl ρ) (hw.block y ⟨hby.lt, fun e => ?_⟩), hny⟩
      subst e
      exact hji (h.inj j i bj bk y cy c hj hi ey he)
  · rw [T.get_put] at hj hk
    have key : ∀ {j : Nat} {b : Bk}, (if j = i then some bk' else st.h.get j) = some b → ∃ b', st.h.get j = some b' := fun {j b} hj => by
      by_cases hji : j = i
      · subst hji; exact ⟨bk, hi⟩
      · rw [if_neg hji] at hj; exact ⟨b, hj⟩
    obtain ⟨b1, h1⟩ := key hj
    obtain ⟨b2, h2⟩ := key hk
    exact h.inj j k b1 b2 y c1 c2 h1 h2 ej ek
end
section
open Go.RowKit
set_option linter.unusedSimpArgs false
set_option linter.unusedVariables false

/-! ### Trees of outcomes -/
inductive VT (α : Type) where
  | ret (a : α)
  | fork (c : Bool) (t e : VT α)
  | must (p : Prop) (t : VT α)
  | fail (k : Nat) (o : Option Oper)
def VT.bind {α β : Type} : VT α → (α → VT β) → VT β
  | .ret a, f => f a
  | .fork c t e, f => .fork c (t.bind f) (e.bind f)
  | .must p t, f => .must p (t.bind f)
  | .fail k o, _ => .fail k o
/-- Each outcome is in K. -/
def VT.ok {α : Type} : VT α → (α → Prop) → Prop
  | .ret a, K => K a
  | .fork c t e, K => (c = true → t.ok K) ∧ (c = false → e.ok K)
  | .must p t, K => p ∧ t.ok K
  | .fail _ _, _ => False
theorem VT.ok_bind {α β : Type} {K : β → Prop} : ∀ {t : VT α} {f : α → VT β}, (t.bind f).ok K → t.ok fun a => (f a).ok K
  | .ret a, f, h => h
  | .fork c t e, f, h => ⟨fun hc => ok_bind (h.1 hc), fun hc => ok_bind (h.2 hc)⟩
  | .must p t, f, h => ⟨h.1, ok_bind h.2⟩
  | .fail _ _, f, h => h
theorem VT.ok_mono {α : Type} {K K' : α → Prop} (hk : ∀ a, K a → K' a) : ∀ {t : VT α}, t.ok K → t.ok K'
  | .ret a, h => hk a h
  | .fork c t e, h => ⟨fun hc => ok_mono hk (h.1 hc), fun hc => ok_mono hk (h.2 hc)⟩
  | .must p t, h => ⟨h.1, ok_mono hk h.2⟩
  | .fail _ _, h => h
def VT.opt {α : Type} (x : Oper) : Option α → VT α
  | some a => .ret a
  | none => .fail 0 (some x)
theorem VT.ok_opt {α : Type} {K : α → Prop} {x : Oper} {o : Option α} (h : (VT.opt x o).ok K) : ∃ a, o = some a ∧ K a := by
  cases o with
  | none => exact h.elim
  | some a => exact ⟨a, rfl, h⟩
/-- One proof of all outcomes: K holds at some outcome whenever .. -/
theorem VT.ok_elim {α : Type} {K : α → Prop} {G : Prop} (hg : ∀ a, K a → G) : ∀ {t : VT α}, t.ok K → G
  | .ret a, h => hg a h
  | .fork c t e, h => by
    cases c with
    | true => exact ok_elim hg (h.1 rfl)
    | false => exact ok_elim hg (h.2 rfl)
  | .must p t, h => ok_elim hg h.2
  | .fail _ _, h => h.elim

/-! ### Runs that do not look at the world -/
def semVal {α : Type} (P : Program) : Sem α → Option α
  | .pure a => some a
  | .program k => semVal P (k P)
  | _ => none
theorem semVal_run {α : Type} {P : Program} : ∀ {m : Sem α} {v : α}, semVal P m = some v → ∀ w, m.run P w = .ok v w
  | .pure a, v, h, w => by obtain rfl := Option.some.inj h; rfl
  | .program k, v, h, w => semVal_run (m := k P) h w
  | .load .., _, h, _ => nomatch h
  | .store .., _, h, _ => nomatch h
  | .new .., _, h, _ => nomatch h
  | .shape .., _, h, _ => nomatch h
  | .freeze .., _, h, _ => nomatch h
  | .frozen .., _, h, _ => nomatch h
  | .getObj .., _, h, _ => nomatch h
  | .setObj .., _, h, _ => nomatch h
  | .choose .., _, h, _ => nomatch h
  | .sys .., _, h, _ => nomatch h
  | .mark .., _, h, _ => nomatch h
  | .halt .., _, h, _ => nomatch h

/-! ### Operands -/
def TR (ρ : Rho) (nt : Nat) (tm : T AV) (a : Act) : Prop := a.tmps.size = nt ∧ ∀ t v, tm.get t = some v → den ρ v (a.tmps.getD t undef)
def ev (tm : T AV) : Operand → AV
  | .tmp t => match tm.get t with | some v => v | none => .dead
  | .const v => AV.of v
  | .global _ => .dead
  | .func f => .fn f []
variable {P : Program} {ρ ρ' : Rho} {nt : Nat} {tm : T AV} {a : Act} {w : World}
theorem TR.mono (h : TR ρ nt tm a) (hr : ρ.le ρ') : TR ρ' nt tm a := ⟨h.1, fun t v e => den_mono hr (h.2 t v e)⟩
theorem TR.ev (h : TR ρ nt tm a) (x : Operand) : den ρ (ev tm x) (a.eval x) := by
  cases x with
  | tmp t =>
    simp only [Sx.ev, Act.eval]
    cases e : tm.get t with
    | none => simp only [den]
    | some v => exact h.2 t v e
  | const v => exact den_of v
  | global g => simp only [Sx.ev, den]
  | func f => simp only [Sx.ev, Act.eval, den]; exact ⟨[], rfl, by simp only [dens]⟩
theorem TR.put (h : TR ρ nt tm a) {d : Nat} (hd : d < nt) {v : AV} {u : Value} (hv : den ρ v u) : TR ρ nt (tm.set d v) (a.put (some d) u) := by
  refine ⟨by simp [Act.put, h.1], fun t x e => ?_⟩
  rw [T.get_put] at e
  have hs := h.1
  by_cases ht : t = d
  · subst ht
    rw [if_pos rfl] at e
    obtain rfl := Option.some.inj e
    simpa [Act.put, Array.getD_eq_getD_getElem?, Array.getElem?_setIfInBounds, hs, hd] using hv
  · rw [if_neg ht] at e
    have := h.2 t x e
    have htd : ¬ d = t := fun e => ht e.symm
    simpa [Act.put, Array.getD_eq_getD_getElem?, Array.getElem?_setIfInBounds, htd] using this
def lits : List AV → Option (List Value)
  | [] => some []
  | .lit v :: l => match lits l with | some vs => some (v :: vs) | none => none
  | _ :: _ => none
def toLit : AV → Option Value
  | .lit v => some v
  | .agg l => match lits l with | some vs => some (.agg vs.toArray) | none => none
  | _ => none
theorem lits_den : ∀ {l : List AV} {vs us : List Value}, lits l = some vs → dens ρ l us → us = vs
  | [], _, _, h, hd => by simp only [dens] at hd; obtain rfl := Option.some.inj h; exact hd
  | a :: l, vs, us, h, hd => by
    simp only [dens] at hd
    obtain ⟨v, vs', rfl, h1, h2⟩ := hd
    cases a with
    | lit u =>
      simp only [lits] at h
      cases hl : lits l with
      | none => rw [hl] at h; cases h
      | some xs =>
        rw [hl] at h
        obtain rfl := Option.some.inj h
        simp only [den] at h1
        rw [h1, lits_den hl h2]
    | _ => simp [lits] at h
theorem toLit_den {x : AV} {v u : Value} (h : toLit x = some v) (hd : den ρ x u) : u = v := by
  cases x with
  | lit z => simp only [toLit] at h; obtain rfl := Option.some.inj h; simpa only [den] using hd
  | agg l =>
    simp only [toLit] at h
    simp only [den] at hd
    obtain ⟨vs, rfl, hd⟩ := hd
    cases hl : lits l with
    | none => rw [hl] at h; cases h
    | some xs => rw [hl] at h; obtain rfl := Option.some.inj h; rw [lits_den hl hd]
  | _ => simp [toLit] at h

/-- What an operation yields without a look at the memory. -/
def Yields (P : Program) (ρ : Rho) (o : Oper) (a : Act) (v : AV) : Prop := ∀ w, ∃ u, (execOp a.eval o).run P w = .ok (.value u) w ∧ den ρ v u

/-! ### Arithmetic and comparison -/
def isNilAddr : AV → Bool
  | .lit (.pointer none) | .lit (.slice none _ _) | .lit .nilFunc => true
  | _ => false
def isAddr : AV → Bool
  | .ptr .. | .sl .. | .fn .. => true
  | _ => false
def binA (P : Program) (op : BinOp) (t : TypeId) (x y : Operand) (u v : AV) : Option AV :=
  match toLit u, toLit v with
  | some a, some b => match semVal P (do eqGuard op t x y a b; binOp op t a b) with
    | some r => some (AV.of r)
    | none => none
  | _, _ => none
theorem binA_ok {o : Oper} {op : BinOp} {t yt : TypeId} {x y : Operand} {v : AV} (ho : o.op = .binOp op t x y yt) (h : TR ρ nt tm a) (hb : binA P op t x y (ev tm x) (ev tm y) = some v) : Yields P ρ o a v := by
  intro w
  unfold binA at hb
  cases h1 : toLit (ev tm x) with
  | none => rw [h1] at hb; cases hb
  | some u1 =>
    cases h2 : toLit (ev tm y) with
    | none => rw [h1, h2] at hb; cases hb
    | some u2 =>
      rw [h1, h2] at hb
      simp only at hb
      have e1 := toLit_den h1 (h.ev x)
      have e2 := toLit_den h2 (h.ev y)
      cases hv : semVal P (do eqGuard op t x y u1 u2; binOp op t u1 u2) with
      | none => rw [hv] at hb; cases hb
      | some r =>
        rw [hv] at hb
        obtain rfl := Option.some.inj hb
        refine ⟨r, ?_, den_of r⟩
        have hr := semVal_run hv w
        unfold execOp
        simp only [ho, e1, e2]
        simp only [Sem.run_bind] at hr ⊢
        rw [hr]
        rfl
def unA (P : Program) (op : UnOp) (u : AV) : Option AV :=
  match toLit u with
  | some a => match semVal P (Op.unary op a) with
    | some r => some (AV.of r)
    | none => none
  | none => none
theorem unA_ok {o : Oper} {op : UnOp} {t : TypeId} {x : Operand} {v : AV} (ho : o.op = .unOp op t x) (h : TR ρ nt tm a) (hb : unA P op (ev tm x) = some v) : Yields P ρ o a v := by
  intro w
  unfold unA at hb
  cases h1 : toLit (ev tm x) with
  | none => rw [h1] at hb; cases hb
  | some u1 =>
    rw [h1] at hb
    have e1 := toLit_den h1 (h.ev x)
    cases hv : semVal P (Op.unary op u1) with
    | none => simp only [hv] at hb; cases hb
    | some r =>
      simp only [hv] at hb
      obtain rfl := Option.some.inj hb
      refine ⟨r, ?_, den_of r⟩
      unfold execOp
      simp only [ho, e1, Sem.run_bind, semVal_run hv w]
      rfl
def convA (P : Program) (s t : TypeId) (u : AV) : Option AV :=
  match toLit u with
  | some a => match semVal P (convert s t a) with
    | some r => some (AV.of r)
    | none => none
  | none => none
theorem convA_ok {o : Oper} {s t : TypeId} {x : Operand} {v : AV} (ho : o.op = .convert s t x) (h : TR ρ nt tm a) (hb : convA P s t (ev tm x) = some v) : Yields P ρ o a v := by
  intro w
  unfold convA at hb
  cases h1 : toLit (ev tm x) with
  | none => rw [h1] at hb; cases hb
  | some u1 =>
    rw [h1] at hb
    have e1 := toLit_den h1 (h.ev x)
    cases hv : semVal P (convert s t u1) with
    | none => simp only [hv] at hb; cases hb
    | some r =>
      simp only [hv] at hb
      obtain rfl := Option.some.inj hb
      refine ⟨r, ?_, den_of r⟩
      unfold execOp
      simp only [ho, e1, Sem.run_bind, semVal_run hv w]
      rfl
def indexA (P : Program) (t : TypeId) (u i : AV) : Option AV :=
  match toLit u, toLit i with
  | some a, some b => match semVal P (Instr.index t a b) with
    | some r => some (AV.of r)
    | none => none
  | _, _ => none
theorem indexA_ok {o : Oper} {t : TypeId} {x i : Operand} {v : AV} (ho : o.op = .index t x i) (h : TR ρ nt tm a) (hb : indexA P t (ev tm x) (ev tm i) = some v) : Yields P ρ o a v := by
  intro w
  unfold indexA at hb
  split at hb
  · rename_i u1 u2 h1 h2
    have e1 := toLit_den h1 (h.ev x)
    have e2 := toLit_den h2 (h.ev i)
    cases hv : semVal P (Instr.index t u1 u2) with
    | none => simp only [hv] at hb; cases hb
    | some r =>
      simp only [hv] at hb
      obtain rfl := Option.some.inj hb
      refine ⟨r, ?_, den_of r⟩
      unfold execOp
      simp only [ho, e1, e2, Sem.run_bind, semVal_run hv w]
      rfl
  · cases hb
theorem move_ok {o : Oper} {x : Operand} (ho : o.op = .move x ∨ o.op = .assign x) (h : TR ρ nt tm a) : Yields P ρ o a (ev tm x) := by
  intro w
  refine ⟨a.eval x, ?_, h.ev x⟩
  unfold execOp
  rcases ho with ho | ho <;> simp only [ho] <;> rfl
def boolOf : AV → Option Bool
  | .lit (.bool b) => some b
  | _ => none
theorem boolOf_den {x : AV} {b : Bool} {u : Value} (h : boolOf x = some b) (hd : den ρ x u) : u = .bool b := by
  unfold boolOf at h
  split at h
  · obtain rfl := Option.some.inj h; simpa only [den] using hd
  · cases h
def intOf : AV → Option (IntKind × Int)
  | .lit (.int k n) => some (k, n)
  | _ => none
theorem intOf_den {x : AV} {k : IntKind} {n : Int} {u : Value} (h : intOf x = some (k, n)) (hd : den ρ x u) : u = .int k n := by
  unfold intOf at h
  split at h
  · obtain ⟨rfl, rfl⟩ := Prod.mk.inj (Option.some.inj h); simpa only [den] using hd
  · cases h
theorem pick_ok {o : Oper} {c x y : Operand} {b : Bool} (ho : o.op = .pick c x y) (h : TR ρ nt tm a) (hc : boolOf (ev tm c) = some b) : Yields P ρ o a (match b with | true => ev tm x | false => ev tm y) := by
  intro w
  have e := boolOf_den hc (h.ev c)
  cases b with
  | true =>
    refine ⟨a.eval x, ?_, h.ev x⟩
    unfold execOp
    simp only [ho, e]
    rfl
  | false =>
    refine ⟨a.eval y, ?_, h.ev y⟩
    unfold execOp
    simp only [ho, e]
    rfl
theorem extract_ok {o : Oper} {x : Operand} {i : Nat} {l : List AV} {v : AV} (ho : o.op = .extract x i) (h : TR ρ nt tm a) (hx : ev tm x = .tup l) (hi : l[i]? = some v) : Yields P ρ o a v := by
  intro w
  have hd := h.ev x
  rw [hx] at hd
  simp only [den] at hd
  obtain ⟨vs, e, hd⟩ := hd
  obtain ⟨u, hu, hdu⟩ := dens_get i hd hi
  refine ⟨u, ?_, hdu⟩
  unfold execOp
  simp only [ho, e, Instr.extract, List.getElem?_toArray, hu]
  rfl
theorem isAgg_run {t : TypeId} {d : TypeDesc} (h : P.underlying t = some d) (w : World) : (isAgg t).run P w = .ok (match d with | .struct _ | .array _ _ => true | _ => false) w := by
  unfold isAgg
  rw [Sem.run_bind, run_underlying h]
  cases d <;> rfl
def aggT (P : Program) (t : TypeId) : Option Bool := match P.underlying t with
  | some (.struct _) | some (.array _ _) => some true
  | some _ => some false
  | none => none
theorem aggT_run {t : TypeId} {b : Bool} (h : aggT P t = some b) (w : World) : (isAgg t).run P w = .ok b w := by
  unfold aggT at h
  cases hu : P.underlying t with
  | none => rw [hu] at h; cases h
  | some d => rw [hu] at h; rw [isAgg_run hu w]; cases d <;> simp_all
def sizeT (P : Program) (t : TypeId) : Option Nat := match P.info? t with | some i => some i.size | none => none
theorem info_run {t : TypeId} {i : TypeInfo} (h : P.info? t = some i) (w : World) : (typeInfo t).run P w = .ok i w := by
  simp [typeInfo, Sem.run_bind, h]
theorem sizeT_run {t : TypeId} {n : Nat} (h : sizeT P t = some n) (w : World) : (sizeOf t).run P w = .ok n w := by
  unfold sizeT at h
  cases hi : P.info? t with
  | none => rw [hi] at h; cases h
  | some i =>
    rw [hi] at h
    obtain rfl := Option.some.inj h
    simp [sizeOf, Sem.run_bind, info_run hi]
def partA (P : Program) (t : TypeId) (l : List AV) (off : Nat) : Option AV :=
  match aggT P t with
  | some true => match sizeT P t with
    | some n => some (.agg ((l.drop off).take n))
    | none => none
  | some false => l[off]?
  | none => none
theorem partA_ok {t : TypeId} {l : List AV} {vs : List Value} {off : Nat} {v : AV} (h : partA P t l off = some v) (hd : dens ρ l vs) (w : World) : ∃ u, (part t vs.toArray off).run P w = .ok u w ∧ den ρ v u := by
  unfold partA at h
  unfold part
  cases ha : aggT P t with
  | none => rw [ha] at h; cases h
  | some b =>
    simp only [Sem.run_bind, aggT_run ha, Result.andThen_ok]
    cases b with
    | true =>
      simp only [ha] at h
      cases hs : sizeT P t with
      | none => rw [hs] at h; cases h
      | some n =>
        rw [hs] at h
        obtain rfl := Option.some.inj h
        simp only [if_true, Sem.run_bind, sizeT_run hs, Result.andThen_ok]
        refine ⟨_, rfl, ?_⟩
        simp only [den]
        refine ⟨(vs.drop off).take n, ?_, dens_take n (dens_drop off hd)⟩
        simp
    | false =>
      simp only [ha] at h
      obtain ⟨u, hu, hdu⟩ := dens_get off hd h
      refine ⟨u, ?_, hdu⟩
      simp [hu]
def fieldA (P : Program) (t : TypeId) (f : Nat) (x : AV) : Option AV :=
  match P.underlying t, x with
  | some (.struct fs), .agg l => match fs[f]? with
    | some fd => partA P fd.type l fd.offset
    | none => none
  | _, _ => none
theorem fieldA_ok {o : Oper} {t : TypeId} {x : Operand} {f : Nat} {v : AV} (ho : o.op = .field t x f) (h : TR ρ nt tm a) (hf : fieldA P t f (ev tm x) = some v) : Yields P ρ o a v := by
  intro w
  have hd := h.ev x
  unfold fieldA at hf
  split at hf
  · rename_i fs l hu hx
    rw [hx] at hd
    simp only [den] at hd
    obtain ⟨vs, e, hd⟩ := hd
    cases hfd : fs[f]? with
    | none => rw [hfd] at hf; cases hf
    | some fd =>
      rw [hfd] at hf
      obtain ⟨u, hr, hu'⟩ := partA_ok hf hd w
      refine ⟨u, ?_, hu'⟩
      unfold execOp
      simp only [ho, e, Instr.field, asAgg, Sem.run_bind, run_underlying hu, Result.andThen_ok, hfd, Sem.run_pure, hr]
  · cases hf
/-! ### Addresses -/
def fieldAddrA (P : Program) (t : TypeId) (f : Nat) (x : AV) : Option AV :=
  match P.underlying t, x with
  | some (.struct fs), .ptr b off => match fs[f]? with
    | some fd => match sizeT P fd.type with
      | some (_ + 1) => some (.ptr b (off + fd.offset))
      | _ => none
    | none => none
  | _, _ => none
theorem fieldAddrA_ok {o : Oper} {t : TypeId} {x : Operand} {f : Nat} {v : AV} (ho : o.op = .fieldAddr t x f) (h : TR ρ nt tm a) (hf : fieldAddrA P t f (ev tm x) = some v) : Yields P ρ o a v := by
  intro w
  have hd := h.ev x
  unfold fieldAddrA at hf
  split at hf
  · rename_i fs b off hu hx
    rw [hx] at hd
    simp only [den] at hd
    obtain ⟨y, c, hy, e⟩ := hd
    cases hfd : fs[f]? with
    | none => rw [hfd] at hf; cases hf
    | some fd =>
      rw [hfd] at hf
      simp only at hf
      cases hs : sizeT P fd.type with
      | none => rw [hs] at hf; cases hf
      | some n =>
        cases n with
        | zero => rw [hs] at hf; cases hf
        | succ n =>
          rw [hs] at hf
          obtain rfl := Option.some.inj hf
          refine ⟨.pointer (some ⟨y, off + fd.offset, none⟩), ?_, by simp only [den]; exact ⟨y, c, hy, rfl⟩⟩
          unfold execOp
          simp [ho, e, Instr.fieldAt, Sem.run_bind, run_underlying hu, hfd, Instr.sureAddr, fieldPlace, sizeT_run hs, add_lit]
  · cases hf
def indexAddrA (P : Program) (t : TypeId) (x i : AV) : Option AV :=
  match P.underlying t, x, intOf i with
  | some (.slice e), .sl b off len _ _, some (_, .ofNat k) => match Nat.blt k len, sizeT P e with
    | true, some s => some (.ptr b (Nat.add off (Nat.mul k s)))
    | _, _ => none
  | some (.array len e), .ptr b off, some (_, .ofNat k) => match Nat.blt k len, sizeT P e with
    | true, some s => some (.ptr b (Nat.add off (Nat.mul k s)))
    | _, _ => none
  | _, _, _ => none
theorem indexAddrA_ok {o : Oper} {t : TypeId} {x i : Operand} {v : AV} (ho : o.op = .indexAddr t x i) (h : TR ρ nt tm a) (hf : indexAddrA P t (ev tm x) (ev tm i) = some v) : Yields P ρ o a v := by
  intro w
  have hd := h.ev x
  unfold indexAddrA at hf
  split at hf
  · rename_i e b off len c op ik k hu hx hi
    rw [hx] at hd
    simp only [den] at hd
    obtain ⟨y, c', hy, ex, _⟩ := hd
    have ei := intOf_den hi (h.ev i)
    split at hf
    · rename_i s hb hs
      obtain rfl := Option.some.inj hf
      have hk : k < len := Nat.le_of_ble_eq_true hb
      refine ⟨.pointer (some ⟨y, off + k * s, none⟩), ?_, by simp only [den]; exact ⟨y, c', hy, rfl⟩⟩
      unfold execOp
      simp [ho, ex, ei, Instr.indexAt, asIntOf, Sem.run_bind, run_underlying hu, sizeT_run hs, add_lit, hk]
    · cases hf
  · rename_i len e b off ik k hu hx hi
    rw [hx] at hd
    simp only [den] at hd
    obtain ⟨y, c', hy, ex⟩ := hd
    have ei := intOf_den hi (h.ev i)
    split at hf
    · rename_i s hb hs
      obtain rfl := Option.some.inj hf
      have hk : k < len := Nat.le_of_ble_eq_true hb
      refine ⟨.pointer (some ⟨y, off + k * s, none⟩), ?_, by simp only [den]; exact ⟨y, c', hy, rfl⟩⟩
      unfold execOp
      simp [ho, ex, ei, Instr.indexAt, Instr.sureAddr, asIntOf, Sem.run_bind, run_underlying hu, sizeT_run hs, add_lit, hk]
    · cases hf
  · cases hf
def nilCheckA : AV → Option AV
  | .ptr b off => some (.ptr b off)
  | .fn f l => some (.fn f l)
  | _ => none
theorem nilCheckA_ok {o : Oper} {x : Operand} {v : AV} (ho : o.op = .nilCheck x) (h : TR ρ nt tm a) (hf : nilCheckA (ev tm x) = some v) : Yields P ρ o a v := by
  intro w
  have hd := h.ev x
  refine ⟨a.eval x, ?_, ?_⟩
  · unfold nilCheckA at hf
    split at hf
    · rename_i hx
      rw [hx] at hd
      simp only [den] at hd
      obtain ⟨y, c, hy, e⟩ := hd
      unfold execOp
      simp only [ho, e]
      rfl
    · rename_i hx
      rw [hx] at hd
      simp only [den] at hd
      obtain ⟨vs, e, hd⟩ := hd
      unfold execOp
      simp only [ho, e]
      rfl
    · cases hf
  · have : v = ev tm x := by
      unfold nilCheckA at hf
      split at hf
      · rename_i hx; rw [hx]; exact (Option.some.inj hf).symm
      · rename_i hx; rw [hx]; exact (Option.some.inj hf).symm
      · cases hf
    rw [this]; exact hd
theorem evs_den (h : TR ρ nt tm a) : ∀ (xs : List Operand), dens ρ (xs.map (ev tm)) (xs.map a.eval)
  | [] => by simp [dens]
  | x :: xs => by simp only [List.map_cons, dens]; exact ⟨_, _, rfl, h.ev x, evs_den h xs⟩
theorem makeFunc_ok {o : Oper} {f : FuncId} {caps : Array Operand} (ho : o.op = .makeFunc (.func f) #[] caps) (h : TR ρ nt tm a) : Yields P ρ o a (.fn f (caps.toList.map (ev tm))) := by
  intro w
  refine ⟨.func (.func f) #[] (caps.map a.eval), ?_, ?_⟩
  · unfold execOp
    simp only [ho, Instr.makeFunc, Array.map_empty]
    rfl
  · simp only [den]
    refine ⟨caps.toList.map a.eval, by rw [← Array.toList_map], evs_den h _⟩
end
section
open Go.RowKit
set_option linter.unusedSimpArgs false
set_option linter.unusedVariables false
variable {P : Program} {ρ ρ' : Rho} {nt : Nat} {tm : T AV} {a : Act} {w : World}

/-! ### Aggregates -/
def spliceA (l : List AV) (off : Nat) (m : List AV) : List AV := l.take off ++ (m ++ l.drop (Nat.add off m.length))
def fillA (place : Nat → Option (Nat × Nat)) : List AV → List (Nat × AV) → Option (List AV)
  | cells, [] => some cells
  | cells, (i, v) :: rest => match place i with
    | none => none
    | some (off, size) => match v.flat, Nat.beq v.cells.length size, Nat.ble (Nat.add off v.cells.length) cells.length with
      | true, true, true => fillA place (spliceA cells off v.cells) rest
      | _, _, _ => none
theorem foldl_set : ∀ (m : List Value) (k off : Nat) (l : Array Value), off + k + m.length ≤ l.size →
    (m.zipIdx k).foldl (fun cs (x : Value × Nat) => cs.setIfInBounds (off + x.2) x.1) l = (l.toList.take (off + k) ++ (m ++ l.toList.drop (off + k + m.length))).toArray
  | [], k, off, l, h => by simp
  | x :: m, k, off, l, h => by
    simp only [List.zipIdx_cons, List.foldl_cons]
    rw [foldl_set m (k + 1) off _ (by simp at h ⊢; omega)]
    have e := list_seg_step l.toList (off + k) x m (by simp at h ⊢; omega)
    simp only [Array.toList_setIfInBounds, List.length_cons]
    rw [← List.append_assoc, ← Nat.add_assoc off k 1, e, List.append_assoc]
theorem fillA_ok {place : Nat → Option (Nat × Nat)} : ∀ {parts : List (Nat × AV)} {ps : List (Nat × Value)} {cells : List AV} {cs : List Value} {r : List AV},
    dens ρ cells cs → (ps.map Prod.fst = parts.map Prod.fst) → dens ρ (parts.map Prod.snd) (ps.map Prod.snd) → fillA place cells parts = some r → ∃ rs : List Value, Instr.fill place cs.toArray ps = some rs.toArray ∧ dens ρ r rs
  | [], ps, cells, cs, r, hc, hi, hp, h => by
    obtain rfl : ps = [] := by simpa using hi
    obtain rfl := Option.some.inj h
    exact ⟨cs, rfl, hc⟩
  | (i, v) :: parts, ps, cells, cs, r, hc, hi, hp, h => by
    cases ps with
    | nil => simp at hi
    | cons p ps =>
      obtain ⟨j, u⟩ := p
      simp only [List.map_cons, List.cons.injEq] at hi
      obtain ⟨rfl, hi⟩ := hi
      simp only [List.map_cons, dens] at hp
      obtain ⟨u', us', he, hv, hp⟩ := hp
      obtain ⟨rfl, rfl⟩ := List.cons.inj he
      simp only [fillA] at h
      cases hpl : place j with
      | none => rw [hpl] at h; cases h
      | some os =>
        obtain ⟨off, size⟩ := os
        rw [hpl] at h
        simp only at h
        split at h
        · rename_i hf hs hb
          have hs := Nat.eq_of_beq_eq_true hs
          have hb : off + v.cells.length ≤ cells.length := Nat.le_of_ble_eq_true hb
          obtain ⟨hcv, _⟩ := den_cells hv hf
          have hl := dens_length hcv
          have hlc := dens_length hc
          have hn : dens ρ (spliceA cells off v.cells) (cs.take off ++ (u.cells.toList ++ cs.drop (off + v.cells.length))) := dens_append (dens_take off hc) (dens_append hcv (dens_drop _ hc))
          obtain ⟨rs, hr, hd⟩ := fillA_ok hn hi hp h
          refine ⟨rs, ?_, hd⟩
          have hsz : u.cells.size = v.cells.length := by rw [← hl]; simp
          simp only [Instr.fill, hpl]
          rw [if_neg (by simp only [List.size_toArray, Bool.or_eq_true, decide_eq_true_eq, not_or]; exact ⟨by omega, by omega⟩)]
          rw [← hr]
          congr 1
          rw [← Array.foldl_toList, Array.toList_zipIdx]
          rw [foldl_set u.cells.toList 0 off cs.toArray (by simp; omega)]
          simp only [Nat.add_zero, Array.length_toList]
          rw [hsz]
        · cases h
def placesA (P : Program) : List Field → Option (List (Nat × Nat))
  | [] => some []
  | f :: fs => match P.info? f.type, placesA P fs with
    | some i, some l => some ((f.offset, i.size) :: l)
    | _, _ => none
theorem placesA_eq : ∀ (fs : List Field) {l : List (Nat × Nat)}, placesA P fs = some l → fs.mapM (fun f => (P.info? f.type).map fun i => (f.offset, i.size)) = some l
  | [], l, h => by simp only [placesA] at h; simpa using h
  | f :: fs, l, h => by
    simp only [placesA] at h
    cases hi : P.info? f.type with
    | none => rw [hi] at h; cases h
    | some i =>
      cases hr : placesA P fs with
      | none => rw [hi, hr] at h; cases h
      | some l' =>
        rw [hi, hr] at h
        obtain rfl := Option.some.inj h
        simp [List.mapM_cons, hi, placesA_eq fs hr]
def zeroA (P : Program) (t : TypeId) : Option (List AV) := match P.info? t with
  | some i => match i.zero with
    | some z => some (z.cells.toList.map AV.lit)
    | none => none
  | none => none
def getAt {α : Type} : List α → Nat → Option α
  | [], _ => none
  | x :: l, k => match Nat.beq k 0 with
    | true => some x
    | false => getAt l (Nat.sub k 1)
theorem getAt_eq {α : Type} : ∀ (l : List α) (k : Nat), getAt l k = l[k]?
  | [], k => by simp [getAt]
  | x :: l, k => by
    simp only [getAt]
    cases k with
    | zero => simp
    | succ k =>
      rw [beq_ff (by omega : k + 1 ≠ 0)]
      simp only
      rw [show Nat.sub (k + 1) 1 = k from rfl, getAt_eq l k]
      simp
def buildA (P : Program) (t : TypeId) (parts : List (Nat × AV)) : Option AV :=
  match P.underlying t, zeroA P t with
  | some (.struct fs), some z => match placesA P fs.toList with
    | some pl => match fillA (getAt pl) z parts with
      | some l => some (.agg l)
      | none => none
    | none => none
  | some (.array _ e), some z => match sizeT P e with
    | some s => match fillA (fun i => some (Nat.mul i s, s)) z parts with
      | some l => some (.agg l)
      | none => none
    | none => none
  | _, _ => none
theorem buildA_ok {o : Oper} {t : TypeId} {parts : Array (Nat × Operand)} {v : AV} (ho : o.op = .build t parts) (h : TR ρ nt tm a) (hf : buildA P t (parts.toList.map fun p => (p.1, ev tm p.2)) = some v) : Yields P ρ o a v := by
  intro w
  unfold buildA at hf
  split at hf
  · rename_i fs z hu hz
    cases hp : placesA P fs.toList with
    | none => rw [hp] at hf; cases hf
    | some pl =>
      rw [hp] at hf
      simp only at hf
      cases hl : fillA (getAt pl) z (parts.toList.map fun p => (p.1, ev tm p.2)) with
      | none => rw [hl] at hf; cases hf
      | some l =>
        rw [hl] at hf
        obtain rfl := Option.some.inj hf
        unfold zeroA at hz
        cases hi : P.info? t with
        | none => rw [hi] at hz; cases hz
        | some i =>
          cases hzz : i.zero with
          | none => rw [hi] at hz; simp only [hzz] at hz; cases hz
          | some zz =>
            rw [hi] at hz
            simp only [hzz] at hz
            obtain rfl := Option.some.inj hz
            obtain ⟨rs, hr, hd⟩ := fillA_ok (place := getAt pl) (ps := parts.toList.map fun p => (p.1, a.eval p.2)) (dens_map_lit _) (by simp) (by
              simp only [List.map_map]
              have := evs_den h (parts.toList.map Prod.snd)
              simpa [List.map_map, Function.comp_def] using this) hl
            refine ⟨.agg rs.toArray, ?_, by simp only [den]; exact ⟨rs, rfl, hd⟩⟩
            have hb : P.built t (parts.map fun p => (p.1, a.eval p.2)).toList = some rs.toArray := by
              unfold Program.built
              rw [hi, hu]
              simp only [hzz, placesA_eq _ hp]
              rw [← hr]
              have : (fun x => pl.toArray[x]?) = getAt pl := by funext k; simp [getAt_eq]
              rw [this]
              simp
            unfold execOp
            simp only [ho, Sem.run_bind, run_build w t _ _ hb, Result.andThen_ok]
            rfl
  · rename_i ln e z hu hz
    cases hse : sizeT P e with
    | none => rw [hse] at hf; cases hf
    | some s =>
      rw [hse] at hf
      simp only at hf
      cases hl : fillA (fun i => some (Nat.mul i s, s)) z (parts.toList.map fun p => (p.1, ev tm p.2)) with
      | none => rw [hl] at hf; cases hf
      | some l =>
        rw [hl] at hf
        obtain rfl := Option.some.inj hf
        unfold zeroA at hz
        cases hi : P.info? t with
        | none => rw [hi] at hz; cases hz
        | some i =>
          cases hzz : i.zero with
          | none => rw [hi] at hz; simp only [hzz] at hz; cases hz
          | some zz =>
            rw [hi] at hz
            simp only [hzz] at hz
            obtain rfl := Option.some.inj hz
            obtain ⟨rs, hr, hd⟩ := fillA_ok (place := fun i => some (Nat.mul i s, s)) (ps := parts.toList.map fun p => (p.1, a.eval p.2)) (dens_map_lit _) (by simp) (by
              simp only [List.map_map]
              have := evs_den h (parts.toList.map Prod.snd)
              simpa [List.map_map, Function.comp_def] using this) hl
            refine ⟨.agg rs.toArray, ?_, by simp only [den]; exact ⟨rs, rfl, hd⟩⟩
            have hb : P.built t (parts.map fun p => (p.1, a.eval p.2)).toList = some rs.toArray := by
              unfold sizeT at hse
              cases hie : P.info? e with
              | none => rw [hie] at hse; cases hse
              | some ie =>
                rw [hie] at hse
                obtain rfl := Option.some.inj hse
                unfold Program.built
                rw [hi, hu]
                simp only [hzz, hie]
                rw [← hr]
                simp
            unfold execOp
            simp only [ho, Sem.run_bind, run_build w t _ _ hb, Result.andThen_ok]
            rfl
  · cases hf

/-! ### Slices of slices -/
def optInt (tm : T AV) (d : Nat) : Option Operand → Option Nat
  | none => some d
  | some x => match intOf (ev tm x) with
    | some (_, .ofNat n) => some n
    | _ => none
theorem optInt_run (h : TR ρ nt tm a) {d n y : Nat} {x : Option Operand} {code : BoundsCode} (hx : optInt tm d x = some n) (hy : n ≤ y) (w : World) :
    (x = none ∧ n = d) ∨ (∃ x' k, x = some x' ∧ a.eval x' = .int k (n : Int) ∧ (Instr.sliceBound (a.eval x') y code).run P w = .ok n w) := by
  cases x with
  | none => exact .inl ⟨rfl, (Option.some.inj hx).symm⟩
  | some x' =>
    unfold optInt at hx
    simp only at hx
    split at hx
    · rename_i k m hi
      obtain rfl := Option.some.inj hx
      have e := intOf_den hi (h.ev x')
      refine .inr ⟨x', k, rfl, e, ?_⟩
      rw [e]
      simp [Instr.sliceBound, asIntOf, Sem.run_bind, hy]
    · cases hx
def capMin (op : Bool) (len cap : Nat) : Nat := match op with | true => len | false => cap
def sliceA (P : Program) (tm : T AV) (t : TypeId) (x : AV) (lo hi mx : Option Operand) : Option AV :=
  match P.underlying t, x with
  | some (.slice e), .sl b off len cap op =>
    match optInt tm 0 lo, optInt tm len hi, sizeT P e with
    | some l, some h, some s =>
      match mx with
      | some m => match hi, optInt tm 0 (some m) with
        | some _, some m => match Nat.ble l h && (Nat.ble h m && Nat.ble m (capMin op len cap)) with
          | true => match Nat.beq m l with
            | true => some (.sl b off (Nat.sub h l) (Nat.sub m l) false)
            | false => some (.sl b (Nat.add off (Nat.mul l s)) (Nat.sub h l) (Nat.sub m l) false)
          | false => none
        | _, _ => none
      | none => match Nat.ble l h && Nat.ble h (capMin op len cap) with
        | true => match op with
          | true => match Nat.beq l 0 with
            | true => some (.sl b off h cap true)
            | false => match Nat.blt l h with
              | true => some (.sl b (Nat.add off (Nat.mul l s)) (Nat.sub h l) (Nat.add cap l) true)
              | false => some .emp
          | false => match Nat.beq cap l with
            | true => some (.sl b off (Nat.sub h l) (Nat.sub cap l) false)
            | false => some (.sl b (Nat.add off (Nat.mul l s)) (Nat.sub h l) (Nat.sub cap l) false)
        | false => none
    | _, _, _ => none
  | some _, .lit v => match mx with
    | some _ => none
    | none => match lo, hi with
      | none, none => match semVal P (Instr.sliceAt t v none none none) with | some r => some (AV.of r) | none => none
      | some l, none => match toLit (ev tm l) with
        | some l => match semVal P (Instr.sliceAt t v (some l) none none) with | some r => some (AV.of r) | none => none
        | none => none
      | none, some h => match toLit (ev tm h) with
        | some h => match semVal P (Instr.sliceAt t v none (some h) none) with | some r => some (AV.of r) | none => none
        | none => none
      | some l, some h => match toLit (ev tm l), toLit (ev tm h) with
        | some l, some h => match semVal P (Instr.sliceAt t v (some l) (some h) none) with | some r => some (AV.of r) | none => none
        | _, _ => none
  | _, _ => none
theorem lenA_le {op : Bool} {len cap c h : Nat} (h1 : len ≤ (if op then c - cap else cap)) (h2 : h ≤ capMin op len cap) : h ≤ (if op then c - cap else cap) := by
  cases op <;> simp only [capMin, if_true, Bool.false_eq_true, if_false] at * <;> omega
theorem sliceA_ok {o : Oper} {t : TypeId} {x : Operand} {lo hi mx : Option Operand} {v : AV} (ho : o.op = .slice t x lo hi mx) (h : TR ρ nt tm a) (hf : sliceA P tm t (ev tm x) lo hi mx = some v) : Yields P ρ o a v := by
  intro w
  have hd := h.ev x
  unfold sliceA at hf
  split at hf
  · rename_i e b off len cap op hu hx
    rw [hx] at hd
    simp only [den] at hd
    obtain ⟨y, c, hy, ex, hoc, hlen⟩ := hd
    split at hf
    · rename_i l hh s hl hhi hs
      -- the bounds
      have key : ∀ (m : Nat), l ≤ hh → hh ≤ m → (Instr.sliceBounds true len (if op then c - cap else cap) (lo.map a.eval) (hi.map a.eval) (mx.map a.eval)).run P w = .ok (l, hh, m) w →
          (execOp a.eval o).run P w = .ok (.value (.slice (some (if m = l then ⟨y, off, none⟩ else ⟨y, off + l * s, none⟩)) (hh - l) (m - l))) w := by
        intro m _ _ hb
        unfold execOp
        simp only [ho, ex, Instr.sliceAt, Sem.run_bind, run_underlying hu, Result.andThen_ok, Instr.slice, hb, sizeT_run hs]
        by_cases hml : m = l
        · simp [hml]
        · simp [hml, add_lit]
      have low : l ≤ hh → ∀ code, (match lo.map a.eval with | some v => Instr.sliceBound v hh code | none => pure 0 : Sem Nat).run P w = .ok l w := by
        intro hlh code
        rcases optInt_run (P := P) (code := code) h hl hlh w with ⟨rfl, rfl⟩ | ⟨x', k, rfl, _, hr⟩
        · rfl
        · exact hr
      cases mx with
      | some mxo =>
        simp only at hf
        split at hf
        · rename_i hio m hm
          split at hf
          · rename_i bb
            simp only [Bool.and_eq_true] at bb
            have b1 := Nat.le_of_ble_eq_true bb.1
            have b2 := Nat.le_of_ble_eq_true bb.2.1
            have b3 := lenA_le hlen (Nat.le_of_ble_eq_true bb.2.2)
            have hbounds : (Instr.sliceBounds true len (if op then c - cap else cap) (lo.map a.eval) ((some hio).map a.eval) ((some mxo).map a.eval)).run P w = .ok (l, hh, m) w := by
              rcases optInt_run (P := P) (code := .slice3Acap) h hm b3 w with ⟨hc, _⟩ | ⟨x1, k1, hx1, _, r1⟩
              · cases hc
              rcases optInt_run (P := P) (code := .slice3B) h hhi b2 w with ⟨hc, _⟩ | ⟨x2, k2, hx2, _, r2⟩
              · cases hc
              obtain rfl := Option.some.inj hx1
              obtain rfl := Option.some.inj hx2
              have r3 := low b1 .slice3C
              cases lo with
              | none => simp [Instr.sliceBounds, Sem.run_bind, r1, r2]; simpa using r3
              | some lo => simp only [Option.map_some] at r3; simp [Instr.sliceBounds, Sem.run_bind, r1, r2, r3]
            have hr := key m b1 b2 hbounds
            split at hf
            · rename_i hml
              obtain rfl := Option.some.inj hf
              have hml := Nat.eq_of_beq_eq_true hml
              rw [if_pos hml] at hr
              refine ⟨_, hr, ?_⟩
              simp only [den, Bool.false_eq_true, if_false]
              exact ⟨y, c, hy, rfl, fun e => e.elim, Nat.sub_le_sub_right b2 l⟩
            · rename_i hml
              obtain rfl := Option.some.inj hf
              have hml := Nat.ne_of_beq_eq_false hml
              rw [if_neg hml] at hr
              refine ⟨_, hr, ?_⟩
              simp only [den, Bool.false_eq_true, if_false]
              exact ⟨y, c, hy, rfl, fun e => e.elim, Nat.sub_le_sub_right b2 l⟩
          · cases hf
        · cases hf
      | none =>
        simp only at hf
        have hbounds : l ≤ hh → hh ≤ (if op then c - cap else cap) → (Instr.sliceBounds true len (if op then c - cap else cap) (lo.map a.eval) (hi.map a.eval) ((none : Option Operand).map a.eval)).run P w = .ok (l, hh, (if op then c - cap else cap)) w := by
          intro b1 b2
          have r3 := low b1 .sliceB
          rcases optInt_run (P := P) (code := .sliceAcap) h hhi b2 w with ⟨rfl, rfl⟩ | ⟨x2, k2, rfl, _, r2⟩
          · cases lo with
            | none => simp [Instr.sliceBounds, Sem.run_bind]; simpa using r3
            | some lo => simp only [Option.map_some] at r3; simp [Instr.sliceBounds, Sem.run_bind, r3]
          · cases lo with
            | none => simp [Instr.sliceBounds, Sem.run_bind, r2]; simpa using r3
            | some lo => simp only [Option.map_some] at r3; simp [Instr.sliceBounds, Sem.run_bind, r2, r3]
        split at hf
        · rename_i bb
          simp only [Bool.and_eq_true] at bb
          have b1 := Nat.le_of_ble_eq_true bb.1
          have b2 := lenA_le hlen (Nat.le_of_ble_eq_true bb.2)
          have hr := key _ b1 b2 (hbounds b1 b2)
          cases op with
          | true =>
            simp only [if_true] at hr b2 hlen
            have hc := hoc rfl
            simp only at hf
            split at hf
            · rename_i b3
              have hl0 := Nat.eq_of_beq_eq_true b3
              subst hl0
              obtain rfl := Option.some.inj hf
              simp only [Nat.zero_mul, Nat.add_zero, ite_self, Nat.sub_zero] at hr
              refine ⟨_, hr, ?_⟩
              simp only [den, if_true]
              exact ⟨y, c, hy, rfl, fun _ => hc, b2⟩
            · split at hf
              · rename_i b4
                have b4 : l < hh := Nat.le_of_ble_eq_true b4
                obtain rfl := Option.some.inj hf
                rw [if_neg (by omega)] at hr
                refine ⟨_, hr, ?_⟩
                simp only [den, if_true]
                refine ⟨y, c, hy, ?_, fun _ => ?_, ?_⟩
                · rw [show c - cap - l = c - (Nat.add cap l) from Nat.sub_sub c cap l]; rfl
                · show cap + l ≤ c; omega
                · show hh - l ≤ c - (cap + l); omega
              · rename_i b4
                have b4 : ¬ l < hh := fun e => by rw [show Nat.blt l hh = true from Nat.ble_eq_true_of_le e] at b4; cases b4
                obtain rfl := Option.some.inj hf
                refine ⟨_, hr, ?_⟩
                simp only [den]
                exact ⟨_, _, by rw [show hh - l = 0 by omega]⟩
          | false =>
            simp only [Bool.false_eq_true, if_false] at hr b2 hlen
            simp only at hf
            split at hf
            · rename_i hml
              obtain rfl := Option.some.inj hf
              have hml := Nat.eq_of_beq_eq_true hml
              rw [if_pos hml] at hr
              refine ⟨_, hr, ?_⟩
              simp only [den, Bool.false_eq_true, if_false]
              exact ⟨y, c, hy, rfl, fun e => e.elim, Nat.sub_le_sub_right b2 l⟩
            · rename_i hml
              obtain rfl := Option.some.inj hf
              have hml := Nat.ne_of_beq_eq_false hml
              rw [if_neg hml] at hr
              refine ⟨_, hr, ?_⟩
              simp only [den, Bool.false_eq_true, if_false]
              exact ⟨y, c, hy, rfl, fun e => e.elim, Nat.sub_le_sub_right b2 l⟩
        · cases hf
    · cases hf
  · rename_i d vl hu hx
    rw [hx] at hd
    simp only [den] at hd
    have fin : ∀ {r : Value} {l h' : Option Value}, lo.map a.eval = l → hi.map a.eval = h' → mx = none → semVal P (Instr.sliceAt t vl l h' none) = some r → ∃ u, (execOp a.eval o).run P w = .ok (.value u) w ∧ den ρ (AV.of r) u := by
      intro r l h' e1 e2 e3 hv
      subst e3
      refine ⟨r, ?_, den_of r⟩
      unfold execOp
      simp only [ho, hd, e1, e2, Option.map_none, Sem.run_bind, semVal_run hv w]
      rfl
    cases mx with
    | some _ => cases hf
    | none =>
      simp only at hf
      cases lo with
      | none =>
        cases hi with
        | none =>
          simp only at hf
          split at hf
          · rename_i r hv; obtain rfl := Option.some.inj hf; exact fin rfl rfl rfl hv
          · cases hf
        | some hi =>
          simp only at hf
          split at hf
          · rename_i hv' hl
            split at hf
            · rename_i r hv; obtain rfl := Option.some.inj hf; exact fin rfl (by rw [Option.map_some, toLit_den hl (h.ev hi)]) rfl hv
            · cases hf
          · cases hf
      | some lo =>
        cases hi with
        | none =>
          simp only at hf
          split at hf
          · rename_i hv' hl
            split at hf
            · rename_i r hv; obtain rfl := Option.some.inj hf; exact fin (by rw [Option.map_some, toLit_den hl (h.ev lo)]) rfl rfl hv
            · cases hf
          · cases hf
        | some hi =>
          simp only at hf
          split at hf
          · rename_i lv' hv' hl1 hl2
            split at hf
            · rename_i r hv; obtain rfl := Option.some.inj hf; exact fin (by rw [Option.map_some, toLit_den hl1 (h.ev lo)]) (by rw [Option.map_some, toLit_den hl2 (h.ev hi)]) rfl hv
            · cases hf
          · cases hf
  · cases hf

/-! ### Comparisons with nil -/
def nilFit : TypeDesc → AV → AV → Bool
  | .pointer _, .ptr .., .lit (.pointer none) => true
  | .slice _, .sl .., .lit (.slice none _ _) => true
  | .func _ _ _, .fn .., .lit .nilFunc => true
  | _, _, _ => false
def nilCmpA (P : Program) (op : BinOp) (t : TypeId) (u v : AV) : Option AV :=
  match P.underlying t with
  | some d => match nilFit d u v || nilFit d v u, op with
    | true, .eql => some (.lit (.bool false))
    | true, .neq => some (.lit (.bool true))
    | _, _ => none
  | none => none
theorem equal_eq (t : TypeId) (x y : Value) : Op.equal t x y = Op.equalIn ((Op.maxDepth - 1) + 1) t x y := rfl
theorem nilFit_run {d : TypeDesc} {t : TypeId} {u v : AV} {x y : Value} (hu : P.underlying t = some d) (hf : nilFit d u v = true) (hx : den ρ u x) (hy : den ρ v y) (w : World) :
    ((Op.equal t x y).run P w = .ok false w ∧ (Op.equal t y x).run P w = .ok false w) ∧ (∀ op, op = .eql ∨ op = .neq → (∀ e f, (eqGuard op t e f x y).run P w = .ok () w) ∧ (∀ e f, (eqGuard op t e f y x).run P w = .ok () w)) ∧ (∀ op, op = .eql ∨ op = .neq → binOp op t x y = (if op = .eql then (do pure (.bool (← Op.equal t x y))) else (do pure (.bool (!(← Op.equal t x y))))) ∧ binOp op t y x = (if op = .eql then (do pure (.bool (← Op.equal t y x))) else (do pure (.bool (!(← Op.equal t y x)))))) := by
  unfold nilFit at hf
  split at hf
  · simp only [den] at hx hy
    obtain ⟨z, c, _, rfl⟩ := hx
    subst hy
    refine ⟨⟨?_, ?_⟩, fun op ho => ⟨?_, ?_⟩, fun op ho => ?_⟩
    · rw [equal_eq]; simp only [Op.equalIn, Sem.run_bind, run_underlying hu, Result.andThen_ok]; rfl
    · rw [equal_eq]; simp only [Op.equalIn, Sem.run_bind, run_underlying hu, Result.andThen_ok]; rfl
    · intro e f; rcases ho with rfl | rfl <;> simp [eqGuard]
    · intro e f; rcases ho with rfl | rfl <;> simp [eqGuard]
    · rcases ho with rfl | rfl <;> exact ⟨rfl, rfl⟩
  · simp only [den] at hx hy
    obtain ⟨z, c, _, rfl, _⟩ := hx
    subst hy
    refine ⟨⟨?_, ?_⟩, fun op ho => ⟨?_, ?_⟩, fun op ho => ?_⟩
    · rw [equal_eq]; simp only [Op.equalIn, Sem.run_bind, run_underlying hu, Result.andThen_ok]; rfl
    · rw [equal_eq]; simp only [Op.equalIn, Sem.run_bind, run_underlying hu, Result.andThen_ok]; rfl
    · intro e f; rcases ho with rfl | rfl <;> simp [eqGuard]
    · intro e f; rcases ho with rfl | rfl <;> simp [eqGuard]
    · rcases ho with rfl | rfl <;> exact ⟨rfl, rfl⟩
  · simp only [den] at hx hy
    obtain ⟨vs, rfl, _⟩ := hx
    subst hy
    refine ⟨⟨?_, ?_⟩, fun op ho => ⟨?_, ?_⟩, fun op ho => ?_⟩
    · rw [equal_eq]; simp only [Op.equalIn, Sem.run_bind, run_underlying hu, Result.andThen_ok]; rfl
    · rw [equal_eq]; simp only [Op.equalIn, Sem.run_bind, run_underlying hu, Result.andThen_ok]; rfl
    · intro e f; rcases ho with rfl | rfl <;> simp [eqGuard]
    · intro e f; rcases ho with rfl | rfl <;> simp [eqGuard]
    · rcases ho with rfl | rfl <;> exact ⟨rfl, rfl⟩
  · cases hf
theorem nilCmpA_ok {o : Oper} {op : BinOp} {t yt : TypeId} {x y : Operand} {v : AV} (ho : o.op = .binOp op t x y yt) (h : TR ρ nt tm a) (hb : nilCmpA P op t (ev tm x) (ev tm y) = some v) : Yields P ρ o a v := by
  intro w
  unfold nilCmpA at hb
  cases hu : P.underlying t with
  | none => rw [hu] at hb; cases hb
  | some d =>
    rw [hu] at hb
    simp only at hb
    have main : ∀ b : Bool, (op = .eql ∧ b = false ∨ op = .neq ∧ b = true) → (nilFit d (ev tm x) (ev tm y) || nilFit d (ev tm y) (ev tm x)) = true → ∃ u, (execOp a.eval o).run P w = .ok (.value u) w ∧ den ρ (.lit (.bool b)) u := by
      intro b hob hf
      refine ⟨.bool b, ?_, by simp only [den]⟩
      have hop : op = .eql ∨ op = .neq := hob.imp (·.1) (·.1)
      rcases Bool.or_eq_true _ _ |>.mp hf with hf | hf
      · obtain ⟨⟨he, _⟩, hg, hbn⟩ := nilFit_run hu hf (h.ev x) (h.ev y) w
        unfold execOp
        simp only [ho, Sem.run_bind, (hg op hop).1 x y, Result.andThen_ok, (hbn op hop).1]
        rcases hob with ⟨rfl, rfl⟩ | ⟨rfl, rfl⟩ <;> simp [Sem.run_bind, he]
      · obtain ⟨⟨_, he⟩, hg, hbn⟩ := nilFit_run hu hf (h.ev y) (h.ev x) w
        unfold execOp
        simp only [ho, Sem.run_bind, (hg op hop).2 x y, Result.andThen_ok, (hbn op hop).2]
        rcases hob with ⟨rfl, rfl⟩ | ⟨rfl, rfl⟩ <;> simp [Sem.run_bind, he]
    split at hb
    · rename_i hf; obtain rfl := Option.some.inj hb; exact main false (.inl ⟨rfl, rfl⟩) hf
    · rename_i hf; obtain rfl := Option.some.inj hb; exact main true (.inr ⟨rfl, rfl⟩) hf
    · cases hb

/-! ### Lengths and other built-ins -/
def builtinA (P : Program) (b : Builtin) (ts : Array TypeId) (ty : TypeId) (args : List AV) : Option AV :=
  match b, ts[0]?, args with
  | .len, some t, [.sl _ _ len _ _] => match P.underlying t with
    | some (.slice _) => some (.lit (.int .i64 (Int.ofNat len)))
    | _ => none
  | .len, some t, [.emp] => match P.underlying t with
    | some (.slice _) => some (.lit (.int .i64 (Int.ofNat 0)))
    | _ => none
  | .cap, some t, [.sl _ _ _ cap false] => match P.underlying t with
    | some (.slice _) => some (.lit (.int .i64 (Int.ofNat cap)))
    | _ => none
  | .len, some _, [.lit v] => match semVal P (Builtin.len_ ts ty #[v]) with | some r => some (AV.of r) | none => none
  | .cap, some _, [.lit v] => match semVal P (Builtin.cap_ ts ty #[v]) with | some r => some (AV.of r) | none => none
  | .min, some _, l => match lits l with
    | some vs => match semVal P (Builtin.min_ ts ty vs.toArray) with | some r => some (AV.of r) | none => none
    | none => none
  | .max, some _, l => match lits l with
    | some vs => match semVal P (Builtin.max_ ts ty vs.toArray) with | some r => some (AV.of r) | none => none
    | none => none
  | _, _, _ => none
theorem builtinA_ok {o : Oper} {b : Builtin} {args : Array Operand} {ts : Array TypeId} {v : AV} (ho : o.op = .call { callee := .builtin b, args := args, argTypes := ts }) (h : TR ρ nt tm a) (hf : builtinA P b ts o.type (args.toList.map (ev tm)) = some v) : Yields P ρ o a v := by
  intro w
  have hd := evs_den h args.toList
  have hex : ∀ (consts : Array Bool), (execOp a.eval o).run P w = (builtin b ts o.type (args.map fun | .const _ => true | _ => false) (args.map a.eval)).run P w := by
    intro _
    unfold execOp
    simp only [ho, resolve, Sem.run_bind, Sem.run_pure, Result.andThen_ok, invoke]
    rfl
  rw [hex #[]]
  have hargs : args.map a.eval = (args.toList.map a.eval).toArray := by rw [← Array.toList_map]
  rw [hargs]
  generalize args.toList.map a.eval = vs at hd
  generalize args.toList.map (ev tm) = l at hd hf
  generalize (args.map fun | .const _ => true | _ => false) = cs
  unfold builtinA at hf
  split at hf
  · rename_i t x off len cap op ht
    simp only [dens, den] at hd
    obtain ⟨v1, vs', rfl, ⟨y, c, hy, rfl, _⟩, rfl⟩ := hd
    split at hf
    · rename_i e hu
      obtain rfl := Option.some.inj hf
      refine ⟨.int .i64 len, ?_, by simp only [den]; rfl⟩
      simp [builtin, Builtin.len_, ht, Sem.run_bind, run_underlying hu, goInt]
    · cases hf
  · rename_i t ht
    simp only [dens, den] at hd
    obtain ⟨v1, vs', rfl, ⟨A, c, rfl⟩, rfl⟩ := hd
    split at hf
    · rename_i e hu
      obtain rfl := Option.some.inj hf
      refine ⟨.int .i64 0, ?_, by simp only [den]; rfl⟩
      simp [builtin, Builtin.len_, ht, Sem.run_bind, run_underlying hu, goInt]
    · cases hf
  · rename_i t x off len cap ht
    simp only [dens, den] at hd
    obtain ⟨v1, vs', rfl, ⟨y, c, hy, rfl, _⟩, rfl⟩ := hd
    split at hf
    · rename_i e hu
      obtain rfl := Option.some.inj hf
      refine ⟨.int .i64 cap, ?_, by simp only [den]; rfl⟩
      simp [builtin, Builtin.cap_, ht, Sem.run_bind, run_underlying hu, goInt]
    · cases hf
  · rename_i t v1 ht
    simp only [dens, den] at hd
    obtain ⟨v2, vs', rfl, rfl, rfl⟩ := hd
    split at hf
    · rename_i r hv
      obtain rfl := Option.some.inj hf
      refine ⟨r, ?_, den_of r⟩
      simp only [builtin, Sem.run_bind, semVal_run hv w]
      rfl
    · cases hf
  · rename_i t v1 ht
    simp only [dens, den] at hd
    obtain ⟨v2, vs', rfl, rfl, rfl⟩ := hd
    split at hf
    · rename_i r hv
      obtain rfl := Option.some.inj hf
      refine ⟨r, ?_, den_of r⟩
      simp only [builtin, Sem.run_bind, semVal_run hv w]
      rfl
    · cases hf
  · rename_i t ht
    split at hf
    · rename_i us hl
      obtain rfl := lits_den hl hd
      split at hf
      · rename_i r hv
        obtain rfl := Option.some.inj hf
        refine ⟨r, ?_, den_of r⟩
        simp only [builtin, Sem.run_bind, semVal_run hv w]
        rfl
      · cases hf
    · cases hf
  · rename_i t ht
    split at hf
    · rename_i us hl
      obtain rfl := lits_den hl hd
      split at hf
      · rename_i r hv
        obtain rfl := Option.some.inj hf
        refine ⟨r, ?_, den_of r⟩
        simp only [builtin, Sem.run_bind, semVal_run hv w]
        rfl
      · cases hf
    · cases hf
  · cases hf
end
section
open Go.RowKit
set_option linter.unusedSimpArgs false
set_option linter.unusedVariables false
variable {P : Program} {ρ ρ' : Rho} {nt : Nat} {tm : T AV} {a : Act} {w w0 w' : World} {K : Nat → Prop} {st st' : St}

/-! ### Reading -/
theorem cells_at {x c : Nat} {bk : Bk} (h : CellsR ρ w x c bk) {off n : Nat} (hn : off + n ≤ bk.cells.length) :
    ∃ us, dens ρ ((bk.cells.drop off).take n) us ∧ us.length = n ∧ (∀ u ∈ us, u.oneCell' = true) ∧ ∀ j u, us[j]? = some u → w.cell? ((⟨x, off, none⟩ : Addr).add j) = some u := by
  obtain ⟨vs, rest, h1, h2, h3, h4, h5⟩ := h
  have hl := dens_length h1
  refine ⟨(vs.drop off).take n, dens_take n (dens_drop off h1), by simp; omega, fun u hu => h3 u (List.mem_of_mem_drop (List.mem_of_mem_take hu)), fun j u hj => ?_⟩
  rw [List.getElem?_take] at hj
  split at hj
  · rw [List.getElem?_drop] at hj
    rw [add_lit, h2.cell]
    rw [List.getElem?_toArray, List.getElem?_append_left (by have := (List.getElem?_eq_some_iff.1 hj).1; omega)]
    exact hj
  · cases hj
def loadA (P : Program) (t : TypeId) (x : AV) (st : St) : Option AV :=
  match x with
  | .ptr b off => match getC st.h b with
    | some bk => match aggT P t with
      | some true => match sizeT P t with
        | some n => match Nat.ble (Nat.add off n) bk.cells.length with
          | true => some (.agg ((bk.cells.drop off).take n))
          | false => none
        | none => none
      | some false => getAt bk.cells off
      | none => none
    | none => none
  | _ => none
theorem loadVar_ok {t : TypeId} {z : AV} {v : AV} {uz : Value} (hd : den ρ z uz) (hs : Sim K w0 ρ st w) (hf : loadA P t z st = some v) :
    ∃ u y, uz = .pointer (some y) ∧ (loadVar t y).run P w = .ok u w ∧ den ρ v u := by
  unfold loadA at hf
  split at hf
  · rename_i b off
    simp only [den] at hd
    obtain ⟨y, c, hy, e⟩ := hd
    cases hb : getC st.h b with
    | none => rw [hb] at hf; cases hf
    | some bk =>
      rw [hb] at hf
      simp only at hf
      obtain ⟨y', c', hy', hbk, _⟩ := hs.blkC hb
      rw [hy] at hy'
      obtain ⟨rfl, rfl⟩ := Prod.mk.inj (Option.some.inj hy')
      cases ha : aggT P t with
      | none => rw [ha] at hf; cases hf
      | some g =>
        rw [ha] at hf
        cases g with
        | true =>
          simp only at hf
          cases hz : sizeT P t with
          | none => rw [hz] at hf; cases hf
          | some n =>
            rw [hz] at hf
            simp only at hf
            split at hf
            · rename_i hle
              obtain rfl := Option.some.inj hf
              obtain ⟨us, hdu, hul, _, hc⟩ := cells_at hbk (Nat.le_of_ble_eq_true hle)
              refine ⟨.agg us.toArray, _, e, ?_, by simp only [den]; exact ⟨us, rfl, hdu⟩⟩
              have hr := run_loadCells_list (P := P) w ⟨y, off, none⟩ us hc
              rw [hul] at hr
              simp [Sem.run_bind, loadVar, aggT_run ha, sizeT_run hz, hr]
            · cases hf
        | false =>
          simp only at hf
          rw [getAt_eq] at hf
          obtain ⟨vs, rest, h1, h2, h3, _⟩ := hbk
          obtain ⟨u, hu, hdu⟩ := dens_get off h1 hf
          refine ⟨u, _, e, ?_, hdu⟩
          have hc : w.cell? ⟨y, off, none⟩ = some u := by
            rw [h2.cell, List.getElem?_toArray, List.getElem?_append_left (List.getElem?_eq_some_iff.1 hu).1]
            exact hu
          simp [Sem.run_bind, loadVar, aggT_run ha, run_load, hc]
  · cases hf
theorem loadA_ok {o : Oper} {t : TypeId} {x : Operand} {v : AV} (ho : o.op = .load t x) (h : TR ρ nt tm a) (hs : Sim K w0 ρ st w) (hf : loadA P t (ev tm x) st = some v) :
    ∃ u, (execOp a.eval o).run P w = .ok (.value u) w ∧ den ρ v u := by
  obtain ⟨u, y, e, hr, hd⟩ := loadVar_ok (P := P) (h.ev x) hs hf
  refine ⟨u, ?_, hd⟩
  unfold execOp
  simp [ho, e, Instr.loadAt, Instr.sureAddr, Sem.run_bind, hr]

/-! ### Writing -/
theorem setRow_other (w : World) (g k : Nat) (cs : Array Value) (h : k ≠ g) : (w.setRow g cs).heap[k]? = w.heap[k]? := by
  unfold World.setRow
  simp only [Array.getElem?_modify]
  rw [if_neg (fun e => h e.symm)]
theorem Kp.setRow (w : World) (g : Nat) (cs : Array Value) : Kp (fun b => b < w.heap.size ∧ b ≠ g) w (w.setRow g cs) :=
  ⟨rfl, rfl, rfl, by simp [World.setRow], fun k hk => setRow_other w g k cs hk.2⟩
/-- Cells that are known are written over. -/
theorem Sim.cells {b off x c : Nat} {bk : Bk} {l : List AV} {us : List Value} (hs : Sim K w0 ρ st w) (hb : getC st.h b = some bk) (hl : st.wr b = true) (hx : ρ b = some (x, c)) (hd : dens ρ l us) (h1 : ∀ u ∈ us, u.oneCell' = true) (hn : off + l.length ≤ bk.cells.length) :
    ∃ w', (storeCells ⟨x, off, none⟩ us).run P w = .ok () w' ∧ Sim K w0 ρ ⟨st.h.set b ⟨bk.ty, spliceA bk.cells off l, bk.op⟩, st.n, st.wr⟩ w' := by
  obtain ⟨x', c', hx', hbk, _⟩ := hs.blkC hb
  rw [hx] at hx'
  obtain ⟨rfl, rfl⟩ := Prod.mk.inj (Option.some.inj hx')
  obtain ⟨vs, rest, h2, h3, h4, h5, h6⟩ := hbk
  have hlv := dens_length h2
  have hlu := dens_length hd
  have hr := run_storeB P x off bk.ty us 0 (vs ++ rest).toArray w h3 (by simp; omega) h1
  simp only [Nat.add_zero] at hr
  have e : ((vs ++ rest).toArray.toList.take off ++ us ++ (vs ++ rest).toArray.toList.drop (off + us.length)) = (vs.take off ++ (us ++ vs.drop (off + l.length))) ++ rest := by
    simp only [List.toList_toArray]
    rw [List.take_append_of_le_length (by omega), List.drop_append_of_le_length (by omega), hlu]
    simp [List.append_assoc]
  rw [e] at hr
  refine ⟨_, hr, hs.write b (getC_some hb).1 hl hx _ _ (Kp.setRow w x _) ⟨fun _ => ?_, fun e => absurd e (getC_some hb).2⟩⟩
  refine ⟨vs.take off ++ (us ++ vs.drop (off + l.length)), rest, ?_, ?_, ?_, h5, fun s hs' => ?_⟩
  · exact dens_append (dens_take off h2) (dens_append hd (dens_drop _ h2))
  · exact h3.setRow _ (by simp; omega)
  · intro v hv
    rcases List.mem_append.1 hv with hv | hv
    · exact h4 v (List.mem_of_mem_take hv)
    · rcases List.mem_append.1 hv with hv | hv
      · exact h1 v hv
      · exact h4 v (List.mem_of_mem_drop hv)
  · rw [← h6 s hs']
    simp only [List.length_append, List.length_take, List.length_drop]
    omega
def storeA (P : Program) (t : TypeId) (x v : AV) (st : St) : Option St :=
  match x with
  | .ptr b off => match getC st.h b, sizeT P t with
    | some bk, some n => match st.wr b && (v.flat && (Nat.beq v.cells.length n && Nat.ble (Nat.add off v.cells.length) bk.cells.length)) with
      | true => some ⟨st.h.set b ⟨bk.ty, spliceA bk.cells off v.cells, bk.op⟩, st.n, st.wr⟩
      | false => none
    | _, _ => none
  | _ => none
theorem storeA_ok {o : Oper} {t : TypeId} {x y : Operand} (ho : o.op = .store t x y) (h : TR ρ nt tm a) (hs : Sim K w0 ρ st w) (hf : storeA P t (ev tm x) (ev tm y) st = some st') :
    ∃ w', (execOp a.eval o).run P w = .ok .skip w' ∧ Sim K w0 ρ st' w' := by
  have hd := h.ev x
  have hv := h.ev y
  unfold storeA at hf
  split at hf
  · rename_i b off hx
    rw [hx] at hd
    simp only [den] at hd
    obtain ⟨z, c, hz, e⟩ := hd
    split at hf
    · rename_i bk n hb hn
      split at hf
      · rename_i hc
        simp only [Bool.and_eq_true] at hc
        obtain ⟨c1, c2, c3, c4⟩ := hc
        have c3 := Nat.eq_of_beq_eq_true c3
        obtain rfl := Option.some.inj hf
        obtain ⟨hdc, h1⟩ := den_cells hv c2
        obtain ⟨w', hr, hsim⟩ := hs.cells (P := P) hb c1 hz hdc h1 (Nat.le_of_ble_eq_true c4)
        refine ⟨w', ?_, hsim⟩
        have hl := dens_length hdc
        have hsz : (a.eval y).cells.size = n := by rw [← c3, ← hl]; simp
        unfold execOp
        simp [ho, e, Instr.storeAt, Instr.sureAddr, Sem.run_bind, storeVar, sizeT_run hn, hsz, hr]
      · cases hf
    · cases hf
  · cases hf

/-! ### New blocks -/
theorem up_at {ρ : Rho} {n : Nat} {x : Nat × Nat} : (ρ.up n x) n = some x := by simp [Rho.up]
def newA (ty : TypeId) (cells : List AV) (op : Option Nat) (st : St) : St := ⟨st.h.set st.n ⟨ty, cells, op⟩, st.n + 1, st.wr⟩
def allocA (P : Program) (t : TypeId) (st : St) : Option (AV × St) := match zeroA P t with
  | some z => match z.all AV.one with
    | true => some (.ptr st.n 0, newA t z none st)
    | false => none
  | none => none
theorem allocA_ok {o : Oper} {t : TypeId} {v : AV} (ho : o.op = .alloc t) (hs : Sim K w0 ρ st w) (hf : allocA P t st = some (v, st')) :
    ∃ u w' ρ', (execOp a.eval o).run P w = .ok (.value u) w' ∧ Ext st.n st'.n ρ ρ' ∧ Sim K w0 ρ' st' w' ∧ den ρ' v u := by
  unfold allocA zeroA at hf
  cases hi : P.info? t with
  | none => rw [hi] at hf; cases hf
  | some i =>
    cases hz : i.zero with
    | none => rw [hi] at hf; simp only [hz] at hf; cases hf
    | some z =>
      rw [hi] at hf
      simp only [hz] at hf
      split at hf
      · rename_i h1
        obtain ⟨rfl, rfl⟩ := Prod.mk.inj (Option.some.inj hf)
        obtain ⟨h2, hle⟩ := hs.alloc t (z.cells.toList.map AV.lit) none (by simp) 0 z.cells.toList [] (dens_map_lit _) (dens_one (dens_map_lit (ρ := ρ) _) h1) (fun _ => rfl) (fun s hs => nomatch hs)
        refine ⟨.pointer (some ⟨w.heap.size, 0, none⟩), _, _, ?_, hle, h2, ?_⟩
        · unfold execOp
          simp [ho, Instr.alloc, Sem.run_bind, zeroValue, info_run hi, hz, newVar, newRow]
        · simp only [den]; exact ⟨_, _, up_at, rfl⟩
      · cases hf
def boxA (t : TypeId) (v : AV) (st : St) : Option (AV × St) := match v.flat with
  | true => some (.ptr st.n 0, newA t v.cells none st)
  | false => none
theorem boxA_ok {o : Oper} {t : TypeId} {x : Operand} {v : AV} (ho : o.op = .box t x) (h : TR ρ nt tm a) (hs : Sim K w0 ρ st w) (hf : boxA t (ev tm x) st = some (v, st')) :
    ∃ u w' ρ', (execOp a.eval o).run P w = .ok (.value u) w' ∧ Ext st.n st'.n ρ ρ' ∧ Sim K w0 ρ' st' w' ∧ den ρ' v u := by
  unfold boxA at hf
  split at hf
  · rename_i hfl
    obtain ⟨rfl, rfl⟩ := Prod.mk.inj (Option.some.inj hf)
    obtain ⟨hd, h1⟩ := den_cells (h.ev x) hfl
    obtain ⟨h2, hle⟩ := hs.alloc t (ev tm x).cells none (by simp) 0 (a.eval x).cells.toList [] hd h1 (fun _ => rfl) (fun s hs => nomatch hs)
    refine ⟨.pointer (some ⟨w.heap.size, 0, none⟩), _, _, ?_, hle, h2, ?_⟩
    · unfold execOp
      simp [ho, Instr.box, Sem.run_bind, newVar, newRow]
    · simp only [den]; exact ⟨_, _, up_at, rfl⟩
  · cases hf
def repA (z : List AV) : Nat → List AV
  | 0 => []
  | n + 1 => z ++ repA z n
theorem made_eq (z : List Value) : ∀ n, (madeCells z.toArray (n * z.length)).toList = (List.replicate n z).flatten
  | 0 => by simp [madeCells]
  | n + 1 => by
    have ih := made_eq z n
    rw [List.replicate_succ', List.flatten_append, ← ih]
    simp only [madeCells, Array.toList_map, Array.toList_range, List.size_toArray, List.flatten_cons, List.flatten_nil, List.append_nil]
    rw [Nat.succ_mul, List.range_add, List.map_append]
    congr 1
    rcases Nat.eq_zero_or_pos z.length with h0 | h0
    · have : z = [] := List.eq_nil_of_length_eq_zero h0
      subst this; simp
    · rw [List.map_map]
      apply List.ext_getElem?
      intro j
      simp only [List.getElem?_map, List.getElem?_range', Function.comp_def]
      rcases Nat.lt_or_ge j z.length with hj | hj
      · rw [List.getElem?_range hj]
        simp only [Option.map_some]
        rw [Nat.mul_comm n, Nat.mul_add_mod, Nat.mod_eq_of_lt hj]
        simp [hj]
      · rw [List.getElem?_eq_none (by simpa using hj), List.getElem?_eq_none hj]
        rfl
theorem repA_den {z : List AV} {zs : List Value} (h : dens ρ z zs) : ∀ n, dens ρ (repA z n) (List.replicate n zs).flatten
  | 0 => by simp [repA, dens]
  | n + 1 => by simp only [repA, List.replicate_succ, List.flatten_cons]; exact dens_append h (repA_den h n)
def buildSliceA (P : Program) (t : TypeId) (len : Nat) (parts : List (Nat × AV)) (st : St) : Option (AV × St) :=
  match P.underlying t with
  | some (.slice e) => match sizeT P e, zeroA P e with
    | some s, some z => match Nat.ble (Nat.mul len s) 16777216 && (Nat.beq z.length s && Nat.blt 0 s) with
      | true => match fillA (fun i => some (Nat.mul i s, s)) (repA z len) parts with
        | some l => match l.all AV.one with
          | true => some (.sl st.n 0 len len false, newA e l none st)
          | false => none
        | none => none
      | false => none
    | _, _ => none
  | _ => none
theorem fillA_len {place : Nat → Option (Nat × Nat)} : ∀ {parts : List (Nat × AV)} {cells r : List AV}, fillA place cells parts = some r → r.length = cells.length
  | [], cells, r, h => by obtain rfl := Option.some.inj h; rfl
  | (i, v) :: parts, cells, r, h => by
    simp only [fillA] at h
    cases hpl : place i with
    | none => rw [hpl] at h; cases h
    | some os =>
      obtain ⟨off, size⟩ := os
      rw [hpl] at h
      simp only at h
      split at h
      · rename_i hb
        have hb : off + v.cells.length ≤ cells.length := Nat.le_of_ble_eq_true hb
        rw [fillA_len h]
        show (cells.take off ++ (v.cells ++ cells.drop (off + v.cells.length))).length = _
        simp
        omega
      · cases h
theorem buildSliceA_ok {o : Oper} {t : TypeId} {len : Nat} {parts : Array (Nat × Operand)} {v : AV} (ho : o.op = .buildSlice t len parts) (h : TR ρ nt tm a) (hs : Sim K w0 ρ st w) (hf : buildSliceA P t len (parts.toList.map fun p => (p.1, ev tm p.2)) st = some (v, st')) :
    ∃ u w' ρ', (execOp a.eval o).run P w = .ok (.value u) w' ∧ Ext st.n st'.n ρ ρ' ∧ Sim K w0 ρ' st' w' ∧ den ρ' v u := by
  unfold buildSliceA at hf
  split at hf
  · rename_i e hu
    split at hf
    · rename_i s z hsz hz
      split at hf
      · rename_i hc
        simp only [Bool.and_eq_true] at hc
        obtain ⟨c1, c2, c3⟩ := hc
        have c1 : len * s ≤ 16777216 := Nat.le_of_ble_eq_true c1
        have c2 := Nat.eq_of_beq_eq_true c2
        have c3 : 0 < s := Nat.le_of_ble_eq_true c3
        split at hf
        · rename_i l hl
          split at hf
          · rename_i h1
            obtain ⟨rfl, rfl⟩ := Prod.mk.inj (Option.some.inj hf)
            unfold zeroA at hz
            cases hi : P.info? e with
            | none => rw [hi] at hz; cases hz
            | some i =>
              cases hzz : i.zero with
              | none => rw [hi] at hz; simp only [hzz] at hz; cases hz
              | some zz =>
                rw [hi] at hz
                simp only [hzz] at hz
                obtain rfl := Option.some.inj hz
                simp only [List.length_map, Array.length_toList] at c2
                obtain ⟨rs, hr, hd⟩ := fillA_ok (ρ := ρ) (place := fun i => some (Nat.mul i s, s)) (ps := parts.toList.map fun p => (p.1, a.eval p.2)) (repA_den (dens_map_lit zz.cells.toList) len) (by simp) (by
                  simp only [List.map_map]
                  have := evs_den h (parts.toList.map Prod.snd)
                  simpa [List.map_map, Function.comp_def] using this) hl
                obtain ⟨h2, hle⟩ := hs.alloc e l none (by simp) 0 rs [] hd (dens_one hd h1) (fun _ => rfl) (fun s hs => nomatch hs)
                refine ⟨.slice (some ⟨w.heap.size, 0, none⟩) len len, _, _, ?_, hle, h2, ?_⟩
                · have hm : (List.replicate len zz.cells.toList).flatten.toArray = (if len * s = 0 then (#[] : Array Value).map id else Array.map (fun x => zz.cells[x % zz.cells.size]!) (Array.range (len * s))) := by
                    have := made_eq zz.cells.toList len
                    apply Array.ext'
                    rw [List.toList_toArray, ← this]
                    split
                    · rename_i h0
                      have : len = 0 := by
                        rcases Nat.mul_eq_zero.1 h0 with h | h
                        · exact h
                        · omega
                      subst this
                      simp [madeCells]
                    · simp [madeCells, c2]
                  have e1 : ¬ (16777216 < len * s) := by omega
                  unfold execOp
                  by_cases h0 : len * s = 0
                  · have hr0 : Instr.fill (fun i => some (Nat.mul i s, s)) (Array.map (fun x => (#[] : Array Value)[x % (#[] : Array Value).size]!) (Array.range (len * s))) (parts.toList.map fun p => (p.1, a.eval p.2)) = some rs.toArray := by
                      rw [← hr, hm, if_pos h0, h0]
                      simp [Array.range_zero']
                    simp only [ho, Instr.buildSlice, Sem.run_bind, run_underlying hu, Result.andThen_ok, sizeT_run hsz]
                    rw [if_neg e1, if_pos h0]
                    simp only [Sem.run_bind, Sem.run_pure, Result.andThen_ok, Array.toList_map]
                    have hr0' := hr0
                    simp only [Nat.mul_eq] at hr0'
                    rw [hr0']
                    simp [newRow]
                  · have hr0 : Instr.fill (fun i => some (Nat.mul i s, s)) (Array.map (fun x => zz.cells[x % zz.cells.size]!) (Array.range (len * s))) (parts.toList.map fun p => (p.1, a.eval p.2)) = some rs.toArray := by
                      rw [← hr, hm, if_neg h0]
                    simp only [ho, Instr.buildSlice, Sem.run_bind, run_underlying hu, Result.andThen_ok, sizeT_run hsz]
                    rw [if_neg e1, if_neg h0]
                    simp only [Sem.run_bind, Sem.run_pure, Result.andThen_ok, Array.toList_map, zeroValue, info_run hi, hzz]
                    have hr0' := hr0
                    simp only [Nat.mul_eq] at hr0'
                    rw [hr0']
                    simp [newRow]
                · simp only [den, Bool.false_eq_true, if_false]
                  exact ⟨_, _, up_at, rfl, fun e => e.elim, Nat.le_refl _⟩
          · cases hf
        · cases hf
      · cases hf
    · cases hf
  · cases hf
def natOf : AV → Option Nat
  | .lit (.int _ (.ofNat n)) => some n
  | _ => none
theorem natOf_den {x : AV} {n : Nat} {u : Value} (h : natOf x = some n) (hd : den ρ x u) : ∃ k, u = .int k (n : Int) := by
  unfold natOf at h
  split at h
  · rename_i k m
    obtain rfl := Option.some.inj h
    simp only [den] at hd
    exact ⟨k, hd⟩
  · cases h
def makeSliceA (P : Program) (t : TypeId) (l c : AV) (st : St) : Option (AV × St) :=
  match P.underlying t, natOf l, natOf c with
  | some (.slice e), some l, some c => match P.info? e, zeroA P e with
    | some i, some z => match Nat.ble l c && (Nat.beq z.length i.size && (z.all AV.one && (Nat.ble (Nat.mul i.bytes c) 281474976710656 && Nat.ble c 9223372036854775807))) with
      | true => some (.sl st.n 0 l c false, newA e (repA z c) none st)
      | false => none
    | _, _ => none
  | _, _, _ => none
theorem repA_one {z : List AV} (h : z.all AV.one = true) : ∀ n, (repA z n).all AV.one = true
  | 0 => rfl
  | n + 1 => by simp only [repA, List.all_append, h, repA_one h n, Bool.and_self]
theorem makeSliceA_ok {o : Oper} {t : TypeId} {x y : Operand} {v : AV} (ho : o.op = .makeSlice t x y) (h : TR ρ nt tm a) (hs : Sim K w0 ρ st w) (hf : makeSliceA P t (ev tm x) (ev tm y) st = some (v, st')) :
    ∃ u w' ρ', (execOp a.eval o).run P w = .ok (.value u) w' ∧ Ext st.n st'.n ρ ρ' ∧ Sim K w0 ρ' st' w' ∧ den ρ' v u := by
  unfold makeSliceA at hf
  split at hf
  · rename_i e l c hu hl hc
    obtain ⟨kl, el⟩ := natOf_den hl (h.ev x)
    obtain ⟨kc, ec⟩ := natOf_den hc (h.ev y)
    split at hf
    · rename_i i z hi hz
      split at hf
      · rename_i hcc
        simp only [Bool.and_eq_true] at hcc
        obtain ⟨c1, c2, c3, c4, c5⟩ := hcc
        have c1 := Nat.le_of_ble_eq_true c1
        have c2 := Nat.eq_of_beq_eq_true c2
        have c4 : i.bytes * c ≤ 281474976710656 := Nat.le_of_ble_eq_true c4
        have c5 := Nat.le_of_ble_eq_true c5
        obtain ⟨rfl, rfl⟩ := Prod.mk.inj (Option.some.inj hf)
        unfold zeroA at hz
        rw [hi] at hz
        simp only at hz
        cases hzz : i.zero with
        | none => rw [hzz] at hz; cases hz
        | some zz =>
          rw [hzz] at hz
          simp only at hz
          obtain rfl := Option.some.inj hz
          simp only [List.length_map, Array.length_toList] at c2
          have hd := repA_den (ρ := ρ) (dens_map_lit zz.cells.toList) c
          obtain ⟨h2, hle⟩ := hs.alloc e _ none (by simp) 0 _ [] hd (dens_one hd (repA_one c3 c)) (fun _ => rfl) (fun s hs => nomatch hs)
          refine ⟨.slice (some ⟨w.heap.size, 0, none⟩) l c, _, _, ?_, hle, h2, ?_⟩
          · have hb : (i.bytes : Int) * (c : Int) ≤ 281474976710656 := by
              have h : ((i.bytes * c : Nat) : Int) ≤ 281474976710656 := by omega
              rwa [Int.natCast_mul] at h
            have hr := run_make (P := P) w t e i zz hu hi hzz kl kc l c (by omega) (by omega) hb (by omega)
            have hm := made_eq zz.cells.toList c
            have e3 : madeCells zz.cells (c * i.size) = (List.replicate c zz.cells.toList).flatten.toArray := by
              apply Array.ext'
              rw [List.toList_toArray, ← hm]
              simp [c2]
            unfold execOp
            simp only [ho, el, ec, Sem.run_bind, hr, Result.andThen_ok, Int.toNat_natCast, e3]
            simp
          · simp only [den, Bool.false_eq_true, if_false]
            exact ⟨_, _, up_at, rfl, fun e => e.elim, c1⟩
      · cases hf
    · cases hf
  · cases hf
/-! ### A string out of bytes -/
def bytesOf : List AV → Option (List UInt8)
  | [] => some []
  | .lit (.int .u8 n) :: l => match bytesOf l with
    | some r => some (UInt8.ofNat n.toNat :: r)
    | none => none
  | _ => none
def strOfA (P : Program) (s t : TypeId) (x : AV) (st : St) : Option AV :=
  match P.underlying s, P.underlying t, x with
  | some (.slice e), some .string, .sl b off len _ _ => match P.underlying e, getC st.h b with
    | some (.int .u8), some bk => match Nat.ble (Nat.add off len) bk.cells.length with
      | true => match bytesOf ((bk.cells.drop off).take len) with
        | some l => some (.lit (.string ⟨l.toArray⟩))
        | none => none
      | false => none
    | _, _ => none
  | _, _, _ => none
theorem bytes_loop {P : Program} : ∀ {l : List AV} {bs : List UInt8} {us : List Value} (s : ByteArray) (w : World), dens ρ l us → bytesOf l = some bs →
    (forIn us s (fun c (s : ByteArray) => match c with
      | .int .u8 n => do pure (ForInStep.yield (s.push (UInt8.ofNat n.toNat)))
      | _ => do let r ← stuck "bytesToString: byte expected"; pure r) : Sem ByteArray).run P w = .ok ⟨s.data ++ bs.toArray⟩ w
  | [], bs, us, s, w, hd, h => by
    simp only [dens] at hd
    subst hd
    obtain rfl := Option.some.inj h
    simp
  | a :: l, bs, us, s, w, hd, h => by
    simp only [dens] at hd
    obtain ⟨v, vs', rfl, h1, h2⟩ := hd
    unfold bytesOf at h
    split at h
    · rename_i heq; cases heq
    · rename_i n l' heq
      obtain ⟨rfl, rfl⟩ := List.cons.inj heq
      simp only [den] at h1
      subst h1
      cases hb : bytesOf l with
      | none => rw [hb] at h; cases h
      | some r =>
        rw [hb] at h
        obtain rfl := Option.some.inj h
        have ih := bytes_loop (P := P) (s.push (UInt8.ofNat n.toNat)) w h2 hb
        simp only [List.forIn_cons, Sem.run_bind, Sem.run_pure, Result.andThen_ok]
        rw [ih]
        congr 1
        apply ByteArray.ext
        apply Array.ext'
        simp [ByteArray.push]
    · cases h
theorem strOfA_ok {o : Oper} {s t : TypeId} {x : Operand} {v : AV} (ho : o.op = .convert s t x) (h : TR ρ nt tm a) (hs : Sim K w0 ρ st w) (hf : strOfA P s t (ev tm x) st = some v) :
    ∃ u, (execOp a.eval o).run P w = .ok (.value u) w ∧ den ρ v u := by
  have hd := h.ev x
  unfold strOfA at hf
  split at hf
  · rename_i e b off len cap op hus hut hx
    rw [hx] at hd
    simp only [den] at hd
    obtain ⟨y, c, hy, ex, _⟩ := hd
    split at hf
    · rename_i bk hue hb
      split at hf
      · rename_i hle
        split at hf
        · rename_i l hl
          obtain rfl := Option.some.inj hf
          obtain ⟨y', c', hy', hbk, _⟩ := hs.blkC hb
          rw [hy] at hy'
          obtain ⟨rfl, rfl⟩ := Prod.mk.inj (Option.some.inj hy')
          obtain ⟨us, hdu, hul, _, hc⟩ := cells_at hbk (Nat.le_of_ble_eq_true hle)
          have hr := run_loadCells_list (P := P) w ⟨y, off, none⟩ us hc
          rw [hul] at hr
          have hloop := bytes_loop (P := P) ByteArray.empty w hdu hl
          refine ⟨.string ⟨l.toArray⟩, ?_, by simp only [den]⟩
          unfold execOp
          simp only [ho, ex, convert, Sem.run_bind, run_underlying hus, run_underlying hut, run_underlying hue, Result.andThen_ok, Conv.bytesToString, hr]
          have e2 : (ByteArray.mk (ByteArray.empty.data ++ l.toArray)) = ⟨l.toArray⟩ := by
            apply ByteArray.ext
            apply Array.ext'
            simp [ByteArray.empty, ByteArray.emptyWithCapacity]
            try rfl
          rw [e2] at hloop
          simp only [List.forIn_toArray] at hloop ⊢
          have hh := hloop
          erw [hh]
          rfl
        · cases hf
      · cases hf
    · cases hf
  · cases hf
end
section
open Go.RowKit
set_option linter.unusedSimpArgs false
set_option linter.unusedVariables false
variable {P : Program} {ρ ρ' : Rho} {nt : Nat} {tm : T AV} {a : Act} {w w0 w' : World} {K : Nat → Prop} {st st' : St}

/-- The cells of a slice: their number of elements, and they themselves. -/
def srcA (size : Nat) (x : AV) (st : St) : Option (Nat × List AV) := match x with
  | .sl b off len _ _ => match getC st.h b with
    | some bk => match Nat.ble (Nat.add off (Nat.mul len size)) bk.cells.length with
      | true => some (len, (bk.cells.drop off).take (Nat.mul len size))
      | false => none
    | none => none
  | .emp => some (0, [])
  | .lit (.slice none 0 _) => some (0, [])
  | _ => none
theorem srcA_ok {size n : Nat} {x : AV} {l : List AV} {u : Value} (hs : Sim K w0 ρ st w) (hd : den ρ x u) (hf : srcA size x st = some (n, l)) :
    ∃ A c us, u = .slice A n c ∧ dens ρ l us ∧ us.length = n * size ∧ (∀ v ∈ us, v.oneCell' = true) ∧ (0 < n → ∃ ad, A = some ad ∧ ∀ j v, us[j]? = some v → w.cell? (ad.add j) = some v) := by
  unfold srcA at hf
  split at hf
  · rename_i b off len cap op
    simp only [den] at hd
    obtain ⟨x, c, hx, rfl, _⟩ := hd
    split at hf
    · rename_i bk hb
      split at hf
      · rename_i hle
        obtain ⟨rfl, rfl⟩ := Prod.mk.inj (Option.some.inj hf)
        obtain ⟨x', c', hx', hbk, _⟩ := hs.blkC hb
        rw [hx] at hx'
        obtain ⟨rfl, rfl⟩ := Prod.mk.inj (Option.some.inj hx')
        obtain ⟨us, h1, h2, h3, h4⟩ := cells_at hbk (Nat.le_of_ble_eq_true hle)
        exact ⟨_, _, us, rfl, h1, h2, h3, fun _ => ⟨_, rfl, h4⟩⟩
      · cases hf
    · cases hf
  · simp only [den] at hd
    obtain ⟨A, c, rfl⟩ := hd
    obtain ⟨rfl, rfl⟩ := Prod.mk.inj (Option.some.inj hf)
    exact ⟨A, c, [], rfl, by simp [dens], by simp, by simp, fun h => absurd h (Nat.lt_irrefl 0)⟩
  · rename_i c
    simp only [den] at hd
    subst hd
    obtain ⟨rfl, rfl⟩ := Prod.mk.inj (Option.some.inj hf)
    exact ⟨none, c, [], rfl, by simp [dens], by simp, by simp, fun h => absurd h (Nat.lt_irrefl 0)⟩
  · cases hf

inductive CatKind where
  | same | within | grow | open_ | no

def isPos (n : Nat) : Bool := Nat.blt 0 n
/-- What append yields: the base, its elements, the appended cells. -/
def catA (size bytes : Nat) (E : TypeId) (s : AV) (n : Nat) (l : List AV) (st : St) : Option (AV × St) :=
  match s with
  | .lit (.slice none 0 0) => match Nat.beq n 0 with
    | true => some (s, st)
    | false => match Nat.ble (Nat.mul n bytes) 140737488355328 && Nat.ble n 9223372036854775807 with
      | true => some (.sl st.n 0 n 0 true, newA E l (some size) st)
      | false => none
  | .sl b off len cap op => match Nat.beq n 0 with
    | true => some (s, st)
    | false => match getC st.h b with
      | none => none
      | some bk => match Nat.ble (Nat.mul (Nat.add len n) bytes) 140737488355328 && Nat.ble (Nat.add len n) 9223372036854775807 with
        | false => none
        | true => match op with
          | false => match Nat.ble (Nat.add len n) cap with
            | true => match Nat.ble (Nat.add (Nat.add off (Nat.mul len size)) l.length) bk.cells.length && st.wr b with
              | true => some (.sl b off (Nat.add len n) cap false, ⟨st.h.set b ⟨bk.ty, spliceA bk.cells (Nat.add off (Nat.mul len size)) l, bk.op⟩, st.n, st.wr⟩)
              | false => none
            | false => match Nat.ble (Nat.add off (Nat.mul len size)) bk.cells.length with
              | true => some (.sl st.n 0 (Nat.add len n) 0 true, newA E ((bk.cells.drop off).take (Nat.mul len size) ++ l) (some size) st)
              | false => none
          | true => match bk.op with
            | none => none
            | some size' => match Nat.beq off 0 && (Nat.beq cap 0 && (Nat.beq size' size && (st.wr b && isPos size))) with
              | false => none
              | true => match Nat.ble (Nat.mul (Nat.add len n) size) bk.cells.length with
                | true => some (.sl b 0 (Nat.add len n) 0 true, ⟨st.h.set b ⟨bk.ty, spliceA bk.cells (Nat.mul len size) l, bk.op⟩, st.n, st.wr⟩)
                | false => match Nat.beq (Nat.mul len size) bk.cells.length && Nat.beq bk.ty E with
                  | true => some (.sl st.n 0 (Nat.add len n) 0 true, ⟨(st.h.put b none).set st.n ⟨E, bk.cells ++ l, some size⟩, st.n + 1, st.wr⟩)
                  | false => none
  | _ => none

theorem Src.ofEmp {size : Nat} {tx e' : TypeId} (hk : P.underlying tx = some (.slice e')) (A : Option Addr) (c : Nat) (w : World) : Src P size tx (.slice A 0 c) 0 [] w := by
  refine ⟨.inl ⟨e', hk⟩, fun _ => rfl, ?_, ?_, by simp, fun _ h => by cases h⟩ <;> cases A <;> simp [Builtin.firstCells, loadCells, loadCellsFrom]
theorem run_append_zero {t tx ty E : TypeId} {i : TypeInfo} (ht : P.underlying t = some (.slice E)) (hi : P.info? E = some i) {x : Value} {news : List Value} (hs : Src P i.size tx x 0 news w) (A : Option Addr) (n c : Nat) (hn : n ≤ c) :
    (Builtin.append_ #[t, tx] ty #[.slice A n c, x]).run P w = .ok (.slice A n c) w := by
  have hnil : news = [] := List.length_eq_zero_iff.1 (by rw [hs.newsLen, Nat.zero_mul])
  subst hnil
  cases A <;> rcases hs.kind with ⟨e', hk⟩ | hk <;> simp [Builtin.append_, run_underlying ht, run_underlying hk, sizeOf, typeInfo, hi, hs.len, hn, hs.cells, storeCells]
theorem run_append_in {t tx ty E : TypeId} {i : TypeInfo} (ht : P.underlying t = some (.slice E)) (hi : P.info? E = some i) (b : Addr) (sLen sCap : Nat)
    {x : Value} {m : Nat} {news : List Value} (hs : Src P i.size tx x m news w)
    (hroom : sLen + m ≤ sCap) (hst : (storeCells (b.add (sLen * i.size)) news).run P w = .ok () w') :
    (Builtin.append_ #[t, tx] ty #[.slice (some b) sLen sCap, x]).run P w = .ok (.slice (some b) (sLen + m) sCap) w' := by
  rcases hs.kind with ⟨e', hk⟩ | hk <;> simp [Builtin.append_, run_underlying ht, run_underlying hk, sizeOf, typeInfo, hi, hs.len, hroom, hs.cells, hst]

theorem zeroCells_len (z : Array Value) (n : Nat) : (Builtin.zeroCells z n).size = n * z.size := by simp [Builtin.zeroCells]

/-- The facts of the element's type that append asks for. -/
structure EltOk (P : Program) (t E : TypeId) (size bytes : Nat) : Prop where
  ht : P.underlying t = some (.slice E)
  pos : 0 < size
  hi : ∃ i z, P.info? E = some i ∧ i.zero = some z ∧ i.size = size ∧ i.bytes = bytes ∧ z.cells.size = size

theorem catA_ok {t tx ty E : TypeId} {size bytes : Nat} (he : EltOk P t E size bytes) {s v : AV} {n : Nat} {l : List AV} {us : List Value} {su xu : Value}
    (hs : Sim K w0 ρ st w) (hds : den ρ s su) (hdl : dens ρ l us) (hsrc : Src P size tx xu n us w)
    (hf : catA size bytes E s n l st = some (v, st')) :
    ∃ u w' ρ', (Builtin.append_ #[t, tx] ty #[su, xu]).run P w = .ok u w' ∧ Ext st.n st'.n ρ ρ' ∧ Sim K w0 ρ' st' w' ∧ den ρ' v u := by
  obtain ⟨ht, hpos, i, z, hi, hz, hsz, hby, hzs⟩ := he
  have hop0 : (some size : Option Nat) ≠ some 0 := by simp; omega
  have hll := dens_length hdl
  have hl := hsrc.newsLen
  have h1 := hsrc.one
  have hsrc' : Src P i.size tx xu n us w := by rw [hsz]; exact hsrc
  unfold catA at hf
  split at hf
  · simp only [den] at hds
    subst hds
    split at hf
    · rename_i hn
      have hn := Nat.eq_of_beq_eq_true hn
      subst hn
      obtain ⟨rfl, rfl⟩ := Prod.mk.inj (Option.some.inj hf)
      exact ⟨_, w, ρ, run_append_zero ht hi hsrc' none 0 0 (Nat.le_refl _), .refl _ ρ, hs, by simp only [den]⟩
    · rename_i hn
      have hn : 0 < n := Nat.pos_of_ne_zero (Nat.ne_of_beq_eq_false hn)
      split at hf
      · rename_i hb
        simp only [Bool.and_eq_true] at hb
        have hb1 : n * bytes ≤ 140737488355328 := Nat.le_of_ble_eq_true hb.1
        have hb2 : n ≤ 9223372036854775807 := Nat.le_of_ble_eq_true hb.2
        obtain ⟨rfl, rfl⟩ := Prod.mk.inj (Option.some.inj hf)
        have hr := run_append_grow_src (P := P) w t tx ty E i z ht hi hz none 0 0 [] (run_firstCells_none w.drew i.size 0 0 0) xu n us hsrc' (by omega) (by omega) (growslice_fits (by omega) (by rw [hby]; simpa using hb1))
        simp only [Nat.zero_add, List.nil_append] at hr
        obtain ⟨h2, hle⟩ := hs.drew.alloc E l (some size) hop0 (grownCap w n 0 E) us (Builtin.zeroCells z.cells (grownCap w n 0 E - n)).toList hdl h1 (fun e => nomatch e) (fun s hs' => by
          obtain rfl := Option.some.inj hs'
          have := grownCap_ge w n 0 E
          rw [List.length_append, hl, Array.length_toList, zeroCells_len, hzs, ← Nat.add_mul]
          congr 1
          omega)
        refine ⟨_, _, _, hr, hle, ?_, ?_⟩
        · have e : (us.toArray ++ Builtin.zeroCells z.cells (grownCap w n 0 E - n)) = (us ++ (Builtin.zeroCells z.cells (grownCap w n 0 E - n)).toList).toArray := by apply Array.ext'; simp
          rw [e]
          exact h2
        · simp only [den, if_true, Nat.sub_zero]
          exact ⟨_, _, up_at, rfl, fun _ => Nat.zero_le _, grownCap_ge w n 0 E⟩
      · cases hf
  · rename_i b off len cap op
    simp only [den] at hds
    obtain ⟨x, c, hx, rfl, hoc, hlen⟩ := hds
    split at hf
    · rename_i hn
      have hn := Nat.eq_of_beq_eq_true hn
      subst hn
      obtain ⟨rfl, rfl⟩ := Prod.mk.inj (Option.some.inj hf)
      exact ⟨_, w, ρ, run_append_zero ht hi hsrc' _ len _ hlen, .refl _ ρ, hs, by simp only [den]; exact ⟨x, c, hx, rfl, hoc, hlen⟩⟩
    · rename_i hn
      have hn : 0 < n := Nat.pos_of_ne_zero (Nat.ne_of_beq_eq_false hn)
      split at hf
      · cases hf
      · rename_i bk hb
        obtain ⟨x', c1, hx', hbk, hnk⟩ := hs.blkC hb
        rw [hx] at hx'
        obtain ⟨rfl, rfl⟩ := Prod.mk.inj (Option.some.inj hx')
        split at hf
        · cases hf
        · rename_i hbb
          simp only [Bool.and_eq_true] at hbb
          have hb1 : (len + n) * bytes ≤ 140737488355328 := Nat.le_of_ble_eq_true hbb.1
          have hb2 : len + n ≤ 9223372036854775807 := Nat.le_of_ble_eq_true hbb.2
          -- growing
          have grow : ∀ {olds : List Value} {ol : List AV} {oldcap : Nat} {off : Nat}, dens ρ ol olds → olds.length = len * size → (∀ v ∈ olds, v.oneCell' = true) → (∀ j v, olds[j]? = some v → w.cell? ((⟨x, off, none⟩ : Addr).add j) = some v) → oldcap < len + n →
              ∃ u w' ρ' x2 c2, (Builtin.append_ #[t, tx] ty #[.slice (some ⟨x, off, none⟩) len oldcap, xu]).run P w = .ok u w' ∧ ρ' = ρ.up st.n (x2, c2) ∧ Kp (fun b => b < w.heap.size) w w' ∧ w.heap.size = x2 ∧ Ext st.n (st.n + 1) ρ ρ' ∧ Sim K w0 ρ' (newA E (ol ++ l) (some size) st) w' ∧ den ρ' (.sl st.n 0 (Nat.add len n) 0 true) u ∧ BkR ρ' w' x2 c2 ⟨E, ol ++ l, some size⟩ := by
            intro olds ol oldcap off h2 h3 h4 h5 h6
            have hr := run_append_grow_src (P := P) w t tx ty E i z ht hi hz (some ⟨x, off, none⟩) len oldcap olds (run_firstCells_some w.drew i.size len _ len oldcap olds (by rw [hsz]; exact h3) (by simpa using h5)) xu n us hsrc' h6 (by omega) (growslice_fits h6 (by rw [hby]; exact hb1))
            obtain ⟨h7, hle⟩ := hs.drew.alloc E (ol ++ l) (some size) hop0 (grownCap w (len + n) oldcap E) (olds ++ us) (Builtin.zeroCells z.cells (grownCap w (len + n) oldcap E - (len + n))).toList (dens_append h2 hdl) (fun v hv => (List.mem_append.1 hv).elim (h4 v) (h1 v)) (fun e => nomatch e) (fun s hs' => by
              obtain rfl := Option.some.inj hs'
              have := grownCap_ge w (len + n) oldcap E
              rw [List.length_append, List.length_append, h3, hl, Array.length_toList, zeroCells_len, hzs, ← Nat.add_mul, ← Nat.add_mul]
              congr 1
              omega)
            have e : ((olds ++ us).toArray ++ Builtin.zeroCells z.cells (grownCap w (len + n) oldcap E - (len + n))) = (olds ++ us ++ (Builtin.zeroCells z.cells (grownCap w (len + n) oldcap E - (len + n))).toList).toArray := by apply Array.ext'; simp
            rw [e] at hr
            refine ⟨_, _, _, _, _, hr, rfl, ?_, rfl, hle, h7, ?_, ?_⟩
            · exact (Kp.drew _ w).trans (Kp.alloc w.drew _ fun b hb => hb)
            · simp only [den, if_true, Nat.sub_zero]
              exact ⟨_, _, up_at, rfl, fun _ => Nat.zero_le _, grownCap_ge w (len + n) oldcap E⟩
            · obtain ⟨x3, c3, hx3, hb3, _⟩ := h7.blk st.n _ (by rw [T.get_put, if_pos rfl])
              have hx3' := hx3
              rw [show (World.drew w).heap.size = w.heap.size from rfl] at hx3'
              rw [show st.n = st.n from rfl] at hx3'
              have : (ρ.up st.n (w.heap.size, grownCap w (len + n) oldcap E)) st.n = some (w.heap.size, grownCap w (len + n) oldcap E) := up_at
              rw [this] at hx3'
              obtain ⟨rfl, rfl⟩ := Prod.mk.inj (Option.some.inj hx3')
              exact hb3
          split at hf
          · -- the capacity is known
            simp only [Bool.false_eq_true, if_false] at hlen
            split at hf
            · rename_i hroom
              have hroom : len + n ≤ cap := Nat.le_of_ble_eq_true hroom
              split at hf
              · rename_i hcc
                simp only [Bool.and_eq_true] at hcc
                obtain ⟨rfl, rfl⟩ := Prod.mk.inj (Option.some.inj hf)
                obtain ⟨w', hst, hsim⟩ := hs.cells (P := P) hb hcc.2 hx hdl h1 (Nat.le_of_ble_eq_true hcc.1)
                refine ⟨.slice (some ⟨x, off, none⟩) (len + n) cap, w', ρ, ?_, .refl _ ρ, hsim, ?_⟩
                · simp only [Bool.false_eq_true, if_false]
                  exact run_append_in ht hi ⟨x, off, none⟩ len cap hsrc' hroom (by rw [add_lit, hsz]; exact hst)
                · simp only [den, Bool.false_eq_true, if_false]
                  exact ⟨x, c, hx, rfl, fun e => e.elim, hroom⟩
              · cases hf
            · rename_i hroom
              have hroom : cap < len + n := Nat.lt_of_not_le fun e => by rw [show Nat.ble (Nat.add len n) cap = true from Nat.ble_eq_true_of_le e] at hroom; cases hroom
              split at hf
              · rename_i hle
                obtain ⟨rfl, rfl⟩ := Prod.mk.inj (Option.some.inj hf)
                obtain ⟨olds, h2, h3, h4, h5⟩ := cells_at hbk (Nat.le_of_ble_eq_true hle)
                obtain ⟨u, w', ρ', x2, c2, hr, _, _, _, hle', hsim, hdu, _⟩ := grow h2 h3 h4 h5 hroom
                exact ⟨u, w', ρ', by simpa only [Bool.false_eq_true, if_false] using hr, hle', hsim, hdu⟩
              · cases hf
          · split at hf
            · cases hf
            · rename_i size' hop
              split at hf
              · cases hf
              · rename_i hcc
                simp only [Bool.and_eq_true] at hcc
                obtain ⟨c1, c2, c3, c4, c5⟩ := hcc
                have c1 := Nat.eq_of_beq_eq_true c1
                have c2 := Nat.eq_of_beq_eq_true c2
                have c3 := Nat.eq_of_beq_eq_true c3
                have c5 : 0 < size := Nat.le_of_ble_eq_true c5
                subst c1; subst c2; subst c3
                simp only [if_true, Nat.sub_zero] at hlen ⊢
                have hbk' := hbk
                obtain ⟨vs, rest, b1, b2, b3, b4, b5⟩ := hbk'
                have b5 := b5 size' hop
                have hlv := dens_length b1
                split at hf
                · rename_i hin
                  have hin : (len + n) * size' ≤ bk.cells.length := Nat.le_of_ble_eq_true hin
                  obtain ⟨rfl, rfl⟩ := Prod.mk.inj (Option.some.inj hf)
                  have hroom : len + n ≤ c := by
                    have : (len + n) * size' ≤ c * size' := by rw [← b5, List.length_append]; omega
                    exact Nat.le_of_mul_le_mul_right this c5
                  have hfit : len * size' + l.length ≤ bk.cells.length := by rw [← hll, hl, ← Nat.add_mul]; exact hin
                  obtain ⟨w', hst, hsim⟩ := hs.cells (P := P) hb c4 hx hdl h1 hfit
                  refine ⟨.slice (some ⟨x, 0, none⟩) (len + n) c, w', ρ, ?_, .refl _ ρ, hsim, ?_⟩
                  · exact run_append_in ht hi ⟨x, 0, none⟩ len c hsrc' hroom (by rw [add_lit, hsz, Nat.zero_add]; exact hst)
                  · simp only [den, if_true, Nat.sub_zero]
                    exact ⟨x, c, hx, rfl, fun _ => Nat.zero_le _, hroom⟩
                · split at hf
                  · rename_i hfull
                    simp only [Bool.and_eq_true] at hfull
                    have hfull1 : len * size' = bk.cells.length := Nat.eq_of_beq_eq_true hfull.1
                    have hfull2 := Nat.eq_of_beq_eq_true hfull.2
                    obtain ⟨rfl, rfl⟩ := Prod.mk.inj (Option.some.inj hf)
                    have holds : ∀ j v, vs[j]? = some v → w.cell? ((⟨x, 0, none⟩ : Addr).add j) = some v := fun j v hj => by
                      rw [add_lit, Nat.zero_add, b2.cell, List.getElem?_toArray, List.getElem?_append_left (List.getElem?_eq_some_iff.1 hj).1]
                      exact hj
                    have hnk := hnk c4
                    rcases Nat.lt_or_ge c (len + n) with hroom | hroom
                    · obtain ⟨u, w', ρ', x2, c2, hr, hρ, hkp, hx2, hle', hsim, hdu, _⟩ := grow b1 (by rw [hlv, hfull1]) b3 holds hroom
                      refine ⟨u, w', ρ', hr, hle', ?_, hdu⟩
                      refine hsim.less _ (fun k bk' hk => ?_) (Nat.le_refl _) (fun _ h => h)
                      simp only [newA]
                      rw [T.get_put] at hk ⊢
                      split at hk
                      · rename_i hkn; rw [if_pos hkn]; exact hk
                      · rename_i hkn
                        rw [if_neg hkn]
                        rw [T.get_put] at hk
                        split at hk
                        · cases hk
                        · exact hk
                    · -- in place
                      have hst := run_storeB P x (len * size') bk.ty us 0 (vs ++ rest).toArray w b2 (by
                        simp only [List.size_toArray, Nat.add_zero]
                        rw [b5, hl, ← Nat.add_mul]
                        exact Nat.mul_le_mul_right _ hroom) h1
                      simp only [Nat.add_zero, List.toList_toArray] at hst
                      have e : ((vs ++ rest).take (len * size') ++ us ++ (vs ++ rest).drop (len * size' + us.length)) = (vs ++ us) ++ rest.drop us.length := by
                        rw [hfull1, ← hlv, List.take_left, ← List.drop_drop, List.drop_left]
                      rw [e] at hst
                      have hupE : Ext st.n (st.n + 1) ρ (ρ.up st.n (x, c)) := Ext.up _ hs.fresh
                      have hup : ρ.le (ρ.up st.n (x, c)) := hupE.le
                      refine ⟨.slice (some ⟨x, 0, none⟩) (len + n) c, _, ρ.up st.n (x, c), run_append_in ht hi ⟨x, 0, none⟩ len c hsrc' hroom (by rw [add_lit, hsz, Nat.zero_add]; exact hst), hupE, ?_, ?_⟩
                      · have hkp := Kp.setRow w x ((vs ++ us) ++ rest.drop us.length).toArray
                        refine ⟨hs.kp.trans (hkp.mono fun k hk => ⟨hs.ltw k hk, fun e => hnk (e ▸ hk)⟩), hs.lt, fun k bk' hk => ?_, fun k j bi bj y cc cc' hk hj ek ej => ?_, fun k hk => ?_⟩
                        · rw [T.get_put] at hk
                          split at hk
                          · rename_i hkn
                            subst hkn
                            obtain rfl := Option.some.inj hk
                            refine ⟨x, c, up_at, ⟨fun _ => ⟨vs ++ us, rest.drop us.length, dens_mono hup (dens_append b1 hdl), ?_, fun v hv => (List.mem_append.1 hv).elim (b3 v) (h1 v), (fun e => nomatch e), fun s hs' => ?_⟩, fun e => absurd e hop0⟩, fun _ => hnk⟩
                            · rw [← hfull2]
                              refine b2.setRow _ ?_
                              have h9 : (len + n) * size' ≤ c * size' := Nat.mul_le_mul_right _ hroom
                              rw [← b5, List.length_append, hlv, ← hfull1, Nat.add_mul, ← hl] at h9
                              simp
                              omega
                            · obtain rfl := Option.some.inj hs'
                              rw [← b5]
                              simp only [List.length_append, List.length_drop]
                              have : us.length ≤ rest.length := by
                                have h9 : (len + n) * size' ≤ c * size' := Nat.mul_le_mul_right _ hroom
                                rw [← b5, List.length_append, hlv, ← hfull1, Nat.add_mul, ← hl] at h9
                                omega
                              omega
                          · rename_i hkn
                            rw [T.get_put] at hk
                            split at hk
                            · cases hk
                            · rename_i hkb
                              obtain ⟨y, cy, ey, hby', hny⟩ := hs.blk k bk' hk
                              refine ⟨y, cy, hup _ _ ey, hby'.mono hup (hkp.block y ⟨hby'.lt, fun e => ?_⟩), hny⟩
                              subst e
                              exact hkb (hs.inj k b bk' bk y cy c hk (getC_some hb).1 ey hx)
                        · have old : ∀ {k : Nat} {bi : Bk} {cc : Nat}, k ≠ st.n → ((st.h.put b none).set st.n ⟨E, bk.cells ++ l, some size'⟩).get k = some bi → (ρ.up st.n (x, c)) k = some (y, cc) → k ≠ b ∧ st.h.get k = some bi ∧ ρ k = some (y, cc) := fun {k bi cc} hkn hk ek => by
                            rw [T.get_put, if_neg hkn, T.get_put] at hk
                            split at hk
                            · cases hk
                            · rename_i hkb
                              exact ⟨hkb, hk, by simpa [Rho.up, hkn] using ek⟩
                          by_cases hkn : k = st.n
                          · by_cases hjn : j = st.n
                            · rw [hkn, hjn]
                            · obtain ⟨hjb, hj', ej'⟩ := old hjn hj ej
                              have : y = x := by subst hkn; rw [up_at] at ek; exact (congrArg Prod.fst (Option.some.inj ek)).symm
                              subst this
                              exact absurd (hs.inj j b bj bk y cc' c hj' (getC_some hb).1 ej' hx) hjb
                          · obtain ⟨hkb, hk', ek'⟩ := old hkn hk ek
                            by_cases hjn : j = st.n
                            · have : y = x := by subst hjn; rw [up_at] at ej; exact (congrArg Prod.fst (Option.some.inj ej)).symm
                              subst this
                              exact absurd (hs.inj k b bi bk y cc c hk' (getC_some hb).1 ek' hx) hkb
                            · obtain ⟨hjb, hj', ej'⟩ := old hjn hj ej
                              exact hs.inj k j bi bj y cc cc' hk' hj' ek' ej'
                        · simp only [Rho.up] at hk
                          show k < st.n + 1
                          by_cases hkn : k = st.n
                          · omega
                          · rw [if_neg hkn] at hk
                            have := hs.dom k hk
                            omega
                      · simp only [den, if_true, Nat.sub_zero]
                        exact ⟨x, c, up_at, rfl, fun _ => Nat.zero_le _, hroom⟩
                  · cases hf
  · cases hf

/-- What is appended: a slice, or the bytes of a string. -/
def srcX (P : Program) (t : TypeId) (size : Nat) (x : AV) (st : St) : Option (Nat × List AV) := match P.underlying t with
  | some (.slice _) => srcA size x st
  | some .string => match x, size with
    | .lit (.string s), 1 => some (s.size, (byteCells s).map AV.lit)
    | _, _ => none
  | _ => none
theorem srcX_ok {t : TypeId} {size n : Nat} {x : AV} {l : List AV} {u : Value} (hs : Sim K w0 ρ st w) (hd : den ρ x u) (hf : srcX P t size x st = some (n, l)) :
    ∃ us, dens ρ l us ∧ Src P size t u n us w := by
  unfold srcX at hf
  split at hf
  · rename_i e hu
    obtain ⟨A, c, us, rfl, h1, h2, h3, h4⟩ := srcA_ok hs hd hf
    refine ⟨us, h1, ?_⟩
    rcases Nat.eq_zero_or_pos n with hn | hn
    · subst hn
      obtain rfl : us = [] := List.length_eq_zero_iff.1 (by rw [h2, Nat.zero_mul])
      exact Src.ofEmp hu A c w
    · obtain ⟨ad, rfl, h5⟩ := h4 hn
      exact Src.ofSlice w hu ad n c us h2 h5 h3
  · rename_i hu
    split at hf
    · rename_i s
      obtain ⟨rfl, rfl⟩ := Prod.mk.inj (Option.some.inj hf)
      simp only [den] at hd
      subst hd
      exact ⟨byteCells s, dens_map_lit _, Src.ofString w hu s⟩
    · cases hf
  · cases hf
/-- The operation. -/
def appendA (P : Program) (ts : Array TypeId) (args : List AV) (st : St) : Option (AV × St) :=
  match ts[0]?, ts[1]?, args with
  | some t, some t', [s, x] => match P.underlying t with
    | some (.slice E) => match P.info? E with
      | some i => match i.zero with
        | some z => match Nat.beq z.cells.size i.size && isPos i.size, srcX P t' i.size x st with
          | true, some (n, l) => catA i.size i.bytes E s n l st
          | _, _ => none
        | none => none
      | none => none
    | _ => none
  | _, _, _ => none
theorem appendA_ok {o : Oper} {args : Array Operand} {ts : Array TypeId} {v : AV} (ho : o.op = .call { callee := .builtin .append, args := args, argTypes := ts }) (h2 : ts.size = 2) (h : TR ρ nt tm a) (hs : Sim K w0 ρ st w) (hf : appendA P ts (args.toList.map (ev tm)) st = some (v, st')) :
    ∃ u w' ρ', (execOp a.eval o).run P w = .ok (.value u) w' ∧ Ext st.n st'.n ρ ρ' ∧ Sim K w0 ρ' st' w' ∧ den ρ' v u := by
  have hd := evs_den h args.toList
  have hex : (execOp a.eval o).run P w = (builtin .append ts o.type (args.map fun | .const _ => true | _ => false) (args.map a.eval)).run P w := by
    unfold execOp
    simp only [ho, resolve, Sem.run_bind, Sem.run_pure, Result.andThen_ok, invoke]
    rfl
  rw [hex]
  have hargs : args.map a.eval = (args.toList.map a.eval).toArray := by rw [← Array.toList_map]
  rw [hargs]
  generalize args.toList.map a.eval = vs at hd
  generalize args.toList.map (ev tm) = l at hd hf
  generalize (args.map fun | .const _ => true | _ => false) = cs
  unfold appendA at hf
  split at hf
  · rename_i t t' s x ht0 ht1
    simp only [dens] at hd
    obtain ⟨su, vs', rfl, hsu, xu, vs'', rfl, hxu, rfl⟩ := hd
    split at hf
    · rename_i E hu
      have hts : ts = #[t, t'] := by
        apply Array.ext
        · simpa using h2
        · intro k hk1 hk2
          simp at hk2
          rcases k with _ | k
          · have := ht0; rw [Array.getElem?_eq_getElem (by omega)] at this; simpa using this
          · rcases k with _ | k
            · have := ht1; rw [Array.getElem?_eq_getElem (by omega)] at this; simpa using this
            · omega
      split at hf
      · rename_i i hi
        split at hf
        · rename_i z hz
          split at hf
          · rename_i n l hzs hsrc
            simp only [Bool.and_eq_true] at hzs
            have hpos : 0 < i.size := Nat.le_of_ble_eq_true hzs.2
            have hzs := Nat.eq_of_beq_eq_true hzs.1
            obtain ⟨us, hdl, hS⟩ := srcX_ok hs hxu hsrc
            obtain ⟨u, w', ρ', hr, hle, hsim, hdu⟩ := catA_ok (ty := o.type) ⟨hu, hpos, i, z, hi, hz, rfl, rfl, hzs⟩ hs hsu hdl hS hf
            refine ⟨u, w', ρ', ?_, hle, hsim, hdu⟩
            subst hts
            simp only [builtin, Sem.run_bind, hr]
            rfl
          · cases hf
        · cases hf
      · cases hf
    · cases hf
  · cases hf
end
section
open Go.RowKit
set_option linter.unusedSimpArgs false
set_option linter.unusedVariables false
variable {P : Program} {ρ ρ' : Rho} {nt : Nat} {tm : T AV} {a : Act} {w w0 w' : World} {K : Nat → Prop} {st st' : St}

/-! ### Entries -/
theorem entries_len : ∀ (n i : Nat) (vs : List Value), vs.length = 2 * n → (mapEntries i vs).length = n
  | 0, i, vs, h => by
    obtain rfl := List.length_eq_zero_iff.1 (by simpa using h)
    rfl
  | n + 1, i, [], h => by simp at h
  | n + 1, i, [_], h => by simp at h; omega
  | n + 1, i, k :: v :: l, h => by
    simp only [mapEntries, List.length_cons]
    rw [entries_len n (i + 1) l (by simp at h; omega)]
theorem entries_push (k v : Value) : ∀ (n i : Nat) (vs : List Value), vs.length = 2 * n → mapEntries i (vs ++ [k, v]) = mapEntries i vs ++ [{ key := k, val := v, born := i + n }]
  | 0, i, vs, h => by
    obtain rfl := List.length_eq_zero_iff.1 (by simpa using h)
    rfl
  | n + 1, i, [], h => by simp at h
  | n + 1, i, [_], h => by simp at h; omega
  | n + 1, i, k' :: v' :: l, h => by
    simp only [mapEntries, List.cons_append]
    rw [entries_push k v n (i + 1) l (by simp at h; omega)]
    simp only [List.cons.injEq, true_and]
    congr 3
    omega
theorem entries_get : ∀ (n i j : Nat) (vs : List Value), vs.length = 2 * n → j < n → ∃ k v, vs[2 * j]? = some k ∧ vs[2 * j + 1]? = some v ∧ (mapEntries i vs)[j]? = some { key := k, val := v, born := i + j }
  | 0, i, j, vs, h, hj => by omega
  | n + 1, i, j, [], h, hj => by simp at h
  | n + 1, i, j, [_], h, hj => by simp at h; omega
  | n + 1, i, 0, k :: v :: l, h, hj => ⟨k, v, rfl, rfl, rfl⟩
  | n + 1, i, j + 1, k :: v :: l, h, hj => by
    obtain ⟨k', v', h1, h2, h3⟩ := entries_get n (i + 1) j l (by simp at h; omega) (by omega)
    refine ⟨k', v', ?_, ?_, ?_⟩
    · rw [show 2 * (j + 1) = 2 * j + 1 + 1 by omega]; simpa using h1
    · rw [show 2 * (j + 1) + 1 = 2 * j + 1 + 1 + 1 by omega]; simpa using h2
    · simp only [mapEntries, List.getElem?_cons_succ, h3]
      congr 2
      omega
theorem entries_set (k v : Value) : ∀ (n i j : Nat) (vs : List Value), vs.length = 2 * n → j < n → (mapEntries i vs).modify j (fun e => { e with key := k, val := v }) = mapEntries i ((vs.set (2 * j) k).set (2 * j + 1) v)
  | 0, i, j, vs, h, hj => by omega
  | n + 1, i, j, [], h, hj => by simp at h
  | n + 1, i, j, [_], h, hj => by simp at h; omega
  | n + 1, i, 0, k' :: v' :: l, h, hj => by simp [mapEntries]
  | n + 1, i, j + 1, k' :: v' :: l, h, hj => by
    have := entries_set k v n (i + 1) j l (by simp at h; omega) (by omega)
    rw [show 2 * (j + 1) + 1 = 2 * j + 1 + 1 + 1 by omega, show 2 * (j + 1) = 2 * j + 1 + 1 by omega]
    simp only [mapEntries, List.modify_succ_cons, List.set_cons_succ, this]

/-! ### Finding a key -/
def keysA : List AV → Option (List Value)
  | [] => some []
  | k :: _ :: l => match toLit k, keysA l with
    | some kv, some ks => some (kv :: ks)
    | _, _ => none
  | [_] => none
def idxNow (kind : TypeDesc) (k : Value) : List Value → Nat → Option (Option Nat)
  | [], _ => some none
  | e :: es, i => match Instr.sameNow kind k e with
    | some true => some (some i)
    | some false => idxNow kind k es (Nat.succ i)
    | none => none
def idxAsk (P : Program) (t : TypeId) (k : Value) : List Value → Nat → Option (Option Nat)
  | [], _ => some none
  | e :: es, i => match semVal P (Op.equal t k e) with
    | some true => some (some i)
    | some false => idxAsk P t k es (Nat.succ i)
    | none => none
def idxA (P : Program) (kind : TypeDesc) (t : TypeId) (k : Value) (ks : List Value) : Option (Option Nat) := match idxNow kind k ks 0 with
  | some r => some r
  | none => idxAsk P t k ks 0
/-- What is found at entry j: its number and value. -/
def hit (i : Nat) (vs : List Value) : Option Nat → Option (Nat × Value)
  | none => none
  | some j => some (j, vs.getD (2 * (j - i) + 1) undef)
theorem hit_succ {i : Nat} {k v : Value} {l : List Value} {r : Option Nat} (h : ∀ j, r = some j → i + 1 ≤ j) : hit i (k :: v :: l) r = hit (i + 1) l r := by
  cases r with
  | none => rfl
  | some j =>
    have := h j rfl
    simp only [hit]
    congr 2
    rw [show 2 * (j - i) + 1 = 2 * (j - (i + 1)) + 1 + 1 + 1 by omega]
    simp [List.getD]
theorem idxNow_ok {kind : TypeDesc} {k : Value} : ∀ {cells : List AV} {vs ks : List Value} (b i : Nat), keysA cells = some ks → dens ρ cells vs →
    (∀ r, idxNow kind k ks i = some r → Instr.findNow kind k (mapEntries b vs) i = some (hit i vs r) ∧ ∀ j, r = some j → i ≤ j ∧ 2 * (j - i) + 1 < vs.length) ∧ (idxNow kind k ks i = none → Instr.findNow kind k (mapEntries b vs) i = none)
  | [], vs, ks, b, i, h, hd => by
    simp only [dens] at hd
    subst hd
    obtain rfl := Option.some.inj h
    refine ⟨fun r hr => ?_, fun hr => nomatch hr⟩
    obtain rfl := Option.some.inj hr
    exact ⟨rfl, (fun j h => nomatch h)⟩
  | [_], vs, ks, b, i, h, hd => by simp [keysA] at h
  | x :: y :: l, vs, ks, b, i, h, hd => by
    simp only [keysA] at h
    split at h
    · rename_i kv ks' hk hks
      obtain rfl := Option.some.inj h
      simp only [dens] at hd
      obtain ⟨v1, _, rfl, d1, v2, vs', rfl, d2, d3⟩ := hd
      have e1 := toLit_den hk d1
      subst e1
      obtain ⟨h1, h2⟩ := idxNow_ok (b + 1) (i + 1) hks d3 (kind := kind) (k := k)
      simp only [idxNow, mapEntries, Instr.findNow]
      cases hs : Instr.sameNow kind k v1 with
      | none => exact ⟨(fun r hr => nomatch hr), fun _ => rfl⟩
      | some bb =>
        cases bb with
        | true =>
          refine ⟨fun r hr => ?_, fun hr => nomatch hr⟩
          obtain rfl := Option.some.inj hr
          refine ⟨by simp [hit, List.getD], fun j hj => ?_⟩
          obtain rfl := Option.some.inj hj
          exact ⟨Nat.le_refl _, by simp⟩
        | false =>
          refine ⟨fun r hr => ?_, h2⟩
          obtain ⟨g1, g2⟩ := h1 r hr
          refine ⟨by rw [hit_succ fun j hj => (g2 j hj).1]; exact g1, fun j hj => ?_⟩
          have := g2 j hj
          simp only [List.length_cons]
          omega
    · cases h
theorem idxAsk_ok {t : TypeId} {k : Value} (w : World) : ∀ {cells : List AV} {vs ks : List Value} (b i : Nat) (r : Option Nat), keysA cells = some ks → dens ρ cells vs →
    idxAsk P t k ks i = some r → (Instr.findAsking t k (mapEntries b vs) i).run P w = .ok (hit i vs r) w ∧ ∀ j, r = some j → i ≤ j ∧ 2 * (j - i) + 1 < vs.length
  | [], vs, ks, b, i, r, h, hd, hr => by
    simp only [dens] at hd
    subst hd
    obtain rfl := Option.some.inj h
    obtain rfl := Option.some.inj hr
    exact ⟨rfl, (fun j h => nomatch h)⟩
  | [_], vs, ks, b, i, r, h, hd, hr => by simp [keysA] at h
  | x :: y :: l, vs, ks, b, i, r, h, hd, hr => by
    simp only [keysA] at h
    split at h
    · rename_i kv ks' hk hks
      obtain rfl := Option.some.inj h
      simp only [dens] at hd
      obtain ⟨v1, _, rfl, d1, v2, vs', rfl, d2, d3⟩ := hd
      have e1 := toLit_den hk d1
      subst e1
      simp only [idxAsk] at hr
      simp only [mapEntries, Instr.findAsking, Sem.run_bind]
      cases hs : semVal P (Op.equal t k v1) with
      | none => rw [hs] at hr; cases hr
      | some bb =>
        rw [hs] at hr
        rw [semVal_run hs w]
        cases bb with
        | true =>
          obtain rfl := Option.some.inj hr
          refine ⟨by simp [hit, List.getD], fun j hj => ?_⟩
          obtain rfl := Option.some.inj hj
          exact ⟨Nat.le_refl _, by simp⟩
        | false =>
          obtain ⟨g1, g2⟩ := idxAsk_ok w (b + 1) (i + 1) r hks d3 hr
          refine ⟨by rw [hit_succ fun j hj => (g2 j hj).1]; simpa using g1, fun j hj => ?_⟩
          have := g2 j hj
          simp only [List.length_cons]
          omega
    · cases h
theorem idxA_ok {kind : TypeDesc} {t : TypeId} {k : Value} (hk : P.underlying t = some kind) (w : World) {cells : List AV} {vs ks : List Value} {r : Option Nat} (h : keysA cells = some ks) (hd : dens ρ cells vs) (hr : idxA P kind t k ks = some r) :
    (Instr.findKey t k (mapEntries 0 vs)).run P w = .ok (hit 0 vs r) w ∧ ∀ j, r = some j → 2 * j + 1 < vs.length := by
  unfold idxA at hr
  obtain ⟨h1, h2⟩ := idxNow_ok 0 0 h hd (kind := kind) (k := k)
  cases hn : idxNow kind k ks 0 with
  | some r' =>
    rw [hn] at hr
    obtain rfl := Option.some.inj hr
    obtain ⟨g1, g2⟩ := h1 _ hn
    refine ⟨?_, fun j hj => by simpa using (g2 j hj).2⟩
    unfold Instr.findKey
    rw [Sem.run_bind, run_underlying hk]
    simp only [Result.andThen_ok, g1]
    rfl
  | none =>
    rw [hn] at hr
    obtain ⟨g1, g2⟩ := idxAsk_ok w 0 0 r h hd hr
    refine ⟨?_, fun j hj => by simpa using (g2 j hj).2⟩
    unfold Instr.findKey
    rw [Sem.run_bind, run_underlying hk]
    simp only [Result.andThen_ok, h2 hn]
    exact g1
theorem keysA_len : ∀ {cells : List AV} {vs ks : List Value}, keysA cells = some ks → dens ρ cells vs → vs.length = 2 * ks.length
  | [], vs, ks, h, hd => by simp only [dens] at hd; subst hd; obtain rfl := Option.some.inj h; rfl
  | [_], vs, ks, h, hd => by simp [keysA] at h
  | x :: y :: l, vs, ks, h, hd => by
    simp only [keysA] at h
    split at h
    · rename_i kv ks' hk hks
      obtain rfl := Option.some.inj h
      simp only [dens] at hd
      obtain ⟨v1, _, rfl, d1, v2, vs', rfl, d2, d3⟩ := hd
      have := keysA_len hks d3
      simp only [List.length_cons]
      omega
    · cases h
def nilL : List Value → Bool
  | [] => true
  | _ => false

/-! ### The operations -/
def tupB (ok : Bool) (v : AV) (b : Bool) : AV := match ok with
  | true => .tup [v, .lit (.bool b)]
  | false => v
def lookupA (P : Program) (t : TypeId) (x k : AV) (ok : Bool) (st : St) : Option AV :=
  match P.underlying t, toLit k, x with
  | some (.map key elem), some kv, .mp b => match getM st.h b with
    | some cells => match keysA cells, P.underlying key with
      | some ks, some kind => match semVal P (Instr.checkKey (nilL ks) 10000 key kv), idxA P kind key kv ks with
        | some _, some (some i) => match getAt cells (Nat.succ (Nat.mul 2 i)) with
          | some v => some (tupB ok v true)
          | none => none
        | some _, some none => match semVal P (zeroValue elem) with
          | some z => some (tupB ok (AV.of z) false)
          | none => none
        | _, _ => none
      | _, _ => none
    | none => none
  | some (.map _ _), some kv, .lit v => match semVal P (Instr.lookup t v kv ok) with
    | some (.tuple cs) => some (.tup (cs.toList.map AV.of))
    | some r => some (AV.of r)
    | none => none
  | _, _, _ => none
theorem dens_map_of : ∀ (vs : List Value), dens ρ (vs.map AV.of) vs
  | [] => by simp [dens]
  | v :: vs => by simp only [List.map_cons, dens]; exact ⟨v, vs, rfl, den_of v, dens_map_of vs⟩
theorem lookupA_ok {o : Oper} {t : TypeId} {x k : Operand} {ok : Bool} {v : AV} (ho : o.op = .lookup t x k ok) (h : TR ρ nt tm a) (hs : Sim K w0 ρ st w) (hf : lookupA P t (ev tm x) (ev tm k) ok st = some v) :
    ∃ u, (execOp a.eval o).run P w = .ok (.value u) w ∧ den ρ v u := by
  have hex : ∀ u, (Instr.lookup t (a.eval x) (a.eval k) ok).run P w = .ok u w → (execOp a.eval o).run P w = .ok (.value u) w := fun u hu => by
    unfold execOp
    simp only [ho, Sem.run_bind, hu]
    rfl
  have hdx := h.ev x
  unfold lookupA at hf
  split at hf
  · rename_i key elem kv b hu hk hx
    have ek := toLit_den hk (h.ev k)
    rw [hx] at hdx
    simp only [den] at hdx
    obtain ⟨y, c, hy, ex⟩ := hdx
    split at hf
    · rename_i cells hm
      obtain ⟨bk, hb, hop, rfl⟩ := getM_some hm
      obtain ⟨y', c', hy', hbk, _⟩ := hs.blk b bk hb
      rw [hy] at hy'
      obtain ⟨rfl, rfl⟩ := Prod.mk.inj (Option.some.inj hy')
      obtain ⟨vs, n, hd, hl, hh⟩ := hbk.2 hop
      split at hf
      · rename_i ks kind hks hkind
        have hemp : (mapEntries 0 vs).toArray.isEmpty = nilL ks := by
          have h1 := keysA_len hks hd
          have h2 := entries_len _ 0 vs h1
          cases ks with
          | nil => simp [nilL, List.length_eq_zero_iff.1 h2]
          | cons k0 ks =>
            simp only [nilL]
            cases he : mapEntries 0 vs with
            | nil => rw [he] at h2; simp at h2
            | cons e l => rfl
        split at hf
        · rename_i u1 i hck hi
          obtain ⟨hfind, hlt⟩ := idxA_ok hkind w hks hd hi
          rw [getAt_eq] at hf
          split at hf
          · rename_i v' hv
            obtain rfl := Option.some.inj hf
            obtain ⟨u, hu', hdu⟩ := dens_get _ hd hv
            have hu'' : vs[2 * i + 1]? = some u := hu'
            refine ⟨if ok then .tuple #[u, .bool true] else u, hex _ ?_, ?_⟩
            · unfold Instr.lookup
              simp [Sem.run_bind, run_underlying hu, ex, ek, MapKept.run_getObj_map (P := P) hh, -List.isEmpty_toArray, hemp, semVal_run hck, hfind, hit, hu'']
            · cases ok
              · exact hdu
              · simp only [tupB, den, if_true, dens]
                exact ⟨_, rfl, u, _, rfl, hdu, .bool true, [], rfl, rfl, rfl⟩
          · cases hf
        · rename_i u1 hck hi
          obtain ⟨hfind, _⟩ := idxA_ok hkind w hks hd hi
          split at hf
          · rename_i z hz
            obtain rfl := Option.some.inj hf
            refine ⟨if ok then .tuple #[z, .bool false] else z, hex _ ?_, ?_⟩
            · unfold Instr.lookup
              simp [Sem.run_bind, run_underlying hu, ex, ek, MapKept.run_getObj_map (P := P) hh, -List.isEmpty_toArray, hemp, semVal_run hck, hfind, hit, semVal_run hz]
            · cases ok
              · exact den_of z
              · simp only [tupB, den, if_true, dens]
                exact ⟨_, rfl, z, _, rfl, den_of z, .bool false, [], rfl, rfl, rfl⟩
          · cases hf
        · cases hf
      · cases hf
    · cases hf
  · rename_i kv v' hu hk hx
    have ek := toLit_den hk (h.ev k)
    rw [hx] at hdx
    simp only [den] at hdx
    split at hf
    · rename_i cs hv
      obtain rfl := Option.some.inj hf
      refine ⟨_, hex _ (by rw [hdx, ek]; exact semVal_run hv w), ?_⟩
      simp only [den]
      exact ⟨_, by simp, dens_map_of _⟩
    · rename_i r _ hv
      obtain rfl := Option.some.inj hf
      exact ⟨_, hex _ (by rw [hdx, ek]; exact semVal_run hv w), den_of _⟩
    · cases hf
  · cases hf
theorem getA_len {α : Type} {l : List α} {i : Nat} {v : α} (h : l[i]? = some v) : i < l.length := (List.getElem?_eq_some_iff.1 h).1
theorem dens_set {x : AV} {u : Value} (hx : den ρ x u) : ∀ {l : List AV} {vs : List Value} (i : Nat), dens ρ l vs → dens ρ (l.set i x) (vs.set i u)
  | [], vs, i, h => by simp only [dens] at h; subst h; simp [dens]
  | y :: l, vs, 0, h => by
    simp only [dens] at h
    obtain ⟨v, vs', rfl, h1, h2⟩ := h
    simp only [List.set_cons_zero, dens]
    exact ⟨u, vs', rfl, hx, h2⟩
  | y :: l, vs, i + 1, h => by
    simp only [dens] at h
    obtain ⟨v, vs', rfl, h1, h2⟩ := h
    simp only [List.set_cons_succ, dens]
    exact ⟨v, _, rfl, h1, dens_set hx i h2⟩
def mapUpA (P : Program) (t : TypeId) (x k v : AV) (st : St) : Option St :=
  match P.underlying t, toLit k, x with
  | some (.map key _), some kv, .mp b => match getM st.h b, st.wr b with
    | some cells, true => match keysA cells, P.underlying key with
      | some ks, some kind => match semVal P (Instr.checkKey false 10000 key kv), idxA P kind key kv ks with
        | some _, some (some i) => match getAt ks i with
          | some old => match semVal P (Instr.keyThatStays old kv) with
            | some kk => some ⟨st.h.set b ⟨0, (cells.set (Nat.mul 2 i) (AV.of kk)).set (Nat.succ (Nat.mul 2 i)) v, some 0⟩, st.n, st.wr⟩
            | none => none
          | none => none
        | some _, some none => some ⟨st.h.set b ⟨0, cells ++ [AV.of kv, v], some 0⟩, st.n, st.wr⟩
        | _, _ => none
      | _, _ => none
    | _, _ => none
  | _, _, _ => none
theorem keysA_get : ∀ {cells : List AV} {vs ks : List Value} (i : Nat) {k : Value}, keysA cells = some ks → dens ρ cells vs → ks[i]? = some k → vs[2 * i]? = some k
  | [], vs, ks, i, k, h, hd, hk => by obtain rfl := Option.some.inj h; simp at hk
  | [_], vs, ks, i, k, h, hd, hk => by simp [keysA] at h
  | x :: y :: l, vs, ks, i, k, h, hd, hk => by
    simp only [keysA] at h
    split at h
    · rename_i kv ks' hk' hks
      obtain rfl := Option.some.inj h
      simp only [dens] at hd
      obtain ⟨v1, _, rfl, d1, v2, vs', rfl, d2, d3⟩ := hd
      have e1 := toLit_den hk' d1
      subst e1
      cases i with
      | zero => simpa using hk
      | succ i =>
        have := keysA_get i hks d3 (by simpa using hk)
        rw [show 2 * (i + 1) = 2 * i + 1 + 1 by omega]
        simpa using this
    · cases h
theorem setObj_kp (w : World) (r : Nat) (o : Obj) : Kp (fun b => b < w.heap.size ∧ b ≠ r) w { w with heap := w.heap.setIfInBounds r o } :=
  ⟨rfl, rfl, rfl, by simp, fun k hk => by simp only; rw [Array.getElem?_setIfInBounds_ne (fun e => hk.2 e.symm)]⟩
theorem mapUpA_ok {o : Oper} {t : TypeId} {x k y : Operand} (ho : o.op = .mapUpdate t x k y ∨ o.op = .insert t x k y) (h : TR ρ nt tm a) (hs : Sim K w0 ρ st w) (hf : mapUpA P t (ev tm x) (ev tm k) (ev tm y) st = some st') :
    ∃ w', (execOp a.eval o).run P w = .ok .skip w' ∧ Sim K w0 ρ st' w' ∧ st'.n = st.n ∧ st'.wr = st.wr := by
  have hex : ∀ w', (Instr.mapUpdate t (a.eval x) (a.eval k) (a.eval y)).run P w = .ok () w' → (execOp a.eval o).run P w = .ok .skip w' := fun w' hu => by
    unfold execOp
    rcases ho with ho | ho <;> simp only [ho, Sem.run_bind, hu] <;> rfl
  have hdx := h.ev x
  have hdy := h.ev y
  unfold mapUpA at hf
  split at hf
  · rename_i key elem kv b hu hk hx
    have ek := toLit_den hk (h.ev k)
    rw [hx] at hdx
    simp only [den] at hdx
    obtain ⟨z, c, hz, ex⟩ := hdx
    split at hf
    · rename_i cells hm hwr
      obtain ⟨bk, hb, hop, rfl⟩ := getM_some hm
      obtain ⟨z', c', hz', hbk, _⟩ := hs.blk b bk hb
      rw [hz] at hz'
      obtain ⟨rfl, rfl⟩ := Prod.mk.inj (Option.some.inj hz')
      obtain ⟨vs, n, hd, hl, hh⟩ := hbk.2 hop
      have hlt := heap_lt hh
      have fin : ∀ (cells' : List AV) (vs' : List Value) (n' : Nat), dens ρ cells' vs' → vs'.length = 2 * n' → (Instr.mapUpdate t (a.eval x) (a.eval k) (a.eval y)).run P w = .ok () { w with heap := w.heap.setIfInBounds z (.map (mapEntries 0 vs').toArray n') } →
          st' = ⟨st.h.set b ⟨0, cells', some 0⟩, st.n, st.wr⟩ → ∃ w', (execOp a.eval o).run P w = .ok .skip w' ∧ Sim K w0 ρ st' w' ∧ st'.n = st.n ∧ st'.wr = st.wr := by
        rintro cells' vs' n' hd' hl' hr rfl
        refine ⟨_, hex _ hr, hs.write b hb hwr hz _ _ (setObj_kp w z _) ⟨fun e => absurd rfl e, fun _ => ⟨vs', n', hd', hl', ?_⟩⟩, rfl, rfl⟩
        simp [Array.getElem?_setIfInBounds_self_of_lt hlt]
      split at hf
      · rename_i ks kind hks hkind
        have hn : n = ks.length := by have := keysA_len hks hd; omega
        split at hf
        · rename_i u1 i hck hi
          obtain ⟨hfind, hlti⟩ := idxA_ok hkind w hks hd hi
          have hin : i < n := by have := hlti i rfl; omega
          split at hf
          · rename_i old hold
            rw [getAt_eq] at hold
            split at hf
            · rename_i kk hkk
              have hvs := keysA_get i hks hd hold
              obtain ⟨k0, v0, g1, g2, g3⟩ := entries_get n 0 i vs hl hin
              rw [hvs] at g1
              obtain rfl := Option.some.inj g1
              refine fin ((bk.cells.set (2 * i) (AV.of kk)).set (2 * i + 1) (ev tm y)) ((vs.set (2 * i) kk).set (2 * i + 1) (a.eval y)) n (dens_set hdy _ (dens_set (den_of kk) _ hd)) (by simpa using hl) ?_ (Option.some.inj hf).symm
              unfold Instr.mapUpdate
              simp [Sem.run_bind, run_underlying hu, ex, ek, MapKept.run_getObj_map (P := P) hh, semVal_run hck, hfind, hit, g3, semVal_run hkk, MapKept.run_setObj_map (P := P) _ hh]
              rw [← entries_set kk (a.eval y) n 0 i vs hl hin]
            · cases hf
          · cases hf
        · rename_i u1 hck hi
          obtain ⟨hfind, _⟩ := idxA_ok hkind w hks hd hi
          refine fin (bk.cells ++ [AV.of kv, ev tm y]) (vs ++ [kv, a.eval y]) (n + 1) (dens_append hd (by simp only [dens]; exact ⟨kv, _, rfl, den_of kv, _, _, rfl, hdy, rfl⟩)) (by simp; omega) ?_ (Option.some.inj hf).symm
          unfold Instr.mapUpdate
          simp [Sem.run_bind, run_underlying hu, ex, ek, MapKept.run_getObj_map (P := P) hh, semVal_run hck, hfind, hit, MapKept.run_setObj_map (P := P) _ hh]
          rw [entries_push kv (a.eval y) n 0 vs hl]
          simp
        · cases hf
      · cases hf
    · cases hf
  · cases hf
def makeMapA (P : Program) (tm : T AV) (t : TypeId) (r : Option Operand) (st : St) : Option (AV × St) :=
  match P.underlying t, r with
  | some (.map _ _), none => some (.mp st.n, newA 0 [] (some 0) st)
  | some (.map _ _), some x => match intOf (ev tm x) with
    | some _ => some (.mp st.n, newA 0 [] (some 0) st)
    | none => none
  | _, _ => none
theorem makeMapA_ok {o : Oper} {t : TypeId} {r : Option Operand} {v : AV} (ho : o.op = .makeMap t r) (h : TR ρ nt tm a) (hs : Sim K w0 ρ st w) (hf : makeMapA P tm t r st = some (v, st')) :
    ∃ u w' ρ', (execOp a.eval o).run P w = .ok (.value u) w' ∧ Ext st.n st'.n ρ ρ' ∧ Sim K w0 ρ' st' w' ∧ den ρ' v u := by
  have new := hs.new ⟨0, [], some 0⟩ 0 (.map #[] 0) ⟨fun e => absurd rfl e, fun _ => ⟨[], 0, by simp only [dens], rfl, heap_alloc_new w _⟩⟩
  have fin : (Instr.makeMap t (r.map a.eval)).run P w = .ok (.map (some w.heap.size)) (w.alloc (.map #[] 0)) → v = .mp st.n → st' = newA 0 [] (some 0) st → ∃ u w' ρ', (execOp a.eval o).run P w = .ok (.value u) w' ∧ Ext st.n st'.n ρ ρ' ∧ Sim K w0 ρ' st' w' ∧ den ρ' v u := by
    rintro hr rfl rfl
    refine ⟨_, _, _, ?_, new.2, new.1, by simp only [den]; exact ⟨_, _, up_at, rfl⟩⟩
    unfold execOp
    simp only [ho, Sem.run_bind, hr]
    rfl
  unfold makeMapA at hf
  split at hf
  · obtain ⟨e1, e2⟩ := Prod.mk.inj (Option.some.inj hf)
    exact fin (by simp [Instr.makeMap]) e1.symm e2.symm
  · rename_i k e x hu
    split at hf
    · rename_i p hp
      obtain ⟨e1, e2⟩ := Prod.mk.inj (Option.some.inj hf)
      obtain ⟨ik, n⟩ := p
      have ei := intOf_den hp (h.ev x)
      exact fin (by simp [Instr.makeMap, Sem.run_bind, run_underlying hu, ei, asInt, asIntOf]) e1.symm e2.symm
    · cases hf
  · cases hf

/-! ### Copy, clear -/
def copyA (P : Program) (ts : Array TypeId) (args : List AV) (st : St) : Option (AV × St) :=
  match ts[0]?, args with
  | some t, [.sl b off len _ _, s] => match P.underlying t with
    | some (.slice E) => match sizeT P E with
      | some size => match srcA size s st with
        | some (m, l) => match Nat.min m len with
          | 0 => some (.lit (.int .i64 (Int.ofNat 0)), st)
          | n + 1 => match getC st.h b with
            | some bk => match st.wr b && Nat.ble (Nat.add off (Nat.mul (Nat.succ n) size)) bk.cells.length with
              | true => some (.lit (.int .i64 (Int.ofNat (Nat.succ n))), ⟨st.h.set b ⟨bk.ty, spliceA bk.cells off (l.take (Nat.mul (Nat.succ n) size)), bk.op⟩, st.n, st.wr⟩)
              | false => none
            | none => none
        | none => none
      | none => none
    | _ => none
  | _, _ => none
theorem copyA_ok {o : Oper} {args : Array Operand} {ts : Array TypeId} {v : AV} (ho : o.op = .call { callee := .builtin .copy, args := args, argTypes := ts }) (h : TR ρ nt tm a) (hs : Sim K w0 ρ st w) (hf : copyA P ts (args.toList.map (ev tm)) st = some (v, st')) :
    ∃ u w', (execOp a.eval o).run P w = .ok (.value u) w' ∧ Sim K w0 ρ st' w' ∧ st'.n = st.n ∧ st'.wr = st.wr ∧ den ρ v u := by
  have hd := evs_den h args.toList
  have hex : (execOp a.eval o).run P w = (builtin .copy ts o.type (args.map fun | .const _ => true | _ => false) (args.map a.eval)).run P w := by
    unfold execOp
    simp only [ho, resolve, Sem.run_bind, Sem.run_pure, Result.andThen_ok, invoke]
    rfl
  rw [hex]
  have hargs : args.map a.eval = (args.toList.map a.eval).toArray := by rw [← Array.toList_map]
  rw [hargs]
  generalize args.toList.map a.eval = vs at hd
  generalize args.toList.map (ev tm) = l at hd hf
  generalize (args.map fun | .const _ => true | _ => false) = cs
  unfold copyA at hf
  split at hf
  · rename_i t b off len cap op s ht
    simp only [dens] at hd
    obtain ⟨du, _, rfl, hdu, su, _, rfl, hsu, rfl⟩ := hd
    simp only [den] at hdu
    obtain ⟨x, c, hx, rfl, _⟩ := hdu
    split at hf
    · rename_i E hu
      split at hf
      · rename_i size hsz
        split at hf
        · rename_i m l hsrc
          obtain ⟨A, c', us, rfl, hdl, hul, h1, hB⟩ := srcA_ok hs hsu hsrc
          have fc : ∀ n, n ≤ m → (Builtin.firstCells size n (.slice A m c')).run P w = .ok (us.take (n * size)).toArray w := by
            intro n hn
            rcases Nat.eq_zero_or_pos m with hm | hm
            · obtain rfl : n = 0 := by omega
              cases A with
              | none => simp [Builtin.firstCells]
              | some ad =>
                have := run_firstCells_some (P := P) (w := w) size 0 ad m c' [] (by simp) (by intro j v h; simp at h)
                simpa using this
            · obtain ⟨ad, rfl, hc⟩ := hB hm
              refine run_firstCells_some (P := P) (w := w) size n ad m c' _ ?_ ?_
              · rw [List.length_take, hul]
                have : n * size ≤ m * size := Nat.mul_le_mul_right _ hn
                omega
              · intro j v hj
                rw [List.getElem?_take] at hj
                split at hj
                · exact hc j v hj
                · cases hj
          have hrun : ∀ (n : Nat) (w' : World), Nat.min m len = n → (storeCells ⟨x, off, none⟩ (us.take (n * size))).run P w = .ok () w' →
              (builtin .copy ts o.type cs #[.slice (some ⟨x, off, none⟩) len (if op then c - cap else cap), .slice A m c']).run P w = .ok (.value (goInt n)) w' := by
            intro n w' hn hst
            have hnm : n ≤ m := by rw [← hn]; exact Nat.min_le_left _ _
            simp [builtin, Builtin.copy_, Sem.run_bind, ht, run_underlying hu, Builtin.lenOf, sizeT_run hsz, hn, fc n hnm, hst]
          split at hf
          · rename_i hn
            obtain ⟨rfl, rfl⟩ := Prod.mk.inj (Option.some.inj hf)
            exact ⟨_, w, hrun 0 w hn (by simp [storeCells]), hs, rfl, rfl, by simp only [den]; rfl⟩
          · rename_i n hn
            split at hf
            · rename_i bk hb
              split at hf
              · rename_i hcc
                simp only [Bool.and_eq_true] at hcc
                obtain ⟨rfl, rfl⟩ := Prod.mk.inj (Option.some.inj hf)
                have hle : off + (n + 1) * size ≤ bk.cells.length := Nat.le_of_ble_eq_true hcc.2
                have hnm : n + 1 ≤ m := by
                  have h9 : Nat.min m len ≤ m := Nat.min_le_left m len
                  have hn' : Nat.min m len = n + 1 := hn
                  omega
                have hll := dens_length hdl
                obtain ⟨w', hst, hsim⟩ := hs.cells (P := P) hb hcc.1 hx (dens_take ((n + 1) * size) hdl) (fun u hu => h1 u (List.mem_of_mem_take hu)) (by
                  exact Nat.le_trans (Nat.add_le_add_left (List.length_take_le _ _) _) hle)
                exact ⟨_, w', hrun (n + 1) w' hn hst, hsim, rfl, rfl, by simp only [den]; rfl⟩
              · cases hf
            · cases hf
        · cases hf
      · cases hf
    · cases hf
  · cases hf
def clearA (P : Program) (ts : Array TypeId) (args : List AV) : Option AV :=
  match ts[0]?, args with
  | some t, [.emp] => match P.underlying t with | some _ => some (.lit (.tuple #[])) | none => none
  | some t, [.sl _ _ 0 _ _] => match P.underlying t with | some _ => some (.lit (.tuple #[])) | none => none
  | some t, [.lit (.slice none _ _)] => match P.underlying t with | some _ => some (.lit (.tuple #[])) | none => none
  | _, _ => none
theorem clearA_ok {o : Oper} {args : Array Operand} {ts : Array TypeId} {v : AV} (ho : o.op = .call { callee := .builtin .clear, args := args, argTypes := ts }) (h : TR ρ nt tm a) (hf : clearA P ts (args.toList.map (ev tm)) = some v) : Yields P ρ o a v := by
  intro w
  have hd := evs_den h args.toList
  have hex : (execOp a.eval o).run P w = (builtin .clear ts o.type (args.map fun | .const _ => true | _ => false) (args.map a.eval)).run P w := by
    unfold execOp
    simp only [ho, resolve, Sem.run_bind, Sem.run_pure, Result.andThen_ok, invoke]
    rfl
  rw [hex]
  have hargs : args.map a.eval = (args.toList.map a.eval).toArray := by rw [← Array.toList_map]
  rw [hargs]
  generalize args.toList.map a.eval = vs at hd
  generalize args.toList.map (ev tm) = l at hd hf
  generalize (args.map fun | .const _ => true | _ => false) = cs
  have fin : ∀ (t : TypeId) (d : TypeDesc) (A : Option Addr) (n c : Nat), ts[0]? = some t → P.underlying t = some d → (A = none ∨ n = 0) → (builtin .clear ts o.type cs #[.slice A n c]).run P w = .ok (.value (.tuple #[])) w := by
    intro t d A n c ht hu hor
    rcases hor with rfl | rfl
    · simp [builtin, Builtin.clear_, Sem.run_bind, ht, run_underlying hu]
    · cases A <;> simp [builtin, Builtin.clear_, Sem.run_bind, ht, run_underlying hu]
  unfold clearA at hf
  split at hf
  · rename_i t ht
    simp only [dens, den] at hd
    obtain ⟨_, _, rfl, ⟨A, c, rfl⟩, rfl⟩ := hd
    split at hf
    · rename_i d hu; obtain rfl := Option.some.inj hf; exact ⟨_, fin t d A 0 c ht hu (.inr rfl), by simp only [den]⟩
    · cases hf
  · rename_i t b off cap op ht
    simp only [dens, den] at hd
    obtain ⟨_, _, rfl, ⟨y, c, hy, rfl, _⟩, rfl⟩ := hd
    split at hf
    · rename_i d hu; obtain rfl := Option.some.inj hf; exact ⟨_, fin t d _ 0 _ ht hu (.inr rfl), by simp only [den]⟩
    · cases hf
  · rename_i t n c ht
    simp only [dens, den] at hd
    obtain ⟨_, _, rfl, rfl, rfl⟩ := hd
    split at hf
    · rename_i d hu; obtain rfl := Option.some.inj hf; exact ⟨_, fin t d none n c ht hu (.inl rfl), by simp only [den]⟩
    · cases hf
  · cases hf

/-! ### Bytes that are converted to bytes -/
theorem freeze_kp (w : World) (x n k : Nat) : Kp (fun b => b < w.heap.size ∧ b ≠ x) w (w.freeze ⟨x, n, none⟩ k) := by
  unfold World.freeze
  split
  · exact Kp.refl _ w
  · exact ⟨rfl, rfl, rfl, by simp, fun b hb => by simp only [Array.getElem?_modify]; rw [if_neg (fun e => hb.2 e.symm)]⟩
theorem Blk.freeze {x : Nat} {t : TypeId} {cs : Array Value} (h : Blk w x t cs) : Blk (w.freeze ⟨x, cs.size, none⟩ 1) x t cs := by
  obtain ⟨⟨lo, hi⟩, h, hf⟩ := h
  simp only at hf
  refine ⟨if lo == hi then (cs.size, cs.size + 1) else (min lo cs.size, max hi (cs.size + 1)), ?_, ?_⟩
  · unfold World.freeze
    rw [if_neg (by omega)]
    simp [Array.getElem?_modify, h]
  · right
    split
    · exact Nat.le_refl _
    · rename_i hne
      simp only [beq_iff_eq] at hne
      simp only
      omega
def convSlA (P : Program) (s t : TypeId) (x : AV) (st : St) : Option (AV × St) :=
  match P.underlying s, P.underlying t, x with
  | some (.slice _), some (.slice e), .sl b off len cap op => match Nat.beq s t, P.underlying e, getC st.h b, st.wr b with
    | true, some (.int .u8), some bk, true => some (.sl b off len cap op, ⟨st.h.set b bk, st.n, st.wr⟩)
    | _, _, _, _ => none
  | _, _, _ => none
theorem convSlA_ok {o : Oper} {s t : TypeId} {x : Operand} {v : AV} (ho : o.op = .convert s t x) (h : TR ρ nt tm a) (hs : Sim K w0 ρ st w) (hf : convSlA P s t (ev tm x) st = some (v, st')) :
    ∃ u w', (execOp a.eval o).run P w = .ok (.value u) w' ∧ Sim K w0 ρ st' w' ∧ st'.n = st.n ∧ st'.wr = st.wr ∧ den ρ v u := by
  have hd := h.ev x
  unfold convSlA at hf
  split at hf
  · rename_i e0 e b off len cap op hus hut hx
    rw [hx] at hd
    have hd0 := hd
    simp only [den] at hd
    obtain ⟨y, c, hy, ex, _⟩ := hd
    split at hf
    · rename_i bk hbeq hue hb hwr
      have hst := Nat.eq_of_beq_eq_true hbeq
      obtain ⟨rfl, rfl⟩ := Prod.mk.inj (Option.some.inj hf)
      obtain ⟨y', c', hy', hbk, _⟩ := hs.blkC hb
      rw [hy] at hy'
      obtain ⟨rfl, rfl⟩ := Prod.mk.inj (Option.some.inj hy')
      obtain ⟨vs, rest, h1, h2, h3, h4, h5⟩ := hbk
      have hsh : w.shape? y = some (bk.ty, (vs ++ rest).toArray.size) := by
        obtain ⟨fz, hh, _⟩ := h2
        simp [World.shape?, hh]
      refine ⟨a.eval x, w.freeze ⟨y, (vs ++ rest).toArray.size, none⟩ 1, ?_, hs.write b (getC_some hb).1 hwr hy bk _ (freeze_kp w y _ 1) ⟨fun _ => ⟨vs, rest, h1, h2.freeze, h3, h4, h5⟩, fun e => absurd e (getC_some hb).2⟩, rfl, rfl, hd0⟩
      subst hst
      unfold execOp
      simp [ho, ex, convert, Sem.run_bind, run_underlying hus, run_underlying hue, markStringish, hsh]
      have : e0 = e := by rw [hus] at hut; exact TypeDesc.slice.inj (Option.some.inj hut)
      subst this
      simp [run_underlying hue, hsh]
    · cases hf
  · cases hf
end
end Go.Proofs.YtojddklogigihaaGreatDoor.Sx
