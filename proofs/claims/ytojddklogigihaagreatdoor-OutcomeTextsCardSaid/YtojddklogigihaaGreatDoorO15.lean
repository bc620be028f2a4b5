/- A row of bytes that is a function's own, or that is full: what 'append' makes of it. -/
import Derived.Test.YtojddklogigihaaGreatDoorO14
import Derived.Test.YtojddklogigihaaGreatDoorSh
import Derived.Lib.AppendIntMem
import Derived.ArgAppend
namespace Go.Proofs.YtojddklogigihaaGreatDoor
open Go.RowKit Go.Lib

/-- The bytes t: in a row of its own, or in a full row from B on. -/
def TRow (w : World) (B : Nat) (e : TypeId) (v : Value) (t : List UInt8) : Prop :=
  w.ownsRow B e 1 v t.length (Lib.byteCells t) ∨ ∃ g, v = .slice (some ⟨g, 0, none⟩) t.length t.length ∧ B ≤ g ∧ ∀ j u, (Lib.byteCells t)[j]? = some u → w.cell? ⟨g, j, none⟩ = some u
theorem ownsRow_base {w : World} {B B' : Nat} {e : TypeId} {size : Nat} {v : Value} {n : Nat} {xs : List Value} (h : w.ownsRow B' e size v n xs) (hB : B ≤ B') : w.ownsRow B e size v n xs := by
  refine ⟨h.1, ?_⟩
  rcases h.2 with h | ⟨g, cap, cur, h1, h2, h3⟩
  · exact .inl h
  · exact .inr ⟨g, cap, cur, h1, Nat.le_trans hB h2, h3⟩
theorem ownsRow_own {w : World} {B : Nat} {e : TypeId} {size : Nat} {v : Value} {n : Nat} {xs : List Value} (h : w.ownsRow B e size v n xs) : ∀ k, v.ownBlock = some k → B ≤ k := by
  intro k hk
  rcases h.2 with ⟨rfl, _⟩ | ⟨g, cap, cur, rfl, h2, _⟩
  · simp [Value.ownBlock] at hk
  · simp [Value.ownBlock] at hk
    omega
theorem bytes_one (u : List UInt8) : ∀ x ∈ Lib.byteCells u, x.oneCell' = true := by
  intro x hx
  obtain ⟨b, _, rfl⟩ := List.mem_map.1 hx
  rfl
theorem TRow.alloc {w : World} {B : Nat} {e : TypeId} {v : Value} {t : List UInt8} (h : TRow w B e v t) (o : Obj) : TRow (w.alloc o) B e v t := by
  rcases h with h | ⟨g, h1, h2, h3⟩
  · exact .inl (h.alloc o)
  · exact .inr ⟨g, h1, h2, fun j u hu => (World.cell?_alloc_some w _ o (by rw [h3 j u hu]; rfl)).trans (h3 j u hu)⟩
theorem adj (g j : Nat) : (⟨g, 0, none⟩ : Addr).add j = ⟨g, j, none⟩ := by unfold Addr.add; split <;> simp_all

section
variable {P : Program} {w : World}
theorem run_tapp (B : Nat) (t ty e : TypeId) (i : TypeInfo) (ht : P.underlying t = some (.slice e)) (hi : P.info? e = some i) (hz : i.zero = some (.int .u8 0)) (hs : i.size = 1) (hb : i.bytes = 1)
    (v : Value) (x : List UInt8) (T : TRow w B e v x) (ad : Addr) (c : Nat) (u : List UInt8) (hu : u ≠ []) (hc : ∀ j y, (Lib.byteCells u)[j]? = some y → w.cell? (ad.add j) = some y)
    (hl : x.length + u.length ≤ 1000000) (hB : B ≤ w.heap.size) :
    ∃ v' w', (Builtin.append_ #[t, t] ty #[v, .slice (some ad) u.length c]).run P w = .ok v' w' ∧ w'.ownsRow B e 1 v' (x ++ u).length (Lib.byteCells (x ++ u)) ∧ Below B w w' := by
  have hpos : 0 < u.length := List.length_pos_iff.2 hu
  rcases T with T | ⟨g, rfl, hg, hcell⟩
  · obtain ⟨v', w', h1, h2, h3, -⟩ := run_append_own (P := P) w B t ty e i (.int .u8 0) 1 1 ht hi hz hs hb rfl (by decide) v x.length (Lib.byteCells x) T ad u.length c (Lib.byteCells u) (by simp [Lib.byteCells]) hc (bytes_one u) (by unfold maxLen; omega) (by omega) hB
    refine ⟨v', w', h1, ?_, (Below.refl _ _).grown h3 hB (ownsRow_own T)⟩
    rw [List.length_append, Lib.byteCells_append]
    exact h2
  · obtain ⟨v', w', h1, h2, h3⟩ := run_append_arg_grows (P := P) w t ty e i (.int .u8 0) 1 1 ht hi hz hs hb rfl (by decide) ⟨g, 0, none⟩ x.length x.length (Lib.byteCells x) (by simp [Lib.byteCells]) (fun j y hy => by rw [adj]; exact hcell j y hy) ad u.length c (Lib.byteCells u) (by simp [Lib.byteCells]) hc (by omega) (by unfold maxLen; omega) (by omega)
    refine ⟨v', w', h1, ?_, (Below.refl _ _).grown h3 hB (fun k hk => by simp at hk)⟩
    rw [List.length_append, Lib.byteCells_append]
    exact ownsRow_base h2 hB
theorem run_tstr (B : Nat) (t s ty e : TypeId) (i : TypeInfo) (ht : P.underlying t = some (.slice e)) (hst : P.underlying s = some .string) (hi : P.info? e = some i) (hz : i.zero = some (.int .u8 0)) (hs : i.size = 1) (hb : i.bytes = 1)
    (v : Value) (x : List UInt8) (T : TRow w B e v x) (u : List UInt8) (hu : u ≠ [])
    (hl : x.length + u.length ≤ 1000000) (hB : B ≤ w.heap.size) :
    ∃ v' w', (Builtin.append_ #[t, s] ty #[v, .string ⟨u.toArray⟩]).run P w = .ok v' w' ∧ w'.ownsRow B e 1 v' (x ++ u).length (Lib.byteCells (x ++ u)) ∧ Below B w w' := by
  have hpos : 0 < u.length := List.length_pos_iff.2 hu
  have hsz : (⟨u.toArray⟩ : ByteArray).size = u.length := rfl
  rcases T with T | ⟨g, rfl, hg, hcell⟩
  · obtain ⟨v', w', h1, h2, h3, -⟩ := run_append_own_string (P := P) w B t s ty e i ht hst hi hz hs hb v x.length (Lib.byteCells x) T ⟨u.toArray⟩ (by unfold maxLen; rw [hsz]; omega) (by rw [hsz]; omega) hB
    refine ⟨v', w', h1, ?_, (Below.refl _ _).grown h3 hB (ownsRow_own T)⟩
    rw [List.length_append, Lib.byteCells_append]
    exact h2
  · have hr := run_append_grow_string (P := P) w t s ty e i (.int .u8 0) ht hst hi hz ⟨g, 0, none⟩ x.length x.length (Lib.byteCells x) (by rw [hs]; simp [Lib.byteCells]) (fun j y hy => by rw [adj]; exact hcell j y hy) ⟨u.toArray⟩ (by rw [hsz]; omega) (by rw [hsz]; omega) (growslice_fits (by rw [hsz]; omega) (by rw [hsz, hb]; omega))
    have hge := grownCap_ge w (x.length + u.length) x.length e
    have hcm : grownCap w (x.length + u.length) x.length e ≤ maxLen := grownCap_le_maxLen w (x.length + u.length) x.length e (by unfold maxLen; omega)
    refine ⟨_, _, hr, ⟨by simp [Lib.byteCells], .inr ⟨w.heap.size, _, _, by first | (rw [hsz, List.length_append]) | (rw [List.length_append]), hB, heap_alloc_new w.drew _, ?_, by first | exact hcm | (rw [hsz]; exact hcm), ?_, ?_⟩⟩, ?_⟩
    · rw [List.length_append]
      exact hge
    · simp only [Array.size_append, List.size_toArray, size_zeroCells, hsz, Lib.byteCells_length, strCells_length]
      show x.length + u.length + (grownCap w (x.length + u.length) x.length e - (x.length + u.length)) * 1 = grownCap w (x.length + u.length) x.length e * 1
      omega
    · simp only [Array.toList_append, strCells_toArray]
      rw [← Lib.byteCells_append, Nat.mul_one, ← Lib.byteCells_length (x ++ u)]
      exact List.take_left
    · exact ((Below.refl _ _).drew).alloc (by simpa using hB) _

theorem wpList_tapp {ops : Array Oper} {rest : List Oper} {o : Oper} {a : Act} {Q : Exit → Act → World → Prop} (hgd : o.guard = none) (s y : Operand) (t : TypeId)
    (ho : o.op = .call { callee := .builtin .append, args := #[s, y], argTypes := #[t, t] })
    (B : Nat) (e : TypeId) (i : TypeInfo) (ht : P.underlying t = some (.slice e)) (hi : P.info? e = some i) (hz : i.zero = some (.int .u8 0)) (hs : i.size = 1) (hb : i.bytes = 1)
    (v : Value) (x : List UInt8) (T : TRow w B e v x) (hv : a.eval s = v) (ad : Addr) (m c : Nat) (u : List UInt8) (hy : a.eval y = .slice (some ad) m c) (hm : m = u.length) (hu : u ≠ []) (hc : ∀ j y, (Lib.byteCells u)[j]? = some y → w.cell? (ad.add j) = some y)
    (hl : x.length + u.length ≤ 1000000) (hB : B ≤ w.heap.size)
    (h : ∀ v' w', w'.ownsRow B e 1 v' (x ++ u).length (Lib.byteCells (x ++ u)) → Below B w w' → wpList P ops Q rest (a.put o.dst v') w') : wpList P ops Q (o :: rest) a w := by
  subst hm
  refine wpList_plain hgd fun K hK => ?_
  obtain ⟨v', w', hr, h2, h3⟩ := run_tapp (P := P) B t o.type e i ht hi hz hs hb v x T ad c u hu hc hl hB
  unfold Oper.wp execOp
  simp only [ho, resolve, invoke, builtin, Sem.run_bind, Sem.run_pure, Result.andThen_ok, List.map_toArray, List.map_cons, List.map_nil, hv, hy, hr]
  exact hK _ _ (h v' w' h2 h3)
theorem wpList_tstr {ops : Array Oper} {rest : List Oper} {o : Oper} {a : Act} {Q : Exit → Act → World → Prop} (hgd : o.guard = none) (s y : Operand) (t st : TypeId)
    (ho : o.op = .call { callee := .builtin .append, args := #[s, y], argTypes := #[t, st] })
    (B : Nat) (e : TypeId) (i : TypeInfo) (ht : P.underlying t = some (.slice e)) (hst : P.underlying st = some .string) (hi : P.info? e = some i) (hz : i.zero = some (.int .u8 0)) (hs : i.size = 1) (hb : i.bytes = 1)
    (v : Value) (x : List UInt8) (T : TRow w B e v x) (hv : a.eval s = v) (u : List UInt8) (hy : a.eval y = .string ⟨u.toArray⟩) (hu : u ≠ [])
    (hl : x.length + u.length ≤ 1000000) (hB : B ≤ w.heap.size)
    (h : ∀ v' w', w'.ownsRow B e 1 v' (x ++ u).length (Lib.byteCells (x ++ u)) → Below B w w' → wpList P ops Q rest (a.put o.dst v') w') : wpList P ops Q (o :: rest) a w := by
  refine wpList_plain hgd fun K hK => ?_
  obtain ⟨v', w', hr, h2, h3⟩ := run_tstr (P := P) B t st o.type e i ht hst hi hz hs hb v x T u hu hl hB
  unfold Oper.wp execOp
  simp only [ho, resolve, invoke, builtin, Sem.run_bind, Sem.run_pure, Result.andThen_ok, List.map_toArray, List.map_cons, List.map_nil, hv, hy, hr]
  exact hK _ _ (h v' w' h2 h3)
/-- 'string(b)'. -/
theorem run_tconv (t s e : TypeId) (hP : P.underlying t = some (.slice e)) (hQ : P.underlying e = some (.int .u8)) (hR : P.underlying s = some .string) (B : Nat) (v : Value) (x : List UInt8) (T : TRow w B e v x) (hx : x ≠ []) :
    (convert t s v).run P w = .ok (.string ⟨x.toArray⟩) w := by
  have hpos : 0 < x.length := List.length_pos_iff.2 hx
  rcases T with T | ⟨g, rfl, hg, hcell⟩
  · have T' := T
    rcases T.2 with ⟨-, h0⟩ | ⟨g, cap, cur, rfl, -, -, -, -, -, -⟩
    · omega
    · exact run_convert_bytes_back (P := P) w t s e ⟨g, 0, none⟩ cap x hP hQ hR (fun j hj => T'.cells (g := g) rfl j _ (by simp [Lib.byteCells, hj]))
  · exact run_convert_bytes_back (P := P) w t s e ⟨g, 0, none⟩ x.length x hP hQ hR (fun j hj => by rw [adj]; exact hcell j _ (by simp [Lib.byteCells, hj]))
end
end Go.Proofs.YtojddklogigihaaGreatDoor
