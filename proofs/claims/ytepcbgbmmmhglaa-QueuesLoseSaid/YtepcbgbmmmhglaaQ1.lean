/- append of a whole slice onto a row of the call's own; a slice cut at both ends. -/
import Derived.Test.YtepcbgbmmmhglaaQ0
namespace Go.Proofs.Ytepcbgbmmmhglaa
open Go.RowKit

/-- Each of a datum's values is one cell. -/
class OneCell (α : Type) [Rep α] : Prop where
  one : ∀ {w : World} {F : Nat → Prop} {x : α} {vs : List Value}, Rep.cells w F x vs → ∀ u ∈ vs, u.oneCell' = true
instance : OneCell Int where
  one h := by
    have h' : _ = [Value.int .i64 _] := h
    subst h'
    simp [Value.oneCell']
instance : OneCell Bool where
  one h := by
    have h' : _ = [Value.bool _] := h
    subst h'
    simp [Value.oneCell']
instance {α : Type} [Rep α] : OneCell (List α) where
  one h := by
    obtain ⟨A, n, c, rfl, _⟩ := h
    simp [Value.oneCell']

theorem flatten_at {β : Type} {s : Nat} : ∀ {L : List (List β)} {i j : Nat} {l : List β} {u : β}, (∀ x, x ∈ L → x.length = s) → L[i]? = some l → l[j]? = some u → L.flatten[i * s + j]? = some u
  | [], _, _, _, _, _, h, _ => by simp at h
  | x :: L, 0, j, l, u, hs, h, h' => by
    simp at h
    subst h
    rw [Nat.zero_mul, Nat.zero_add, List.flatten_cons, List.getElem?_append_left (List.getElem?_eq_some_iff.1 h').1]
    exact h'
  | x :: L, i + 1, j, l, u, hs, h, h' => by
    have hx := hs x (by simp)
    rw [List.flatten_cons, List.getElem?_append_right (by rw [hx, Nat.add_mul]; omega), hx, show (i + 1) * s + j - s = i * s + j by rw [Nat.add_mul]; omega]
    exact flatten_at (fun y hy => hs y (by simp [hy])) (by simpa using h) h'
theorem flatten_length' {β : Type} {s : Nat} : ∀ {L : List (List β)}, (∀ x, x ∈ L → x.length = s) → L.flatten.length = L.length * s
  | [], _ => by simp
  | x :: L, h => by
    rw [List.flatten_cons, List.length_append, h x (by simp), flatten_length' fun y hy => h y (by simp [hy]), List.length_cons, Nat.add_mul]
    omega
theorem flatten_from {β : Type} {s : Nat} : ∀ {L : List (List β)} {k : Nat} {u : β}, (∀ x, x ∈ L → x.length = s) → L.flatten[k]? = some u → ∃ i j l, L[i]? = some l ∧ l[j]? = some u ∧ k = i * s + j
  | [], _, _, _, h => by simp at h
  | x :: L, k, u, hs, h => by
    have hx := hs x (by simp)
    rw [List.flatten_cons, List.getElem?_append] at h
    split at h
    · exact ⟨0, k, x, rfl, h, by omega⟩
    · obtain ⟨i, j, l, h1, h2, h3⟩ := flatten_from (fun y hy => hs y (by simp [hy])) h
      exact ⟨i + 1, j, l, by simpa using h1, h2, by rw [Nat.add_mul]; omega⟩

/-- All cells of a slice that reads as a list. -/
theorem Sl.news {α : Type} [Rep α] [OneCell α] {w : World} {F : Nat → Prop} {b o n : Nat} {xs : List α} (h : Sl w F (some ⟨b, o, none⟩) n xs) :
    ∃ news : List Value, news.length = n * Rep.size α ∧ (∀ j u, news[j]? = some u → w.cell? ⟨b, o + j, none⟩ = some u) ∧ (∀ u ∈ news, u.oneCell' = true) ∧
      ∀ i x, xs[i]? = some x → ∃ cs, Rep.cells w F x cs ∧ ∀ j u, cs[j]? = some u → news[i * Rep.size α + j]? = some u := by
  have hl := h.1
  have hel : ∀ i, i < n → ∃ cs : List Value, ∃ x, xs[i]? = some x ∧ Rep.cells w F x cs ∧ ∀ j v, cs[j]? = some v → w.cell? ⟨b, o + i * Rep.size α + j, none⟩ = some v := by
    intro i hi
    obtain ⟨b', o', e, _, hc⟩ := h.2 (by omega)
    injection e with e
    injection e with e1 e2
    subst e1
    subst e2
    obtain ⟨cs, hr, hv⟩ := hc i _ (List.getElem?_eq_getElem (by omega))
    exact ⟨cs, _, List.getElem?_eq_getElem (by omega), hr, hv⟩
  obtain ⟨L, hL, hp⟩ : ∃ L : List (List Value), L.length = n ∧ ∀ i cs, L[i]? = some cs → ∃ x, xs[i]? = some x ∧ Rep.cells w F x cs ∧ ∀ j v, cs[j]? = some v → w.cell? ⟨b, o + i * Rep.size α + j, none⟩ = some v := by
    clear h hl
    induction n with
    | zero => exact ⟨[], rfl, fun i cs h => by simp at h⟩
    | succ n ih =>
      obtain ⟨L, hL, hp⟩ := ih fun i hi => hel i (by omega)
      obtain ⟨cs, hcs⟩ := hel n (by omega)
      refine ⟨L ++ [cs], by simp [hL], fun i ds hd => ?_⟩
      rw [List.getElem?_append] at hd
      split at hd
      · exact hp i ds hd
      · have hi0 : i - L.length = 0 := by
          rcases Nat.eq_zero_or_pos (i - L.length) with h' | h'
          · exact h'
          · rw [List.getElem?_eq_none (by simp only [List.length_cons, List.length_nil]; omega)] at hd; cases hd
        rw [hi0] at hd
        simp only [List.getElem?_cons_zero, Option.some.injEq] at hd
        subst hd
        have : i = n := by omega
        subst this
        exact hcs
  have hs : ∀ x, x ∈ L → x.length = Rep.size α := by
    intro cs hcs
    obtain ⟨i, hi, he⟩ := List.getElem_of_mem hcs
    obtain ⟨x, _, hr, _⟩ := hp i cs (by rw [List.getElem?_eq_getElem hi, he])
    exact Rep.len hr
  refine ⟨L.flatten, by rw [flatten_length' hs, hL], fun k u hk => ?_, fun u hu => ?_, fun i x hx => ?_⟩
  · obtain ⟨i, j, cs, h1, h2, rfl⟩ := flatten_from hs hk
    obtain ⟨x, _, _, hv⟩ := hp i cs h1
    rw [← Nat.add_assoc]
    exact hv j u h2
  · obtain ⟨cs, hcs, hu'⟩ := List.mem_flatten.1 hu
    obtain ⟨i, hi, he⟩ := List.getElem_of_mem hcs
    obtain ⟨x, _, hr, _⟩ := hp i cs (by rw [List.getElem?_eq_getElem hi, he])
    exact OneCell.one hr u hu'
  · have hi : i < n := by rw [← hl]; exact (List.getElem?_eq_some_iff.1 hx).1
    obtain ⟨cs, hcs⟩ : ∃ cs, L[i]? = some cs := ⟨L[i]'(by omega), List.getElem?_eq_getElem (by omega)⟩
    obtain ⟨y, hy, hr, _⟩ := hp i cs hcs
    rw [hx] at hy
    injection hy with hy
    subst hy
    exact ⟨cs, hr, fun j u hj => flatten_at hs hcs hj⟩

/-- What append reads of its source: the elements lie one behind the other; what they lead to lies in F. -/
def Src {α : Type} [Rep α] (w : World) (F : Nat → Prop) (A : Option Addr) (m : Nat) (ys : List α) : Prop :=
  ys.length = m ∧ ∃ news : List Value, news.length = m * Rep.size α ∧ (∀ u ∈ news, u.oneCell' = true) ∧ (∀ i x, ys[i]? = some x → ∃ cs, Rep.cells w F x cs ∧ ∀ j u, cs[j]? = some u → news[i * Rep.size α + j]? = some u) ∧
    (0 < m → ∃ b o, A = some ⟨b, o, none⟩ ∧ ∀ j u, news[j]? = some u → w.cell? ⟨b, o + j, none⟩ = some u)
theorem Sl.src {α : Type} [Rep α] [OneCell α] {w : World} {F : Nat → Prop} {A : Option Addr} {m : Nat} {ys : List α} (h : Sl w F A m ys) : Src w F A m ys := by
  refine ⟨h.1, ?_⟩
  rcases Nat.eq_zero_or_pos m with h0 | h0
  · subst h0
    have : ys = [] := List.eq_nil_of_length_eq_zero h.1
    subst this
    exact ⟨[], by simp, fun u hu => by simp at hu, fun i x hx => by simp at hx, fun h => absurd h (by omega)⟩
  · obtain ⟨b, o, rfl, _, _⟩ := h.2 h0
    obtain ⟨news, h1, h2, h3, h4⟩ := h.news
    exact ⟨news, h1, h3, h4, fun _ => ⟨b, o, rfl, h2⟩⟩
theorem Own.src {α : Type} [Rep α] [OneCell α] {w : World} {base : Nat} {E : TypeId} {F : Nat → Prop} {A : Option Addr} {n c : Nat} {xs : List α} (h : Own w base E F (.slice A n c) xs) (hn : xs.length = n) : Src w F A n xs := by
  obtain ⟨vs, ⟨hl, ho⟩, he⟩ := h
  rw [hn] at hl ho
  refine ⟨hn, vs, hl, fun u hu => ?_, he, fun hp => ?_⟩
  · obtain ⟨k, hk, hu'⟩ := List.getElem_of_mem hu
    have hs : 0 < Rep.size α := by
      rcases Nat.eq_zero_or_pos (Rep.size α) with h0 | h0
      · rw [h0, Nat.mul_zero] at hl; omega
      · exact h0
    have hi : k / Rep.size α < n := by rw [Nat.div_lt_iff_lt_mul hs]; omega
    obtain ⟨cs, hr, hc⟩ := he (k / Rep.size α) xs[k / Rep.size α] (List.getElem?_eq_getElem (by omega))
    have hm : k % Rep.size α < cs.length := by rw [Rep.len hr]; exact Nat.mod_lt _ hs
    have h1 := hc (k % Rep.size α) cs[k % Rep.size α] (List.getElem?_eq_getElem hm)
    rw [Nat.mul_comm, Nat.div_add_mod, List.getElem?_eq_getElem hk] at h1
    injection h1 with h1
    rw [← hu', h1]
    exact OneCell.one hr _ (List.getElem_mem hm)
  · rcases ho with ⟨_, h0⟩ | ⟨g, cap, cur, hv, hg, hh, hn', hm, hs, ht⟩
    · omega
    · injection hv with hv
      refine ⟨g, 0, hv, fun j u hj => ?_⟩
      rw [← ht, List.getElem?_take] at hj
      split at hj
      · rw [Nat.zero_add, Blk.cell (t := E) (cs := cur) hh]
        simpa using hj
      · cases hj
theorem Src.take_ {α : Type} [Rep α] {w : World} {F : Nat → Prop} {A : Option Addr} {n k : Nat} {xs : List α} (h : Src w F A n xs) (hk : k ≤ n) : Src w F A k (xs.take k) := by
  obtain ⟨hl, news, h1, h2, h3, h4⟩ := h
  have hks : k * Rep.size α ≤ n * Rep.size α := Nat.mul_le_mul_right _ hk
  refine ⟨by rw [List.length_take, hl]; omega, news.take (k * Rep.size α), by rw [List.length_take, h1]; omega, fun u hu => h2 u (List.mem_of_mem_take hu), fun i x hx => ?_, fun hp => ?_⟩
  · rw [List.getElem?_take] at hx
    split at hx
    · rename_i hi
      obtain ⟨cs, hr, hc⟩ := h3 i x hx
      refine ⟨cs, hr, fun j u hj => ?_⟩
      have hjl : j < Rep.size α := by rw [← Rep.len hr]; exact (List.getElem?_eq_some_iff.1 hj).1
      have : i * Rep.size α + j < k * Rep.size α := by
        have h5 : (i + 1) * Rep.size α ≤ k * Rep.size α := Nat.mul_le_mul_right _ hi
        rw [Nat.add_mul] at h5
        omega
      rw [List.getElem?_take, if_pos this]
      exact hc j u hj
    · cases hx
  · obtain ⟨b, o, e, hc⟩ := h4 (by omega)
    refine ⟨b, o, e, fun j u hj => hc j u ?_⟩
    rw [List.getElem?_take] at hj
    split at hj
    · exact hj
    · cases hj
theorem Src.drop_ {α : Type} [Rep α] {w : World} {F : Nat → Prop} {A A' : Option Addr} {n k : Nat} {xs : List α} (h : Src w F A n xs) (hk : k ≤ n) (hA : k < n → ∀ b o, A = some ⟨b, o, none⟩ → A' = some ⟨b, o + k * Rep.size α, none⟩) :
    Src w F A' (n - k) (xs.drop k) := by
  obtain ⟨hl, news, h1, h2, h3, h4⟩ := h
  refine ⟨by rw [List.length_drop, hl], news.drop (k * Rep.size α), by rw [List.length_drop, h1, Nat.sub_mul], fun u hu => h2 u (List.mem_of_mem_drop hu), fun i x hx => ?_, fun hp => ?_⟩
  · rw [List.getElem?_drop] at hx
    obtain ⟨cs, hr, hc⟩ := h3 (k + i) x hx
    refine ⟨cs, hr, fun j u hj => ?_⟩
    rw [List.getElem?_drop, ← hc j u hj]
    congr 1
    rw [Nat.add_mul]
    omega
  · obtain ⟨b, o, e, hc⟩ := h4 (by omega)
    refine ⟨b, o + k * Rep.size α, hA (by omega) b o e, fun j u hj => ?_⟩
    rw [List.getElem?_drop] at hj
    rw [← hc _ u hj]
    congr 2
    omega
theorem Src.keep {α : Type} [Rep α] {w w' : World} {F : Nat → Prop} {A : Option Addr} {n : Nat} {xs : List α} (h : Src w F A n xs) (hF : ∀ p : Addr, F p.block → w'.cell? p = w.cell? p)
    (hA : ∀ b o, A = some ⟨b, o, none⟩ → ∀ k, w'.cell? ⟨b, k, none⟩ = w.cell? ⟨b, k, none⟩) : Src w' F A n xs := by
  obtain ⟨hl, news, h1, h2, h3, h4⟩ := h
  refine ⟨hl, news, h1, h2, fun i x hx => ?_, fun hp => ?_⟩
  · obtain ⟨cs, hr, hc⟩ := h3 i x hx
    exact ⟨cs, Rep.keep hF hr, hc⟩
  · obtain ⟨b, o, e, hc⟩ := h4 hp
    exact ⟨b, o, e, fun j u hj => (hA b o e _).trans (hc j u hj)⟩

section
variable {α : Type} [Rep α] {P : Program} {w : World}
theorem run_append_nil_src (base : Nat) (t ty E : TypeId) (i : TypeInfo) (size : Nat) (ht : P.underlying t = some (.slice E)) (hi : P.info? E = some i)
    (v : Value) (n : Nat) (xs : List Value) (hown : w.ownsRow base E size v n xs) (c : Nat) : (Builtin.append_ #[t, t] ty #[v, .slice none 0 c]).run P w = .ok v w := by
  rcases hown.2 with ⟨rfl, _⟩ | ⟨g, cap, cur, rfl, _, _, hnc, _⟩
  · simp [Builtin.append_, run_underlying ht, sizeOf, typeInfo, hi, Builtin.lenOf, Builtin.firstCells]
  · simp [Builtin.append_, run_underlying ht, sizeOf, typeInfo, hi, Builtin.lenOf, Builtin.firstCells, hnc, storeCells]
/-- What append of a slice leaves. -/
theorem run_cat (t ty : TypeId) (base : Nat) (E : TypeId) (i : TypeInfo) (z : Value) (bytes : Nat) (ht : P.underlying t = some (.slice E)) (hi : P.info? E = some i) (hz : i.zero = some z)
    (hsize : i.size = Rep.size α) (hby : i.bytes = bytes) (hzs : z.cells.size = Rep.size α) (hsz : 0 < Rep.size α)
    (F : Nat → Prop) (v : Value) (xs ys : List α) (A : Option Addr) (m c : Nat) (hown : Own w base E F v xs) (hy : Src w F A m ys)
    (hF : ∀ b, F b → b < base) (hbase : base ≤ w.heap.size) (h63 : xs.length + m ≤ maxLen) (hbytes : (xs.length + m) * bytes ≤ 140737488355328) :
    ∃ v' w', (Builtin.append_ #[t, t] ty #[v, .slice A m c]).run P w = .ok v' w' ∧ Own w' base E F v' (xs ++ ys) ∧ w.grownBy w' v.ownBlock ∧ (v'.ownBlock = v.ownBlock ∨ v'.ownBlock = some w.heap.size) := by
  obtain ⟨hyl, news, n1, n2, n3, n4⟩ := hy
  obtain ⟨vs, hor, he⟩ := hown
  have hold : Own w base E F v xs := ⟨vs, hor, he⟩
  cases A with
  | none =>
    have hm : m = 0 := by
      rcases Nat.eq_zero_or_pos m with h0 | h0
      · exact h0
      · obtain ⟨b, o, e, _⟩ := n4 h0
        cases e
    subst hm
    have : ys = [] := List.eq_nil_of_length_eq_zero hyl
    subst this
    exact ⟨v, w, run_append_nil_src base t ty E i (Rep.size α) ht hi v _ vs hor c, by simpa using hold, World.grownBy.refl w _, .inl rfl⟩
  | some ad =>
    have hcells : ∀ j u, news[j]? = some u → w.cell? (ad.add j) = some u := by
      intro j u hj
      rcases Nat.eq_zero_or_pos m with h0 | h0
      · subst h0
        have hn : news = [] := List.eq_nil_of_length_eq_zero (by simpa using n1)
        subst hn
        simp at hj
      · obtain ⟨b, o, e, hc⟩ := n4 h0
        injection e with e
        subst e
        rw [Addr.add_lit]
        exact hc j u hj
    obtain ⟨v', w', hrun, h2, h3, _, h5⟩ := run_append_own_at (P := P) w base t ty E i z (Rep.size α) bytes ht hi hz hsize hby hzs hsz v xs.length vs hor ad m c news n1 hcells n2 h63 hbytes hbase
    refine ⟨v', w', hrun, ?_, h3, h5⟩
    have hk : ∀ p : Addr, F p.block → w'.cell? p = w.cell? p := fun p hp => World.cell?_of_block (h3.block p.block (Nat.lt_of_lt_of_le (hF _ hp) hbase) (fun e => by
      have h6 := (hold.lt_ e.symm).1
      have := hF _ hp
      omega))
    refine ⟨vs ++ news, by rw [List.length_append, hyl]; exact h2, fun k q hq => ?_⟩
    have hvl : vs.length = xs.length * Rep.size α := hor.1
    rw [List.getElem?_append] at hq
    split at hq
    · obtain ⟨ds, hr, hd⟩ := he k q hq
      refine ⟨ds, Rep.keep hk hr, fun j u hj => ?_⟩
      have e1 := hd j u hj
      have e2 : k * Rep.size α + j < vs.length := by
        rcases Nat.lt_or_ge (k * Rep.size α + j) vs.length with h' | h'
        · exact h'
        · rw [List.getElem?_eq_none h'] at e1; cases e1
      rw [List.getElem?_append_left e2]
      exact e1
    · rename_i hge
      obtain ⟨cs, hr, hc⟩ := n3 (k - xs.length) q hq
      refine ⟨cs, Rep.keep hk hr, fun j u hj => ?_⟩
      have e1 := hc j u hj
      have e3 : k * Rep.size α = xs.length * Rep.size α + (k - xs.length) * Rep.size α := by rw [← Nat.add_mul]; congr 1; omega
      rw [List.getElem?_append_right (by rw [hvl, e3]; omega), ← e1]
      congr 1
      rw [hvl, e3]
      omega

theorem wp_cat {o : Oper} {a : Act} {K : Act → World → Prop} {Q : Exit → Act → World → Prop} (s x : Operand) (t : TypeId)
    (ho : o.op = .call { callee := .builtin .append, args := #[s, x], argTypes := #[t, t] })
    (base : Nat) (E : TypeId) (i : TypeInfo) (z : Value) (bytes : Nat) (ht : P.underlying t = some (.slice E)) (hi : P.info? E = some i) (hz : i.zero = some z)
    (hsize : i.size = Rep.size α) (hby : i.bytes = bytes) (hzs : z.cells.size = Rep.size α) (hsz : 0 < Rep.size α)
    (F : Nat → Prop) (v : Value) (xs ys : List α) (A : Option Addr) (m c : Nat) (hs : a.eval s = v) (hown : Own w base E F v xs) (hx : a.eval x = .slice A m c) (hy : Src w F A m ys)
    (hF : ∀ b, F b → b < base) (hbase : base ≤ w.heap.size) (h63 : xs.length + m ≤ maxLen) (hbytes : (xs.length + m) * bytes ≤ 140737488355328)
    (h : ∀ v' w', Own w' base E F v' (xs ++ ys) → w.grownBy w' v.ownBlock → (v'.ownBlock = v.ownBlock ∨ v'.ownBlock = some w.heap.size) → K (a.put o.dst v') w') : o.wp P a w K Q := by
  obtain ⟨v', w', hrun, h2, h3, h4⟩ := run_cat (P := P) t o.type base E i z bytes ht hi hz hsize hby hzs hsz F v xs ys A m c hown hy hF hbase h63 hbytes
  unfold Oper.wp execOp
  simp only [ho, resolve, invoke, builtin, Sem.run_bind, Sem.run_pure, Result.andThen_ok, List.map_toArray, List.map_cons, List.map_nil, hs, hx, hrun]
  exact h v' w' h2 h3 h4
/-- append of a slice, in a region that does not draw. -/
theorem wpList_cat {ops : Array Oper} {rest : List Oper} {o : Oper} {a : Act} {Q : Exit → Act → World → Prop} (hgd : o.guard = none) (s x : Operand) (t : TypeId)
    (ho : o.op = .call { callee := .builtin .append, args := #[s, x], argTypes := #[t, t] })
    (base : Nat) (E : TypeId) (i : TypeInfo) (z : Value) (bytes : Nat) (ht : P.underlying t = some (.slice E)) (hi : P.info? E = some i) (hz : i.zero = some z)
    (hsize : i.size = Rep.size α) (hby : i.bytes = bytes) (hzs : z.cells.size = Rep.size α) (hsz : 0 < Rep.size α)
    (F : Nat → Prop) (v : Value) (xs ys : List α) (A : Option Addr) (m c : Nat) (hs : a.eval s = v) (hown : Own w base E F v xs) (hx : a.eval x = .slice A m c) (hy : Src w F A m ys)
    (hF : ∀ b, F b → b < base) (hbase : base ≤ w.heap.size) (h63 : xs.length + m ≤ maxLen) (hbytes : (xs.length + m) * bytes ≤ 140737488355328)
    (h : ∀ v' w', Own w' base E F v' (xs ++ ys) → w.grownBy w' v.ownBlock → (v'.ownBlock = v.ownBlock ∨ v'.ownBlock = some w.heap.size) → wpList P ops Q rest (a.put o.dst v') w') : wpList P ops Q (o :: rest) a w :=
  wpList_plain hgd fun _ hK => wp_cat s x t ho base E i z bytes ht hi hz hsize hby hzs hsz F v xs ys A m c hs hown hx hy hF hbase h63 hbytes fun v' w' h2 h3 h4 => hK _ _ (h v' w' h2 h3 h4)
/-- append of a slice, as one step of a region that draws. -/
theorem step_cat {ops : Array Oper} {o : Oper} {a : Act} {K : Act → World → Prop} {Q : Exit → Act → World → Prop} {Z : Prop} (hgd : o.guard = none) (s x : Operand) (t : TypeId)
    (ho : o.op = .call { callee := .builtin .append, args := #[s, x], argTypes := #[t, t] })
    (base : Nat) (E : TypeId) (i : TypeInfo) (z : Value) (bytes : Nat) (ht : P.underlying t = some (.slice E)) (hi : P.info? E = some i) (hz : i.zero = some z)
    (hsize : i.size = Rep.size α) (hby : i.bytes = bytes) (hzs : z.cells.size = Rep.size α) (hsz : 0 < Rep.size α)
    (F : Nat → Prop) (v : Value) (xs ys : List α) (A : Option Addr) (m c : Nat) (hs : a.eval s = v) (hown : Own w base E F v xs) (hx : a.eval x = .slice A m c) (hy : Src w F A m ys)
    (hF : ∀ b, F b → b < base) (hbase : base ≤ w.heap.size) (h63 : xs.length + m ≤ maxLen) (hbytes : (xs.length + m) * bytes ≤ 140737488355328)
    (h : ∀ v' w', Own w' base E F v' (xs ++ ys) → w.grownBy w' v.ownBlock → (v'.ownBlock = v.ownBlock ∨ v'.ownBlock = some w.heap.size) → K (a.put o.dst v') w') :
    if Region.wanted o (yielded ops a.tmps) = true then Oper.wp P o a w K Q else Z := by
  have hw : Region.wanted o (yielded ops a.tmps) = true := by simp [Region.wanted, hgd]
  rw [if_pos hw]
  exact wp_cat s x t ho base E i z bytes ht hi hz hsize hby hzs hsz F v xs ys A m c hs hown hx hy hF hbase h63 hbytes h
end

/-- Some values written one behind the other. -/
def setRow : Array Value → Nat → List Value → Array Value
  | cur, _, [] => cur
  | cur, o, c :: cs => setRow (cur.setIfInBounds o c) (o + 1) cs
theorem setRow_size : ∀ {cs : List Value} {cur : Array Value} {o : Nat}, (setRow cur o cs).size = cur.size
  | [], _, _ => rfl
  | c :: cs, cur, o => by unfold setRow; rw [setRow_size]; simp
theorem setRow_out : ∀ {cs : List Value} {cur : Array Value} {o j : Nat}, (j < o ∨ o + cs.length ≤ j) → (setRow cur o cs)[j]? = cur[j]?
  | [], _, _, _, _ => rfl
  | c :: cs, cur, o, j, h => by
    unfold setRow
    simp only [List.length_cons] at h
    rw [setRow_out (by omega), Array.getElem?_setIfInBounds_ne (by omega)]
theorem setRow_in : ∀ {cs : List Value} {cur : Array Value} {o j : Nat}, o + cs.length ≤ cur.size → j < cs.length → (setRow cur o cs)[o + j]? = cs[j]?
  | [], _, _, _, _, h => by simp at h
  | c :: cs, cur, o, 0, h, _ => by
    unfold setRow
    simp only [List.length_cons] at h
    have h1 : o < cur.size := by omega
    rw [setRow_out (by omega), Nat.add_zero, Array.getElem?_setIfInBounds_self, if_pos h1]
    rfl
  | c :: cs, cur, o, j + 1, h, hj => by
    unfold setRow
    simp only [List.length_cons] at h hj
    rw [show o + (j + 1) = o + 1 + j by omega, setRow_in (by simp; omega) (by omega)]
    simp

/-- The row behind a store of a whole element. -/
theorem Own.stored {α : Type} [Rep α] {w w' : World} {base : Nat} {E : TypeId} {F : Nat → Prop} {g n c k : Nat} {xs : List α} {y : α} {cs : List Value} (h : Own w base E F (.slice (some ⟨g, 0, none⟩) n c) xs) (hk : k < xs.length) (hr : Rep.cells w F y cs)
    (hw : ∀ cur, Blk w g E cur → Blk w' g E (setRow cur (k * Rep.size α) cs)) (hF : ∀ p : Addr, F p.block → w'.cell? p = w.cell? p) : Own w' base E F (.slice (some ⟨g, 0, none⟩) n c) (xs.set k y) := by
  obtain ⟨vs, ⟨hl, ho⟩, he⟩ := h
  have hcl := Rep.len hr
  rcases ho with ⟨ho, _⟩ | ⟨g', cap, cur, hv, hg, hh, hn, hm, hs, ht⟩
  · cases ho
  · injection hv with hv1 hv2 hv3
    injection hv1 with hv1
    injection hv1 with hv1
    subst hv1
    have hb := hw cur hh
    have hkn : (k + 1) * Rep.size α ≤ xs.length * Rep.size α := Nat.mul_le_mul_right _ hk
    rw [Nat.add_mul] at hkn
    have hnc : xs.length * Rep.size α ≤ cap * Rep.size α := Nat.mul_le_mul_right _ hn
    have hget : ∀ j, j < xs.length * Rep.size α → ((setRow cur (k * Rep.size α) cs).toList.take (xs.length * Rep.size α))[j]? = (setRow cur (k * Rep.size α) cs)[j]? := by
      intro j hj
      rw [List.getElem?_take, if_pos hj]
      simp
    refine ⟨(setRow cur (k * Rep.size α) cs).toList.take (xs.length * Rep.size α), ⟨?_, .inr ⟨g, cap, setRow cur (k * Rep.size α) cs, by rw [hv2, hv3, List.length_set], hg, hb, by rw [List.length_set]; exact hn, hm, by rw [setRow_size]; exact hs, by rw [List.length_set]⟩⟩, fun i x hx => ?_⟩
    · rw [List.length_set, List.length_take]
      have h1 : (setRow cur (k * Rep.size α) cs).toList.length = cap * Rep.size α := by
        rw [Array.length_toList, setRow_size]
        exact hs
      rw [h1]
      omega
    · rw [List.getElem?_set] at hx
      split at hx
      · rename_i hki
        subst hki
        injection hx with hx
        subst hx
        refine ⟨cs, Rep.keep hF hr, fun j u hj => ?_⟩
        have hjl : j < cs.length := (List.getElem?_eq_some_iff.1 hj).1
        rw [hget _ (by omega), setRow_in (by rw [hs]; omega) hjl]
        exact hj
      · rename_i hki
        obtain ⟨ds, hr', hd⟩ := he i x hx
        refine ⟨ds, Rep.keep hF hr', fun j u hj => ?_⟩
        have hjl : j < Rep.size α := by rw [← Rep.len hr']; exact (List.getElem?_eq_some_iff.1 hj).1
        have h1 := hd j u hj
        have h2 : i * Rep.size α + j < xs.length * Rep.size α := by
          rw [← hl]
          exact (List.getElem?_eq_some_iff.1 h1).1
        rw [hget _ h2, setRow_out]
        · rw [← ht, List.getElem?_take] at h1
          rw [if_pos h2] at h1
          simpa using h1
        · rw [hcl]
          rcases Nat.lt_or_ge i k with h3 | h3
          · have h4 : (i + 1) * Rep.size α ≤ k * Rep.size α := Nat.mul_le_mul_right _ h3
            rw [Nat.add_mul] at h4
            left
            omega
          · have h4 : (k + 1) * Rep.size α ≤ i * Rep.size α := Nat.mul_le_mul_right _ (by omega)
            rw [Nat.add_mul] at h4
            right
            omega
/-- The block of a row that is not empty; its cells can be written. -/
theorem Own.blk {α : Type} [Rep α] {w : World} {base : Nat} {E : TypeId} {F : Nat → Prop} {A : Option Addr} {n c : Nat} {xs : List α} (h : Own w base E F (.slice A n c) xs) (hn : xs.length = n) (hp : 0 < n) :
    ∃ g cur, A = some ⟨g, 0, none⟩ ∧ base ≤ g ∧ g < w.heap.size ∧ Blk w g E cur ∧ n * Rep.size α ≤ cur.size := by
  obtain ⟨vs, ⟨hl, ho⟩, he⟩ := h
  rcases ho with ⟨_, h0⟩ | ⟨g, cap, cur, hv, hg, hh, hn', hm, hs, ht⟩
  · omega
  · injection hv with hv1 hv2 hv3
    exact ⟨g, cur, hv1, hg, Blk.lt (t := E) (cs := cur) hh, hh, by rw [hs]; exact Nat.mul_le_mul_right _ (by omega)⟩

end Go.Proofs.Ytepcbgbmmmhglaa
