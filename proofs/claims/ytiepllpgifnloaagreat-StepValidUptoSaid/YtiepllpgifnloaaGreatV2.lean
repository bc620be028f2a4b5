/- A library of the proof: a run of a function on data that is known in part; plain definitions and lemmas. -/
import Derived.Test.YtiepllpgifnloaaGreatV1
import Derived.Deep.AppendSrc
import Derived.MapKept
set_option linter.unusedSimpArgs false
set_option linter.unusedVariables false
namespace Go.Proofs.YtiepllpgifnloaaGreat.Vx
open Go.RowKit
variable {P : Program} [Fast P] {ρ ρ' : Rho} {nt : Nat} {tm : T AV} {a : Act} {w w0 w' : World} {K : KS} {st st' : St}
def srcA (size : Nat) (x : AV) (st : St) : Option (Nat × List AV) := match x with
  | .sl b off len _ _ => match getC st.h b with
    | some bk => match Nat.ble (Nat.add off (Nat.mul len size)) bk.cells.length with
      | true => some (len, (bk.cells.drop off).take (Nat.mul len size))
      | false => none
    | none => none
  | .emp => some (0, [])
  | .lit (.slice none 0 _) => some (0, [])
  | _ => none
theorem srcA_ok {size n : Nat} {x : AV} {l : List AV} {u : Value} (hs : Sim K w0 ρ st w) (hd : den ρ x u) (hf : srcA size x st = some (n, l)) :
    ∃ A c us, u = .slice A n c ∧ dens ρ l us ∧ us.length = n * size ∧ (∀ v ∈ us, v.oneCell' = true) ∧ (0 < n → ∃ ad, A = some ad ∧ ∀ j v, us[j]? = some v → w.cell? (ad.add j) = some v) := by
  unfold srcA at hf
  split at hf
  · rename_i b off len cap op
    simp only [den] at hd
    obtain ⟨x, c, hx, rfl, _⟩ := hd
    split at hf
    · rename_i bk hb
      split at hf
      · rename_i hle
        obtain ⟨rfl, rfl⟩ := Prod.mk.inj (Option.some.inj hf)
        obtain ⟨x', c', hx', hbk, _⟩ := hs.blkC hb
        rw [hx] at hx'
        obtain ⟨rfl, rfl⟩ := Prod.mk.inj (Option.some.inj hx')
        obtain ⟨us, h1, h2, h3, h4⟩ := cells_at hbk (Nat.le_of_ble_eq_true hle)
        exact ⟨_, _, us, rfl, h1, h2, h3, fun _ => ⟨_, rfl, h4⟩⟩
      · cases hf
    · cases hf
  · simp only [den] at hd
    obtain ⟨A, c, rfl⟩ := hd
    obtain ⟨rfl, rfl⟩ := Prod.mk.inj (Option.some.inj hf)
    exact ⟨A, c, [], rfl, by simp [dens], by simp, by simp, fun h => absurd h (Nat.lt_irrefl 0)⟩
  · rename_i c
    simp only [den] at hd
    subst hd
    obtain ⟨rfl, rfl⟩ := Prod.mk.inj (Option.some.inj hf)
    exact ⟨none, c, [], rfl, by simp [dens], by simp, by simp, fun h => absurd h (Nat.lt_irrefl 0)⟩
  · cases hf
inductive CatKind where
  | same | within | grow | open_ | no
def isPos (n : Nat) : Bool := Nat.blt 0 n
def catA (size bytes : Nat) (E : TypeId) (s : AV) (n : Nat) (l : List AV) (st : St) : Option (AV × St) :=
  match s with
  | .lit (.slice none 0 0) => match Nat.beq n 0 with
    | true => some (s, st)
    | false => match Nat.ble (Nat.mul n bytes) 140737488355328 && Nat.ble n 9223372036854775807 with
      | true => some (.sl st.n 0 n 0 true, newA E l (some size) st)
      | false => none
  | .sl b off len cap op => match Nat.beq n 0 with
    | true => some (s, st)
    | false => match getC st.h b with
      | none => none
      | some bk => match Nat.ble (Nat.mul (Nat.add len n) bytes) 140737488355328 && Nat.ble (Nat.add len n) 9223372036854775807 with
        | false => none
        | true => match op with
          | false => match Nat.ble (Nat.add len n) cap with
            | true => match Nat.ble (Nat.add (Nat.add off (Nat.mul len size)) l.length) bk.cells.length && st.wr b with
              | true => some (.sl b off (Nat.add len n) cap false, ⟨st.h.set b ⟨bk.ty, spliceA bk.cells (Nat.add off (Nat.mul len size)) l, bk.op⟩, st.n, st.wr⟩)
              | false => none
            | false => match Nat.ble (Nat.add off (Nat.mul len size)) bk.cells.length with
              | true => some (.sl st.n 0 (Nat.add len n) 0 true, newA E ((bk.cells.drop off).take (Nat.mul len size) ++ l) (some size) st)
              | false => none
          | true => match bk.op with
            | none => none
            | some size' => match Nat.beq off 0 && (Nat.beq cap 0 && (Nat.beq size' size && (st.wr b && isPos size))) with
              | false => none
              | true => match Nat.ble (Nat.mul (Nat.add len n) size) bk.cells.length with
                | true => some (.sl b 0 (Nat.add len n) 0 true, ⟨st.h.set b ⟨bk.ty, spliceA bk.cells (Nat.mul len size) l, bk.op⟩, st.n, st.wr⟩)
                | false => match Nat.beq (Nat.mul len size) bk.cells.length && Nat.beq bk.ty E with
                  | true => some (.sl st.n 0 (Nat.add len n) 0 true, ⟨(st.h.put b none).set st.n ⟨E, bk.cells ++ l, some size⟩, st.n + 1, st.wr⟩)
                  | false => none
  | _ => none
theorem Src.ofEmp {size : Nat} {tx e' : TypeId} (hk : P.underlying tx = some (.slice e')) (A : Option Addr) (c : Nat) (w : World) : Src P size tx (.slice A 0 c) 0 [] w := by
  have _i : Fast P := inferInstance
  refine ⟨.inl ⟨e', hk⟩, fun _ => rfl, ?_, ?_, by simp, fun _ h => by cases h⟩ <;> cases A <;> simp [Builtin.firstCells, loadCells, loadCellsFrom]
theorem run_append_zero {t tx ty E : TypeId} {i : TypeInfo} (ht : P.underlying t = some (.slice E)) (hi : P.info? E = some i) {x : Value} {news : List Value} (hs : Src P i.size tx x 0 news w) (A : Option Addr) (n c : Nat) (hn : n ≤ c) :
    (Builtin.append_ #[t, tx] ty #[.slice A n c, x]).run P w = .ok (.slice A n c) w := by
  have _i : Fast P := inferInstance
  have hnil : news = [] := List.length_eq_zero_iff.1 (by rw [hs.newsLen, Nat.zero_mul])
  subst hnil
  cases A <;> rcases hs.kind with ⟨e', hk⟩ | hk <;> simp [Builtin.append_, run_underlying ht, run_underlying hk, sizeOf, typeInfo, hi, hs.len, hn, hs.cells, storeCells]
theorem run_append_in {t tx ty E : TypeId} {i : TypeInfo} (ht : P.underlying t = some (.slice E)) (hi : P.info? E = some i) (b : Addr) (sLen sCap : Nat)
    {x : Value} {m : Nat} {news : List Value} (hs : Src P i.size tx x m news w)
    (hroom : sLen + m ≤ sCap) (hst : (storeCells (b.add (sLen * i.size)) news).run P w = .ok () w') :
    (Builtin.append_ #[t, tx] ty #[.slice (some b) sLen sCap, x]).run P w = .ok (.slice (some b) (sLen + m) sCap) w' := by
  have _i : Fast P := inferInstance
  rcases hs.kind with ⟨e', hk⟩ | hk <;> simp [Builtin.append_, run_underlying ht, run_underlying hk, sizeOf, typeInfo, hi, hs.len, hroom, hs.cells, hst]
theorem zeroCells_len (z : Array Value) (n : Nat) : (Builtin.zeroCells z n).size = n * z.size := by simp [Builtin.zeroCells]
structure EltOk (P : Program) [Fast P] (t E : TypeId) (size bytes : Nat) : Prop where
  ht : P.underlying t = some (.slice E)
  pos : 0 < size
  hi : ∃ i z, P.info? E = some i ∧ i.zero = some z ∧ i.size = size ∧ i.bytes = bytes ∧ z.cells.size = size
theorem catA_ok {t tx ty E : TypeId} {size bytes : Nat} (he : EltOk P t E size bytes) {s v : AV} {n : Nat} {l : List AV} {us : List Value} {su xu : Value}
    (hs : Sim K w0 ρ st w) (hds : den ρ s su) (hdl : dens ρ l us) (hsrc : Src P size tx xu n us w)
    (hf : catA size bytes E s n l st = some (v, st')) :
    ∃ u w' ρ', (Builtin.append_ #[t, tx] ty #[su, xu]).run P w = .ok u w' ∧ Ext st.n st'.n ρ ρ' ∧ Sim K w0 ρ' st' w' ∧ den ρ' v u := by
  obtain ⟨ht, hpos, i, z, hi, hz, hsz, hby, hzs⟩ := he
  have hop0 : (some size : Option Nat) ≠ some 0 := by simp; omega
  have hll := dens_length hdl
  have hl := hsrc.newsLen
  have h1 := hsrc.one
  have hsrc' : Src P i.size tx xu n us w := by rw [hsz]; exact hsrc
  unfold catA at hf
  split at hf
  · simp only [den] at hds
    subst hds
    split at hf
    · rename_i hn
      have hn := Nat.eq_of_beq_eq_true hn
      subst hn
      obtain ⟨rfl, rfl⟩ := Prod.mk.inj (Option.some.inj hf)
      exact ⟨_, w, ρ, run_append_zero ht hi hsrc' none 0 0 (Nat.le_refl _), .refl _ ρ, hs, by simp only [den]⟩
    · rename_i hn
      have hn : 0 < n := Nat.pos_of_ne_zero (Nat.ne_of_beq_eq_false hn)
      split at hf
      · rename_i hb
        simp only [Bool.and_eq_true] at hb
        have hb1 : n * bytes ≤ 140737488355328 := Nat.le_of_ble_eq_true hb.1
        have hb2 : n ≤ 9223372036854775807 := Nat.le_of_ble_eq_true hb.2
        obtain ⟨rfl, rfl⟩ := Prod.mk.inj (Option.some.inj hf)
        have hr := run_append_grow_src (P := P) w t tx ty E i z ht hi hz none 0 0 [] (run_firstCells_none w.drew i.size 0 0 0) xu n us hsrc' (by omega) (by omega) (growslice_fits (by omega) (by rw [hby]; simpa using hb1))
        simp only [Nat.zero_add, List.nil_append] at hr
        obtain ⟨h2, hle⟩ := hs.drew.alloc E l (some size) hop0 (grownCap w n 0 E) us (Builtin.zeroCells z.cells (grownCap w n 0 E - n)).toList hdl h1 (fun e => nomatch e) (fun s hs' => by
          obtain rfl := Option.some.inj hs'
          have := grownCap_ge w n 0 E
          rw [List.length_append, hl, Array.length_toList, zeroCells_len, hzs, ← Nat.add_mul]
          congr 1
          omega)
        refine ⟨_, _, _, hr, hle, ?_, ?_⟩
        · have e : (us.toArray ++ Builtin.zeroCells z.cells (grownCap w n 0 E - n)) = (us ++ (Builtin.zeroCells z.cells (grownCap w n 0 E - n)).toList).toArray := by apply Array.ext'; simp
          rw [e]
          exact h2
        · simp only [den, if_true, Nat.sub_zero]
          exact ⟨_, _, up_at, rfl, fun _ => Nat.zero_le _, grownCap_ge w n 0 E⟩
      · cases hf
  · rename_i b off len cap op
    simp only [den] at hds
    obtain ⟨x, c, hx, rfl, hoc, hlen⟩ := hds
    split at hf
    · rename_i hn
      have hn := Nat.eq_of_beq_eq_true hn
      subst hn
      obtain ⟨rfl, rfl⟩ := Prod.mk.inj (Option.some.inj hf)
      exact ⟨_, w, ρ, run_append_zero ht hi hsrc' _ len _ hlen, .refl _ ρ, hs, by simp only [den]; exact ⟨x, c, hx, rfl, hoc, hlen⟩⟩
    · rename_i hn
      have hn : 0 < n := Nat.pos_of_ne_zero (Nat.ne_of_beq_eq_false hn)
      split at hf
      · cases hf
      · rename_i bk hb
        obtain ⟨x', c1, hx', hbk, hnk⟩ := hs.blkC hb
        rw [hx] at hx'
        obtain ⟨rfl, rfl⟩ := Prod.mk.inj (Option.some.inj hx')
        split at hf
        · cases hf
        · rename_i hbb
          simp only [Bool.and_eq_true] at hbb
          have hb1 : (len + n) * bytes ≤ 140737488355328 := Nat.le_of_ble_eq_true hbb.1
          have hb2 : len + n ≤ 9223372036854775807 := Nat.le_of_ble_eq_true hbb.2
          -- growing
          have grow : ∀ {olds : List Value} {ol : List AV} {oldcap : Nat} {off : Nat}, dens ρ ol olds → olds.length = len * size → (∀ v ∈ olds, v.oneCell' = true) → (∀ j v, olds[j]? = some v → w.cell? ((⟨x, off, none⟩ : Addr).add j) = some v) → oldcap < len + n →
              ∃ u w' ρ' x2 c2, (Builtin.append_ #[t, tx] ty #[.slice (some ⟨x, off, none⟩) len oldcap, xu]).run P w = .ok u w' ∧ ρ' = ρ.up st.n (x2, c2) ∧ Kp (fun b => b < w.heap.size) w w' ∧ w.heap.size = x2 ∧ Ext st.n (st.n + 1) ρ ρ' ∧ Sim K w0 ρ' (newA E (ol ++ l) (some size) st) w' ∧ den ρ' (.sl st.n 0 (Nat.add len n) 0 true) u := by
            intro olds ol oldcap off h2 h3 h4 h5 h6
            have hr := run_append_grow_src (P := P) w t tx ty E i z ht hi hz (some ⟨x, off, none⟩) len oldcap olds (run_firstCells_some w.drew i.size len _ len oldcap olds (by rw [hsz]; exact h3) (by simpa using h5)) xu n us hsrc' h6 (by omega) (growslice_fits h6 (by rw [hby]; exact hb1))
            obtain ⟨h7, hle⟩ := hs.drew.alloc E (ol ++ l) (some size) hop0 (grownCap w (len + n) oldcap E) (olds ++ us) (Builtin.zeroCells z.cells (grownCap w (len + n) oldcap E - (len + n))).toList (dens_append h2 hdl) (fun v hv => (List.mem_append.1 hv).elim (h4 v) (h1 v)) (fun e => nomatch e) (fun s hs' => by
              obtain rfl := Option.some.inj hs'
              have := grownCap_ge w (len + n) oldcap E
              rw [List.length_append, List.length_append, h3, hl, Array.length_toList, zeroCells_len, hzs, ← Nat.add_mul, ← Nat.add_mul]
              congr 1
              omega)
            have e : ((olds ++ us).toArray ++ Builtin.zeroCells z.cells (grownCap w (len + n) oldcap E - (len + n))) = (olds ++ us ++ (Builtin.zeroCells z.cells (grownCap w (len + n) oldcap E - (len + n))).toList).toArray := by apply Array.ext'; simp
            rw [e] at hr
            refine ⟨_, _, _, _, _, hr, rfl, ?_, rfl, hle, h7, ?_⟩
            · exact (Kp.drew _ w).trans (Kp.alloc w.drew _ fun b hb => hb)
            · simp only [den, if_true, Nat.sub_zero]
              exact ⟨_, _, up_at, rfl, fun _ => Nat.zero_le _, grownCap_ge w (len + n) oldcap E⟩
          split at hf
          · -- the capacity is known
            simp only [Bool.false_eq_true, if_false] at hlen
            split at hf
            · rename_i hroom
              have hroom : len + n ≤ cap := Nat.le_of_ble_eq_true hroom
              split at hf
              · rename_i hcc
                simp only [Bool.and_eq_true] at hcc
                obtain ⟨rfl, rfl⟩ := Prod.mk.inj (Option.some.inj hf)
                obtain ⟨w', hst, hsim⟩ := hs.cells (P := P) hb hcc.2 hx hdl h1 (Nat.le_of_ble_eq_true hcc.1)
                refine ⟨.slice (some ⟨x, off, none⟩) (len + n) cap, w', ρ, ?_, .refl _ ρ, hsim, ?_⟩
                · simp only [Bool.false_eq_true, if_false]
                  exact run_append_in ht hi ⟨x, off, none⟩ len cap hsrc' hroom (by rw [add_lit, hsz]; exact hst)
                · simp only [den, Bool.false_eq_true, if_false]
                  exact ⟨x, c, hx, rfl, fun e => e.elim, hroom⟩
              · cases hf
            · rename_i hroom
              have hroom : cap < len + n := Nat.lt_of_not_le fun e => by rw [show Nat.ble (Nat.add len n) cap = true from Nat.ble_eq_true_of_le e] at hroom; cases hroom
              split at hf
              · rename_i hle
                obtain ⟨rfl, rfl⟩ := Prod.mk.inj (Option.some.inj hf)
                obtain ⟨olds, h2, h3, h4, h5⟩ := cells_at hbk (Nat.le_of_ble_eq_true hle)
                obtain ⟨u, w', ρ', x2, c2, hr, _, _, _, hle', hsim, hdu⟩ := grow h2 h3 h4 h5 hroom
                exact ⟨u, w', ρ', by simpa only [Bool.false_eq_true, if_false] using hr, hle', hsim, hdu⟩
              · cases hf
          · split at hf
            · cases hf
            · rename_i size' hop
              split at hf
              · cases hf
              · rename_i hcc
                simp only [Bool.and_eq_true] at hcc
                obtain ⟨c1, c2, c3, c4, c5⟩ := hcc
                have c1 := Nat.eq_of_beq_eq_true c1
                have c2 := Nat.eq_of_beq_eq_true c2
                have c3 := Nat.eq_of_beq_eq_true c3
                have c5 : 0 < size := Nat.le_of_ble_eq_true c5
                subst c1; subst c2; subst c3
                simp only [if_true, Nat.sub_zero] at hlen ⊢
                have hbk' := hbk
                obtain ⟨vs, rest, b1, b2, b3, b4, b5⟩ := hbk'
                have b5 := b5 size' hop
                have hlv := dens_length b1
                split at hf
                · rename_i hin
                  have hin : (len + n) * size' ≤ bk.cells.length := Nat.le_of_ble_eq_true hin
                  obtain ⟨rfl, rfl⟩ := Prod.mk.inj (Option.some.inj hf)
                  have hroom : len + n ≤ c.n := by
                    have : (len + n) * size' ≤ c.n * size' := by rw [← b5, List.length_append]; omega
                    exact Nat.le_of_mul_le_mul_right this c5
                  have hfit : len * size' + l.length ≤ bk.cells.length := by rw [← hll, hl, ← Nat.add_mul]; exact hin
                  obtain ⟨w', hst, hsim⟩ := hs.cells (P := P) hb c4 hx hdl h1 hfit
                  refine ⟨.slice (some ⟨x, 0, none⟩) (len + n) c.n, w', ρ, ?_, .refl _ ρ, hsim, ?_⟩
                  · exact run_append_in ht hi ⟨x, 0, none⟩ len c.n hsrc' hroom (by rw [add_lit, hsz, Nat.zero_add]; exact hst)
                  · simp only [den, if_true, Nat.sub_zero]
                    exact ⟨x, c, hx, rfl, fun _ => Nat.zero_le _, hroom⟩
                · split at hf
                  · rename_i hfull
                    simp only [Bool.and_eq_true] at hfull
                    have hfull1 : len * size' = bk.cells.length := Nat.eq_of_beq_eq_true hfull.1
                    have hfull2 := Nat.eq_of_beq_eq_true hfull.2
                    obtain ⟨rfl, rfl⟩ := Prod.mk.inj (Option.some.inj hf)
                    have holds : ∀ j v, vs[j]? = some v → w.cell? ((⟨x, 0, none⟩ : Addr).add j) = some v := fun j v hj => by
                      rw [add_lit, Nat.zero_add, b2.cell, List.getElem?_toArray, List.getElem?_append_left (List.getElem?_eq_some_iff.1 hj).1]
                      exact hj
                    have hnk := hnk c4
                    rcases Nat.lt_or_ge c.n (len + n) with hroom | hroom
                    · obtain ⟨u, w', ρ', x2, c2, hr, hρ, hkp, hx2, hle', hsim, hdu⟩ := grow b1 (by rw [hlv, hfull1]) b3 holds hroom
                      refine ⟨u, w', ρ', hr, hle', ?_, hdu⟩
                      refine hsim.less _ (fun k bk' hk => ?_) (Nat.le_refl _) (fun _ h => h)
                      simp only [newA]
                      rw [T.get_put] at hk ⊢
                      split at hk
                      · rename_i hkn; rw [if_pos hkn]; exact hk
                      · rename_i hkn
                        rw [if_neg hkn]
                        rw [T.get_put] at hk
                        split at hk
                        · cases hk
                        · exact hk
                    · -- in place
                      have hst := run_storeB P x (len * size') bk.ty us 0 (vs ++ rest).toArray w b2 (by
                        simp only [List.size_toArray, Nat.add_zero]
                        rw [b5, hl, ← Nat.add_mul]
                        exact Nat.mul_le_mul_right _ hroom) h1
                      simp only [Nat.add_zero, List.toList_toArray] at hst
                      have e : ((vs ++ rest).take (len * size') ++ us ++ (vs ++ rest).drop (len * size' + us.length)) = (vs ++ us) ++ rest.drop us.length := by
                        rw [hfull1, ← hlv, List.take_left, ← List.drop_drop, List.drop_left]
                      rw [e] at hst
                      have hup : ρ.le (ρ.up st.n (x, c)) := Rho.le_up hs.fresh
                      obtain ⟨S, F, hsF⟩ := hs
                      obtain ⟨x', c', hx', hF, _, _⟩ := hsF.blkC hb
                      rw [hx] at hx'
                      obtain ⟨rfl, rfl⟩ := Prod.mk.inj (Option.some.inj hx')
                      have hkp := Kp.setRow w x ((vs ++ us) ++ rest.drop us.length).toArray
                      have h9 : (len + n) * size' ≤ c.n * size' := Nat.mul_le_mul_right _ hroom
                      rw [← b5, List.length_append, hlv, ← hfull1, Nat.add_mul, ← hl] at h9
                      obtain ⟨hsim, hupE⟩ := hsF.turn b (getC_some hb).1 c4 (hkp.mono fun k hk => ⟨hk.1, fun e => hk.2 ((hF k).2 e)⟩) ⟨E, bk.cells ++ l, some size'⟩ x c (fun y => y = x) (fun y hy => .inl ((hF y).2 hy))
                        ⟨fun _ => ⟨fun _ => Iff.rfl, vs ++ us, rest.drop us.length, dens_mono hup (dens_append b1 hdl), by
                          rw [← hfull2]
                          refine b2.setRow _ ?_
                          simp
                          omega, fun v hv => (List.mem_append.1 hv).elim (b3 v) (h1 v), (fun e => nomatch e), fun s hs' => by
                          obtain rfl := Option.some.inj hs'
                          rw [← b5]
                          simp only [List.length_append, List.length_drop]
                          omega⟩, fun e => absurd e hop0⟩
                      refine ⟨.slice (some ⟨x, 0, none⟩) (len + n) c.n, _, ρ.up st.n (x, c), run_append_in ht hi ⟨x, 0, none⟩ len c.n hsrc' hroom (by rw [add_lit, hsz, Nat.zero_add]; exact hst), hupE, ⟨_, _, hsim⟩, ?_⟩
                      simp only [den, if_true, Nat.sub_zero]
                      exact ⟨x, c, up_at, rfl, fun _ => Nat.zero_le _, hroom⟩
                  · cases hf
  · cases hf
def srcX (P : Program) [Fast P] (t : TypeId) (size : Nat) (x : AV) (st : St) : Option (Nat × List AV) := match undF P t with
  | some (.slice _) => srcA size x st
  | some .string => match x, size with
    | .lit (.string s), 1 => some (s.size, (byteCells s).map AV.lit)
    | _, _ => none
  | _ => none
theorem srcX_ok {t : TypeId} {size n : Nat} {x : AV} {l : List AV} {u : Value} (hs : Sim K w0 ρ st w) (hd : den ρ x u) (hf : srcX P t size x st = some (n, l)) :
    ∃ us, dens ρ l us ∧ Src P size t u n us w := by
  unfold srcX at hf
  split at hf
  · rename_i e hu
    obtain ⟨A, c, us, rfl, h1, h2, h3, h4⟩ := srcA_ok hs hd hf
    refine ⟨us, h1, ?_⟩
    rcases Nat.eq_zero_or_pos n with hn | hn
    · subst hn
      obtain rfl : us = [] := List.length_eq_zero_iff.1 (by rw [h2, Nat.zero_mul])
      exact Src.ofEmp (undF_ok hu) A c w
    · obtain ⟨ad, rfl, h5⟩ := h4 hn
      exact Src.ofSlice w (undF_ok hu) ad n c us h2 h5 h3
  · rename_i hu
    split at hf
    · rename_i s
      obtain ⟨rfl, rfl⟩ := Prod.mk.inj (Option.some.inj hf)
      simp only [den] at hd
      subst hd
      exact ⟨byteCells s, dens_map_lit _, Src.ofString w (undF_ok hu) s⟩
    · cases hf
  · cases hf
def appendA (P : Program) [Fast P] (ts : Array TypeId) (args : List AV) (st : St) : Option (AV × St) :=
  match ts[0]?, ts[1]?, args with
  | some t, some t', [s, x] => match undF P t with
    | some (.slice E) => match infoF P E with
      | some i => match i.zero with
        | some z => match Nat.beq z.cells.size i.size && isPos i.size, srcX P t' i.size x st with
          | true, some (n, l) => catA i.size i.bytes E s n l st
          | _, _ => none
        | none => none
      | none => none
    | _ => none
  | _, _, _ => none
theorem appendA_ok {o : Oper} {args : Array Operand} {ts : Array TypeId} {v : AV} (ho : o.op = .call { callee := .builtin .append, args := args, argTypes := ts }) (h2 : ts.size = 2) (h : TR ρ nt tm a) (hs : Sim K w0 ρ st w) (hf : appendA P ts (args.toList.map (ev tm)) st = some (v, st')) :
    ∃ u w' ρ', (execOp a.eval o).run P w = .ok (.value u) w' ∧ Ext st.n st'.n ρ ρ' ∧ Sim K w0 ρ' st' w' ∧ den ρ' v u := by
  have hd := evs_den h args.toList
  have hex : (execOp a.eval o).run P w = (builtin .append ts o.type (args.map fun | .const _ => true | _ => false) (args.map a.eval)).run P w := by
    unfold execOp
    simp only [ho, resolve, Sem.run_bind, Sem.run_pure, Result.andThen_ok, invoke]
    rfl
  rw [hex]
  have hargs : args.map a.eval = (args.toList.map a.eval).toArray := by rw [← Array.toList_map]
  rw [hargs]
  generalize args.toList.map a.eval = vs at hd
  generalize args.toList.map (ev tm) = l at hd hf
  generalize (args.map fun | .const _ => true | _ => false) = cs
  unfold appendA at hf
  split at hf
  · rename_i t t' s x ht0 ht1
    simp only [dens] at hd
    obtain ⟨su, vs', rfl, hsu, xu, vs'', rfl, hxu, rfl⟩ := hd
    split at hf
    · rename_i E hu
      have hts : ts = #[t, t'] := by
        apply Array.ext
        · simpa using h2
        · intro k hk1 hk2
          simp at hk2
          rcases k with _ | k
          · have := ht0; rw [Array.getElem?_eq_getElem (by omega)] at this; simpa using this
          · rcases k with _ | k
            · have := ht1; rw [Array.getElem?_eq_getElem (by omega)] at this; simpa using this
            · omega
      split at hf
      · rename_i i hi
        split at hf
        · rename_i z hz
          split at hf
          · rename_i n l hzs hsrc
            simp only [Bool.and_eq_true] at hzs
            have hpos : 0 < i.size := Nat.le_of_ble_eq_true hzs.2
            have hzs := Nat.eq_of_beq_eq_true hzs.1
            obtain ⟨us, hdl, hS⟩ := srcX_ok hs hxu hsrc
            obtain ⟨u, w', ρ', hr, hle, hsim, hdu⟩ := catA_ok (ty := o.type) ⟨(undF_ok hu), hpos, i, z, (infoF_ok hi), hz, rfl, rfl, hzs⟩ hs hsu hdl hS hf
            refine ⟨u, w', ρ', ?_, hle, hsim, hdu⟩
            subst hts
            simp only [builtin, Sem.run_bind, hr]
            rfl
          · cases hf
        · cases hf
      · cases hf
    · cases hf
  · cases hf
end Go.Proofs.YtiepllpgifnloaaGreat.Vx
namespace Go.Proofs.YtiepllpgifnloaaGreat.Vx
open Go.RowKit
variable {P : Program} [Fast P] {ρ ρ' : Rho} {nt : Nat} {tm : T AV} {a : Act} {w w0 w' : World} {K : KS} {st st' : St}
theorem entries_len : ∀ (n i : Nat) (vs : List Value), vs.length = 2 * n → (mapEntries i vs).length = n
  | 0, i, vs, h => by
    obtain rfl := List.length_eq_zero_iff.1 (by simpa using h)
    rfl
  | n + 1, i, [], h => by simp at h
  | n + 1, i, [_], h => by simp at h; omega
  | n + 1, i, k :: v :: l, h => by
    simp only [mapEntries, List.length_cons]
    rw [entries_len n (i + 1) l (by simp at h; omega)]
theorem entries_push (k v : Value) : ∀ (n i : Nat) (vs : List Value), vs.length = 2 * n → mapEntries i (vs ++ [k, v]) = mapEntries i vs ++ [{ key := k, val := v, born := i + n }]
  | 0, i, vs, h => by
    obtain rfl := List.length_eq_zero_iff.1 (by simpa using h)
    rfl
  | n + 1, i, [], h => by simp at h
  | n + 1, i, [_], h => by simp at h; omega
  | n + 1, i, k' :: v' :: l, h => by
    simp only [mapEntries, List.cons_append]
    rw [entries_push k v n (i + 1) l (by simp at h; omega)]
    simp only [List.cons.injEq, true_and]
    congr 3
    omega
theorem entries_get : ∀ (n i j : Nat) (vs : List Value), vs.length = 2 * n → j < n → ∃ k v, vs[2 * j]? = some k ∧ vs[2 * j + 1]? = some v ∧ (mapEntries i vs)[j]? = some { key := k, val := v, born := i + j }
  | 0, i, j, vs, h, hj => by omega
  | n + 1, i, j, [], h, hj => by simp at h
  | n + 1, i, j, [_], h, hj => by simp at h; omega
  | n + 1, i, 0, k :: v :: l, h, hj => ⟨k, v, rfl, rfl, rfl⟩
  | n + 1, i, j + 1, k :: v :: l, h, hj => by
    obtain ⟨k', v', h1, h2, h3⟩ := entries_get n (i + 1) j l (by simp at h; omega) (by omega)
    refine ⟨k', v', ?_, ?_, ?_⟩
    · rw [show 2 * (j + 1) = 2 * j + 1 + 1 by omega]; simpa using h1
    · rw [show 2 * (j + 1) + 1 = 2 * j + 1 + 1 + 1 by omega]; simpa using h2
    · simp only [mapEntries, List.getElem?_cons_succ, h3]
      congr 2
      omega
theorem entries_set (k v : Value) : ∀ (n i j : Nat) (vs : List Value), vs.length = 2 * n → j < n → (mapEntries i vs).modify j (fun e => { e with key := k, val := v }) = mapEntries i ((vs.set (2 * j) k).set (2 * j + 1) v)
  | 0, i, j, vs, h, hj => by omega
  | n + 1, i, j, [], h, hj => by simp at h
  | n + 1, i, j, [_], h, hj => by simp at h; omega
  | n + 1, i, 0, k' :: v' :: l, h, hj => by simp [mapEntries]
  | n + 1, i, j + 1, k' :: v' :: l, h, hj => by
    have := entries_set k v n (i + 1) j l (by simp at h; omega) (by omega)
    rw [show 2 * (j + 1) + 1 = 2 * j + 1 + 1 + 1 by omega, show 2 * (j + 1) = 2 * j + 1 + 1 by omega]
    simp only [mapEntries, List.modify_succ_cons, List.set_cons_succ, this]
def keysA : List AV → Option (List Value)
  | [] => some []
  | k :: _ :: l => match toLit k, keysA l with
    | some kv, some ks => some (kv :: ks)
    | _, _ => none
  | [_] => none
def idxNow (kind : TypeDesc) (k : Value) : List Value → Nat → Option (Option Nat)
  | [], _ => some none
  | e :: es, i => match Instr.sameNow kind k e with
    | some true => some (some i)
    | some false => idxNow kind k es (Nat.succ i)
    | none => none
def idxAsk (P : Program) [Fast P] (t : TypeId) (k : Value) : List Value → Nat → Option (Option Nat)
  | [], _ => some none
  | e :: es, i => match semVal P (Op.equal t k e) with
    | some true => some (some i)
    | some false => idxAsk P t k es (Nat.succ i)
    | none => none
def idxA (P : Program) [Fast P] (kind : TypeDesc) (t : TypeId) (k : Value) (ks : List Value) : Option (Option Nat) := match idxNow kind k ks 0 with
  | some r => some r
  | none => idxAsk P t k ks 0
def hit (i : Nat) (vs : List Value) : Option Nat → Option (Nat × Value)
  | none => none
  | some j => some (j, vs.getD (2 * (j - i) + 1) undef)
theorem hit_succ {i : Nat} {k v : Value} {l : List Value} {r : Option Nat} (h : ∀ j, r = some j → i + 1 ≤ j) : hit i (k :: v :: l) r = hit (i + 1) l r := by
  cases r with
  | none => rfl
  | some j =>
    have := h j rfl
    simp only [hit]
    congr 2
    rw [show 2 * (j - i) + 1 = 2 * (j - (i + 1)) + 1 + 1 + 1 by omega]
    simp [List.getD]
theorem idxNow_ok {kind : TypeDesc} {k : Value} : ∀ {cells : List AV} {vs ks : List Value} (b i : Nat), keysA cells = some ks → dens ρ cells vs →
    (∀ r, idxNow kind k ks i = some r → Instr.findNow kind k (mapEntries b vs) i = some (hit i vs r) ∧ ∀ j, r = some j → i ≤ j ∧ 2 * (j - i) + 1 < vs.length) ∧ (idxNow kind k ks i = none → Instr.findNow kind k (mapEntries b vs) i = none)
  | [], vs, ks, b, i, h, hd => by
    simp only [dens] at hd
    subst hd
    obtain rfl := Option.some.inj h
    refine ⟨fun r hr => ?_, fun hr => nomatch hr⟩
    obtain rfl := Option.some.inj hr
    exact ⟨rfl, (fun j h => nomatch h)⟩
  | [_], vs, ks, b, i, h, hd => by simp [keysA] at h
  | x :: y :: l, vs, ks, b, i, h, hd => by
    simp only [keysA] at h
    split at h
    · rename_i kv ks' hk hks
      obtain rfl := Option.some.inj h
      simp only [dens] at hd
      obtain ⟨v1, _, rfl, d1, v2, vs', rfl, d2, d3⟩ := hd
      have e1 := toLit_den hk d1
      subst e1
      obtain ⟨h1, h2⟩ := idxNow_ok (b + 1) (i + 1) hks d3 (kind := kind) (k := k)
      simp only [idxNow, mapEntries, Instr.findNow]
      cases hs : Instr.sameNow kind k v1 with
      | none => exact ⟨(fun r hr => nomatch hr), fun _ => rfl⟩
      | some bb =>
        cases bb with
        | true =>
          refine ⟨fun r hr => ?_, fun hr => nomatch hr⟩
          obtain rfl := Option.some.inj hr
          refine ⟨by simp [hit, List.getD], fun j hj => ?_⟩
          obtain rfl := Option.some.inj hj
          exact ⟨Nat.le_refl _, by simp⟩
        | false =>
          refine ⟨fun r hr => ?_, h2⟩
          obtain ⟨g1, g2⟩ := h1 r hr
          refine ⟨by rw [hit_succ fun j hj => (g2 j hj).1]; exact g1, fun j hj => ?_⟩
          have := g2 j hj
          simp only [List.length_cons]
          omega
    · cases h
theorem idxAsk_ok {t : TypeId} {k : Value} (w : World) : ∀ {cells : List AV} {vs ks : List Value} (b i : Nat) (r : Option Nat), keysA cells = some ks → dens ρ cells vs →
    idxAsk P t k ks i = some r → (Instr.findAsking t k (mapEntries b vs) i).run P w = .ok (hit i vs r) w ∧ ∀ j, r = some j → i ≤ j ∧ 2 * (j - i) + 1 < vs.length
  | [], vs, ks, b, i, r, h, hd, hr => by
    simp only [dens] at hd
    subst hd
    obtain rfl := Option.some.inj h
    obtain rfl := Option.some.inj hr
    exact ⟨rfl, (fun j h => nomatch h)⟩
  | [_], vs, ks, b, i, r, h, hd, hr => by simp [keysA] at h
  | x :: y :: l, vs, ks, b, i, r, h, hd, hr => by
    simp only [keysA] at h
    split at h
    · rename_i kv ks' hk hks
      obtain rfl := Option.some.inj h
      simp only [dens] at hd
      obtain ⟨v1, _, rfl, d1, v2, vs', rfl, d2, d3⟩ := hd
      have e1 := toLit_den hk d1
      subst e1
      simp only [idxAsk] at hr
      simp only [mapEntries, Instr.findAsking, Sem.run_bind]
      cases hs : semVal P (Op.equal t k v1) with
      | none => rw [hs] at hr; cases hr
      | some bb =>
        rw [hs] at hr
        rw [semVal_run hs w]
        cases bb with
        | true =>
          obtain rfl := Option.some.inj hr
          refine ⟨by simp [hit, List.getD], fun j hj => ?_⟩
          obtain rfl := Option.some.inj hj
          exact ⟨Nat.le_refl _, by simp⟩
        | false =>
          obtain ⟨g1, g2⟩ := idxAsk_ok w (b + 1) (i + 1) r hks d3 hr
          refine ⟨by rw [hit_succ fun j hj => (g2 j hj).1]; simpa using g1, fun j hj => ?_⟩
          have := g2 j hj
          simp only [List.length_cons]
          omega
    · cases h
theorem idxA_ok {kind : TypeDesc} {t : TypeId} {k : Value} (hk : P.underlying t = some kind) (w : World) {cells : List AV} {vs ks : List Value} {r : Option Nat} (h : keysA cells = some ks) (hd : dens ρ cells vs) (hr : idxA P kind t k ks = some r) :
    (Instr.findKey t k (mapEntries 0 vs)).run P w = .ok (hit 0 vs r) w ∧ ∀ j, r = some j → 2 * j + 1 < vs.length := by
  unfold idxA at hr
  obtain ⟨h1, h2⟩ := idxNow_ok 0 0 h hd (kind := kind) (k := k)
  cases hn : idxNow kind k ks 0 with
  | some r' =>
    rw [hn] at hr
    obtain rfl := Option.some.inj hr
    obtain ⟨g1, g2⟩ := h1 _ hn
    refine ⟨?_, fun j hj => by simpa using (g2 j hj).2⟩
    unfold Instr.findKey
    rw [Sem.run_bind, run_underlying hk]
    simp only [Result.andThen_ok, g1]
    rfl
  | none =>
    rw [hn] at hr
    obtain ⟨g1, g2⟩ := idxAsk_ok w 0 0 r h hd hr
    refine ⟨?_, fun j hj => by simpa using (g2 j hj).2⟩
    unfold Instr.findKey
    rw [Sem.run_bind, run_underlying hk]
    simp only [Result.andThen_ok, h2 hn]
    exact g1
theorem keysA_len : ∀ {cells : List AV} {vs ks : List Value}, keysA cells = some ks → dens ρ cells vs → vs.length = 2 * ks.length
  | [], vs, ks, h, hd => by simp only [dens] at hd; subst hd; obtain rfl := Option.some.inj h; rfl
  | [_], vs, ks, h, hd => by simp [keysA] at h
  | x :: y :: l, vs, ks, h, hd => by
    simp only [keysA] at h
    split at h
    · rename_i kv ks' hk hks
      obtain rfl := Option.some.inj h
      simp only [dens] at hd
      obtain ⟨v1, _, rfl, d1, v2, vs', rfl, d2, d3⟩ := hd
      have := keysA_len hks d3
      simp only [List.length_cons]
      omega
    · cases h
def nilL : List Value → Bool
  | [] => true
  | _ => false
def tupB (ok : Bool) (v : AV) (b : Bool) : AV := match ok with
  | true => .tup [v, .lit (.bool b)]
  | false => v
def lookupA (P : Program) [Fast P] (t : TypeId) (x k : AV) (ok : Bool) (st : St) : Option AV :=
  match undF P t, toLit k, x with
  | some (.map key elem), some kv, .mp b => match getM st.h b with
    | some cells => match keysA cells, undF P key with
      | some ks, some kind => match semVal P (Instr.checkKey (nilL ks) 10000 key kv), idxA P kind key kv ks with
        | some _, some (some i) => match getAt cells (Nat.succ (Nat.mul 2 i)) with
          | some v => some (tupB ok v true)
          | none => none
        | some _, some none => match semVal P (zeroValue elem) with
          | some z => some (tupB ok (AV.of z) false)
          | none => none
        | _, _ => none
      | _, _ => none
    | none => none
  | some (.map _ _), some kv, .lit v => match semVal P (Instr.lookup t v kv ok) with
    | some (.tuple cs) => some (.tup (cs.toList.map AV.of))
    | some r => some (AV.of r)
    | none => none
  | _, _, _ => none
theorem dens_map_of : ∀ (vs : List Value), dens ρ (vs.map AV.of) vs
  | [] => by simp [dens]
  | v :: vs => by simp only [List.map_cons, dens]; exact ⟨v, vs, rfl, den_of v, dens_map_of vs⟩
theorem lookupA_ok {o : Oper} {t : TypeId} {x k : Operand} {ok : Bool} {v : AV} (ho : o.op = .lookup t x k ok) (h : TR ρ nt tm a) (hs : Sim K w0 ρ st w) (hf : lookupA P t (ev tm x) (ev tm k) ok st = some v) :
    ∃ u, (execOp a.eval o).run P w = .ok (.value u) w ∧ den ρ v u := by
  have hex : ∀ u, (Instr.lookup t (a.eval x) (a.eval k) ok).run P w = .ok u w → (execOp a.eval o).run P w = .ok (.value u) w := fun u hu => by
    unfold execOp
    simp only [ho, Sem.run_bind, hu]
    rfl
  have hdx := h.ev x
  unfold lookupA at hf
  split at hf
  · rename_i key elem kv b hu hk hx
    have ek := toLit_den hk (h.ev k)
    rw [hx] at hdx
    simp only [den] at hdx
    obtain ⟨y, c, hy, ex⟩ := hdx
    split at hf
    · rename_i cells hm
      obtain ⟨bk, y', c', hb, rfl, hkd, hy', ⟨vs, n, hd, hl, hh⟩, _⟩ := hs.blkM hm
      rw [hy] at hy'
      obtain ⟨rfl, rfl⟩ := Prod.mk.inj (Option.some.inj hy')
      split at hf
      · rename_i ks kind hks hkind
        have hemp : (mapEntries 0 vs).toArray.isEmpty = nilL ks := by
          have h1 := keysA_len hks hd
          have h2 := entries_len _ 0 vs h1
          cases ks with
          | nil => simp [nilL, List.length_eq_zero_iff.1 h2]
          | cons k0 ks =>
            simp only [nilL]
            cases he : mapEntries 0 vs with
            | nil => rw [he] at h2; simp at h2
            | cons e l => rfl
        split at hf
        · rename_i u1 i hck hi
          obtain ⟨hfind, hlt⟩ := idxA_ok (undF_ok hkind) w hks hd hi
          rw [getAt_eq] at hf
          split at hf
          · rename_i v' hv
            obtain rfl := Option.some.inj hf
            obtain ⟨u, hu', hdu⟩ := dens_get _ hd hv
            have hu'' : vs[2 * i + 1]? = some u := hu'
            refine ⟨if ok then .tuple #[u, .bool true] else u, hex _ ?_, ?_⟩
            · unfold Instr.lookup
              simp [Sem.run_bind, run_underlying (undF_ok hu), ex, ek, MapKept.run_getObj_map (P := P) hh, -List.isEmpty_toArray, hemp, semVal_run hck, hfind, hit, hu'']
            · cases ok
              · exact hdu
              · simp only [tupB, den, if_true, dens]
                exact ⟨_, rfl, u, _, rfl, hdu, .bool true, [], rfl, rfl, rfl⟩
          · cases hf
        · rename_i u1 hck hi
          obtain ⟨hfind, _⟩ := idxA_ok (undF_ok hkind) w hks hd hi
          split at hf
          · rename_i z hz
            obtain rfl := Option.some.inj hf
            refine ⟨if ok then .tuple #[z, .bool false] else z, hex _ ?_, ?_⟩
            · unfold Instr.lookup
              simp [Sem.run_bind, run_underlying (undF_ok hu), ex, ek, MapKept.run_getObj_map (P := P) hh, -List.isEmpty_toArray, hemp, semVal_run hck, hfind, hit, semVal_run hz]
            · cases ok
              · exact den_of z
              · simp only [tupB, den, if_true, dens]
                exact ⟨_, rfl, z, _, rfl, den_of z, .bool false, [], rfl, rfl, rfl⟩
          · cases hf
        · cases hf
      · cases hf
    · cases hf
  · rename_i kv v' hu hk hx
    have ek := toLit_den hk (h.ev k)
    rw [hx] at hdx
    simp only [den] at hdx
    split at hf
    · rename_i cs hv
      obtain rfl := Option.some.inj hf
      refine ⟨_, hex _ (by rw [hdx, ek]; exact semVal_run hv w), ?_⟩
      simp only [den]
      exact ⟨_, by simp, dens_map_of _⟩
    · rename_i r _ hv
      obtain rfl := Option.some.inj hf
      exact ⟨_, hex _ (by rw [hdx, ek]; exact semVal_run hv w), den_of _⟩
    · cases hf
  · cases hf
theorem getA_len {α : Type} {l : List α} {i : Nat} {v : α} (h : l[i]? = some v) : i < l.length := (List.getElem?_eq_some_iff.1 h).1
theorem dens_set {x : AV} {u : Value} (hx : den ρ x u) : ∀ {l : List AV} {vs : List Value} (i : Nat), dens ρ l vs → dens ρ (l.set i x) (vs.set i u)
  | [], vs, i, h => by simp only [dens] at h; subst h; simp [dens]
  | y :: l, vs, 0, h => by
    simp only [dens] at h
    obtain ⟨v, vs', rfl, h1, h2⟩ := h
    simp only [List.set_cons_zero, dens]
    exact ⟨u, vs', rfl, hx, h2⟩
  | y :: l, vs, i + 1, h => by
    simp only [dens] at h
    obtain ⟨v, vs', rfl, h1, h2⟩ := h
    simp only [List.set_cons_succ, dens]
    exact ⟨v, _, rfl, h1, dens_set hx i h2⟩
def mapUpA (P : Program) [Fast P] (t : TypeId) (x k v : AV) (st : St) : Option St :=
  match undF P t, toLit k, x with
  | some (.map key _), some kv, .mp b => match getM st.h b, st.wr b with
    | some cells, true => match keysA cells, undF P key with
      | some ks, some kind => match semVal P (Instr.checkKey false 10000 key kv), idxA P kind key kv ks with
        | some _, some (some i) => match getAt ks i with
          | some old => match semVal P (Instr.keyThatStays old kv) with
            | some kk => some ⟨st.h.set b ⟨0, (cells.set (Nat.mul 2 i) (AV.of kk)).set (Nat.succ (Nat.mul 2 i)) v, some 0⟩, st.n, st.wr⟩
            | none => none
          | none => none
        | some _, some none => some ⟨st.h.set b ⟨0, cells ++ [AV.of kv, v], some 0⟩, st.n, st.wr⟩
        | _, _ => none
      | _, _ => none
    | _, _ => none
  | _, _, _ => none
theorem keysA_get : ∀ {cells : List AV} {vs ks : List Value} (i : Nat) {k : Value}, keysA cells = some ks → dens ρ cells vs → ks[i]? = some k → vs[2 * i]? = some k
  | [], vs, ks, i, k, h, hd, hk => by obtain rfl := Option.some.inj h; simp at hk
  | [_], vs, ks, i, k, h, hd, hk => by simp [keysA] at h
  | x :: y :: l, vs, ks, i, k, h, hd, hk => by
    simp only [keysA] at h
    split at h
    · rename_i kv ks' hk' hks
      obtain rfl := Option.some.inj h
      simp only [dens] at hd
      obtain ⟨v1, _, rfl, d1, v2, vs', rfl, d2, d3⟩ := hd
      have e1 := toLit_den hk' d1
      subst e1
      cases i with
      | zero => simpa using hk
      | succ i =>
        have := keysA_get i hks d3 (by simpa using hk)
        rw [show 2 * (i + 1) = 2 * i + 1 + 1 by omega]
        simpa using this
    · cases h
theorem setObj_kp (w : World) (r : Nat) (o : Obj) : Kp (fun b => b < w.heap.size ∧ b ≠ r) w { w with heap := w.heap.setIfInBounds r o } :=
  ⟨rfl, rfl, rfl, by simp, fun k hk => by simp only; rw [Array.getElem?_setIfInBounds_ne (fun e => hk.2 e.symm)]⟩
theorem mapUpA_ok {o : Oper} {t : TypeId} {x k y : Operand} (ho : o.op = .mapUpdate t x k y ∨ o.op = .insert t x k y) (h : TR ρ nt tm a) (hs : Sim K w0 ρ st w) (hf : mapUpA P t (ev tm x) (ev tm k) (ev tm y) st = some st') :
    ∃ w', (execOp a.eval o).run P w = .ok .skip w' ∧ Sim K w0 ρ st' w' ∧ st'.n = st.n ∧ st'.wr = st.wr := by
  have hex : ∀ w', (Instr.mapUpdate t (a.eval x) (a.eval k) (a.eval y)).run P w = .ok () w' → (execOp a.eval o).run P w = .ok .skip w' := fun w' hu => by
    unfold execOp
    rcases ho with ho | ho <;> simp only [ho, Sem.run_bind, hu] <;> rfl
  have hdx := h.ev x
  have hdy := h.ev y
  unfold mapUpA at hf
  split at hf
  · rename_i key elem kv b hu hk hx
    have ek := toLit_den hk (h.ev k)
    rw [hx] at hdx
    simp only [den] at hdx
    obtain ⟨z, c, hz, ex⟩ := hdx
    split at hf
    · rename_i cells hm hwr
      obtain ⟨bk, z', c', hb, rfl, hkd, hz', ⟨vs, n, hd, hl, hh⟩, _⟩ := hs.blkM hm
      rw [hz] at hz'
      obtain ⟨rfl, rfl⟩ := Prod.mk.inj (Option.some.inj hz')
      have hlt := heap_lt hh
      have fin : ∀ (cells' : List AV) (vs' : List Value) (n' : Nat), dens ρ cells' vs' → vs'.length = 2 * n' → (Instr.mapUpdate t (a.eval x) (a.eval k) (a.eval y)).run P w = .ok () { w with heap := w.heap.setIfInBounds z (.map (mapEntries 0 vs').toArray n') } →
          st' = ⟨st.h.set b ⟨0, cells', some 0⟩, st.n, st.wr⟩ → ∃ w', (execOp a.eval o).run P w = .ok .skip w' ∧ Sim K w0 ρ st' w' ∧ st'.n = st.n ∧ st'.wr = st.wr := by
        rintro cells' vs' n' hd' hl' hr rfl
        refine ⟨_, hex _ hr, hs.write b hb hwr hz (.inr hkd) _ _ (setObj_kp w z _) (fun S => BkR.map hd' hl' ?_), rfl, rfl⟩
        simp [Array.getElem?_setIfInBounds_self_of_lt hlt]
      split at hf
      · rename_i ks kind hks hkind
        have hn : n = ks.length := by have := keysA_len hks hd; omega
        split at hf
        · rename_i u1 i hck hi
          obtain ⟨hfind, hlti⟩ := idxA_ok (undF_ok hkind) w hks hd hi
          have hin : i < n := by have := hlti i rfl; omega
          split at hf
          · rename_i old hold
            rw [getAt_eq] at hold
            split at hf
            · rename_i kk hkk
              have hvs := keysA_get i hks hd hold
              obtain ⟨k0, v0, g1, g2, g3⟩ := entries_get n 0 i vs hl hin
              rw [hvs] at g1
              obtain rfl := Option.some.inj g1
              refine fin ((bk.cells.set (2 * i) (AV.of kk)).set (2 * i + 1) (ev tm y)) ((vs.set (2 * i) kk).set (2 * i + 1) (a.eval y)) n (dens_set hdy _ (dens_set (den_of kk) _ hd)) (by simpa using hl) ?_ (Option.some.inj hf).symm
              unfold Instr.mapUpdate
              simp [Sem.run_bind, run_underlying (undF_ok hu), ex, ek, MapKept.run_getObj_map (P := P) hh, semVal_run hck, hfind, hit, g3, semVal_run hkk, MapKept.run_setObj_map (P := P) _ hh]
              rw [← entries_set kk (a.eval y) n 0 i vs hl hin]
            · cases hf
          · cases hf
        · rename_i u1 hck hi
          obtain ⟨hfind, _⟩ := idxA_ok (undF_ok hkind) w hks hd hi
          refine fin (bk.cells ++ [AV.of kv, ev tm y]) (vs ++ [kv, a.eval y]) (n + 1) (dens_append hd (by simp only [dens]; exact ⟨kv, _, rfl, den_of kv, _, _, rfl, hdy, rfl⟩)) (by simp; omega) ?_ (Option.some.inj hf).symm
          unfold Instr.mapUpdate
          simp [Sem.run_bind, run_underlying (undF_ok hu), ex, ek, MapKept.run_getObj_map (P := P) hh, semVal_run hck, hfind, hit, MapKept.run_setObj_map (P := P) _ hh]
          rw [entries_push kv (a.eval y) n 0 vs hl]
          simp
        · cases hf
      · cases hf
    · cases hf
  · cases hf
def makeMapA (P : Program) [Fast P] (tm : T AV) (t : TypeId) (r : Option Operand) (st : St) : Option (AV × St) :=
  match undF P t, r with
  | some (.map _ _), none => some (.mp st.n, newA 0 [] (some 0) st)
  | some (.map _ _), some x => match intOf (ev tm x) with
    | some _ => some (.mp st.n, newA 0 [] (some 0) st)
    | none => none
  | _, _ => none
theorem makeMapA_ok {o : Oper} {t : TypeId} {r : Option Operand} {v : AV} (ho : o.op = .makeMap t r) (h : TR ρ nt tm a) (hs : Sim K w0 ρ st w) (hf : makeMapA P tm t r st = some (v, st')) :
    ∃ u w' ρ', (execOp a.eval o).run P w = .ok (.value u) w' ∧ Ext st.n st'.n ρ ρ' ∧ Sim K w0 ρ' st' w' ∧ den ρ' v u := by
  have new := hs.new ⟨0, [], some 0⟩ (.of 0) (.map #[] 0) (fun S => BkR.map (vs := []) (n := 0) (by simp only [dens]) rfl (heap_alloc_new w _))
  have fin : (Instr.makeMap t (r.map a.eval)).run P w = .ok (.map (some w.heap.size)) (w.alloc (.map #[] 0)) → v = .mp st.n → st' = newA 0 [] (some 0) st → ∃ u w' ρ', (execOp a.eval o).run P w = .ok (.value u) w' ∧ Ext st.n st'.n ρ ρ' ∧ Sim K w0 ρ' st' w' ∧ den ρ' v u := by
    rintro hr rfl rfl
    refine ⟨_, _, _, ?_, new.2, new.1, by simp only [den]; exact ⟨_, _, up_at, rfl⟩⟩
    unfold execOp
    simp only [ho, Sem.run_bind, hr]
    rfl
  unfold makeMapA at hf
  split at hf
  · obtain ⟨e1, e2⟩ := Prod.mk.inj (Option.some.inj hf)
    exact fin (by simp [Instr.makeMap]) e1.symm e2.symm
  · rename_i k e x hu
    split at hf
    · rename_i p hp
      obtain ⟨e1, e2⟩ := Prod.mk.inj (Option.some.inj hf)
      obtain ⟨ik, n⟩ := p
      have ei := intOf_den hp (h.ev x)
      exact fin (by simp [Instr.makeMap, Sem.run_bind, run_underlying (undF_ok hu), ei, asInt, asIntOf]) e1.symm e2.symm
    · cases hf
  · cases hf
def copyA (P : Program) [Fast P] (ts : Array TypeId) (args : List AV) (st : St) : Option (AV × St) :=
  match ts[0]?, args with
  | some t, [.sl b off len _ _, s] => match undF P t with
    | some (.slice E) => match sizeT P E with
      | some size => match srcA size s st with
        | some (m, l) => match Nat.min m len with
          | 0 => some (.lit (.int .i64 (Int.ofNat 0)), st)
          | n + 1 => match getC st.h b with
            | some bk => match st.wr b && Nat.ble (Nat.add off (Nat.mul (Nat.succ n) size)) bk.cells.length with
              | true => some (.lit (.int .i64 (Int.ofNat (Nat.succ n))), ⟨st.h.set b ⟨bk.ty, spliceA bk.cells off (l.take (Nat.mul (Nat.succ n) size)), bk.op⟩, st.n, st.wr⟩)
              | false => none
            | none => none
        | none => none
      | none => none
    | _ => none
  | _, _ => none
theorem copyA_ok {o : Oper} {args : Array Operand} {ts : Array TypeId} {v : AV} (ho : o.op = .call { callee := .builtin .copy, args := args, argTypes := ts }) (h : TR ρ nt tm a) (hs : Sim K w0 ρ st w) (hf : copyA P ts (args.toList.map (ev tm)) st = some (v, st')) :
    ∃ u w', (execOp a.eval o).run P w = .ok (.value u) w' ∧ Sim K w0 ρ st' w' ∧ st'.n = st.n ∧ st'.wr = st.wr ∧ den ρ v u := by
  have hd := evs_den h args.toList
  have hex : (execOp a.eval o).run P w = (builtin .copy ts o.type (args.map fun | .const _ => true | _ => false) (args.map a.eval)).run P w := by
    unfold execOp
    simp only [ho, resolve, Sem.run_bind, Sem.run_pure, Result.andThen_ok, invoke]
    rfl
  rw [hex]
  have hargs : args.map a.eval = (args.toList.map a.eval).toArray := by rw [← Array.toList_map]
  rw [hargs]
  generalize args.toList.map a.eval = vs at hd
  generalize args.toList.map (ev tm) = l at hd hf
  generalize (args.map fun | .const _ => true | _ => false) = cs
  unfold copyA at hf
  split at hf
  · rename_i t b off len cap op s ht
    simp only [dens] at hd
    obtain ⟨du, _, rfl, hdu, su, _, rfl, hsu, rfl⟩ := hd
    simp only [den] at hdu
    obtain ⟨x, c, hx, rfl, _⟩ := hdu
    split at hf
    · rename_i E hu
      split at hf
      · rename_i size hsz
        split at hf
        · rename_i m l hsrc
          obtain ⟨A, c', us, rfl, hdl, hul, h1, hB⟩ := srcA_ok hs hsu hsrc
          have fc : ∀ n, n ≤ m → (Builtin.firstCells size n (.slice A m c')).run P w = .ok (us.take (n * size)).toArray w := by
            intro n hn
            rcases Nat.eq_zero_or_pos m with hm | hm
            · obtain rfl : n = 0 := by omega
              cases A with
              | none => simp [Builtin.firstCells]
              | some ad =>
                have := run_firstCells_some (P := P) (w := w) size 0 ad m c' [] (by simp) (by intro j v h; simp at h)
                simpa using this
            · obtain ⟨ad, rfl, hc⟩ := hB hm
              refine run_firstCells_some (P := P) (w := w) size n ad m c' _ ?_ ?_
              · rw [List.length_take, hul]
                have : n * size ≤ m * size := Nat.mul_le_mul_right _ hn
                omega
              · intro j v hj
                rw [List.getElem?_take] at hj
                split at hj
                · exact hc j v hj
                · cases hj
          have hrun : ∀ (n : Nat) (w' : World), Nat.min m len = n → (storeCells ⟨x, off, none⟩ (us.take (n * size))).run P w = .ok () w' →
              (builtin .copy ts o.type cs #[.slice (some ⟨x, off, none⟩) len (if op then c.n - cap else cap), .slice A m c']).run P w = .ok (.value (goInt n)) w' := by
            intro n w' hn hst
            have hnm : n ≤ m := by rw [← hn]; exact Nat.min_le_left _ _
            simp [builtin, Builtin.copy_, Sem.run_bind, ht, run_underlying (undF_ok hu), Builtin.lenOf, sizeT_run hsz, hn, fc n hnm, hst]
          split at hf
          · rename_i hn
            obtain ⟨rfl, rfl⟩ := Prod.mk.inj (Option.some.inj hf)
            exact ⟨_, w, hrun 0 w hn (by simp [storeCells]), hs, rfl, rfl, by simp only [den]; rfl⟩
          · rename_i n hn
            split at hf
            · rename_i bk hb
              split at hf
              · rename_i hcc
                simp only [Bool.and_eq_true] at hcc
                obtain ⟨rfl, rfl⟩ := Prod.mk.inj (Option.some.inj hf)
                have hle : off + (n + 1) * size ≤ bk.cells.length := Nat.le_of_ble_eq_true hcc.2
                have hnm : n + 1 ≤ m := by
                  have h9 : Nat.min m len ≤ m := Nat.min_le_left m len
                  have hn' : Nat.min m len = n + 1 := hn
                  omega
                have hll := dens_length hdl
                obtain ⟨w', hst, hsim⟩ := hs.cells (P := P) hb hcc.1 hx (dens_take ((n + 1) * size) hdl) (fun u hu => h1 u (List.mem_of_mem_take hu)) (by
                  exact Nat.le_trans (Nat.add_le_add_left (List.length_take_le _ _) _) hle)
                exact ⟨_, w', hrun (n + 1) w' hn hst, hsim, rfl, rfl, by simp only [den]; rfl⟩
              · cases hf
            · cases hf
        · cases hf
      · cases hf
    · cases hf
  · cases hf
def clearA (P : Program) [Fast P] (ts : Array TypeId) (args : List AV) : Option AV :=
  match ts[0]?, args with
  | some t, [.emp] => match undF P t with | some _ => some (.lit (.tuple #[])) | none => none
  | some t, [.sl _ _ 0 _ _] => match undF P t with | some _ => some (.lit (.tuple #[])) | none => none
  | some t, [.lit (.slice none _ _)] => match undF P t with | some _ => some (.lit (.tuple #[])) | none => none
  | _, _ => none
theorem clearA_ok {o : Oper} {args : Array Operand} {ts : Array TypeId} {v : AV} (ho : o.op = .call { callee := .builtin .clear, args := args, argTypes := ts }) (h : TR ρ nt tm a) (hf : clearA P ts (args.toList.map (ev tm)) = some v) : Yields P ρ o a v := by
  intro w
  have hd := evs_den h args.toList
  have hex : (execOp a.eval o).run P w = (builtin .clear ts o.type (args.map fun | .const _ => true | _ => false) (args.map a.eval)).run P w := by
    unfold execOp
    simp only [ho, resolve, Sem.run_bind, Sem.run_pure, Result.andThen_ok, invoke]
    rfl
  rw [hex]
  have hargs : args.map a.eval = (args.toList.map a.eval).toArray := by rw [← Array.toList_map]
  rw [hargs]
  generalize args.toList.map a.eval = vs at hd
  generalize args.toList.map (ev tm) = l at hd hf
  generalize (args.map fun | .const _ => true | _ => false) = cs
  have fin : ∀ (t : TypeId) (d : TypeDesc) (A : Option Addr) (n c : Nat), ts[0]? = some t → P.underlying t = some d → (A = none ∨ n = 0) → (builtin .clear ts o.type cs #[.slice A n c]).run P w = .ok (.value (.tuple #[])) w := by
    intro t d A n c ht hu hor
    rcases hor with rfl | rfl
    · simp [builtin, Builtin.clear_, Sem.run_bind, ht, run_underlying hu]
    · cases A <;> simp [builtin, Builtin.clear_, Sem.run_bind, ht, run_underlying hu]
  unfold clearA at hf
  split at hf
  · rename_i t ht
    simp only [dens, den] at hd
    obtain ⟨_, _, rfl, ⟨A, c, rfl⟩, rfl⟩ := hd
    split at hf
    · rename_i d hu; obtain rfl := Option.some.inj hf; exact ⟨_, fin t d A 0 c ht (undF_ok hu) (.inr rfl), by simp only [den]⟩
    · cases hf
  · rename_i t b off cap op ht
    simp only [dens, den] at hd
    obtain ⟨_, _, rfl, ⟨y, c, hy, rfl, _⟩, rfl⟩ := hd
    split at hf
    · rename_i d hu; obtain rfl := Option.some.inj hf; exact ⟨_, fin t d _ 0 _ ht (undF_ok hu) (.inr rfl), by simp only [den]⟩
    · cases hf
  · rename_i t n c ht
    simp only [dens, den] at hd
    obtain ⟨_, _, rfl, rfl, rfl⟩ := hd
    split at hf
    · rename_i d hu; obtain rfl := Option.some.inj hf; exact ⟨_, fin t d none n c ht (undF_ok hu) (.inl rfl), by simp only [den]⟩
    · cases hf
  · cases hf
def clearX (P : Program) [Fast P] (ts : Array TypeId) (args : List AV) (st : St) : Option (AV × St) :=
  match ts[0]?, args with
  | some t, [.sl b off (n + 1) _ _] => match undF P t with
    | some (.slice E) => match zeroA P E, getC st.h b with
      | some z, some bk => match st.wr b && (z.all AV.one && Nat.ble (Nat.add off (repA z (Nat.succ n)).length) bk.cells.length) with
        | true => some (.lit (.tuple #[]), ⟨st.h.set b ⟨bk.ty, spliceA bk.cells off (repA z (Nat.succ n)), bk.op⟩, st.n, st.wr⟩)
        | false => none
      | _, _ => none
    | _ => none
  | _, _ => none
theorem clearX_ok {o : Oper} {args : Array Operand} {ts : Array TypeId} {v : AV} (ho : o.op = .call { callee := .builtin .clear, args := args, argTypes := ts }) (h : TR ρ nt tm a) (hs : Sim K w0 ρ st w) (hf : clearX P ts (args.toList.map (ev tm)) st = some (v, st')) :
    ∃ u w', (execOp a.eval o).run P w = .ok (.value u) w' ∧ Sim K w0 ρ st' w' ∧ st'.n = st.n ∧ st'.wr = st.wr ∧ den ρ v u := by
  have hd := evs_den h args.toList
  have hex : (execOp a.eval o).run P w = (builtin .clear ts o.type (args.map fun | .const _ => true | _ => false) (args.map a.eval)).run P w := by
    unfold execOp
    simp only [ho, resolve, Sem.run_bind, Sem.run_pure, Result.andThen_ok, invoke]
    rfl
  rw [hex]
  have hargs : args.map a.eval = (args.toList.map a.eval).toArray := by rw [← Array.toList_map]
  rw [hargs]
  generalize args.toList.map a.eval = vs at hd
  generalize args.toList.map (ev tm) = l at hd hf
  generalize (args.map fun | .const _ => true | _ => false) = cs
  unfold clearX at hf
  split at hf
  · rename_i t b off n cap op ht
    simp only [dens, den] at hd
    obtain ⟨_, _, rfl, ⟨y, c, hy, rfl, _⟩, rfl⟩ := hd
    split at hf
    · rename_i E hu
      split at hf
      · rename_i z bk hz hb
        split at hf
        · rename_i hcc
          simp only [Bool.and_eq_true] at hcc
          obtain ⟨c1, c2, c3⟩ := hcc
          have c3 : off + (repA z (n + 1)).length ≤ bk.cells.length := Nat.le_of_ble_eq_true c3
          obtain ⟨rfl, rfl⟩ := Prod.mk.inj (Option.some.inj hf)
          unfold zeroA at hz
          cases hi : infoF P E with
          | none => rw [hi] at hz; cases hz
          | some i =>
            rw [hi] at hz
            simp only at hz
            cases hzz : i.zero with
            | none => rw [hzz] at hz; cases hz
            | some zz =>
              rw [hzz] at hz
              simp only at hz
              obtain rfl := Option.some.inj hz
              have hdz := repA_den (ρ := ρ) (dens_map_lit zz.cells.toList) (n + 1)
              have h1 := dens_one hdz (repA_one c2 (n + 1))
              obtain ⟨w', hst, hsim⟩ := hs.cells (P := P) hb c1 hy hdz h1 c3
              refine ⟨.tuple #[], w', ?_, hsim, rfl, rfl, by simp only [den]⟩
              have hm : (Builtin.zeroCells zz.cells (n + 1)).toList = (List.replicate (n + 1) zz.cells.toList).flatten := by
                have := made_eq zz.cells.toList (n + 1)
                simpa [madeCells, Builtin.zeroCells] using this
              simp [builtin, Builtin.clear_, Sem.run_bind, ht, run_underlying (undF_ok hu), zeroValue, info_run (infoF_ok hi), hzz, hm, hst]
        · cases hf
      · cases hf
    · cases hf
  · cases hf
theorem freeze_kp (w : World) (x n k : Nat) : Kp (fun b => b < w.heap.size ∧ b ≠ x) w (w.freeze ⟨x, n, none⟩ k) := by
  unfold World.freeze
  split
  · exact Kp.refl _ w
  · exact ⟨rfl, rfl, rfl, by simp, fun b hb => by simp only [Array.getElem?_modify]; rw [if_neg (fun e => hb.2 e.symm)]⟩
theorem Blk.freeze {x : Nat} {t : TypeId} {cs : Array Value} (h : Blk w x t cs) : Blk (w.freeze ⟨x, cs.size, none⟩ 1) x t cs := by
  obtain ⟨⟨lo, hi⟩, h, hf⟩ := h
  simp only at hf
  refine ⟨if lo == hi then (cs.size, cs.size + 1) else (min lo cs.size, max hi (cs.size + 1)), ?_, ?_⟩
  · unfold World.freeze
    rw [if_neg (by omega)]
    simp [Array.getElem?_modify, h]
  · right
    split
    · exact Nat.le_refl _
    · rename_i hne
      simp only [beq_iff_eq] at hne
      simp only
      omega
def convSlA (P : Program) [Fast P] (s t : TypeId) (x : AV) (st : St) : Option (AV × St) :=
  match undF P s, undF P t, x with
  | some (.slice _), some (.slice e), .sl b off len cap op => match Nat.beq s t, undF P e, getC st.h b, st.wr b with
    | true, some (.int .u8), some bk, true => some (.sl b off len cap op, ⟨st.h.set b bk, st.n, st.wr⟩)
    | _, _, _, _ => none
  | _, _, _ => none
theorem convSlA_ok {o : Oper} {s t : TypeId} {x : Operand} {v : AV} (ho : o.op = .convert s t x) (h : TR ρ nt tm a) (hs : Sim K w0 ρ st w) (hf : convSlA P s t (ev tm x) st = some (v, st')) :
    ∃ u w', (execOp a.eval o).run P w = .ok (.value u) w' ∧ Sim K w0 ρ st' w' ∧ st'.n = st.n ∧ st'.wr = st.wr ∧ den ρ v u := by
  have hd := h.ev x
  unfold convSlA at hf
  split at hf
  · rename_i e0 e b off len cap op hus hut hx
    rw [hx] at hd
    have hd0 := hd
    simp only [den] at hd
    obtain ⟨y, c, hy, ex, _⟩ := hd
    split at hf
    · rename_i bk hbeq hue hb hwr
      have hst := Nat.eq_of_beq_eq_true hbeq
      obtain ⟨rfl, rfl⟩ := Prod.mk.inj (Option.some.inj hf)
      obtain ⟨y', c', hy', hbk, _⟩ := hs.blkC hb
      rw [hy] at hy'
      obtain ⟨rfl, rfl⟩ := Prod.mk.inj (Option.some.inj hy')
      obtain ⟨vs, rest, h1, h2, h3, h4, h5⟩ := hbk
      have hsh : w.shape? y = some (bk.ty, (vs ++ rest).toArray.size) := by
        obtain ⟨fz, hh, _⟩ := h2
        simp [World.shape?, hh]
      refine ⟨a.eval x, w.freeze ⟨y, (vs ++ rest).toArray.size, none⟩ 1, ?_, hs.write b (getC_some hb).1 hwr hy (.inl (getC_some hb).2) bk _ (freeze_kp w y _ 1) fun S => ⟨fun _ => ⟨fun _ => Iff.rfl, vs, rest, h1, h2.freeze, h3, h4, h5⟩, fun e => absurd e (getC_some hb).2⟩, rfl, rfl, hd0⟩
      subst hst
      unfold execOp
      simp [ho, ex, convert, Sem.run_bind, run_underlying (undF_ok hus), run_underlying (undF_ok hue), markStringish, hsh]
      have : e0 = e := by rw [hus] at hut; exact TypeDesc.slice.inj (Option.some.inj hut)
      subst this
      simp [run_underlying (undF_ok hue), hsh]
    · cases hf
  · cases hf
end Go.Proofs.YtiepllpgifnloaaGreat.Vx
namespace Go.Proofs.YtiepllpgifnloaaGreat.Vx
open Go.RowKit
variable {P : Program} [Fast P] {ρ ρ' : Rho} {nt : Nat} {tm : T AV} {a : Act} {w w0 w' : World} {K : KS} {st st' : St}
def divA (op : BinOp) (u v : AV) : Option (Bool × AV) := match op, u, v with
  | .quo, .lit (.int k a), .lit (.int j b) => match decide (k = j) with
    | true => some (decide (b ≠ 0), .lit (.int k (k.wrap (a.tdiv b))))
    | false => none
  | .rem, .lit (.int k a), .lit (.int j b) => match decide (k = j) with
    | true => some (decide (b ≠ 0), .lit (.int k (a.tmod b)))
    | false => none
  | _, _, _ => none
theorem divA_ok {o : Oper} {op : BinOp} {t yt : TypeId} {x y : Operand} {v : AV} {p : Bool} (ho : o.op = .binOp op t x y yt) (h : TR ρ nt tm a) (hf : divA op (ev tm x) (ev tm y) = some (p, v)) (hp : p = true) : Yields P ρ o a v := by
  intro w
  have hx := h.ev x
  have hy := h.ev y
  unfold divA at hf
  split at hf
  all_goals first
    | (cases hf; done)
    | (rename_i k m j n e1 e2
       rw [e1] at hx; rw [e2] at hy
       simp only [den] at hx hy
       split at hf
       · rename_i hk
         have hk := of_decide_eq_true hk
         subst hk
         obtain ⟨rfl, rfl⟩ := Prod.mk.inj (Option.some.inj hf)
         have hp := of_decide_eq_true hp
         refine ⟨_, ?_, by simp only [den]; exact rfl⟩
         unfold execOp
         simp [ho, hx, hy, binOp, eqGuard, Op.intDiv, Sem.run_bind, hp]
       · cases hf)
def eqFs (P : Program) [Fast P] (e : TypeId → AV → AV → Option Bool) (xs ys : List AV) : List Field → Option Bool
  | [] => some true
  | f :: fs => match f.name == "_", partA P f.type xs f.offset, partA P f.type ys f.offset with
    | false, some u, some v => match e f.type u v, eqFs P e xs ys fs with
      | some b, some r => some (and b r)
      | _, _ => none
    | _, _, _ => none
def eqT (P : Program) [Fast P] : Nat → TypeId → AV → AV → Option Bool
  | 0, _, _, _ => none
  | d + 1, t, x, y => match undF P t with
    | some .bool => match x, y with
      | .lit (.bool a), .lit (.bool b) => some (a == b)
      | _, _ => none
    | some (.int _) => match x, y with
      | .lit (.int k a), .lit (.int j b) => match decide (k = j) with
        | true => some (a == b)
        | false => none
      | _, _ => none
    | some .string => match x, y with
      | .lit (.string a), .lit (.string b) => some (a == b)
      | _, _ => none
    | some (.struct fs) => match x, y, P.stoodInHeld t with
      | .agg xs, .agg ys, false => eqFs P (fun t x y => eqT P d t x y) xs ys fs.toList
      | _, _, _ => none
    | _ => none
theorem eqT_ok : ∀ (n : Nat) {d : Nat} (hd : n ≤ d) {t : TypeId} {x y : AV} {r : Bool} {u v : Value}, eqT P n t x y = some r → den ρ x u → den ρ y v → ∀ w, (Op.equalIn d t u v).run P w = .ok r w
  | 0, _, _, _, _, _, _, _, _, h, _, _, _ => nomatch h
  | n + 1, 0, hd, _, _, _, _, _, _, _, _, _, _ => by omega
  | n + 1, d + 1, hd, t, x, y, r, u, v, h, hx, hy, w => by
    unfold eqT at h
    split at h
    · rename_i hu
      split at h
      · rename_i a b
        obtain rfl := Option.some.inj h
        simp only [den] at hx hy
        subst hx; subst hy
        unfold Op.equalIn
        simp [Sem.run_bind, run_underlying (undF_ok hu)]
      · cases h
    · rename_i k0 hu
      split at h
      · rename_i k a j b
        split at h
        · rename_i hk
          have hk := of_decide_eq_true hk
          subst hk
          obtain rfl := Option.some.inj h
          simp only [den] at hx hy
          subst hx; subst hy
          unfold Op.equalIn
          simp [Sem.run_bind, run_underlying (undF_ok hu)]
        · cases h
      · cases h
    · rename_i hu
      split at h
      · rename_i a b
        obtain rfl := Option.some.inj h
        simp only [den] at hx hy
        subst hx; subst hy
        unfold Op.equalIn
        simp [Sem.run_bind, run_underlying (undF_ok hu)]
      · cases h
    · rename_i fs hu
      split at h
      · rename_i xs ys hst
        simp only [den] at hx hy
        obtain ⟨us, rfl, hus⟩ := hx
        obtain ⟨vs, rfl, hvs⟩ := hy
        have loop : ∀ (l : List Field) (r : Bool), eqFs P (fun t x y => eqT P n t x y) xs ys l = some r →
            (forIn l ((none, ()) : Option Bool × Unit) (fun f (_ : Option Bool × Unit) => if f.name = "_" then (pure (ForInStep.yield (none, ())) : Sem _) else do
              let b ← Op.equalIn d f.type (← part f.type us.toArray f.offset) (← part f.type vs.toArray f.offset)
              if b = false then pure (ForInStep.done (some false, ())) else pure (ForInStep.yield (none, ())))).run P w = .ok (if r then none else some false, ()) w := by
          intro l
          induction l with
          | nil => intro r h; obtain rfl := Option.some.inj h; rfl
          | cons f l ih =>
            intro r h
            simp only [eqFs] at h
            split at h
            · rename_i u1 v1 hn hpu hpv
              split at h
              · rename_i b r' hb hr
                obtain rfl := Option.some.inj h
                obtain ⟨u2, hru, hdu⟩ := partA_ok hpu hus w
                obtain ⟨v2, hrv, hdv⟩ := partA_ok hpv hvs w
                have h1 := eqT_ok n (d := d) (by omega) hb hdu hdv w
                have hn' : ¬ f.name = "_" := by simpa using hn
                cases b
                · simp [List.forIn_cons, hn', Sem.run_bind, hru, hrv, h1]
                · simp [List.forIn_cons, hn', Sem.run_bind, hru, hrv, h1, ih r' hr]
              · cases h
            · cases h
        have hl := loop fs.toList r h
        unfold Op.equalIn
        simp [Sem.run_bind, run_underlying (undF_ok hu), hst]
        rw [← Array.forIn_toList, hl]
        cases r <;> rfl
      · cases h
    · cases h
def isAgg' : AV → Bool
  | .agg _ => true
  | _ => false
def eqA (P : Program) [Fast P] (op : BinOp) (t : TypeId) (u v : AV) : Option AV := match op, isAgg' u && isAgg' v, P.eqGuardType P.depth t with
  | .eql, true, false => match eqT P 100 t u v with
    | some b => some (.lit (.bool b))
    | none => none
  | .neq, true, false => match eqT P 100 t u v with
    | some b => some (.lit (.bool (!b)))
    | none => none
  | _, _, _ => none
theorem eqA_ok {o : Oper} {op : BinOp} {t yt : TypeId} {x y : Operand} {v : AV} (ho : o.op = .binOp op t x y yt) (h : TR ρ nt tm a) (hf : eqA P op t (ev tm x) (ev tm y) = some v) : Yields P ρ o a v := by
  intro w
  have hx := h.ev x
  have hy := h.ev y
  have key : ∀ {b}, eqT P 100 t (ev tm x) (ev tm y) = some b → (isAgg' (ev tm x) && isAgg' (ev tm y)) = true → P.eqGuardType P.depth t = false → ∃ us vs : Array Value, a.eval x = .agg us ∧ a.eval y = .agg vs ∧ (Op.equal t (.agg us) (.agg vs)).run P w = .ok b w ∧ (eqGuard op t x y (.agg us) (.agg vs)).run P w = .ok () w := by
    intro b hb hg hq
    have hr := eqT_ok 100 (d := Op.maxDepth) (by decide) hb hx hy w
    simp only [Bool.and_eq_true] at hg
    obtain ⟨hg1, hg2⟩ := hg
    unfold isAgg' at hg1 hg2
    split at hg1
    · rename_i xs hxs
      split at hg2
      · rename_i ys hys
        rw [hxs] at hx
        rw [hys] at hy
        simp only [den] at hx hy
        obtain ⟨us, eu, _⟩ := hx
        obtain ⟨vs, ev', _⟩ := hy
        refine ⟨us.toArray, vs.toArray, eu, ev', by rw [← eu, ← ev']; exact hr, ?_⟩
        unfold eqGuard
        split <;> simp [Sem.run_bind, run_program, hq]
      · cases hg2
    · cases hg1
  unfold eqA at hf
  split at hf
  · rename_i hg hq
    split at hf
    · rename_i b hb
      obtain rfl := Option.some.inj hf
      obtain ⟨us, vs, e1, e2, h1, h2⟩ := key hb hg hq
      refine ⟨.bool b, ?_, by simp only [den]⟩
      unfold execOp
      simp [ho, e1, e2, Sem.run_bind, h2, binOp, h1]
    · cases hf
  · rename_i hg hq
    split at hf
    · rename_i b hb
      obtain rfl := Option.some.inj hf
      obtain ⟨us, vs, e1, e2, h1, h2⟩ := key hb hg hq
      refine ⟨.bool (!b), ?_, by simp only [den]⟩
      unfold execOp
      simp [ho, e1, e2, Sem.run_bind, h2, binOp, h1]
    · cases hf
  · cases hf
end Go.Proofs.YtiepllpgifnloaaGreat.Vx
namespace Go.Proofs.YtiepllpgifnloaaGreat.Vx
open Go.RowKit
variable {P : Program} [Fast P] {ρ ρ' : Rho} {nt : Nat} {tm : T AV} {a : Act} {w w0 w' : World} {K : KS} {st st' : St}
def partOf : AV → Option (Nat × Nat × Path × Nat × Nat × (Nat → Nat))
  | .lv j k p sz lo n => some (j, k, p, sz, n, fun i => lo + i)
  | .lw j k p sz n => some (j, k, p, sz, n, fun i => i)
  | _ => none
theorem partOf_den {x : AV} {v : Value} {j k : Nat} {p : Path} {sz n : Nat} {f : Nat → Nat} (h : partOf x = some (j, k, p, sz, n, f)) (hd : den ρ x v) : ∃ lo, (∀ i, f i = lo + i) ∧ ∃ g, hdrOf ρ j k p g ∧ LvR g sz lo n v := by
  cases x with
  | lv j k p sz lo n =>
    simp only [partOf, Option.some.injEq, Prod.mk.injEq] at h
    obtain ⟨rfl, rfl, rfl, rfl, rfl, rfl⟩ := h
    simp only [den] at hd
    exact ⟨lo, fun _ => rfl, hd⟩
  | lw j k p sz n =>
    simp only [partOf, Option.some.injEq, Prod.mk.injEq] at h
    obtain ⟨rfl, rfl, rfl, rfl, rfl, rfl⟩ := h
    simp only [den] at hd
    obtain ⟨g, h1, h2, _⟩ := hd
    exact ⟨0, fun i => (Nat.zero_add i).symm, g, h1, h2⟩
  | _ => cases h
def byteAt (s : ByteArray) (n : Nat) : Int := match s[n]? with
  | some b => (b.toNat : Int)
  | none => 0
def strIdx (P : Program) [Fast P] (t : TypeId) (x i : AV) : Option (Bool × AV) := match x, i with
  | .lit (.string s), .lit (.int _ z) => match undF P t with
    | some .string => some (decide (0 ≤ z ∧ z < (s.size : Int)), .lit (.int .u8 (byteAt s z.toNat)))
    | _ => none
  | _, _ => none
theorem strIdx_ok {o : Oper} {t : TypeId} {x i : Operand} {v : AV} {p : Bool} (ho : o.op = .index t x i) (h : TR ρ nt tm a) (hf : strIdx P t (ev tm x) (ev tm i) = some (p, v)) (hp : p = true) : Yields P ρ o a v := by
  intro w
  have hx := h.ev x
  have hi := h.ev i
  unfold strIdx at hf
  split at hf
  · rename_i s k z ex ei
    rw [ex] at hx
    rw [ei] at hi
    simp only [den] at hx hi
    split at hf
    · rename_i hu
      obtain ⟨rfl, rfl⟩ := Prod.mk.inj (Option.some.inj hf)
      have hp := of_decide_eq_true hp
      have hlt : z.toNat < s.size := by omega
      have hg : s[z.toNat]? = some s[z.toNat] := getElem?_pos s z.toNat hlt
      refine ⟨.int .u8 (byteAt s z.toNat), ?_, by simp only [den]⟩
      unfold execOp byteAt
      rw [hg]
      simp only [ho, hx, hi, Instr.index, asIntOf, Sem.run_bind, run_underlying (undF_ok hu), Result.andThen_ok, Sem.run_pure, if_pos hp.1, hg]
    · cases hf
  · cases hf
def indexLv (P : Program) [Fast P] (t : TypeId) (x i : AV) : Option (Bool × AV) := match partOf x, i with
  | some (j, k, p, sz, n, f), .lit (.int _ z) => match undF P t with
    | some (.slice e) => match sizeT P e with
      | some s => match Nat.beq s sz with
        | true => some (decide (0 ≤ z ∧ z < (n : Int)), .ep j k p sz (f z.toNat) 0)
        | false => none
      | none => none
    | _ => none
  | _, _ => none
theorem indexLv_ok {o : Oper} {t : TypeId} {x i : Operand} {v : AV} {p : Bool} (ho : o.op = .indexAddr t x i) (h : TR ρ nt tm a) (hf : indexLv P t (ev tm x) (ev tm i) = some (p, v)) (hp : p = true) : Yields P ρ o a v := by
  intro w
  have hx := h.ev x
  have hi := h.ev i
  unfold indexLv at hf
  split at hf
  · rename_i j k pp sz n f kk z ex ei
    rw [ei] at hi
    simp only [den] at hi
    obtain ⟨lo, hf0, hx⟩ := partOf_den ex hx
    split at hf
    · rename_i e hu
      split at hf
      · rename_i s hs
        split at hf
        · rename_i hb
          have hb := Nat.eq_of_beq_eq_true hb
          subst hb
          obtain ⟨rfl, rfl⟩ := Prod.mk.inj (Option.some.inj hf)
          obtain ⟨g, hg, h1, h2, A', e1, h3, h4⟩ := hx
          obtain ⟨z0, z1⟩ := of_decide_eq_true hp
          have z1 : z < (n : Int) := z1
          obtain ⟨b, of, e2, rfl⟩ := h4 (by omega)
          refine ⟨.pointer (some ⟨b, of + lo * s + z.toNat * s, none⟩), ?_, ?_⟩
          · unfold execOp
            simp [ho, e1, hi, Instr.indexAt, asIntOf, Sem.run_bind, run_underlying (undF_ok hu), sizeT_run hs, add_lit, z0, z1]
          · simp only [den, hf0]
            refine ⟨g, hg, ?_, b, of, e2, ?_⟩
            · show lo + z.toNat < g.2.1
              omega
            · show _ = Value.pointer (some ⟨b, of + (lo + z.toNat) * s + 0, none⟩)
              rw [Nat.add_mul]; simp [Nat.add_assoc]
        · cases hf
      · cases hf
    · cases hf
  · cases hf
def fieldEp (P : Program) [Fast P] (t : TypeId) (f : Nat) (x : AV) : Option AV := match x with
  | .ep j k p sz idx cell => match undF P t with
    | some (.struct fs) => match fs[f]? with
      | some fd => match sizeT P fd.type with
        | some (_ + 1) => some (.ep j k p sz idx (Nat.add cell fd.offset))
        | _ => none
      | none => none
    | _ => none
  | _ => none
theorem fieldEp_ok {o : Oper} {t : TypeId} {x : Operand} {f : Nat} {v : AV} (ho : o.op = .fieldAddr t x f) (h : TR ρ nt tm a) (hf : fieldEp P t f (ev tm x) = some v) : Yields P ρ o a v := by
  intro w
  have hd := h.ev x
  unfold fieldEp at hf
  split at hf
  · rename_i j k p sz idx cell hx
    rw [hx] at hd
    simp only [den] at hd
    obtain ⟨g, hg, hlt, b, of, e2, e⟩ := hd
    split at hf
    · rename_i fs hu
      split at hf
      · rename_i fd hfd
        split at hf
        · rename_i n hs
          obtain rfl := Option.some.inj hf
          refine ⟨.pointer (some ⟨b, of + idx * sz + (cell + fd.offset), none⟩), ?_, by simp only [den]; exact ⟨g, hg, hlt, b, of, e2, rfl⟩⟩
          unfold execOp
          simp [ho, e, Instr.fieldAt, Sem.run_bind, run_underlying (undF_ok hu), hfd, Instr.sureAddr, fieldPlace, sizeT_run hs, add_lit, Nat.add_assoc]
        · cases hf
      · cases hf
    · cases hf
  · cases hf
def bndA (tm : T AV) (d : Int) : Option Operand → Option Int
  | none => some d
  | some x => match ev tm x with
    | .lit (.int _ z) => some z
    | _ => none
theorem bndA_run (h : TR ρ nt tm a) {d z : Int} {y : Nat} {x : Option Operand} {code : BoundsCode} (hx : bndA tm d x = some z) (h0 : 0 ≤ z) (hy : z ≤ y) (w : World) :
    (x = none ∧ z = d) ∨ (∃ x' k, x = some x' ∧ a.eval x' = .int k z ∧ (Instr.sliceBound (a.eval x') y code).run P w = .ok z.toNat w) := by
  have _i : Fast P := inferInstance
  cases x with
  | none => exact .inl ⟨rfl, (Option.some.inj hx).symm⟩
  | some x' =>
    unfold bndA at hx
    simp only at hx
    split at hx
    · rename_i k m hi
      obtain rfl := Option.some.inj hx
      have e := h.ev x'
      rw [hi] at e
      simp only [den] at e
      refine .inr ⟨x', k, rfl, e, ?_⟩
      rw [e]
      simp [Instr.sliceBound, asIntOf, Sem.run_bind, h0, hy]
    · cases hx
def sliceLv (P : Program) [Fast P] (tm : T AV) (t : TypeId) (x : AV) (lo hi mx : Option Operand) : Option (Bool × AV) := match partOf x with
  | some (j, k, p, sz, n, f) => match undF P t with
    | some (.slice e) => match mx with
      | none => match sizeT P e, bndA tm 0 lo, bndA tm (n : Int) hi with
        | some s, some l, some h => match Nat.beq s sz with
          | true => some (decide (0 ≤ l ∧ l ≤ h ∧ h ≤ (n : Int)), .lv j k p sz (f l.toNat) (h - l).toNat)
          | false => none
        | _, _, _ => none
      | some m => match sizeT P e, bndA tm 0 lo, hi, bndA tm 1 hi, bndA tm 0 (some m) with
        | some s, some l, some _, some h, some m => match decide (l = 0), decide (h = 0), decide (m = 0) with
          | true, true, true => some (true, .emz)
          | _, _, _ => none
        | _, _, _, _, _ => none
    | _ => none
  | _ => none
theorem sliceLv_ok {o : Oper} {t : TypeId} {x : Operand} {lo hi mx : Option Operand} {v : AV} {p : Bool} (ho : o.op = .slice t x lo hi mx) (h : TR ρ nt tm a) (hf : sliceLv P tm t (ev tm x) lo hi mx = some (p, v)) (hp : p = true) : Yields P ρ o a v := by
  intro w
  have hx := h.ev x
  unfold sliceLv at hf
  split at hf
  · rename_i j k pp sz n f ex
    obtain ⟨of, hf0, hx⟩ := partOf_den ex hx
    split at hf
    · rename_i e hu
      split at hf
      case h_2 =>
        rename_i m
        split at hf
        · rename_i s l h' hh mm hs hl hm hhi
          split at hf
          · rename_i el eh em
            have el := of_decide_eq_true el
            have eh := of_decide_eq_true eh
            have em := of_decide_eq_true em
            subst el; subst eh; subst em
            obtain ⟨rfl, rfl⟩ := Prod.mk.inj (Option.some.inj hf)
            obtain ⟨g, hg, h1, h2, A', e1, h3, h4⟩ := hx
            have q3 : ∀ code, (Instr.sliceBound (a.eval m) (g.2.2 - of) code).run P w = .ok 0 w := fun code => by
              rcases bndA_run (P := P) (y := g.2.2 - of) (code := code) h hm (Int.le_refl 0) (by omega) w with ⟨e, _⟩ | ⟨x', k, e, _, hr⟩
              · cases e
              · obtain rfl := Option.some.inj e; exact hr
            have q1 : ∀ code, (Instr.sliceBound (a.eval h') 0 code).run P w = .ok 0 w := fun code => by
              rcases bndA_run (P := P) (y := 0) (code := code) h hhi (Int.le_refl 0) (by omega) w with ⟨e, _⟩ | ⟨x', k, e, _, hr⟩
              · cases e
              · obtain rfl := Option.some.inj e; exact hr
            have q2 : ∀ code, (match lo.map a.eval with | some v => Instr.sliceBound v 0 code | none => pure 0 : Sem Nat).run P w = .ok 0 w := fun code => by
              rcases bndA_run (P := P) (y := 0) (code := code) h hl (Int.le_refl 0) (by omega) w with ⟨rfl, _⟩ | ⟨x', k, rfl, _, hr⟩
              · rfl
              · exact hr
            have rh : (Instr.sliceBounds true n (g.2.2 - of) (lo.map a.eval) (some (a.eval h')) (some (a.eval m))).run P w = .ok (0, 0, 0) w := by
              unfold Instr.sliceBounds
              cases lo <;> simp_all [Sem.run_bind]
            refine ⟨.slice A' 0 0, ?_, by simp only [den]; exact ⟨A', rfl⟩⟩
            unfold execOp
            simp [ho, e1, Instr.sliceAt, Instr.slice, Sem.run_bind, run_underlying (undF_ok hu), sizeT_run hs, rh]
          · cases hf
        · cases hf
      split at hf
      · rename_i s l hh hs hl hhi
        split at hf
        · rename_i hb
          have hb := Nat.eq_of_beq_eq_true hb
          subst hb
          obtain ⟨rfl, rfl⟩ := Prod.mk.inj (Option.some.inj hf)
          obtain ⟨g, hg, h1, h2, A', e1, h3, h4⟩ := hx
          obtain ⟨p1, p2, p3⟩ := of_decide_eq_true hp
          have p3 : hh ≤ (n : Int) := p3
          have hcap : (n : Int) ≤ ((g.2.2 - of : Nat) : Int) := by omega
          have rh : (Instr.sliceBounds true n (g.2.2 - of) (lo.map a.eval) (hi.map a.eval) none).run P w = .ok (l.toNat, hh.toNat, g.2.2 - of) w := by
            have q1 : ∀ code, (match hi.map a.eval with | some v => Instr.sliceBound v (g.2.2 - of) code | none => pure n : Sem Nat).run P w = .ok hh.toNat w := fun code => by
              rcases bndA_run (P := P) (y := g.2.2 - of) (code := code) h hhi (by omega) (by omega) w with ⟨rfl, rfl⟩ | ⟨x', k, rfl, _, hr⟩
              · rfl
              · exact hr
            have q2 : ∀ code, (match lo.map a.eval with | some v => Instr.sliceBound v hh.toNat code | none => pure 0 : Sem Nat).run P w = .ok l.toNat w := fun code => by
              rcases bndA_run (P := P) (y := hh.toNat) (code := code) h hl (by omega) (by omega) w with ⟨rfl, rfl⟩ | ⟨x', k, rfl, _, hr⟩
              · rfl
              · exact hr
            unfold Instr.sliceBounds
            cases lo <;> cases hi <;> simp_all [Sem.run_bind]
          refine ⟨.slice (if g.2.2 - of = l.toNat then A' else A'.map (·.add (l.toNat * s))) (hh.toNat - l.toNat) (g.2.2 - of - l.toNat), ?_, ?_⟩
          · unfold execOp
            simp [ho, e1, Instr.sliceAt, Instr.slice, Sem.run_bind, run_underlying (undF_ok hu), sizeT_run hs, rh]
          · simp only [den, hf0]
            refine ⟨g, hg, ?_, h2, (if g.2.2 - of = l.toNat then A' else A'.map (·.add (l.toNat * s))), ?_, ?_, ?_⟩
            · show of + l.toNat + (hh - l).toNat ≤ g.2.1
              omega
            · congr 1
              · show hh.toNat - l.toNat = (hh - l).toNat
                omega
              · show g.2.2 - of - l.toNat = g.2.2 - (of + l.toNat)
                omega
            · intro h0
              have h0 : of + l.toNat = 0 := h0
              have ho : of = 0 := by omega
              have hl0 : l.toNat = 0 := by omega
              rw [h3 ho, hl0]
              split
              · rfl
              · cases g.1 with
                | none => rfl
                | some A => show some (A.add (0 * s)) = some A; rw [Nat.zero_mul]; unfold Addr.add; simp
            · intro hn
              have hn : (hh - l).toNat ≠ 0 := hn
              obtain ⟨b, ob, e2, rfl⟩ := h4 (by omega)
              refine ⟨b, ob, e2, ?_⟩
              rw [if_neg (by omega)]
              show some ((⟨b, ob + of * s, none⟩ : Addr).add (l.toNat * s)) = some ⟨b, ob + (of + l.toNat) * s, none⟩
              rw [add_lit, Nat.add_mul, Nat.add_assoc]
        · cases hf
      · cases hf
    · cases hf
  · cases hf
def lenLv (P : Program) [Fast P] (b : Builtin) (ts : Array TypeId) (args : List AV) : Option AV := match b, ts[0]?, args with
  | .len, some t, [x] => match partOf x, undF P t with
    | some (_, _, _, _, n, _), some (.slice _) => some (.lit (.int .i64 (n : Int)))
    | _, _ => match x, undF P t with
      | .emz, some (.slice _) => some (.lit (.int .i64 0))
      | _, _ => none
  | _, _, _ => none
theorem lenLv_ok {o : Oper} {b : Builtin} {args : Array Operand} {ts : Array TypeId} {v : AV} (ho : o.op = .call { callee := .builtin b, args := args, argTypes := ts }) (h : TR ρ nt tm a) (hf : lenLv P b ts (args.toList.map (ev tm)) = some v) : Yields P ρ o a v := by
  intro w
  have hd := evs_den h args.toList
  have hex : (execOp a.eval o).run P w = (builtin b ts o.type (args.map fun | .const _ => true | _ => false) (args.map a.eval)).run P w := by
    unfold execOp
    simp [ho, resolve, invoke]
    rfl
  unfold lenLv at hf
  split at hf
  · rename_i t x ht hargs
    rw [hargs] at hd
    simp only [dens] at hd
    obtain ⟨u, vs', e, hx, rfl⟩ := hd
    split at hf
    · rename_i j k p sz n f E hpo hu
      obtain ⟨lo, _, g, hg, h1, h2, A', rfl, _⟩ := partOf_den hpo hx
      obtain rfl := Option.some.inj hf
      have ea : args.map a.eval = #[.slice A' n (g.2.2 - lo)] := by
        apply Array.ext'
        simpa using e
      refine ⟨.int .i64 (n : Int), ?_, by simp only [den]⟩
      rw [hex, ea]
      simp [builtin, Builtin.len_, Sem.run_bind, ht, run_underlying (undF_ok hu), Builtin.lenOf, goInt]
    · split at hf
      · rename_i E hu _
        obtain rfl := Option.some.inj hf
        simp only [den] at hx
        obtain ⟨A', rfl⟩ := hx
        have ea : args.map a.eval = #[.slice A' 0 0] := by
          apply Array.ext'
          simpa using e
        refine ⟨.int .i64 0, ?_, by simp only [den]⟩
        rw [hex, ea]
        simp [builtin, Builtin.len_, Sem.run_bind, ht, run_underlying (undF_ok hu), Builtin.lenOf, goInt]
      · cases hf
  · cases hf
def leafA (i k : Nat) (p : Path) (idx j : Nat) : Leaf → AV
  | .int k n => .lit (.int k n)
  | .bool b => .lit (.bool b)
  | .str s => .lit (.string s)
  | .list t l => .lw i k (p ++ [(idx, j)]) t.size l.length
def leavesA (i k : Nat) (p : Path) (idx : Nat) : List Leaf → Nat → List AV
  | [], _ => []
  | l :: ls, j => leafA i k p idx j l :: leavesA i k p idx ls (Nat.succ j)
def okVer (k kv : Nat) : Path → Bool
  | [] => true
  | _ => Nat.beq k kv
def loadEp (P : Program) [Fast P] (t : TypeId) (x : AV) (st : St) : Option AV := match x with
  | .ep i k p sz idx cell => match st.h.get i with
    | some bk => match bk.op, kindOf bk.cells with
      | some 0, .tree _ rt xs kv => match okVer k kv p, Nat.beq (sub p rt xs).1.size sz with
        | true, true => match aggT P t with
          | some true => match sizeT P t with
            | some n => match Nat.ble (Nat.add cell n) sz with
              | true => some (.agg (((leavesA i kv p idx ((sub p rt xs).1.leaves ((sub p rt xs).2.getD idx (sub p rt xs).1.dflt)) 0).drop cell).take n))
              | false => none
            | none => none
          | some false => getAt (leavesA i kv p idx ((sub p rt xs).1.leaves ((sub p rt xs).2.getD idx (sub p rt xs).1.dflt)) 0) cell
          | none => none
        | _, _ => none
      | _, _ => none
    | none => none
  | _ => none
theorem leavesA_len {i k : Nat} {p : Path} {idx : Nat} : ∀ {ls : List Leaf} {j : Nat}, (leavesA i k p idx ls j).length = ls.length
  | [], _ => rfl
  | _ :: ls, j => by simp only [leavesA, List.length_cons, leavesA_len (ls := ls)]
theorem hdrs_snoc {w : World} {F : Nat → Prop} {idx j b o m c : Nat} {A : Option Addr} : ∀ {p : Path} {t : RT} {l : List t.ty} {h h' : Hdr}, LfR w F (.list t l) h.val → hdrs w p t l h = some h' → idx < (sub p t l).2.length →
    (∃ u' l', ((sub p t l).1.leaves ((sub p t l).2.getD idx (sub p t l).1.dflt))[j]? = some (.list u' l')) → h'.1 = some ⟨b, o, none⟩ → w.cell? ⟨b, o + idx * (sub p t l).1.size + j, none⟩ = some (.slice A m c) → hdrs w (p ++ [(idx, j)]) t l h = some (A, m, c)
  | [], t, l, h, h', hr, e, hi, ⟨u', l', hl⟩, hA, hc => by
    obtain rfl := Option.some.inj e
    have hi : idx < l.length := hi
    have hx : l[idx]? = some (l.getD idx t.dflt) := by rw [List.getD_eq_getElem?_getD, List.getElem?_eq_getElem hi]; rfl
    have hl : (t.leaves (l.getD idx t.dflt))[j]? = some (.list u' l') := hl
    have hc : w.cell? ⟨b, o + idx * t.size + j, none⟩ = some (.slice A m c) := hc
    simp only [List.nil_append, hdrs, hA, hx, hl, hc]
  | (i, q) :: p, t, l, (A0, m0, c0), h', hr, e, hi, hl, hA, hc => by
    simp only [hdrs] at e
    simp only [List.cons_append, hdrs]
    split at e
    · rename_i b1 o1 x hx
      split at e
      · rename_i t' l1 hl1
        obtain ⟨b', o', hA', hb, hlt, hcc⟩ := hr.elem hx
        simp only [Option.some.injEq, Addr.mk.injEq, and_true] at hA'
        obtain ⟨rfl, rfl⟩ := hA'
        obtain ⟨v, hcv, hlf⟩ := hcc q _ hl1
        obtain ⟨A2, c2, rfl, _⟩ := hlf.slice
        rw [hcv] at e
        simp only at e
        have hg : l.getD i t.dflt = x := by rw [List.getD_eq_getElem?_getD, hx]; rfl
        have hn : nthL (t.leaves (l.getD i t.dflt)) q = .list t' l1 := by rw [hg]; exact nthL_eq hl1
        rw [sub, hn] at hi hl hc
        simp only [hl1, hcv]
        exact hdrs_snoc (h := (A2, List.length (α := t'.ty) l1, c2)) hlf e hi hl hA hc
      · cases e
    · cases e
theorem Sim.at_ {S : Nat → Prop} {F : Nat → Nat → Prop} (hs : SimF K w0 ρ S F st w) {i k kv : Nat} {p : Path} {g : Hdr} {bk : Bk} {own : Ow} {rt : RT} {xs : List rt.ty} (hb : st.h.get i = some bk) (hop : bk.op = some 0) (hk : kindOf bk.cells = .tree own rt xs kv) (hv : okVer k kv p = true) (hg : hdrOf ρ i k p g) :
    ∃ x c, ρ i = some (x, c) ∧ TreeR ρ w S (F i) x c own rt xs kv ∧ hdrs w p rt xs (rootH x c) = some g ∧ (st.wr i = true → ∀ y, F i y → ¬ K.k y) := by
  obtain ⟨x, c, h1, h2, h3⟩ := hs.blk i bk hb
  have h4 := h2.2 hop
  rw [hk] at h4
  have h5 : TreeR ρ w S (F i) x c own rt xs kv := h4
  refine ⟨x, c, h1, h5, ?_, h3⟩
  obtain ⟨x', c', y, d, e1, e2, e3⟩ := hg
  rw [h1] at e1
  obtain ⟨rfl, rfl⟩ := Prod.mk.inj (Option.some.inj e1)
  cases p with
  | nil => rw [e3]; rfl
  | cons q p =>
    have hv : Nat.beq k kv = true := hv
    have hv := Nat.eq_of_beq_eq_true hv
    subst hv
    obtain ⟨y', d', e4, e5⟩ := h5.hds
    rw [e2] at e4
    obtain ⟨rfl, rfl⟩ := Prod.mk.inj (Option.some.inj e4)
    have e3 : d.hd (q :: p) = some g := e3
    rw [e5] at e3
    exact e3
theorem leaf_den {S F F2 : Nat → Prop} {i k idx j b o : Nat} {p : Path} {x : Nat} {c : Cap} {own : Ow} {rt : RT} {xs : List rt.ty} {g : Hdr} (hi : ρ i = some (x, c)) (ht : TreeR ρ w S F x c own rt xs k) (hg : hdrs w p rt xs (rootH x c) = some g) (hlt : idx < g.2.1)
    (hgb : g.1 = some ⟨b, o, none⟩) {v : Value} (hcell : w.cell? ⟨b, o + idx * (sub p rt xs).1.size + j, none⟩ = some v) {l : Leaf} (hl : ((sub p rt xs).1.leaves ((sub p rt xs).2.getD idx (sub p rt xs).1.dflt))[j]? = some l) (hlv : LfR w F2 l v) : den ρ (leafA i k p idx j l) v := by
  have hsub := sub_rd ht.rd hg
  have hlen := hsub.lenEq
  cases hlv with
  | int kk n => simp only [leafA, den]
  | bool b => simp only [leafA, den]
  | str s => simp only [leafA, den]
  | list t' l' A c2 vf h1 h2 h3 hc hr =>
    simp only [leafA, den]
    have hh := hdrs_snoc (j := j) (idx := idx) ht.rd hg (by omega) ⟨t', l', hl⟩ hgb hcell
    obtain ⟨y, d, e1, e2⟩ := ht.hds
    refine ⟨(A, List.length (α := t'.ty) l', c2), ⟨x, c, y, d, hi, e1, ?_⟩, ⟨by simp, h1, A, by simp, fun _ => rfl, fun hn => ?_⟩, rfl⟩
    · cases p with
      | nil => show d.hd ([] ++ [(idx, j)]) = _; rw [e2]; exact hh
      | cons q p => show d.hd (q :: p ++ [(idx, j)]) = _; rw [e2]; exact hh
    · obtain ⟨b', o', rfl, _⟩ := h3 (by rintro rfl; exact hn rfl)
      exact ⟨b', o', rfl, by simp⟩
theorem leavesA_get {i k : Nat} {p : Path} {idx : Nat} : ∀ {ls : List Leaf} {j q : Nat} {v : AV}, (leavesA i k p idx ls j)[q]? = some v → ∃ l, ls[q]? = some l ∧ v = leafA i k p idx (j + q) l
  | [], _, _, _, h => by simp [leavesA] at h
  | l :: ls, j, 0, v, h => by simp only [leavesA, List.getElem?_cons_zero, Option.some.injEq] at h; exact ⟨l, rfl, h.symm⟩
  | l :: ls, j, q + 1, v, h => by
    simp only [leavesA, List.getElem?_cons_succ] at h
    obtain ⟨l', h1, h2⟩ := leavesA_get h
    exact ⟨l', by simpa using h1, by rw [h2]; congr 1; omega⟩
theorem dens_of_get : ∀ {l : List AV} {us : List Value}, l.length = us.length → (∀ (j : Nat) v u, l[j]? = some v → us[j]? = some u → den ρ v u) → dens ρ l us
  | [], us, h, _ => by simp only [dens]; exact List.length_eq_zero_iff.1 h.symm
  | v :: l, u :: us, h, hd => by
    simp only [dens]
    exact ⟨u, us, rfl, hd 0 v u rfl rfl, dens_of_get (by simpa using h) fun j v u h1 h2 => hd (j + 1) v u (by simpa using h1) (by simpa using h2)⟩
theorem loadEpVar_ok {t : TypeId} {z : AV} {v : AV} {uz : Value} (hd : den ρ z uz) (hs : Sim K w0 ρ st w) (hf : loadEp P t z st = some v) :
    ∃ u y, uz = .pointer (some y) ∧ (loadVar t y).run P w = .ok u w ∧ den ρ v u := by
  obtain ⟨S, F, hs⟩ := hs
  unfold loadEp at hf
  split at hf
  · rename_i i k p sz idx cell
    simp only [den] at hd
    obtain ⟨g, hg, hlt, b, o, hgb, rfl⟩ := hd
    split at hf
    · rename_i bk hb
      split at hf
      · rename_i own rt xs kv hop hkd
        split at hf
        · rename_i hver hsz
          have hsz := Nat.eq_of_beq_eq_true hsz
          obtain ⟨x, c, hi, ht, hh, _⟩ := Sim.at_ hs hb hop hkd hver hg
          have hsub := sub_rd ht.rd hh
          obtain ⟨b', o', e1, _, _, hcell0⟩ := elem_at hsub hlt
          rw [hgb] at e1
          simp only [Option.some.injEq, Addr.mk.injEq, and_true] at e1
          obtain ⟨rfl, rfl⟩ := e1
          have hll := RT.leaves_len (sub p rt xs).1 ((sub p rt xs).2.getD idx (sub p rt xs).1.dflt)
          obtain ⟨us, hlen, hcell, hul⟩ : ∃ us : List Value, us.length = (sub p rt xs).1.size ∧ (∀ j u, us[j]? = some u → w.cell? ⟨b, o + idx * (sub p rt xs).1.size + j, none⟩ = some u) ∧
              ∀ j u lf, us[j]? = some u → ((sub p rt xs).1.leaves ((sub p rt xs).2.getD idx (sub p rt xs).1.dflt))[j]? = some lf → LfR w (fun y => F i y ∨ S y) lf u := by
            refine ⟨(List.range (sub p rt xs).1.size).map fun j => (w.cell? ⟨b, o + idx * (sub p rt xs).1.size + j, none⟩).getD undef, by simp, fun j u hu => ?_, fun j u lf hu hlf => ?_⟩
            · rw [List.getElem?_map] at hu
              have hj : j < (sub p rt xs).1.size := by
                rcases Nat.lt_or_ge j (sub p rt xs).1.size with h | h
                · exact h
                · rw [List.getElem?_eq_none (by simpa using h)] at hu; cases hu
              rw [List.getElem?_range hj] at hu
              obtain ⟨v, hv, _⟩ := hcell0 j _ (List.getElem?_eq_getElem (by rw [hll]; exact hj))
              simp only [Option.map_some, hv, Option.getD_some, Option.some.injEq] at hu
              rw [← hu]; exact hv
            · rw [List.getElem?_map] at hu
              have hj : j < (sub p rt xs).1.size := by rw [← hll]; exact (List.getElem?_eq_some_iff.1 hlf).1
              rw [List.getElem?_range hj] at hu
              obtain ⟨v, hv, hr⟩ := hcell0 j _ hlf
              simp only [Option.map_some, hv, Option.getD_some, Option.some.injEq] at hu
              rw [← hu]; exact hr
          have hall : dens ρ (leavesA i kv p idx ((sub p rt xs).1.leaves ((sub p rt xs).2.getD idx (sub p rt xs).1.dflt)) 0) us := by
            refine dens_of_get (by rw [leavesA_len, RT.leaves_len, hlen]) fun j v u h1 h2 => ?_
            obtain ⟨l, h3, rfl⟩ := leavesA_get h1
            rw [Nat.zero_add]
            exact leaf_den hi ht hh hlt hgb (hcell j u h2) h3 (hul j u l h2 h3)
          split at hf
          · rename_i hag
            split at hf
            · rename_i n hn
              split at hf
              · rename_i hle
                have hle : cell + n ≤ sz := Nat.le_of_ble_eq_true hle
                obtain rfl := Option.some.inj hf
                refine ⟨.agg ((us.drop cell).take n).toArray, _, rfl, ?_, by simp only [den]; exact ⟨_, rfl, dens_take n (dens_drop cell hall)⟩⟩
                have hr := run_loadCells_list (P := P) w ⟨b, o + idx * sz + cell, none⟩ ((us.drop cell).take n) (fun j u hj => by
                  rw [List.getElem?_take] at hj
                  split at hj
                  · rw [List.getElem?_drop] at hj
                    rw [add_lit]
                    have := hcell _ _ hj
                    rw [hsz] at this
                    rw [Nat.add_assoc]
                    exact this
                  · cases hj)
                have hl2 : ((us.drop cell).take n).length = n := by rw [List.length_take, List.length_drop]; omega
                rw [hl2] at hr
                simp [Sem.run_bind, loadVar, aggT_run hag, sizeT_run hn, hr]
              · cases hf
            · cases hf
          · rename_i hag
            rw [getAt_eq] at hf
            obtain ⟨u, hu, hdu⟩ := dens_get cell hall hf
            refine ⟨u, _, rfl, ?_, hdu⟩
            have hc := hcell cell u hu
            rw [hsz] at hc
            simp [Sem.run_bind, loadVar, aggT_run hag, run_load, hc]
          · cases hf
        · cases hf
      · cases hf
    · cases hf
  · cases hf
theorem loadEp_ok {o : Oper} {t : TypeId} {x : Operand} {v : AV} (ho : o.op = .load t x) (h : TR ρ nt tm a) (hs : Sim K w0 ρ st w) (hf : loadEp P t (ev tm x) st = some v) :
    ∃ u, (execOp a.eval o).run P w = .ok (.value u) w ∧ den ρ v u := by
  obtain ⟨u, y, e, hr, hd⟩ := loadEpVar_ok (P := P) (h.ev x) hs hf
  refine ⟨u, ?_, hd⟩
  unfold execOp
  simp [ho, e, Instr.loadAt, Instr.sureAddr, Sem.run_bind, hr]
end Go.Proofs.YtiepllpgifnloaaGreat.Vx
namespace Go.Proofs.YtiepllpgifnloaaGreat.Vx
open Go.RowKit
def Leaf.elem : Leaf → Option RT
  | .list u _ => some u
  | _ => none
theorem leaves_elem (t : RT) (x : t.ty) : (t.leaves x).map Leaf.elem = (t.leaves t.dflt).map Leaf.elem := by
  cases t with
  | st n => cases n <;> rfl
  | _ => rfl
theorem elemAt_of {t : RT} {x : t.ty} {j : Nat} {u : RT} {l : List u.ty} (h : (t.leaves x)[j]? = some (.list u l)) : t.elemAt j = some u := by
  have h1 : ((t.leaves x).map Leaf.elem)[j]? = some (some u) := by rw [List.getElem?_map, h]; rfl
  rw [leaves_elem, List.getElem?_map] at h1
  unfold RT.elemAt
  cases e : (t.leaves t.dflt)[j]? with
  | none => rw [e] at h1; cases h1
  | some lf =>
    rw [e] at h1
    cases lf with
    | list v l => simp only [Option.map_some, Leaf.elem, Option.some.injEq] at h1; subst h1; rfl
    | _ => simp [Leaf.elem] at h1
theorem sub_shr {w : World} {S : Nat → Prop} : ∀ {p : Path} {t : RT} {l : List t.ty} {ow : Path → Bool} {F : Nat → Prop} {h h' : Hdr}, LfO w S (.list t l) ow F h.val → ow p = false → hdrs w p t l h = some h' → LfR w S (.list (sub p t l).1 (sub p t l).2) h'.val
  | [], t, l, ow, F, (A, m, c), h', ho, hp, e => by
    obtain rfl := Option.some.inj e
    cases ho with
    | shr _ _ _ _ _ h0 hr => exact hr
    | nil _ _ _ _ h0 => rw [hp] at h0; cases h0
    | list _ _ _ _ c b T cs G h0 => rw [hp] at h0; cases h0
  | (i, j) :: p, t, l, ow, F, (A, m, c), h', ho, hp, e => by
    cases ho with
    | shr _ _ _ _ _ h0 hr => exact sub_rd hr e
    | nil _ _ _ _ h0 => simp [hdrs] at e
    | list _ _ _ _ c b T cs G h0 h1 h2 hb hk hs hG hd hr =>
      simp only [hdrs] at e
      split at e
      · rename_i b' o x hA hx
        obtain ⟨rfl, rfl⟩ : b = b' ∧ 0 = o := by simpa using hA
        split at e
        · rename_i t' l' hl
          have hg : l.getD i t.dflt = x := by rw [List.getD_eq_getElem?_getD, hx]; rfl
          have hn : nthL (t.leaves (l.getD i t.dflt)) j = .list t' l' := by rw [hg]; exact nthL_eq hl
          have hc := hr i x hx j _ hl
          have hcell : w.cell? ⟨b, 0 + i * t.size + j, none⟩ = cs[i * t.size + j]? := by rw [hk.cell, Nat.zero_add]
          rw [hcell] at e
          have hgd : cs.getD (i * t.size + j) undef = (cs[i * t.size + j]?).getD undef := by rw [Array.getD_eq_getD_getElem?]
          rw [hgd] at hc
          cases ec : cs[i * t.size + j]? with
          | none => rw [ec] at e; cases e
          | some v =>
            rw [ec] at e hc
            simp only [Option.getD_some] at hc
            cases v with
            | slice A2 m2 c2 =>
              rw [sub, hn]
              exact sub_shr (p := p) (h := (A2, m2, c2)) hc hp e
            | _ => cases e
        · cases e
      · cases e
def splice {α : Type} (l : List α) (k : Nat) (m : List α) : List α := l.take k ++ m ++ l.drop (k + m.length)
theorem splice_len {α : Type} {l m : List α} {k : Nat} (h : k + m.length ≤ l.length) : (splice l k m).length = l.length := by
  simp only [splice, List.length_append, List.length_take, List.length_drop]; omega
theorem splice_in {α : Type} {l m : List α} {k q : Nat} (h : k + m.length ≤ l.length) (hq : q < m.length) : (splice l k m)[k + q]? = m[q]? := by
  unfold splice
  rw [List.append_assoc, List.getElem?_append_right (by rw [List.length_take]; omega), List.getElem?_append_left (by rw [List.length_take]; omega)]
  congr 1
  rw [List.length_take]; omega
theorem splice_out {α : Type} {l m : List α} {k j : Nat} (h : k + m.length ≤ l.length) (hj : j < k ∨ k + m.length ≤ j) : (splice l k m)[j]? = l[j]? := by
  unfold splice
  rcases hj with hj | hj
  · rw [List.append_assoc, List.getElem?_append_left (by rw [List.length_take]; omega), List.getElem?_take, if_pos hj]
  · rw [List.getElem?_append_right (by simp only [List.length_append, List.length_take]; omega), List.getElem?_drop]
    congr 1
    simp only [List.length_append, List.length_take]; omega
theorem leaf_one {w : World} {S F : Nat → Prop} {ow : Path → Bool} {lf : Leaf} {v : Value} (h : LfO w S lf ow F v) : v.oneCell' = true := by
  cases h with
  | int => rfl
  | bool => rfl
  | str => rfl
  | nil => rfl
  | list => rfl
  | shr _ _ _ _ _ _ h => cases h; rfl
theorem LfO.row {w : World} {S G : Nat → Prop} {u : RT} {ys : List u.ty} {ow : Path → Bool} {h : Hdr} (ho : LfO w S (.list u ys) ow G h.val) (h0 : ow [] = true) {idx : Nat} (hidx : idx < ys.length) (hGS : ∀ y, G y → ¬ S y) :
    ∃ (b : Nat) (cs : Array Value) (T : TypeId) (Gi : Nat → Nat → Prop), h.1 = some ⟨b, 0, none⟩ ∧ G b ∧ Blk w b T cs ∧ (idx + 1) * u.size ≤ cs.size ∧ (∀ j y, Gi j y → G y ∧ y ≠ b) ∧ (∀ i j y, Gi i y → Gi j y → i = j) ∧
      (∀ (j : Nat) (lf : Leaf), (u.leaves (ys.getD idx u.dflt))[j]? = some lf → LfO w S lf (fun q => ow ((idx, j) :: q)) (Gi j) (cs.getD (idx * u.size + j) undef)) ∧
      ∀ (w' : World) (S' H : Nat → Prop) (ow2 : Path → Bool) (k : Nat) (us : List Value) (nl : List Leaf) (y' : u.ty) (Hq : Nat → Nat → Prop), us.length = nl.length → k + nl.length ≤ u.size → u.leaves y' = splice (u.leaves (ys.getD idx u.dflt)) k nl →
        (∀ q y, Hq q y → H y ∨ Gi (k + q) y) → (∀ q q' y, Hq q y → Hq q' y → q = q') → (∀ y, H y → ¬ G y) → (∀ y, S y → S' y) → (∀ q, (∀ r, r < nl.length → ∀ q', q ≠ (idx, k + r) :: q') → ow2 q = ow q) →
        Kp (fun y => y < w.heap.size ∧ y ≠ b) w w' → Blk w' b T (splice cs.toList (idx * u.size + k) us).toArray →
        (∀ q lf v, nl[q]? = some lf → us[q]? = some v → LfO w' S' lf (fun p => ow2 ((idx, k + q) :: p)) (Hq q) v) →
        LfO w' S' (.list u (ys.set idx y')) ow2 (fun y => G y ∨ H y) h.val := by
  obtain ⟨A, m, c⟩ := h
  cases ho with
  | shr _ _ _ _ _ h1 => rw [h0] at h1; cases h1
  | nil => simp at hidx
  | list _ _ _ _ _ b T cs Gc _ h1 h2 hb hbk hs hG hd hr =>
    have h1 : ys.length ≤ c := h1
    have hs : cs.size = c * u.size := hs
    have hlt0 : (idx + 1) * u.size ≤ c * u.size := Nat.mul_le_mul_right _ (by omega)
    have hlt := hlt0
    rw [Nat.succ_mul] at hlt
    have hyd : ys[idx]? = some (ys.getD idx u.dflt) := by rw [List.getD_eq_getElem?_getD, List.getElem?_eq_getElem hidx]; rfl
    refine ⟨b, cs, T, Gc idx, rfl, hb, hbk, by rw [hs]; exact hlt0, hG idx, fun i j y hi hj => (hd _ _ _ _ y hi hj).2, fun j lf hj => hr idx _ hyd j lf hj, fun w' S' H ow2 k us nl y' Hq hlen hk hy hH hHd hHG hSS hout hkp hbk' hnew => ?_⟩
    have hroom : idx * u.size + k + us.length ≤ cs.size := by rw [hs]; omega
    have hl' : (ys.set idx y').length = ys.length := by simp
    have hroom' : idx * u.size + k + us.length ≤ cs.toList.length := by simpa using hroom
    have hv : (Hdr.val (some ⟨b, 0, none⟩, ys.length, c)) = .slice (some ⟨b, 0, none⟩) (ys.set idx y').length c := by rw [hl']
    rw [hv]
    have hcs : ∀ i j : Nat, j < u.size → i < ys.length → ((splice cs.toList (idx * u.size + k) us).toArray).getD (i * u.size + j) undef = if i = idx ∧ k ≤ j ∧ j < k + us.length then us.getD (j - k) undef else cs.getD (i * u.size + j) undef := by
      intro i j hj hi
      rw [Array.getD_eq_getD_getElem?, List.getElem?_toArray]
      by_cases hin : i = idx ∧ k ≤ j ∧ j < k + us.length
      · rw [if_pos hin]
        obtain ⟨rfl, hj1, hj2⟩ := hin
        have e : i * u.size + j = i * u.size + k + (j - k) := by omega
        rw [e, splice_in hroom' (by omega), List.getD_eq_getElem?_getD]
      · rw [if_neg hin, splice_out hroom', Array.getD_eq_getD_getElem?, Array.getElem?_toList]
        by_cases hi' : i = idx
        · subst hi'
          rcases Nat.lt_or_ge j k with h | h
          · exact .inl (by omega)
          · exact .inr (by have : ¬ j < k + us.length := fun h' => hin ⟨rfl, h, h'⟩; omega)
        · rcases Nat.lt_or_gt_of_ne hi' with h | h
          · have : (i + 1) * u.size ≤ idx * u.size := Nat.mul_le_mul_right _ h
            rw [Nat.succ_mul] at this
            exact .inl (by omega)
          · have : (idx + 1) * u.size ≤ i * u.size := Nat.mul_le_mul_right _ h
            rw [Nat.succ_mul] at this
            exact .inr (by omega)
    have key : ∀ {i j i' j' y}, (i = idx ∧ k ≤ j ∧ j < k + us.length) → Hq (j - k) y → ¬ (i' = idx ∧ k ≤ j' ∧ j' < k + us.length) → Gc i' j' y → False := by
      intro i j i' j' y hin hy hin' hy'
      rcases hH _ _ hy with h | h
      · exact hHG y h (hG i' j' y hy').1
      · obtain ⟨rfl, e⟩ := hd _ _ _ _ y h hy'
        exact hin' ⟨rfl, by omega, by omega⟩
    refine .list u _ ow2 _ c b T _ (fun i j y => if i = idx ∧ k ≤ j ∧ j < k + us.length then Hq (j - k) y else Gc i j y) ?_ (by rw [hl']; exact h1) (by rw [hl']; exact h2) (.inl hb) hbk' (by rw [List.size_toArray, splice_len hroom', Array.length_toList]; exact hs) (fun i j y hy => ?_) (fun i j i' j' y hy hy' => ?_) (fun i x hx j lf hj => ?_)
    · rw [hout [] (fun r _ q' e => nomatch e)]; exact h0
    · split at hy
      · rcases hH _ _ hy with h | h
        · exact ⟨.inr h, fun e => hHG y h (e ▸ hb)⟩
        · exact ⟨.inl (hG _ _ y h).1, (hG _ _ y h).2⟩
      · exact ⟨.inl (hG i j y hy).1, (hG i j y hy).2⟩
    · by_cases hin : i = idx ∧ k ≤ j ∧ j < k + us.length
      · rw [if_pos hin] at hy
        by_cases hin' : i' = idx ∧ k ≤ j' ∧ j' < k + us.length
        · rw [if_pos hin'] at hy'
          have := hHd _ _ y hy hy'
          omega
        · rw [if_neg hin'] at hy'
          exact (key hin hy hin' hy').elim
      · rw [if_neg hin] at hy
        by_cases hin' : i' = idx ∧ k ≤ j' ∧ j' < k + us.length
        · rw [if_pos hin'] at hy'
          exact (key hin' hy' hin hy).elim
        · rw [if_neg hin'] at hy'
          exact hd i j i' j' y hy hy'
    · have hjs : j < u.size := by have := (List.getElem?_eq_some_iff.1 hj).1; rwa [RT.leaves_len] at this
      have hi : i < ys.length := by have := (List.getElem?_eq_some_iff.1 hx).1; rwa [hl'] at this
      rw [hcs i j hjs hi]
      have hlv : (u.leaves (ys.getD idx u.dflt)).length = u.size := RT.leaves_len _ _
      by_cases hin : i = idx ∧ k ≤ j ∧ j < k + us.length
      · rw [if_pos hin]
        obtain ⟨rfl, hj1, hj2⟩ := hin
        have hq : j - k < nl.length := by omega
        rw [List.getElem?_set_self hidx] at hx
        obtain rfl := Option.some.inj hx
        rw [hy] at hj
        have e : j = k + (j - k) := by omega
        rw [e, splice_in (by rw [hlv]; exact hk) hq] at hj
        have := hnew (j - k) lf _ hj (List.getElem?_eq_getElem (by omega))
        rw [← e] at this
        have e2 : us.getD (j - k) undef = us[j - k]'(by omega) := by rw [List.getD_eq_getElem?_getD, List.getElem?_eq_getElem (by omega)]; rfl
        rw [e2]
        refine LfO.wide this fun y hy => ?_
        show if _ then _ else _
        rw [if_pos ⟨rfl, hj1, hj2⟩]; exact hy
      · rw [if_neg hin]
        have hold : ∃ x0, ys[i]? = some x0 ∧ (u.leaves x0)[j]? = some lf := by
          by_cases hi' : i = idx
          · subst hi'
            rw [List.getElem?_set_self hidx] at hx
            obtain rfl := Option.some.inj hx
            refine ⟨ys.getD i u.dflt, hyd, ?_⟩
            rw [hy, splice_out (by rw [hlv]; exact hk)] at hj
            · exact hj
            · rcases Nat.lt_or_ge j k with h | h
              · exact .inl h
              · exact .inr (by have : ¬ j < k + us.length := fun h' => hin ⟨rfl, h, h'⟩; omega)
          · rw [List.getElem?_set_ne (fun e => hi' e.symm)] at hx
            exact ⟨x, hx, hj⟩
        obtain ⟨x0, hx0, hj0⟩ := hold
        have h3 := hr i x0 hx0 j lf hj0
        have h4 : LfO w' S' lf (fun q => ow ((i, j) :: q)) (Gc i j) (cs.getD (i * u.size + j) undef) := h3.keep (fun y hy hlt => hkp.block y ⟨hlt, (hG i j y hy).2⟩) hSS (fun y hy hlt => hkp.block y ⟨hlt, fun e => hGS b hb (e ▸ hy)⟩)
        have eo : (fun q => ow2 ((i, j) :: q)) = fun q => ow ((i, j) :: q) := by
          funext q
          refine hout _ fun r hr q' e => ?_
          obtain ⟨e1, _⟩ := List.cons.inj e
          obtain ⟨e1, e2⟩ := Prod.mk.inj e1
          exact hin ⟨e1, by omega, by omega⟩
        rw [eo]
        refine LfO.wide h4 fun y hy => ?_
        show if _ then _ else _
        rw [if_neg hin]; exact hy
theorem LfO.take {w : World} {S F : Nat → Prop} {t : RT} {l : List t.ty} {ow : Path → Bool} {A : Option Addr} {m c n : Nat} (h : LfO w S (.list t l) ow F (.slice A m c)) (h0 : ow [] = true) (hn : n ≤ l.length) : LfO w S (.list t (l.take n)) ow F (.slice A n c) := by
  cases h with
  | shr _ _ _ _ _ h1 => rw [h0] at h1; cases h1
  | nil => obtain rfl : n = 0 := by simpa using hn
           exact .nil t _ _ _ h0
  | list _ _ _ _ _ b T cs G _ h1 h2 hb hk hs hG hd hr =>
    have hl : (l.take n).length = n := by rw [List.length_take]; omega
    have hv : Value.slice (some ⟨b, 0, none⟩) n c = .slice (some ⟨b, 0, none⟩) (l.take n).length c := by rw [hl]
    rw [hv]
    exact .list t _ ow F c b T cs G h0 (by omega) (by omega) hb hk hs hG hd fun i x hx => hr i x (by
      rw [List.getElem?_take] at hx
      split at hx
      · exact hx
      · cases hx)
theorem LfO.cat {w : World} {S F H : Nat → Prop} {t : RT} {xs ys : List t.ty} {ow : Path → Bool} {A : Option Addr} {m c b' c' : Nat} {T' : TypeId} {cs' : Array Value} {F' : Nat → Prop} (h : LfO w S (.list t xs) ow F (.slice A m c)) (h0 : ow [] = true) (hb : Blk w b' T' cs') (hs : cs'.size = c' * t.size)
    (hlen : xs.length + ys.length ≤ c') (hmax : xs.length + ys.length ≤ maxLen) (hF : ∀ y, F y → F' y) (hH : ∀ y, H y → F' y) (hb' : F' b') (hFb : ∀ y, F y → y = b' → A = some ⟨b', 0, none⟩) (hHb : ¬ H b') (hHF : ∀ y, H y → ¬ F y)
    (hold : ∀ b cs T, A = some ⟨b, 0, none⟩ → Blk w b T cs → ∀ i j, i < xs.length → j < t.size → cs'.getD (i * t.size + j) undef = cs.getD (i * t.size + j) undef)
    (Hc : Nat → Nat → Nat → Prop) (hHc : ∀ i j y, Hc i j y → H y) (hHd : ∀ i j i' j' y, Hc i j y → Hc i' j' y → i = i' ∧ j = j')
    (hnew : ∀ i x, ys[i]? = some x → ∀ j lf, (t.leaves x)[j]? = some lf → LfO w S lf (fun q => ow ((xs.length + i, j) :: q)) (Hc i j) (cs'.getD ((xs.length + i) * t.size + j) undef)) :
    LfO w S (.list t (xs ++ ys)) ow F' (.slice (some ⟨b', 0, none⟩) (xs.length + ys.length) c') := by
  obtain ⟨Gc, hG, hd, hr⟩ : ∃ Gc : Nat → Nat → Nat → Prop, (∀ i j y, Gc i j y → F y ∧ y ≠ b') ∧ (∀ i j i' j' y, Gc i j y → Gc i' j' y → i = i' ∧ j = j') ∧ ∀ i x, xs[i]? = some x → ∀ j lf, (t.leaves x)[j]? = some lf → LfO w S lf (fun q => ow ((i, j) :: q)) (Gc i j) (cs'.getD (i * t.size + j) undef) := by
    cases h with
    | shr _ _ _ _ _ h1 => rw [h0] at h1; cases h1
    | nil => exact ⟨fun _ _ _ => False, fun _ _ _ h => h.elim, fun _ _ _ _ _ h => h.elim, fun i x hx => by simp at hx⟩
    | list _ _ _ _ _ b T cs Gc _ h1 h2 hb2 hk hs2 hG hd hr =>
      refine ⟨Gc, fun i j y hy => ⟨(hG i j y hy).1, fun e => ?_⟩, hd, fun i x hx j lf hj => ?_⟩
      · have := hFb y (hG i j y hy).1 e
        simp only [Option.some.injEq, Addr.mk.injEq, and_true] at this
        exact (hG i j y hy).2 (e.trans this.symm)
      · have hi := (List.getElem?_eq_some_iff.1 hx).1
        have hj' := (List.getElem?_eq_some_iff.1 hj).1
        rw [RT.leaves_len] at hj'
        rw [hold b cs T rfl hk i j hi hj']
        exact hr i x hx j lf hj
  have hl : (xs ++ ys).length = xs.length + ys.length := List.length_append
  rw [← hl]
  refine .list t _ ow F' c' b' T' cs' (fun i j y => (i < xs.length ∧ Gc i j y) ∨ (xs.length ≤ i ∧ Hc (i - xs.length) j y)) h0 (by omega) (by omega) hb' hb hs (fun i j y hy => ?_) (fun i j i' j' y hy hy' => ?_) (fun i x hx j lf hj => ?_)
  · rcases hy with ⟨_, hy⟩ | ⟨_, hy⟩
    · exact ⟨hF y (hG i j y hy).1, (hG i j y hy).2⟩
    · exact ⟨hH y (hHc _ _ y hy), fun e => hHb (e ▸ hHc _ _ y hy)⟩
  · rcases hy with ⟨_, hy⟩ | ⟨h1, hy⟩
    · rcases hy' with ⟨_, hy'⟩ | ⟨_, hy'⟩
      · exact hd _ _ _ _ y hy hy'
      · exact (hHF y (hHc _ _ y hy') (hG _ _ y hy).1).elim
    · rcases hy' with ⟨_, hy'⟩ | ⟨h2, hy'⟩
      · exact (hHF y (hHc _ _ y hy) (hG _ _ y hy').1).elim
      · have := hHd _ _ _ _ y hy hy'
        omega
  · by_cases hi : i < xs.length
    · rw [List.getElem?_append_left hi] at hx
      exact (hr i x hx j lf hj).wide fun y hy => .inl ⟨hi, hy⟩
    · rw [List.getElem?_append_right (by omega)] at hx
      have := hnew (i - xs.length) x hx j lf hj
      rw [show xs.length + (i - xs.length) = i by omega] at this
      exact this.wide fun y hy => .inr ⟨by omega, hy⟩
def setAt {α : Type} : List α → Nat → α → List α
  | [], _, _ => []
  | x :: l, j, y => match j with
    | 0 => y :: l
    | j + 1 => x :: setAt l j y
theorem setAt_eq {α : Type} : ∀ (l : List α) (j : Nat) (y : α), setAt l j y = l.set j y
  | [], _, _ => rfl
  | _ :: _, 0, _ => rfl
  | _ :: l, j + 1, y => by rw [setAt, setAt_eq l j y]; rfl
def updL (f : (u : RT) → List u.ty → Option (List u.ty)) : Path → (t : RT) → List t.ty → Option (List t.ty)
  | [], t, l => f t l
  | (i, j) :: p, t, l => match nthL (t.leaves (l.getD i t.dflt)) j with
    | .list t' l' => match updL f p t' l' with
      | some l2 => match t.build (setAt (t.leaves (l.getD i t.dflt)) j (.list t' l2)) with
        | some x => some (l.set i x)
        | none => none
      | none => none
    | _ => none
def ownsP (ow : Path → Bool) : Path → Bool
  | [] => ow []
  | e :: p => ow [] && ownsP (fun q => ow (e :: q)) p
theorem LfO.focus {w : World} {S : Nat → Prop} : ∀ {p : Path} {t : RT} {l : List t.ty} {ow : Path → Bool} {F : Nat → Prop} {h h' : Hdr}, LfO w S (.list t l) ow F h.val → ownsP ow p = true → hdrs w p t l h = some h' → (∀ y, F y → ¬ S y) →
    ∃ G : Nat → Prop, (∀ y, G y → F y) ∧ LfO w S (.list (sub p t l).1 (sub p t l).2) (fun q => ow (p ++ q)) G h'.val ∧
      ∀ (w' : World) (S' H : Nat → Prop) (ow2 : Path → Bool) (f : (u : RT) → List u.ty → Option (List u.ty)) (ys' : List (sub p t l).1.ty) (l2 : List t.ty),
        (∀ y, F y → ¬ G y → w'.heap[y]? = w.heap[y]?) → (∀ y, S y → w'.heap[y]? = w.heap[y]?) → (∀ y, S y → S' y) → (∀ y, H y → ¬ F y) → (∀ q, ¬ p <+: q → ow2 q = ow q) →
        f (sub p t l).1 (sub p t l).2 = some ys' → LfO w' S' (.list (sub p t l).1 ys') (fun q => ow2 (p ++ q)) (fun y => G y ∨ H y) h'.val → updL f p t l = some l2 →
        LfO w' S' (.list t l2) ow2 (fun y => F y ∨ H y) h.val
  | [], t, l, ow, F, h, h', ho, hp, e, hFS => by
    obtain rfl := Option.some.inj e
    refine ⟨F, fun _ h => h, ho, fun w' S' H ow2 f ys' l2 h1 h2 h3 h4 h5 h6 h7 h8 => ?_⟩
    have h6 : f t l = some ys' := h6
    have h8 : f t l = some l2 := h8
    rw [h6] at h8
    obtain rfl := Option.some.inj h8
    exact h7
  | (i, j) :: p, t, l, ow, F, (A, m, c), h', ho, hp, e, hFS => by
    simp only [ownsP, Bool.and_eq_true] at hp
    cases ho with
    | shr _ _ _ _ _ h0 => rw [hp.1] at h0; cases h0
    | nil _ _ _ _ h0 => simp [hdrs] at e
    | list _ _ _ _ _ b T cs Gc h0 h1 h2 hb hk hs hG hd hr =>
      simp only [hdrs] at e
      split at e
      · rename_i b' o x hA hx
        obtain ⟨rfl, rfl⟩ : b = b' ∧ 0 = o := by simpa using hA
        split at e
        · rename_i t' l' hl
          have hg : l.getD i t.dflt = x := by rw [List.getD_eq_getElem?_getD, hx]; rfl
          have hn : nthL (t.leaves (l.getD i t.dflt)) j = .list t' l' := by rw [hg]; exact nthL_eq hl
          have hjs := (List.getElem?_eq_some_iff.1 hl).1
          have hi := (List.getElem?_eq_some_iff.1 hx).1
          have hc := hr i x hx j _ hl
          have hcell : w.cell? ⟨b, 0 + i * t.size + j, none⟩ = cs[i * t.size + j]? := by rw [hk.cell, Nat.zero_add]
          rw [hcell] at e
          have hgd : cs.getD (i * t.size + j) undef = (cs[i * t.size + j]?).getD undef := by rw [Array.getD_eq_getD_getElem?]
          cases ec : cs[i * t.size + j]? with
          | none => rw [ec] at e; cases e
          | some v =>
            rw [ec] at e
            rw [hgd, ec] at hc
            simp only [Option.getD_some] at hc
            cases v with
            | slice A2 m2 c2 =>
              obtain ⟨G, g1, g2, g3⟩ := LfO.focus (p := p) (h := (A2, m2, c2)) hc hp.2 e (fun y hy => hFS y (hG i j y hy).1)
              rw [sub, hn]
              refine ⟨G, fun y hy => (hG i j y (g1 y hy)).1, g2, fun w' S' H ow2 f ys' l2 a1 a2 a3 a4 a5 a6 a7 a8 => ?_⟩
              simp only [updL] at a8
              rw [hn] at a8
              simp only at a8
              split at a8
              · rename_i l3 hl3
                split at a8
                · rename_i x' hx'
                  obtain rfl := Option.some.inj a8
                  have hlv := RT.build_ok hx'
                  rw [setAt_eq, hg] at hlv
                  have hch := g3 w' S' H (fun q => ow2 ((i, j) :: q)) f ys' l3 (fun y hy hn => a1 y (hG i j y hy).1 hn) a2 a3 (fun y hy hy' => a4 y hy (hG i j y hy').1) (fun q hq => a5 _ (fun hq' => hq ((List.prefix_cons_inj _).1 hq'))) a6 a7 hl3
                  have hnb : ¬ G b := fun e => (hG i j b (g1 b e)).2 rfl
                  have hl' : (l.set i x').length = l.length := by simp
                  have hv : (Hdr.val (some ⟨b, 0, none⟩, l.length, c)) = .slice (some ⟨b, 0, none⟩) (l.set i x').length c := by rw [hl']
                  rw [hv]
                  refine .list t _ ow2 _ c b T cs (fun i' j' y => if i' = i ∧ j' = j then Gc i j y ∨ H y else Gc i' j' y) ?_ (by rw [hl']; exact h1) (by rw [hl']; exact h2) (.inl hb) (hk.same (a1 b hb hnb)) hs (fun i' j' y hy => ?_) (fun i1 j1 i2 j2 y hy hy' => ?_) (fun i' y hy j' lf hj => ?_)
                  · rw [a5 [] (fun h => by simp at h)]; exact h0
                  · split at hy
                    · rcases hy with hy | hy
                      · exact ⟨.inl (hG i j y hy).1, (hG i j y hy).2⟩
                      · exact ⟨.inr hy, fun e => a4 y hy (e ▸ hb)⟩
                    · exact ⟨.inl (hG i' j' y hy).1, (hG i' j' y hy).2⟩
                  · by_cases q1 : i1 = i ∧ j1 = j
                    · rw [if_pos q1] at hy
                      by_cases q2 : i2 = i ∧ j2 = j
                      · exact ⟨q1.1.trans q2.1.symm, q1.2.trans q2.2.symm⟩
                      · rw [if_neg q2] at hy'
                        rcases hy with hy | hy
                        · exact absurd (hd i2 j2 i j y hy' hy) q2
                        · exact (a4 y hy (hG i2 j2 y hy').1).elim
                    · rw [if_neg q1] at hy
                      by_cases q2 : i2 = i ∧ j2 = j
                      · rw [if_pos q2] at hy'
                        rcases hy' with hy' | hy'
                        · exact absurd (hd i1 j1 i j y hy hy') q1
                        · exact (a4 y hy' (hG i1 j1 y hy).1).elim
                      · rw [if_neg q2] at hy'
                        exact hd i1 j1 i2 j2 y hy hy'
                  · by_cases q1 : i' = i ∧ j' = j
                    · obtain ⟨rfl, rfl⟩ := q1
                      rw [List.getElem?_set_self hi] at hy
                      obtain rfl := Option.some.inj hy
                      rw [hlv, List.getElem?_set_self hjs] at hj
                      obtain rfl := Option.some.inj hj
                      have : cs.getD (i' * t.size + j') undef = .slice A2 m2 c2 := by rw [hgd, ec]; rfl
                      rw [this]
                      refine LfO.wide hch fun y hy => ?_
                      show if _ then _ else _
                      rw [if_pos ⟨rfl, rfl⟩]; exact hy
                    · have hold : ∃ x0, l[i']? = some x0 ∧ (t.leaves x0)[j']? = some lf := by
                        by_cases hi' : i' = i
                        · subst hi'
                          have hj' : j' ≠ j := fun e => q1 ⟨rfl, e⟩
                          rw [List.getElem?_set_self hi] at hy
                          obtain rfl := Option.some.inj hy
                          rw [hlv, List.getElem?_set_ne (fun e => hj' e.symm)] at hj
                          exact ⟨x, hx, hj⟩
                        · rw [List.getElem?_set_ne (fun e => hi' e.symm)] at hy
                          exact ⟨y, hy, hj⟩
                      obtain ⟨x0, hx0, hj0⟩ := hold
                      have hng : ∀ y, Gc i' j' y → ¬ G y := fun y hy hy' => q1 (hd i' j' i j y hy (g1 y hy'))
                      have h4 : LfO w' S' lf (fun q => ow ((i', j') :: q)) (Gc i' j') (cs.getD (i' * t.size + j') undef) := (hr i' x0 hx0 j' lf hj0).keep (fun y hy _ => a1 y (hG i' j' y hy).1 (hng y hy)) a3 (fun y hy _ => a2 y hy)
                      have eo : (fun q => ow2 ((i', j') :: q)) = fun q => ow ((i', j') :: q) := by
                        funext q
                        refine a5 _ fun hq => ?_
                        rw [List.cons_prefix_cons] at hq
                        obtain ⟨e1, e2⟩ := Prod.mk.inj hq.1
                        exact q1 ⟨e1.symm, e2.symm⟩
                      rw [eo]
                      refine LfO.wide h4 fun y hy => ?_
                      show if _ then _ else _
                      rw [if_neg q1]; exact hy
                · cases a8
              · cases a8
            | _ => cases e
        · cases e
      · cases e
theorem LfO.rowBlk {w : World} {S G : Nat → Prop} {u : RT} {ys : List u.ty} {ow : Path → Bool} {b o m c : Nat} (h : LfO w S (.list u ys) ow G (.slice (some ⟨b, o, none⟩) m c)) (h0 : ow [] = true) (hne : ys ≠ []) : G b ∧ o = 0 := by
  cases h with
  | shr _ _ _ _ _ h1 => rw [h0] at h1; cases h1
  | nil => exact absurd rfl hne
  | list _ _ _ _ _ _ _ _ _ _ _ _ hb => exact ⟨hb, rfl⟩
theorem hdrs_upd {w : World} {S : Nat → Prop} : ∀ {p : Path} {t : RT} {l : List t.ty} {ow : Path → Bool} {F : Nat → Prop} {h h' : Hdr}, LfO w S (.list t l) ow F h.val → ownsP ow p = true → hdrs w p t l h = some h' → (∀ y, F y → ¬ S y) →
    ∀ (w' : World) (f : (u : RT) → List u.ty → Option (List u.ty)) (ys' : List (sub p t l).1.ty) (l2 : List t.ty) (bt ot : Nat), h'.1 = some ⟨bt, ot, none⟩ → (sub p t l).2 ≠ [] → (∀ y, y ≠ bt → y < w.heap.size → w'.heap[y]? = w.heap[y]?) → (∀ y, S y → y ≠ bt) →
      f (sub p t l).1 (sub p t l).2 = some ys' → updL f p t l = some l2 → (∀ p', hdrs w' p' (sub p t l).1 ys' h' = hdrs w p' (sub p t l).1 (sub p t l).2 h') →
      ∀ p', hdrs w' p' t l2 h = hdrs w p' t l h
  | [], t, l, ow, F, h, h', ho, hp, e, hFS => by
    obtain rfl := Option.some.inj e
    intro w' f ys' l2 bt ot h1 h2 h3 h4 h5 h6 h7 p'
    have h5 : f t l = some ys' := h5
    have h6 : f t l = some l2 := h6
    rw [h5] at h6
    obtain rfl := Option.some.inj h6
    exact h7 p'
  | (i, j) :: p, t, l, ow, F, (A, m, c), h', ho, hp, e, hFS => by
    simp only [ownsP, Bool.and_eq_true] at hp
    cases ho with
    | shr _ _ _ _ _ h0 => rw [hp.1] at h0; cases h0
    | nil _ _ _ _ h0 => simp [hdrs] at e
    | list _ _ _ _ _ b T cs Gc h0 h1 h2 hb hk hs hG hd hr =>
      have ho' : LfO w S (.list t l) ow F (Hdr.val (some ⟨b, 0, none⟩, l.length, c)) := .list t l ow F c b T cs Gc h0 h1 h2 hb hk hs hG hd hr
      simp only [hdrs] at e
      split at e
      · rename_i b' o x hA hx
        obtain ⟨rfl, rfl⟩ : b = b' ∧ 0 = o := by simpa using hA
        split at e
        · rename_i t' l' hl
          have hg : l.getD i t.dflt = x := by rw [List.getD_eq_getElem?_getD, hx]; rfl
          have hn : nthL (t.leaves (l.getD i t.dflt)) j = .list t' l' := by rw [hg]; exact nthL_eq hl
          have hjs := (List.getElem?_eq_some_iff.1 hl).1
          have hi := (List.getElem?_eq_some_iff.1 hx).1
          have hc := hr i x hx j _ hl
          have hcell : w.cell? ⟨b, 0 + i * t.size + j, none⟩ = cs[i * t.size + j]? := by rw [hk.cell, Nat.zero_add]
          have e0 := e
          rw [hcell] at e
          have hgd : cs.getD (i * t.size + j) undef = (cs[i * t.size + j]?).getD undef := by rw [Array.getD_eq_getD_getElem?]
          cases ec : cs[i * t.size + j]? with
          | none => rw [ec] at e; cases e
          | some v =>
            rw [ec] at e
            rw [hgd, ec] at hc
            simp only [Option.getD_some] at hc
            cases v with
            | slice A2 m2 c2 =>
              rw [sub, hn]
              intro w' f ys' l2 bt ot a1 a2 a3 a4 a5 a6 a7 p'
              obtain ⟨G, g1, g2, _⟩ := LfO.focus (p := p) (h := (A2, m2, c2)) hc hp.2 e (fun y hy => hFS y (hG i j y hy).1)
              have hbt : Gc i j bt := by
                obtain ⟨A3, m3, c3⟩ := h'
                simp only at a1
                subst a1
                refine g1 bt (LfO.rowBlk g2 ?_ a2).1
                show (fun q => ow ((i, j) :: q)) (p ++ []) = true
                rw [List.append_nil]
                clear a7 a6 a5 a3 e e0
                have : ∀ (p : Path) (ow : Path → Bool), ownsP ow p = true → ow p = true := by
                  intro p
                  induction p with
                  | nil => exact fun _ h => h
                  | cons e p ih => intro ow h; simp only [ownsP, Bool.and_eq_true] at h; exact ih _ h.2
                exact this p _ hp.2
              have hbne : b ≠ bt := fun e => (hG i j bt hbt).2 e.symm
              simp only [updL] at a6
              rw [hn] at a6
              simp only at a6
              split at a6
              · rename_i l3 hl3
                split at a6
                · rename_i x' hx'
                  obtain rfl := Option.some.inj a6
                  have hlv := RT.build_ok hx'
                  rw [setAt_eq, hg] at hlv
                  have hch := hdrs_upd (p := p) (h := (A2, m2, c2)) hc hp.2 e (fun y hy => hFS y (hG i j y hy).1) w' f ys' l3 bt ot a1 a2 a3 a4 a5 hl3 a7
                  have hcw : ∀ q : Nat, w'.cell? ⟨b, q, none⟩ = w.cell? ⟨b, q, none⟩ := fun q => cell_same (a3 b hbne hk.lt) _ rfl
                  match p' with
                  | [] => rfl
                  | (i', j') :: p'' =>
                    simp only [hdrs]
                    by_cases hi' : i' = i
                    · subst hi'
                      rw [List.getElem?_set_self hi, hx]
                      simp only
                      by_cases hj' : j' = j
                      · subst hj'
                        rw [hlv, List.getElem?_set_self hjs, hl]
                        simp only
                        rw [hcw, hcell, ec]
                        exact hch p''
                      · rw [hlv, List.getElem?_set_ne (fun e => hj' e.symm)]
                        cases el : (t.leaves x)[j']? with
                        | none => rfl
                        | some lf =>
                          cases lf with
                          | list t4 l4 =>
                            simp only
                            have h3 := hr i' x hx j' _ el
                            rw [hcw]
                            have hcell4 : w.cell? ⟨b, 0 + i' * t.size + j', none⟩ = cs[i' * t.size + j']? := by rw [hk.cell, Nat.zero_add]
                            rw [hcell4]
                            have hgd4 : cs.getD (i' * t.size + j') undef = (cs[i' * t.size + j']?).getD undef := by rw [Array.getD_eq_getD_getElem?]
                            rw [hgd4] at h3
                            cases ec4 : cs[i' * t.size + j']? with
                            | none => rfl
                            | some v4 =>
                              rw [ec4] at h3
                              simp only [Option.getD_some] at h3
                              cases v4 with
                              | slice A4 m4 c4 =>
                                exact hdrs_keep (h := (A4, m4, c4)) (fun y hy hlt => a3 y (fun e => by
                                  rcases hy with hy | hy
                                  · rw [e] at hy; exact hj' (hd i' j' i' j bt hy hbt).2
                                  · exact a4 y hy e) hlt) h3.rd
                              | _ => rfl
                          | _ => rfl
                    · rw [List.getElem?_set_ne (fun e => hi' e.symm)]
                      cases ex : l[i']? with
                      | none => rfl
                      | some x0 =>
                        simp only
                        cases el : (t.leaves x0)[j']? with
                        | none => rfl
                        | some lf =>
                          cases lf with
                          | list t4 l4 =>
                            simp only
                            have h3 := hr i' x0 ex j' _ el
                            rw [hcw]
                            have hcell4 : w.cell? ⟨b, 0 + i' * t.size + j', none⟩ = cs[i' * t.size + j']? := by rw [hk.cell, Nat.zero_add]
                            rw [hcell4]
                            have hgd4 : cs.getD (i' * t.size + j') undef = (cs[i' * t.size + j']?).getD undef := by rw [Array.getD_eq_getD_getElem?]
                            rw [hgd4] at h3
                            cases ec4 : cs[i' * t.size + j']? with
                            | none => rfl
                            | some v4 =>
                              rw [ec4] at h3
                              simp only [Option.getD_some] at h3
                              cases v4 with
                              | slice A4 m4 c4 =>
                                exact hdrs_keep (h := (A4, m4, c4)) (fun y hy hlt => a3 y (fun e => by
                                  rcases hy with hy | hy
                                  · rw [e] at hy; exact hi' (hd i' j' i j bt hy hbt).1
                                  · exact a4 y hy e) hlt) h3.rd
                              | _ => rfl
                          | _ => rfl
                · cases a6
              · cases a6
            | _ => cases e
        · cases e
      · cases e
theorem hdrs_row {w w' : World} {S G : Nat → Prop} {u : RT} {ys : List u.ty} {ow : Path → Bool} {h : Hdr} (ho : LfO w S (.list u ys) ow G h.val) (h0 : ow [] = true) {idx k : Nat} (hidx : idx < ys.length) {us : List Value} {nl : List Leaf} {y' : u.ty} (hlen : us.length = nl.length) (hk : k + nl.length ≤ u.size)
    (hy : u.leaves y' = splice (u.leaves (ys.getD idx u.dflt)) k nl) (hflat : ∀ lf ∈ nl, lf.elem = none) {b : Nat} {cs : Array Value} {T : TypeId} (hA : h.1 = some ⟨b, 0, none⟩) (hb : Blk w b T cs) (hroom : idx * u.size + k + us.length ≤ cs.size)
    (hb' : Blk w' b T (splice cs.toList (idx * u.size + k) us).toArray) (hkp : ∀ y, y ≠ b → y < w.heap.size → w'.heap[y]? = w.heap[y]?) (hS : ∀ y, S y → y ≠ b) : ∀ p', hdrs w' p' u (ys.set idx y') h = hdrs w p' u ys h := by
  obtain ⟨A, m, c⟩ := h
  simp only at hA
  subst hA
  intro p'
  match p' with
  | [] => rfl
  | (i, j) :: p'' =>
    cases ho with
    | shr _ _ _ _ _ h1 => rw [h0] at h1; cases h1
    | nil => simp at hidx
    | list _ _ _ _ _ b2 T2 cs2 Gc _ h1 h2 hb2 hbk hs hG hd hr =>
      simp only [hdrs]
      have hroom' : idx * u.size + k + us.length ≤ cs.toList.length := by simpa using hroom
      have hlv : (u.leaves (ys.getD idx u.dflt)).length = u.size := RT.leaves_len _ _
      have hyd : ys[idx]? = some (ys.getD idx u.dflt) := by rw [List.getD_eq_getElem?_getD, List.getElem?_eq_getElem hidx]; rfl
      obtain ⟨rfl, rfl⟩ : T = T2 ∧ cs = cs2 := by
        obtain ⟨_, e1, _⟩ := hb
        obtain ⟨_, e2, _⟩ := hbk
        rw [e1] at e2
        simp only [Option.some.injEq, Obj.cells.injEq] at e2
        exact ⟨e2.2.1, e2.1⟩
      -- the same cell, the same leaf
      have go : ∀ x0, ys[i]? = some x0 → ∀ x1, (ys.set idx y')[i]? = some x1 → (u.leaves x1)[j]? = (u.leaves x0)[j]? → w'.cell? ⟨b, 0 + i * u.size + j, none⟩ = w.cell? ⟨b, 0 + i * u.size + j, none⟩ →
          (match (u.leaves x1)[j]? with
            | some (.list t' l') => (match w'.cell? ⟨b, 0 + i * u.size + j, none⟩ with | some (.slice A m c) => hdrs w' p'' t' l' (A, m, c) | _ => none)
            | _ => none) = (match (u.leaves x0)[j]? with
            | some (.list t' l') => (match w.cell? ⟨b, 0 + i * u.size + j, none⟩ with | some (.slice A m c) => hdrs w p'' t' l' (A, m, c) | _ => none)
            | _ => none) := fun x0 hx0 x1 hx1 e1 e2 => by
        rw [e1, e2]
        cases el : (u.leaves x0)[j]? with
        | none => rfl
        | some lf =>
          cases lf with
          | list t4 l4 =>
            simp only
            have h3 := hr i x0 hx0 j _ el
            have hcell4 : w.cell? ⟨b, 0 + i * u.size + j, none⟩ = cs[i * u.size + j]? := by rw [hbk.cell, Nat.zero_add]
            rw [hcell4]
            have hgd4 : cs.getD (i * u.size + j) undef = (cs[i * u.size + j]?).getD undef := by rw [Array.getD_eq_getD_getElem?]
            rw [hgd4] at h3
            cases ec4 : cs[i * u.size + j]? with
            | none => rfl
            | some v4 =>
              rw [ec4] at h3
              simp only [Option.getD_some] at h3
              cases v4 with
              | slice A4 m4 c4 =>
                exact hdrs_keep (h := (A4, m4, c4)) (fun y hy hlt => hkp y (fun e => by
                  rcases hy with hy | hy
                  · exact (hG i j y hy).2 e
                  · exact hS y hy e) hlt) h3.rd
              | _ => rfl
          | _ => rfl
      have hcs : ∀ q, (q < idx * u.size + k ∨ idx * u.size + k + us.length ≤ q) → w'.cell? ⟨b, q, none⟩ = w.cell? ⟨b, q, none⟩ := fun q hq => by
        rw [hb'.cell, hbk.cell, List.getElem?_toArray, splice_out hroom' hq, Array.getElem?_toList]
      by_cases hi : i = idx
      · subst hi
        rw [List.getElem?_set_self hidx, hyd]
        simp only
        by_cases hj : k ≤ j ∧ j < k + nl.length
        · have e1 : j = k + (j - k) := by omega
          have hq : j - k < nl.length := by omega
          have h5 : (u.leaves y')[j]? = nl[j - k]? := by
            have := splice_in (l := u.leaves (ys.getD i u.dflt)) (m := nl) (k := k) (by rw [hlv]; exact hk) hq
            rw [← e1, ← hy] at this
            exact this
          rw [h5, List.getElem?_eq_getElem hq]
          have h6 := hflat _ (List.getElem_mem hq)
          have h7 : (u.leaves (ys.getD i u.dflt)).map Leaf.elem = (u.leaves y').map Leaf.elem := (leaves_elem u _).trans (leaves_elem u _).symm
          have h8 : ((u.leaves (ys.getD i u.dflt)).map Leaf.elem)[j]? = some none := by
            rw [h7, List.getElem?_map, h5, List.getElem?_eq_getElem hq]
            simp only [Option.map_some, h6]
          rw [List.getElem?_map] at h8
          cases e9 : (u.leaves (ys.getD i u.dflt))[j]? with
          | none => rw [e9] at h8; cases h8
          | some lf9 =>
            rw [e9] at h8
            simp only [Option.map_some, Option.some.injEq] at h8
            generalize nl[j - k]'hq = lf0 at h6
            cases lf9 <;> cases lf0 <;> first | rfl | (simp [Leaf.elem] at h6 h8)
        · have hj' : j < k ∨ k + nl.length ≤ j := by omega
          by_cases hjs : j < u.size
          · refine go _ hyd _ (by rw [List.getElem?_set_self hidx]) (by rw [hy, splice_out (by rw [hlv]; exact hk) hj']) (hcs _ ?_)
            rcases hj' with h | h
            · exact .inl (by omega)
            · exact .inr (by omega)
          · have n1 : (u.leaves y')[j]? = none := List.getElem?_eq_none (by rw [RT.leaves_len]; omega)
            have n2 : (u.leaves (ys.getD i u.dflt))[j]? = none := List.getElem?_eq_none (by rw [RT.leaves_len]; omega)
            rw [n1, n2]
      · rw [List.getElem?_set_ne (fun e => hi e.symm)]
        cases ex : ys[i]? with
        | none => rfl
        | some x0 =>
          simp only
          by_cases hjs : j < u.size
          · refine go x0 ex x0 (by rw [List.getElem?_set_ne (fun e => hi e.symm)]; exact ex) rfl (hcs _ ?_)
            rcases Nat.lt_or_gt_of_ne hi with h | h
            · have : (i + 1) * u.size ≤ idx * u.size := Nat.mul_le_mul_right _ h
              rw [Nat.succ_mul] at this
              exact .inl (by omega)
            · have : (idx + 1) * u.size ≤ i * u.size := Nat.mul_le_mul_right _ h
              rw [Nat.succ_mul] at this
              exact .inr (by omega)
          · have n2 : (u.leaves x0)[j]? = none := List.getElem?_eq_none (by rw [RT.leaves_len]; omega)
            rw [n2]
end Go.Proofs.YtiepllpgifnloaaGreat.Vx
namespace Go.Proofs.YtiepllpgifnloaaGreat.Vx
open Go.RowKit
def owLf (sh : Bool) (t : RT) (j : Nat) : Path → Bool := match sh || shT t j, t.elemAt j with
  | false, some u => owT u
  | _, _ => fun _ => false
inductive RM where
  | own (t : RT)
  | shr (t : RT)
  | no
def RM.ty : RM → Type
  | .own t => t.ty
  | .shr t => t.ty
  | .no => Unit
def Args : List RM → Type
  | [] => Unit
  | t :: ts => t.ty × Args ts
def mkVal (t : RT) (us : List Value) : Value := match t with
  | .st _ => .agg us.toArray
  | _ => us.headD undef
def ValR (w : World) (F : Nat → Prop) (t : RT) (x : t.ty) (v : Value) : Prop := ∃ us, Rd w F t x us ∧ v = mkVal t us
def ValO (w : World) (S F : Nat → Prop) : (m : RM) → m.ty → Value → Prop
  | .own t, x, v => ∃ us, Own w S t x (owLf false t) F us ∧ v = mkVal t us
  | .shr t, x, v => ∃ us, Own w S t x (owLf true t) F us ∧ v = mkVal t us
  | .no, _, _ => True
def ValsO (w : World) (S : Nat → Prop) : (F : Nat → Prop) → (ts : List RM) → Args ts → List Value → Prop
  | _, [], _, vs => vs = []
  | F, t :: ts, x, vs => ∃ v vs' G1 G2, vs = v :: vs' ∧ (∀ y, G1 y → F y) ∧ (∀ y, G2 y → F y) ∧ (∀ y : Nat, G1 y → G2 y → False) ∧ ValO w S G1 t x.1 v ∧ ValsO w S G2 ts x.2 vs'
def ResO (w : World) (S F : Nat → Prop) : (rs : List RM) → Args rs → Value → Prop
  | [t], y, v => ValO w S F t y.1 v
  | rs, y, v => ∃ vs, v = .tuple vs.toArray ∧ ValsO w S F rs y vs
def HasBody (P : Program) [Fast P] (f : FuncId) : Prop := ∃ fn c, P.funcs[f]? = some fn ∧ (fn.name == "runtime.NumGoroutine") = false ∧ fn.body = some c
def elems {α : Type} (f : List AV → Option α) (sz : Nat) : Nat → List AV → Option (List α)
  | 0, _ => some []
  | n + 1, l => match f (l.take sz), elems f sz n (l.drop sz) with
    | some x, some r => some (x :: r)
    | _, _ => none
def cellsV (f : (t : RT) → AV → Option (List t.ty)) : List Leaf → List AV → Option (List Leaf)
  | [], [] => some []
  | .int k _ :: ls, .lit (.int j n) :: as => match decide (k = j), cellsV f ls as with
    | true, some r => some (.int k n :: r)
    | _, _ => none
  | .bool _ :: ls, .lit (.bool b) :: as => match cellsV f ls as with
    | some r => some (.bool b :: r)
    | none => none
  | .str _ :: ls, .lit (.string s) :: as => match cellsV f ls as with
    | some r => some (.str s :: r)
    | none => none
  | .list t _ :: ls, a :: as => match f t a, cellsV f ls as with
    | some l, some r => some (.list t l :: r)
    | _, _ => none
  | _, _ => none
def viewL : Nat → St → (t : RT) → AV → Option (List t.ty)
  | 0, _, _, _ => none
  | d + 1, st, t, a => match a with
    | .lit (.slice none 0 0) => some []
    | .emp => some []
    | .emz => some []
    | .lw i k p sz _ => match st.h.get i with
      | some bk => match bk.op, kindOf bk.cells with
        | some 0, .tree _ rt xs kv => match okVer k kv p && Nat.beq sz (sub p rt xs).1.size, RT.same (sub p rt xs).1 t with
          | true, some h => some (castL h (sub p rt xs).2)
          | _, _ => none
        | _, _ => none
      | none => none
    | .lv i k p sz lo n => match st.h.get i with
      | some bk => match bk.op, kindOf bk.cells with
        | some 0, .tree _ rt xs kv => match okVer k kv p && Nat.beq sz (sub p rt xs).1.size, RT.same (sub p rt xs).1 t with
          | true, some h => some (((castL h (sub p rt xs).2).drop lo).take n)
          | _, _ => none
        | _, _ => none
      | none => none
    | .sl b off len _ _ => match getC st.h b with
      | some bk => match Nat.ble len 1000000, elems (fun l => match cellsV (viewL d st) (t.leaves t.dflt) l with | some ls => t.build ls | none => none) t.size len (bk.cells.drop off) with
        | true, some l => some l
        | _, _ => none
      | none => none
    | _ => none
def viewA (st : St) : (t : RT) → AV → Option t.ty
  | .st n, .agg l => match cellsV (viewL 5 st) ((RT.st n).leaves (RT.st n).dflt) l with
    | some ls => RT.build (.st n) ls
    | none => none
  | .st _, _ => none
  | t, a => match cellsV (viewL 5 st) (t.leaves t.dflt) [a] with
    | some ls => t.build ls
    | none => none
theorem LfR.view {w : World} {F : Nat → Prop} {t : RT} {l : List t.ty} {g : Hdr} (h : LfR w F (.list t l) g.val) {lo n : Nat} {v : Value} (hv : LvR g t.size lo n v) : LfR w F (.list t ((l.drop lo).take n)) v := by
  obtain ⟨h1, h2, A', rfl, h3, h4⟩ := hv
  obtain ⟨A, m, c⟩ := g
  have hm := h.lenEq
  simp only at h1 h2 h3 h4 hm
  have hlen : ((l.drop lo).take n).length = n := by rw [List.length_take, List.length_drop]; omega
  have hmax : l.length ≤ maxLen := by obtain ⟨_, _, _, _, h5⟩ := h.slice; exact h5
  have at_ : ∀ (i : Nat) (x : t.ty), ((l.drop lo).take n)[i]? = some x → l[lo + i]? = some x ∧ i < n := fun i x hx => by
    rw [List.getElem?_take] at hx
    split at hx
    · rw [List.getElem?_drop] at hx; exact ⟨hx, by assumption⟩
    · cases hx
  rw [show (Value.slice A' n (c - lo)) = .slice A' ((l.drop lo).take n).length (c - lo) by rw [hlen]]
  refine .list t _ A' (c - lo) (fun i j => (match A with | some ⟨b, o, _⟩ => w.cell? ⟨b, o + (lo + i) * t.size + j, none⟩ | none => none).getD undef) (by rw [hlen]; omega) (by rw [hlen]; omega) (fun hl => ?_) (fun b o hA i x hx j lf hj => ?_) (fun i x hx j lf hj => ?_)
  · have hn : n ≠ 0 := by rintro rfl; exact hl (by simp)
    obtain ⟨b, o, rfl, rfl⟩ := h4 hn
    obtain ⟨b', o', e, hb, hlt, _⟩ := h.elem (i := lo) (x := l[lo]'(by omega)) (List.getElem?_eq_getElem (by omega))
    simp only [Option.some.injEq, Addr.mk.injEq, and_true] at e
    obtain ⟨rfl, rfl⟩ := e
    exact ⟨_, _, rfl, hb, hlt⟩
  · obtain ⟨hx', hi⟩ := at_ i x hx
    obtain ⟨b1, o1, rfl, e2⟩ := h4 (by omega)
    rw [hA] at e2
    simp only [Option.some.injEq, Addr.mk.injEq, and_true] at e2
    obtain ⟨rfl, rfl⟩ := e2
    obtain ⟨b', o', e, hb, hlt, hc⟩ := h.elem hx'
    simp only [Option.some.injEq, Addr.mk.injEq, and_true] at e
    obtain ⟨rfl, rfl⟩ := e
    obtain ⟨v, hv, _⟩ := hc j lf hj
    have e3 : o1 + lo * t.size + i * t.size + j = o1 + (lo + i) * t.size + j := by rw [Nat.add_mul]; omega
    simp only [e3, hv, Option.getD_some]
  · obtain ⟨hx', hi⟩ := at_ i x hx
    obtain ⟨b', o', rfl, hb, hlt, hc⟩ := h.elem hx'
    obtain ⟨v, hv, hr⟩ := hc j lf hj
    simp only [hv, Option.getD_some]
    exact hr
variable {P : Program} [Fast P] {ρ ρ' : Rho} {w w0 w' : World} {K : KS} {st st' : St} {S : Nat → Prop} {F : Nat → Nat → Prop}
theorem LfR.any {F : Nat → Prop} {lf : Leaf} {v : Value} (h : LfR w F lf v) : LfR w (lt w.heap.size) lf v := by
  induction h with
  | int k n => exact .int k n
  | bool b => exact .bool b
  | str s => exact .str s
  | list t l A c vf h1 h2 h3 hc hr ih => exact .list t l A c vf h1 h2 (fun hl => let ⟨b, o, e, _, hlt⟩ := h3 hl; ⟨b, o, e, hlt, hlt⟩) hc ih
theorem cellsV_ok {G : Nat → Prop} {f : (t : RT) → AV → Option (List t.ty)} (hf : ∀ t a v l, f t a = some l → den ρ a v → LfR w G (.list t l) v) : ∀ {ls : List Leaf} {as : List AV} {us : List Value} {r : List Leaf}, cellsV f ls as = some r → dens ρ as us →
    r.length = us.length ∧ ∀ (j : Nat) lf u, r[j]? = some lf → us[j]? = some u → LfR w G lf u
  | [], [], us, r, h, hd => by
    simp only [cellsV, Option.some.injEq] at h
    simp only [dens] at hd
    subst h; subst hd
    exact ⟨rfl, fun j lf u h => by simp at h⟩
  | [], _ :: _, _, _, h, _ => by simp [cellsV] at h
  | l :: ls, [], _, _, h, _ => by cases l <;> simp [cellsV] at h
  | l :: ls, a :: as, us, r, h, hd => by
    simp only [dens] at hd
    obtain ⟨u0, us', rfl, hd1, hd2⟩ := hd
    have fin : ∀ {lf : Leaf} {r' : List Leaf}, LfR w G lf u0 → cellsV f ls as = some r' → r = lf :: r' → r.length = (u0 :: us').length ∧ ∀ (j : Nat) lf u, r[j]? = some lf → (u0 :: us')[j]? = some u → LfR w G lf u := by
      rintro lf r' h1 h2 rfl
      obtain ⟨h3, h4⟩ := cellsV_ok hf h2 hd2
      refine ⟨by simp [h3], fun j lf' u e1 e2 => ?_⟩
      cases j with
      | zero => simp at e1 e2; subst e1; subst e2; exact h1
      | succ j => exact h4 j lf' u (by simpa using e1) (by simpa using e2)
    unfold cellsV at h
    split at h
    · rename_i heq _; cases heq
    · rename_i k n0 ls' j n as' e1 e2
      obtain ⟨rfl, rfl⟩ := List.cons.inj e1
      obtain ⟨rfl, rfl⟩ := List.cons.inj e2
      split at h
      · rename_i r' hk hr
        have hk := of_decide_eq_true hk
        subst hk
        simp only [den] at hd1
        subst hd1
        exact fin (.int _ _) hr (Option.some.inj h).symm
      · cases h
    · rename_i b0 ls' b as' e1 e2
      obtain ⟨rfl, rfl⟩ := List.cons.inj e1
      obtain ⟨rfl, rfl⟩ := List.cons.inj e2
      split at h
      · rename_i r' hr
        simp only [den] at hd1
        subst hd1
        exact fin (.bool _) hr (Option.some.inj h).symm
      · cases h
    · rename_i b0 ls' b as' e1 e2
      obtain ⟨rfl, rfl⟩ := List.cons.inj e1
      obtain ⟨rfl, rfl⟩ := List.cons.inj e2
      split at h
      · rename_i r' hr
        simp only [den] at hd1
        subst hd1
        exact fin (.str _) hr (Option.some.inj h).symm
      · cases h
    · rename_i t l0 ls' a' as' e1 e2
      obtain ⟨rfl, rfl⟩ := List.cons.inj e1
      obtain ⟨rfl, rfl⟩ := List.cons.inj e2
      split at h
      · rename_i l1 r' hl hr
        exact fin (hf _ _ _ _ hl hd1) hr (Option.some.inj h).symm
      · cases h
    · cases h
theorem elems_ok {α : Type} {f : List AV → Option α} {sz : Nat} : ∀ {n : Nat} {l : List AV} {xs : List α}, elems f sz n l = some xs → xs.length = n ∧ ∀ (i : Nat) x, xs[i]? = some x → f ((l.drop (i * sz)).take sz) = some x
  | 0, l, xs, h => by obtain rfl := Option.some.inj h; exact ⟨rfl, fun i x hx => by simp at hx⟩
  | n + 1, l, xs, h => by
    simp only [elems] at h
    split at h
    · rename_i x r h1 h2
      obtain rfl := Option.some.inj h
      obtain ⟨h3, h4⟩ := elems_ok h2
      refine ⟨by simp [h3], fun i y hy => ?_⟩
      cases i with
      | zero => simp at hy; subst hy; simpa using h1
      | succ i =>
        have := h4 i y (by simpa using hy)
        rw [List.drop_drop] at this
        rw [Nat.succ_mul, Nat.add_comm]
        exact this
    · cases h
theorem castL_eq {t u : RT} (h : PLift (t = u)) (l : List t.ty) {w : World} {G : Nat → Prop} {v : Value} (hr : LfR w G (.list t l) v) : LfR w G (.list u (castL h l)) v := by
  obtain ⟨rfl⟩ := h
  exact hr
theorem viewL_ok (hs : SimF K w0 ρ S F st w) : ∀ (d : Nat) {t : RT} {a : AV} {v : Value} {l : List t.ty}, viewL d st t a = some l → den ρ a v → LfR w (lt w.heap.size) (.list t l) v
  | 0, _, _, _, _, h, _ => nomatch h
  | d + 1, t, a, v, l, h, hd => by
    have nil_ : ∀ A c, LfR w (lt w.heap.size) (.list t []) (.slice A 0 c) := fun A c => .list t [] A c (fun _ _ => undef) (Nat.zero_le _) (by simp [maxLen]) (fun h => absurd rfl h) (fun _ _ _ i x hx => by simp at hx) (fun i x hx => by simp at hx)
    unfold viewL at h
    split at h
    · obtain rfl := Option.some.inj h
      simp only [den] at hd
      subst hd
      exact nil_ _ _
    · obtain rfl := Option.some.inj h
      simp only [den] at hd
      obtain ⟨A, c, rfl⟩ := hd
      exact nil_ _ _
    · obtain rfl := Option.some.inj h
      simp only [den] at hd
      obtain ⟨A, rfl⟩ := hd
      exact nil_ _ _
    · rename_i i k p sz n
      simp only [den] at hd
      obtain ⟨g, hg, hlv, hgn⟩ := hd
      split at h
      · rename_i bk hb
        split at h
        · rename_i own rt xs kv hop hkd
          split at h
          · rename_i hh hver hsame
            simp only [Bool.and_eq_true] at hver
            have hsz := Nat.eq_of_beq_eq_true hver.2
            subst hsz
            obtain rfl := Option.some.inj h
            obtain ⟨x, c, _, ht, hhd, _⟩ := Sim.at_ hs hb hop hkd hver.1 hg
            have h0 := sub_rd ht.rd hhd
            have h1 := h0.view hlv
            rw [List.drop_zero, ← hgn, h0.lenEq, List.take_length] at h1
            obtain ⟨e⟩ := hh
            subst e
            exact h1.any
          · cases h
        · cases h
      · cases h
    · rename_i i k p sz lo n
      simp only [den] at hd
      obtain ⟨g, hg, hlv⟩ := hd
      split at h
      · rename_i bk hb
        split at h
        · rename_i own rt xs kv hop hkd
          split at h
          · rename_i hh hver hsame
            simp only [Bool.and_eq_true] at hver
            have hsz := Nat.eq_of_beq_eq_true hver.2
            subst hsz
            obtain rfl := Option.some.inj h
            obtain ⟨x, c, _, ht, hhd, _⟩ := Sim.at_ hs hb hop hkd hver.1 hg
            have h1 := (sub_rd ht.rd hhd).view hlv
            obtain ⟨e⟩ := hh
            subst e
            exact h1.any
          · cases h
        · cases h
      · cases h
    · rename_i b off len cap op
      simp only [den] at hd
      obtain ⟨x, c, hx, rfl, _, hlen⟩ := hd
      split at h
      · rename_i bk hb
        split at h
        · rename_i l' hle hel
          obtain rfl := Option.some.inj h
          obtain ⟨hl1, hl2⟩ := elems_ok hel
          obtain ⟨x', c', hx', _, hbk, _⟩ := hs.blkC hb
          rw [hx] at hx'
          obtain ⟨rfl, rfl⟩ := Prod.mk.inj (Option.some.inj hx')
          have hlt := hbk.lt
          obtain ⟨vs, rest, b1, b2, b3, b4, b5⟩ := hbk
          have hle : len ≤ 1000000 := Nat.le_of_ble_eq_true hle
          have hlv := dens_length b1
          -- the cells of an element
          have el : ∀ (i : Nat) (y : t.ty), l'[i]? = some y → ∀ (j : Nat) lf, (t.leaves y)[j]? = some lf → ∃ u, w.cell? ⟨x, off + i * t.size + j, none⟩ = some u ∧ LfR w (lt w.heap.size) lf u := fun i y hy j lf hj => by
            have h1 := hl2 i y hy
            split at h1
            · rename_i ls hls
              have hleaf := RT.build_ok h1
              have hdd := dens_take t.size (dens_drop (i * t.size) (dens_drop off b1))
              obtain ⟨h2, h3⟩ := cellsV_ok (w := w) (G := lt w.heap.size) (fun t a v l h hd => viewL_ok hs d h hd) hls hdd
              rw [← hleaf] at h2 h3
              have hjl := (List.getElem?_eq_some_iff.1 hj).1
              have hju : j < (((vs.drop off).drop (i * t.size)).take t.size).length := by rw [← h2]; exact hjl
              refine ⟨_, ?_, h3 j lf _ hj (List.getElem?_eq_getElem hju)⟩
              have hjt : j < t.size := by rw [List.length_take] at hju; omega
              rw [b2.cell, List.getElem?_toArray]
              have e : (((vs.drop off).drop (i * t.size)).take t.size)[j]? = vs[off + i * t.size + j]? := by
                rw [List.getElem?_take, if_pos hjt, List.getElem?_drop, List.getElem?_drop]
                congr 1; omega
              rw [← List.getElem?_eq_getElem hju, e]
              rw [List.getElem?_append_left]
              have : vs[off + i * t.size + j]?.isSome := by rw [← e, List.getElem?_eq_getElem hju]; rfl
              rcases Nat.lt_or_ge (off + i * t.size + j) vs.length with h | h
              · exact h
              · rw [List.getElem?_eq_none h] at this; cases this
            · cases h1
          subst hl1
          refine .list t l' _ _ (fun i j => (w.cell? ⟨x, off + i * t.size + j, none⟩).getD undef) hlen (by simp only [maxLen]; omega) (fun _ => ⟨x, off, rfl, hlt, hlt⟩) (fun b' o' hA i y hy j lf hj => ?_) (fun i y hy j lf hj => ?_)
          · simp only [Option.some.injEq, Addr.mk.injEq, and_true] at hA
            obtain ⟨rfl, rfl⟩ := hA
            obtain ⟨u, hu, _⟩ := el i y hy j lf hj
            rw [hu]; rfl
          · obtain ⟨u, hu, hr⟩ := el i y hy j lf hj
            rw [hu]; exact hr
        · cases h
      · cases h
    · cases h
def viewE (st : St) (t : RT) : AV → Option t.ty
  | .ep i k p sz idx cell => match Nat.beq cell 0, viewL 1 st t (.lw i k p sz 0) with
    | true, some l => some (l.getD idx t.dflt)
    | _, _ => none
  | _ => none
theorem viewE_ok (hs : SimF K w0 ρ S F st w) {t : RT} {a : AV} {v : Value} {x : t.ty} (h : viewE st t a = some x) (hd : den ρ a v) : ∃ b o, v = .pointer (some ⟨b, o, none⟩) ∧ LfR w (lt w.heap.size) (.list t [x]) (.slice (some ⟨b, o, none⟩) 1 1) := by
  cases a with
  | ep i k p sz idx cell =>
    simp only [viewE] at h
    split at h
    · rename_i l hcell hl
      obtain rfl := Option.some.inj h
      have hcell := Nat.eq_of_beq_eq_true hcell
      subst hcell
      simp only [den] at hd
      obtain ⟨g, hg, hidx, b, o, hA, rfl⟩ := hd
      unfold viewL at hl
      simp only at hl
      split at hl
      · rename_i bk hb
        split at hl
        · rename_i own rt xs kv hop hkd
          split at hl
          · rename_i hh hver hsame
            simp only [Bool.and_eq_true] at hver
            have hsz := Nat.eq_of_beq_eq_true hver.2
            subst hsz
            obtain rfl := Option.some.inj hl
            obtain ⟨x, c, _, ht, hhd, _⟩ := Sim.at_ hs hb hop hkd hver.1 hg
            have h0 := sub_rd ht.rd hhd
            have hlen := h0.lenEq
            have hcap : g.2.1 ≤ g.2.2 := by
              obtain ⟨A1, c1, e1, h1, _⟩ := h0.slice
              obtain ⟨A, m, c⟩ := g
              simp only [Hdr.val, Value.slice.injEq] at e1
              obtain ⟨_, e2, e3⟩ := e1
              simp only
              omega
            have h1 := h0.view (lo := idx) (n := 1) (v := .slice (some ⟨b, o + idx * (sub p rt xs).1.size, none⟩) 1 (g.2.2 - idx)) ⟨by omega, hcap, _, rfl, fun e => by rw [hA, e, Nat.zero_mul, Nat.add_zero], fun _ => ⟨b, o, hA, rfl⟩⟩
            obtain ⟨e⟩ := hh
            subst e
            refine ⟨b, _, rfl, ?_⟩
            have hi : idx < (sub p rt xs).2.length := by omega
            have e1 : ((sub p rt xs).2.drop idx).take 1 = [(sub p rt xs).2.getD idx (sub p rt xs).1.dflt] := by
              rw [List.take_one, List.head?_drop, List.getElem?_eq_getElem hi, List.getD_eq_getElem?_getD, List.getElem?_eq_getElem hi]
              rfl
            rw [e1] at h1
            have h2 := h1.any
            cases h2 with
            | list _ _ _ _ vf a1 a2 a3 a4 a5 => exact .list _ _ _ 1 vf (Nat.le_refl _) a2 a3 a4 a5
          · cases hl
        · cases hl
      · cases hl
    · cases h
  | _ => cases h
theorem viewC_ok (hs : SimF K w0 ρ S F st w) {t : RT} {as : List AV} {us : List Value} {ls : List Leaf} {x : t.ty} (h : cellsV (viewL 5 st) (t.leaves t.dflt) as = some ls) (hb : t.build ls = some x) (hd : dens ρ as us) : Rd w (lt w.heap.size) t x us := by
  obtain ⟨h1, h2⟩ := cellsV_ok (w := w) (G := lt w.heap.size) (fun t a v l h hd => viewL_ok hs 5 h hd) h hd
  have h3 := RT.build_ok hb
  rw [← h3] at h1 h2
  refine ⟨by rw [← h1, RT.leaves_len], fun j lf hj => ?_⟩
  have hlt := (List.getElem?_eq_some_iff.1 hj).1
  exact ⟨us[j]'(by omega), List.getElem?_eq_getElem _, h2 j lf _ hj (List.getElem?_eq_getElem _)⟩
theorem viewA_ok (hs : SimF K w0 ρ S F st w) {t : RT} {a : AV} {v : Value} {x : t.ty} (h : viewA st t a = some x) (hd : den ρ a v) : ValR w (lt w.heap.size) t x v := by
  have one : ∀ {t : RT} {x : t.ty}, (match cellsV (viewL 5 st) (t.leaves t.dflt) [a] with | some ls => t.build ls | none => none) = some x → (∀ us, mkVal t us = us.headD undef) → ValR w (lt w.heap.size) t x v := fun {t x} h hm => by
    split at h
    · rename_i ls hls
      exact ⟨[v], viewC_ok hs hls h (by simp only [dens]; exact ⟨v, [], rfl, hd, rfl⟩), by rw [hm]; rfl⟩
    · cases h
  cases t with
  | st n =>
    cases a with
    | agg l =>
      simp only [viewA] at h
      split at h
      · rename_i ls hls
        simp only [den] at hd
        obtain ⟨us, rfl, hd⟩ := hd
        exact ⟨us, viewC_ok hs hls h hd, rfl⟩
      · cases h
    | _ => cases h
  | int k => exact one (by simpa only [viewA] using h) fun _ => rfl
  | bool => exact one (by simpa only [viewA] using h) fun _ => rfl
  | str => exact one (by simpa only [viewA] using h) fun _ => rfl
  | list t => exact one (by simpa only [viewA] using h) fun _ => rfl
end Go.Proofs.YtiepllpgifnloaaGreat.Vx
namespace Go.Proofs.YtiepllpgifnloaaGreat.Vx
open Go.RowKit
variable {P : Program} [Fast P] {ρ ρ' : Rho} {w w0 w' : World} {K : KS} {st st' : St} {S : Nat → Prop} {F : Nat → Nat → Prop}
def memN (i : Nat) : List Nat → Bool
  | [] => false
  | j :: l => match Nat.beq i j with
    | true => true
    | false => memN i l
theorem memN_iff {i : Nat} : ∀ {l : List Nat}, memN i l = true ↔ i ∈ l
  | [] => by simp [memN]
  | j :: l => by
    simp only [memN]
    by_cases h : i = j
    · subst h; simp
    · rw [beq_ff h]; simp [h, memN_iff (l := l)]
def apartN : List Nat → Bool
  | [] => true
  | i :: l => match memN i l with
    | true => false
    | false => apartN l
theorem apartN_ok : ∀ {l : List Nat}, apartN l = true → l.Nodup
  | [], _ => List.nodup_nil
  | i :: l, h => by
    simp only [apartN] at h
    split at h
    · cases h
    · rename_i hm
      rw [List.nodup_cons]
      refine ⟨fun hi => ?_, apartN_ok h⟩
      rw [memN_iff.2 hi] at hm
      cases hm
def Gn (F : Nat → Nat → Prop) (st : St) (l : List Nat) (y : Nat) : Prop := ∃ i, i ∈ l ∧ st.wr i = true ∧ (∃ bk, st.h.get i = some bk) ∧ F i y
theorem Gn.mono {l m : List Nat} (h : ∀ i, i ∈ l → i ∈ m) {y : Nat} : Gn F st l y → Gn F st m y := fun ⟨i, h1, h2⟩ => ⟨i, h i h1, h2⟩
theorem Gn.apart (hs : SimF K w0 ρ S F st w) {l m : List Nat} (h : ∀ i, i ∈ l → i ∈ m → False) {y : Nat} (h1 : Gn F st l y) (h2 : Gn F st m y) : False := by
  obtain ⟨i, a1, a2, ⟨bi, a3⟩, a4⟩ := h1
  obtain ⟨j, b1, b2, ⟨bj, b3⟩, b4⟩ := h2
  by_cases hij : i = j
  · subst hij; exact h i a1 b1
  · exact hs.sep i j bi bj y a3 b3 hij (.inl a2) a4 b4
theorem Gn.lt (hs : SimF K w0 ρ S F st w) {l : List Nat} {y : Nat} (h : Gn F st l y) : y < w.heap.size ∧ ¬ K.k y ∧ ¬ S y := by
  obtain ⟨i, _, h2, ⟨bk, h3⟩, h4⟩ := h
  obtain ⟨x, c, _, hb, hn⟩ := hs.blk i bk h3
  exact ⟨hb.lt y h4, hn h2 y h4, hs.sd i bk y h3 h2 h4⟩
def dropN (h : T Bk) : List Nat → T Bk
  | [] => h
  | b :: l => (dropN h l).put b none
theorem dropN_get {h : T Bk} : ∀ {l : List Nat} {k : Nat} {bk : Bk}, (dropN h l).get k = some bk → h.get k = some bk ∧ k ∉ l
  | [], k, bk, e => ⟨e, by simp⟩
  | b :: l, k, bk, e => by
    simp only [dropN, T.get_put] at e
    split at e
    · cases e
    · rename_i hk
      obtain ⟨h1, h2⟩ := dropN_get e
      exact ⟨h1, by simp [hk, h2]⟩
theorem dropN_keep {h : T Bk} : ∀ {l : List Nat} {k : Nat}, k ∉ l → (dropN h l).get k = h.get k
  | [], k, _ => rfl
  | b :: l, k, hk => by
    simp only [List.mem_cons, not_or] at hk
    simp only [dropN, T.get_put, if_neg hk.1]
    exact dropN_keep hk.2
theorem SimF.give (h : SimF K w0 ρ S F st w) (own rel : List Nat) : SimF K w0 ρ (fun y => S y ∨ Gn F st rel y) F ⟨dropN st.h (own ++ rel), st.n, st.wr⟩ w := by
  have h1 : SimF K w0 ρ S F ⟨dropN st.h (own ++ rel), st.n, st.wr⟩ w := h.less _ (fun i bk hi => (dropN_get hi).1) (Nat.le_refl _) (fun _ h => h)
  refine h1.share _ (fun y hy => .inl hy) (fun y hy => hy.imp id fun hy => ⟨(hy.lt h).2.1, (hy.lt h).1⟩) fun i bk y hi hw hy hy' => ?_
  obtain ⟨h2, h3⟩ := dropN_get hi
  rcases hy' with hy' | ⟨j, j1, j2, ⟨bj, j3⟩, j4⟩
  · exact h1.sd i bk y hi hw hy hy'
  · refine h.sep i j bk bj y h2 j3 (fun e => h3 ?_) (.inl hw) hy j4
    rw [e]; simp [j1]
def shAt (st : St) (i k : Nat) (p : Path) : Bool := match st.h.get i with
  | some bk => match bk.op, kindOf bk.cells with
    | some 0, .tree ow rt _ kv => match ow with
      | .none => okVer k kv p
      | .all => !owT rt p && okVer k kv p
      | .fn _ => false
      | .ro => false
    | _, _ => false
  | none => false
def shOk (st : St) : AV → Bool
  | .lit (.slice none 0 0) => true
  | .emp => true
  | .emz => true
  | .lw i k p _ _ => shAt st i k p
  | .lv i k p _ _ _ => shAt st i k p
  | _ => false
theorem nil_rd {F : Nat → Prop} {t : RT} (A : Option Addr) (c : Nat) : LfR w F (.list t []) (.slice A 0 c) := .list t [] A c (fun _ _ => undef) (Nat.zero_le _) (by simp [maxLen]) (fun h => absurd rfl h) (fun _ _ _ i x hx => by simp at hx) (fun i x hx => by simp at hx)
theorem castL_rd {t u : RT} (h : PLift (t = u)) (l : List t.ty) {G : Nat → Prop} {v : Value} (hr : LfR w G (.list t l) v) : LfR w G (.list u (castL h l)) v := castL_eq h l hr
theorem shAt_ok (hs : SimF K w0 ρ S F st w) {i k : Nat} {p : Path} {g : Hdr} {bk : Bk} {ow : Ow} {rt : RT} {xs : List rt.ty} {kv : Nat} (hb : st.h.get i = some bk) (hop : bk.op = some 0) (hkd : kindOf bk.cells = .tree ow rt xs kv) (h : shAt st i k p = true) (hg : hdrOf ρ i k p g) :
    LfR w S (.list (sub p rt xs).1 (sub p rt xs).2) g.val := by
  unfold shAt at h
  rw [hb] at h
  simp only [hop, hkd] at h
  cases ow with
  | none =>
    simp only at h
    obtain ⟨x, c, _, ht, hhd, _⟩ := Sim.at_ hs hb hop hkd h hg
    exact sub_shr (ow := Ow.none.f rt) ht.own rfl hhd
  | all =>
    simp only [Bool.and_eq_true, Bool.not_eq_true'] at h
    obtain ⟨x, c, _, ht, hhd, _⟩ := Sim.at_ hs hb hop hkd h.2 hg
    exact sub_shr (ow := owT rt) ht.own h.1 hhd
  | fn f => cases h
  | ro => cases h
theorem shOk_ok (hs : SimF K w0 ρ S F st w) {d : Nat} {t : RT} {a : AV} {v : Value} {l : List t.ty} (h : viewL d st t a = some l) (hsh : shOk st a = true) (hd : den ρ a v) : LfR w S (.list t l) v := by
  match d, h with
  | 0, h => nomatch h
  | d + 1, h =>
    unfold viewL at h
    split at h
    · obtain rfl := Option.some.inj h
      simp only [den] at hd
      subst hd
      exact nil_rd _ _
    · obtain rfl := Option.some.inj h
      simp only [den] at hd
      obtain ⟨A, c, rfl⟩ := hd
      exact nil_rd _ _
    · obtain rfl := Option.some.inj h
      simp only [den] at hd
      obtain ⟨A, rfl⟩ := hd
      exact nil_rd _ _
    · rename_i i k p sz n
      simp only [den] at hd
      obtain ⟨g, hg, hlv, hgn⟩ := hd
      split at h
      · rename_i bk hb
        split at h
        · rename_i own rt xs kv hop hkd
          split at h
          · rename_i hh hver hsame
            simp only [Bool.and_eq_true] at hver
            have hsz := Nat.eq_of_beq_eq_true hver.2
            subst hsz
            obtain rfl := Option.some.inj h
            have h0 := shAt_ok hs hb hop hkd hsh hg
            have h1 := h0.view hlv
            rw [List.drop_zero, ← hgn, h0.lenEq, List.take_length] at h1
            exact castL_rd hh _ h1
          · cases h
        · cases h
      · cases h
    · rename_i i k p sz lo n
      simp only [den] at hd
      obtain ⟨g, hg, hlv⟩ := hd
      split at h
      · rename_i bk hb
        split at h
        · rename_i own rt xs kv hop hkd
          split at h
          · rename_i hh hver hsame
            simp only [Bool.and_eq_true] at hver
            have hsz := Nat.eq_of_beq_eq_true hver.2
            subst hsz
            obtain rfl := Option.some.inj h
            have h1 := (shAt_ok hs hb hop hkd hsh hg).view hlv
            obtain ⟨e⟩ := hh
            subst e
            exact h1
          · cases h
        · cases h
      · cases h
    · cases hsh
    · cases h
def isFlat (l : List Leaf) : Bool := match l with
  | [] => true
  | .list .. :: _ => false
  | _ :: l => isFlat l
theorem isFlat_ok : ∀ {l : List Leaf}, isFlat l = true → ∀ lf, lf ∈ l → lf.elem = none
  | [], _, _, h => nomatch h
  | .list .. :: l, h, _, _ => by simp [isFlat] at h
  | .int .. :: l, h, x, hx => by
    rcases List.mem_cons.1 hx with e | hx
    · rw [e]; rfl
    · exact isFlat_ok (l := l) h x hx
  | .bool _ :: l, h, x, hx => by
    rcases List.mem_cons.1 hx with e | hx
    · rw [e]; rfl
    · exact isFlat_ok (l := l) h x hx
  | .str _ :: l, h, x, hx => by
    rcases List.mem_cons.1 hx with e | hx
    · rw [e]; rfl
    · exact isFlat_ok (l := l) h x hx
def ownTree (st : St) (i : Nat) (t : RT) : Option (List Nat) := match st.wr i, st.h.get i with
  | true, some bk => match bk.op, kindOf bk.cells with
    | some 0, .tree .all rt _ _ => match RT.same rt t with
      | some _ => some [i]
      | none => none
    | _, _ => none
  | _, _ => none
def ownName (st : St) (t : RT) : AV → Option (List Nat)
  | .lit (.slice none 0 0) => some []
  | .emz => some []
  | .lw i _ p _ _ => match p with
    | [] => ownTree st i t
    | _ => none
  | .lv i _ p _ lo _ => match p, lo with
    | [], 0 => ownTree st i t
    | _, _ => none
  | .sl b off _ cap op => match st.wr b, getC st.h b with
    | true, some bk => match isFlat (t.leaves t.dflt) && Nat.beq off 0, op, bk.op with
      | true, true, some s => match Nat.beq s t.size && Nat.beq cap 0 with
        | true => some [b]
        | false => none
      | true, false, none => match Nat.beq (Nat.mul cap t.size) bk.cells.length with
        | true => some [b]
        | false => none
      | _, _, _ => none
    | _, _ => none
  | _ => none
theorem flat_own {G F' : Nat → Prop} {lf : Leaf} {v : Value} {ow : Path → Bool} (h : LfR w G lf v) (hf : lf.elem = none) : LfO w S lf ow F' v := by
  cases h with
  | int k n => exact .int k n _ _
  | bool b => exact .bool b _ _
  | str s => exact .str s _ _
  | list => cases hf
theorem owT_nil (t : RT) : owT t [] = true := by cases t <;> rfl
theorem flat_leaf {t : RT} (hf : isFlat (t.leaves t.dflt) = true) {x : t.ty} {j : Nat} {lf : Leaf} (h : (t.leaves x)[j]? = some lf) : lf.elem = none := by
  have h1 : ((t.leaves x).map Leaf.elem)[j]? = some lf.elem := by rw [List.getElem?_map, h]; rfl
  rw [leaves_elem, List.getElem?_map] at h1
  cases e : (t.leaves t.dflt)[j]? with
  | none => rw [e] at h1; cases h1
  | some l0 =>
    rw [e] at h1
    have := isFlat_ok hf l0 (List.mem_of_getElem? e)
    simp only [Option.map_some, this, Option.some.injEq] at h1
    exact h1.symm
theorem ownTree_ok {i : Nat} {t : RT} {is : List Nat} (h : ownTree st i t = some is) : ∃ bk rt xs kv, ∃ hh : rt = t, st.wr i = true ∧ st.h.get i = some bk ∧ bk.op = some 0 ∧ kindOf bk.cells = .tree .all rt xs kv ∧ is = [i] := by
  unfold ownTree at h
  split at h
  · rename_i bk hw hb
    split at h
    · rename_i rt xs kv hop hkd
      split at h
      · rename_i hh _
        exact ⟨bk, rt, xs, kv, hh.down, hw, hb, hop, hkd, (Option.some.inj h).symm⟩
      · cases h
    · cases h
  · cases h
theorem ownName_ok (hs : SimF K w0 ρ S F st w) {d : Nat} {t : RT} {a : AV} {v : Value} {l : List t.ty} {is : List Nat} (h : viewL d st t a = some l) (ho : ownName st t a = some is) (hd : den ρ a v) : LfO w S (.list t l) (owT t) (Gn F st is) v := by
  cases d with
  | zero => cases h
  | succ d =>
    have hrd := viewL_ok hs _ h hd
    unfold viewL at h
    split at h
    · obtain rfl := Option.some.inj h
      simp only [den] at hd
      subst hd
      exact .nil t _ _ none (owT_nil t)
    · cases ho
    · obtain rfl := Option.some.inj h
      simp only [den] at hd
      obtain ⟨A, rfl⟩ := hd
      exact .nil t _ _ A (owT_nil t)
    · rename_i i k p sz n
      simp only [den] at hd
      obtain ⟨g, hg, hlv, hgn⟩ := hd
      simp only [ownName] at ho
      split at ho
      · obtain ⟨bk, rt, xs, kv, e, hw, hb, hop, hkd, rfl⟩ := ownTree_ok ho
        subst e
        rw [hb] at h
        simp only [hop, hkd] at h
        split at h
        · rename_i hh hver hsame
          simp only [Bool.and_eq_true] at hver
          obtain rfl := Option.some.inj h
          obtain ⟨x, c, _, ht, hhd, _⟩ := Sim.at_ hs hb hop hkd hver.1 hg
          obtain rfl : rootH x c = g := Option.some.inj hhd
          obtain ⟨h1, h2, A', rfl, h3, h4⟩ := hlv
          have e1 : A' = c.A := h3 rfl
          subst e1
          have ho : LfO w S (.list rt xs) (owT rt) (F i) (rootH x c).val := ht.own
          have e2 : (rootH x c).val = .slice c.A n ((rootH x c).2.2 - 0) := by rw [← hgn]; rfl
          rw [e2] at ho
          obtain ⟨e⟩ := hh
          exact LfO.wide ho fun y hy => ⟨i, by simp, hw, ⟨bk, hb⟩, hy⟩
        · cases h
      · cases ho
    · rename_i i k p sz lo n
      simp only [den] at hd
      obtain ⟨g, hg, hlv⟩ := hd
      simp only [ownName] at ho
      split at ho
      · obtain ⟨bk, rt, xs, kv, e, hw, hb, hop, hkd, rfl⟩ := ownTree_ok ho
        subst e
        rw [hb] at h
        simp only [hop, hkd] at h
        split at h
        · rename_i hh hver hsame
          simp only [Bool.and_eq_true] at hver
          obtain rfl := Option.some.inj h
          obtain ⟨x, c, _, ht, hhd, _⟩ := Sim.at_ hs hb hop hkd hver.1 hg
          obtain rfl : rootH x c = g := Option.some.inj hhd
          obtain ⟨h1, h2, A', rfl, h3, h4⟩ := hlv
          have e1 : A' = c.A := h3 rfl
          subst e1
          have hn : n ≤ xs.length := by have := ht.len; have h1 : 0 + n ≤ c.m := h1; omega
          have ho : LfO w S (.list rt xs) (owT rt) (F i) (.slice c.A c.m c.n) := ht.own
          have := ho.take (owT_nil rt) hn
          obtain ⟨e⟩ := hh
          exact LfO.wide this fun y hy => ⟨i, by simp, hw, ⟨bk, hb⟩, hy⟩
        · cases h
      · cases ho
    · rename_i b off len cap op
      simp only [den] at hd
      obtain ⟨x, c, hx, rfl, hoc, hle⟩ := hd
      simp only [ownName] at ho
      split at ho
      · rename_i bk hw hb
        obtain ⟨x', c', hx', hF, ⟨vs, rest, b1, b2, b3, b4, b5⟩, _⟩ := hs.blkC hb
        rw [hx] at hx'
        obtain ⟨rfl, rfl⟩ := Prod.mk.inj (Option.some.inj hx')
        have fin : ∀ {q : Nat}, off = 0 → isFlat (t.leaves t.dflt) = true → (vs ++ rest).length = q * t.size → (if op = true then c.n - cap else cap) = q → LfO w S (.list t l) (owT t) (Gn F st [b]) (.slice (some ⟨x, off, none⟩) len (if op = true then c.n - cap else cap)) := by
          rintro q rfl hfl hsz hq
          rw [hq] at hrd ⊢
          obtain ⟨A, c3, e, h1, h2⟩ := hrd.slice
          simp only [Value.slice.injEq] at e
          obtain ⟨rfl, rfl, rfl⟩ := e
          refine .list t l _ _ q x bk.ty (vs ++ rest).toArray (fun _ _ _ => False) (owT_nil t) h1 h2 ⟨b, by simp, hw, ⟨bk, (getC_some hb).1⟩, (hF x).2 rfl⟩ b2 (by simpa using hsz) (fun _ _ _ h => h.elim) (fun _ _ _ _ _ h => h.elim) fun i y hy j lf hj => ?_
          obtain ⟨b0, o0, e, _, _, hc⟩ := hrd.elem hy
          simp only [Option.some.injEq, Addr.mk.injEq, and_true] at e
          obtain ⟨rfl, rfl⟩ := e
          obtain ⟨u, hu, hr⟩ := hc j lf hj
          rw [b2.cell, Nat.zero_add] at hu
          rw [Array.getD_eq_getD_getElem?, hu]
          exact flat_own hr (flat_leaf hfl hj)
        split at ho
        · rename_i s hbf hop
          simp only [Bool.and_eq_true] at hbf
          split at ho
          · rename_i hbb
            simp only [Bool.and_eq_true] at hbb
            obtain rfl := Option.some.inj ho
            have e1 := Nat.eq_of_beq_eq_true hbb.1
            have e2 := Nat.eq_of_beq_eq_true hbb.2
            subst e1; subst e2
            exact fin (Nat.eq_of_beq_eq_true hbf.2) hbf.1 (b5 _ hop) (by simp)
          · cases ho
        · rename_i hbf hop
          simp only [Bool.and_eq_true] at hbf
          split at ho
          · rename_i hbb
            obtain rfl := Option.some.inj ho
            have e1 := Nat.eq_of_beq_eq_true hbb
            refine fin (Nat.eq_of_beq_eq_true hbf.2) hbf.1 ?_ (by simp; rfl)
            rw [b4 hop, List.append_nil, dens_length b1]
            exact e1.symm
          · cases ho
        · cases ho
      · cases ho
    · cases h
def owLeaf (sh : Bool) (lf : Leaf) : Path → Bool := match sh, lf.elem with
  | false, some u => owT u
  | _, _ => fun _ => false
structure Tk where
  lf : Leaf
  own : List Nat
  rel : List Nat
def takeLf (st : St) (sh : Bool) : Leaf → AV → Option Tk
  | .int k _, .lit (.int j n) => match decide (k = j) with
    | true => some ⟨.int k n, [], []⟩
    | false => none
  | .bool _, .lit (.bool b) => some ⟨.bool b, [], []⟩
  | .str _, .lit (.string s) => some ⟨.str s, [], []⟩
  | .list t _, a => match viewL 5 st t a with
    | some l => match sh with
      | true => match shOk st a with
        | true => some ⟨.list t l, [], []⟩
        | false => match ownName st t a with
          | some is => some ⟨.list t l, [], is⟩
          | none => none
      | false => match ownName st t a with
        | some is => some ⟨.list t l, is, []⟩
        | none => none
    | none => none
  | _, _ => none
theorem LfO.more {w : World} {S S' F : Nat → Prop} {lf : Leaf} {ow : Path → Bool} {v : Value} (h : LfO w S lf ow F v) (hS : ∀ y, S y → S' y) : LfO w S' lf ow F v := h.keep (fun _ _ _ => rfl) hS (fun _ _ _ => rfl)
theorem takeLf_ok (hs : SimF K w0 ρ S F st w) {sh : Bool} {lf0 : Leaf} {a : AV} {v : Value} {k : Tk} (h : takeLf st sh lf0 a = some k) (hd : den ρ a v) : LfO w (fun y => S y ∨ Gn F st k.rel y) k.lf (owLeaf sh k.lf) (Gn F st k.own) v ∧ k.lf.elem = lf0.elem := by
  unfold takeLf at h
  split at h
  · split at h
    · rename_i hk
      have hk := of_decide_eq_true hk
      subst hk
      obtain rfl := Option.some.inj h
      simp only [den] at hd
      subst hd
      exact ⟨.int _ _ _ _, rfl⟩
    · cases h
  · obtain rfl := Option.some.inj h
    simp only [den] at hd
    subst hd
    exact ⟨.bool _ _ _, rfl⟩
  · obtain rfl := Option.some.inj h
    simp only [den] at hd
    subst hd
    exact ⟨.str _ _ _, rfl⟩
  · rename_i t l0 a'
    split at h
    · rename_i l hl
      split at h
      · split at h
        · rename_i hsh
          obtain rfl := Option.some.inj h
          exact ⟨.shr _ _ _ _ _ rfl ((shOk_ok hs hl hsh hd).keep (fun y hy => .inl hy) fun _ _ _ => rfl), rfl⟩
        · split at h
          · rename_i is hn
            obtain rfl := Option.some.inj h
            refine ⟨((ownName_ok hs hl hn hd).release _ rfl).more fun y hy => hy.symm, rfl⟩
          · cases h
      · split at h
        · rename_i is hn
          obtain rfl := Option.some.inj h
          exact ⟨(ownName_ok hs hl hn hd).more fun y hy => .inl hy, rfl⟩
        · cases h
    · cases h
  · cases h
def takeRow (st : St) (sh : Bool) (t : RT) : Nat → List Leaf → List AV → Option (List Tk)
  | _, [], [] => some []
  | j, lf :: ls, a :: as => match takeLf st (sh || shT t j) lf a, takeRow st sh t (Nat.succ j) ls as with
    | some k, some ks => some (k :: ks)
    | _, _ => none
  | _, _, _ => none
def lfsOf : List Tk → List Leaf
  | [] => []
  | k :: ks => k.lf :: lfsOf ks
def ownsOf : List Tk → List Nat
  | [] => []
  | k :: ks => k.own ++ ownsOf ks
def relsOf : List Tk → List Nat
  | [] => []
  | k :: ks => k.rel ++ relsOf ks
theorem lfsOf_len : ∀ {ks : List Tk}, (lfsOf ks).length = ks.length
  | [] => rfl
  | _ :: ks => by simp [lfsOf, lfsOf_len (ks := ks)]
theorem lfsOf_get : ∀ {ks : List Tk} {q : Nat}, (lfsOf ks)[q]? = (ks[q]?).map (·.lf)
  | [], q => by simp [lfsOf]
  | k :: ks, 0 => rfl
  | k :: ks, q + 1 => by simp [lfsOf, lfsOf_get (ks := ks)]
theorem ownsOf_mem : ∀ {ks : List Tk} {q : Nat} {k : Tk} {i : Nat}, ks[q]? = some k → i ∈ k.own → i ∈ ownsOf ks
  | [], q, k, i, h, _ => by simp at h
  | k0 :: ks, 0, k, i, h, hi => by simp at h; subst h; simp [ownsOf, hi]
  | k0 :: ks, q + 1, k, i, h, hi => by simp only [ownsOf, List.mem_append]; exact .inr (ownsOf_mem (by simpa using h) hi)
theorem relsOf_mem : ∀ {ks : List Tk} {q : Nat} {k : Tk} {i : Nat}, ks[q]? = some k → i ∈ k.rel → i ∈ relsOf ks
  | [], q, k, i, h, _ => by simp at h
  | k0 :: ks, 0, k, i, h, hi => by simp at h; subst h; simp [relsOf, hi]
  | k0 :: ks, q + 1, k, i, h, hi => by simp only [relsOf, List.mem_append]; exact .inr (relsOf_mem (by simpa using h) hi)
theorem owns_apart : ∀ {ks : List Tk} {q q' : Nat} {k k' : Tk} {i : Nat}, (ownsOf ks).Nodup → ks[q]? = some k → ks[q']? = some k' → i ∈ k.own → i ∈ k'.own → q = q'
  | [], q, _, k, _, i, _, h, _, _, _ => by simp at h
  | k0 :: ks, 0, 0, k, k', i, _, _, _, _, _ => rfl
  | k0 :: ks, 0, q + 1, k, k', i, hn, h, h', hi, hi' => by
    simp at h; subst h
    have := List.nodup_append.1 hn
    exact absurd rfl (this.2.2 i hi i (ownsOf_mem (by simpa using h') hi'))
  | k0 :: ks, q + 1, 0, k, k', i, hn, h, h', hi, hi' => by
    simp at h'; subst h'
    have := List.nodup_append.1 hn
    exact absurd rfl (this.2.2 i hi' i (ownsOf_mem (by simpa using h) hi))
  | k0 :: ks, q + 1, q' + 1, k, k', i, hn, h, h', hi, hi' => by
    have := List.nodup_append.1 hn
    exact congrArg Nat.succ (owns_apart (q := q) (q' := q') this.2.1 (by simpa using h) (by simpa using h') hi hi')
theorem takeRow_ok (hs : SimF K w0 ρ S F st w) {sh : Bool} {t : RT} : ∀ {j : Nat} {ls : List Leaf} {as : List AV} {us : List Value} {ks : List Tk}, takeRow st sh t j ls as = some ks → dens ρ as us →
    ks.length = ls.length ∧ ks.length = us.length ∧ ∀ (q : Nat) k v, ks[q]? = some k → us[q]? = some v → LfO w (fun y => S y ∨ Gn F st k.rel y) k.lf (owLeaf (sh || shT t (j + q)) k.lf) (Gn F st k.own) v ∧ ∃ lf0, ls[q]? = some lf0 ∧ k.lf.elem = lf0.elem
  | _, [], [], us, ks, h, hd => by
    simp only [dens] at hd
    subst hd
    simp only [takeRow, Option.some.injEq] at h
    subst h
    exact ⟨rfl, rfl, fun q k v h => by simp at h⟩
  | _, [], _ :: _, _, _, h, _ => by simp [takeRow] at h
  | _, _ :: _, [], _, _, h, _ => by simp [takeRow] at h
  | j, lf :: ls, a :: as, us, ks, h, hd => by
    simp only [dens] at hd
    obtain ⟨u, us', rfl, hd1, hd2⟩ := hd
    simp only [takeRow] at h
    split at h
    · rename_i k ks' h1 h2
      obtain rfl := Option.some.inj h
      obtain ⟨g1, g2, g3⟩ := takeRow_ok hs h2 hd2
      refine ⟨by simp [g1], by simp [g2], fun q k v e1 e2 => ?_⟩
      cases q with
      | zero =>
        simp at e1 e2
        subst e1; subst e2
        have := takeLf_ok hs h1 hd1
        exact ⟨this.1, lf, rfl, this.2⟩
      | succ q =>
        have := g3 q k v (by simpa using e1) (by simpa using e2)
        rw [show j.succ + q = j + (q + 1) by omega] at this
        obtain ⟨h3, lf0, h4, h5⟩ := this
        exact ⟨h3, lf0, by simpa using h4, h5⟩
    · cases h
end Go.Proofs.YtiepllpgifnloaaGreat.Vx
namespace Go.Proofs.YtiepllpgifnloaaGreat.Vx
open Go.RowKit
variable {P : Program} [Fast P] {ρ ρ' : Rho} {nt : Nat} {tm : T AV} {a : Act} {w w0 w' : World} {K : KS} {st st' : St} {S : Nat → Prop} {F : Nat → Nat → Prop}
theorem ownsP_at : ∀ {p : Path} {ow : Path → Bool}, ownsP ow p = true → ow p = true
  | [], _, h => h
  | e :: p, ow, h => by simp only [ownsP, Bool.and_eq_true] at h; exact ownsP_at (p := p) h.2
theorem owT_sub {w : World} : ∀ {p : Path} {t : RT} {l : List t.ty} {h h' : Hdr}, owT t p = true → hdrs w p t l h = some h' → ∀ q, owT t (p ++ q) = owT (sub p t l).1 q
  | [], _, _, _, _, _, _, _ => rfl
  | (i, j) :: p, t, l, (A, m, c), h', hp, e, q => by
    simp only [hdrs] at e
    split at e
    · rename_i b o x hx
      split at e
      · rename_i t' l' hl
        have hg : l.getD i t.dflt = x := by rw [List.getD_eq_getElem?_getD, hx]; rfl
        have hn : nthL (t.leaves (l.getD i t.dflt)) j = .list t' l' := by rw [hg]; exact nthL_eq hl
        split at e
        · rename_i A2 m2 c2 _
          rw [sub, hn]
          have he := elemAt_of hl
          have h1 : owT t ((i, j) :: p) = owT t' p := by
            simp only [owT] at hp ⊢
            rw [he] at hp ⊢
            split at hp
            · rename_i h1 h2
              simp only [Option.some.injEq] at h2
              subst h2
              rfl
            · cases hp
          have h2 : owT t ((i, j) :: p ++ q) = owT t' (p ++ q) := by
            rw [List.cons_append]
            simp only [owT] at hp ⊢
            rw [he] at hp ⊢
            split at hp
            · rename_i h1 h2
              simp only [Option.some.injEq] at h2
              subst h2
              rfl
            · cases hp
          rw [h2]
          exact owT_sub (p := p) (h1 ▸ hp) e q
        · cases e
      · cases e
    · cases e
theorem SimF.write2 (h : SimF K w0 ρ S F st w) (i : Nat) {bk : Bk} {x : Nat} {c : Cap} (hi : st.h.get i = some bk) (hl : st.wr i = true) (he : ρ i = some (x, c)) (bk' : Bk) (w' : World) (G : Nat → Prop) (hG : ∀ y, G y → F i y ∨ w.heap.size ≤ y ∨ (¬ K.k y ∧ ¬ S y ∧ ∀ j bj, st.h.get j = some bj → ¬ F j y))
    (hw : Kp (fun b => b < w.heap.size ∧ ¬ F i b) w w') (hb' : BkR ρ w' S G x c bk') :
    SimF K w0 ρ S (Fup F i G) ⟨st.h.set i bk', st.n, st.wr⟩ w' := by
  obtain ⟨x', c', e, hb, hn⟩ := h.blk i bk hi
  have hnk := hn hl
  have hSk : ∀ y, S y → w'.heap[y]? = w.heap[y]? := fun y hy => hw.block y ⟨h.sl y hy, fun e => h.sd i bk y hi hl e hy⟩
  refine ⟨h.kp.trans (hw.mono fun b hb => ⟨h.ltw b hb, fun e => hnk b e hb⟩), h.lt, h.ss, h.sk, fun y hy => lt_same (hSk y hy) (h.sl y hy), fun j bj hj => ?_, fun j bj y hj hwj hy => ?_, fun j k bj bk2 y hj hk hjk hww hyj hyk => ?_, h.dom, h.pn⟩
  · rw [T.get_put] at hj
    by_cases hji : j = i
    · subst hji
      rw [if_pos rfl] at hj
      obtain rfl := Option.some.inj hj
      rw [Fup_self]
      refine ⟨x, c, he, hb', fun _ y hy hK => ?_⟩
      rcases hG y hy with h1 | h1 | h1
      · exact hnk y h1 hK
      · have := h.ltw y hK; omega
      · exact h1.1 hK
    · rw [if_neg hji] at hj
      obtain ⟨y, cy, ey, hby, hny⟩ := h.blk j bj hj
      rw [Fup_ne hji]
      exact ⟨y, cy, ey, hby.mono (.refl ρ) (fun z hz => hw.block z ⟨hby.lt z hz, fun e => h.sep j i bj bk z hj hi hji (.inr hl) hz e⟩) (fun _ h => h) hSk, hny⟩
  · rw [T.get_put] at hj
    by_cases hji : j = i
    · subst hji
      rw [Fup_self] at hy
      rcases hG y hy with h1 | h1 | h1
      · exact h.sd j bk y hi hl h1
      · intro hS; have := h.sl y hS; omega
      · exact h1.2.1
    · rw [if_neg hji] at hj
      rw [Fup_ne hji] at hy
      exact h.sd j bj y hj hwj hy
  · have key : ∀ {k bk2} {y : Nat}, k ≠ i → st.h.get k = some bk2 → G y → F k y → False := fun {k bk2 y} hki hk hy hyk => by
      rcases hG y hy with h1 | h1 | h1
      · exact h.sep k i bk2 bk y hk hi hki (.inr hl) hyk h1
      · obtain ⟨_, _, _, hbk, _⟩ := h.blk k bk2 hk
        have := hbk.lt y hyk; omega
      · exact h1.2.2 k bk2 hk hyk
    rw [T.get_put] at hj hk
    by_cases hji : j = i
    · subst hji
      have hki : k ≠ j := fun e => hjk e.symm
      rw [if_neg hki] at hk
      rw [Fup_self] at hyj
      rw [Fup_ne hki] at hyk
      exact key hki hk hyj hyk
    · rw [if_neg hji] at hj
      rw [Fup_ne hji] at hyj
      by_cases hki : k = i
      · subst hki
        rw [Fup_self] at hyk
        exact key hji hj hyk hyj
      · rw [if_neg hki] at hk
        rw [Fup_ne hki] at hyk
        exact h.sep j k bj bk2 y hj hk hjk hww hyj hyk
theorem LfO.scal {w : World} {S F : Nat → Prop} {lf : Leaf} {ow ow' : Path → Bool} {v : Value} (h : LfO w S lf ow F v) (hf : lf.elem = none) : LfO w S lf ow' F v := by
  cases h with
  | int k n => exact .int k n _ _
  | bool b => exact .bool b _ _
  | str s => exact .str s _ _
  | shr => cases hf
  | nil => cases hf
  | list => cases hf
theorem updL_len {f : (u : RT) → List u.ty → Option (List u.ty)} (hf : ∀ u l l', f u l = some l' → l'.length = l.length) : ∀ {p : Path} {t : RT} {l l2 : List t.ty}, updL f p t l = some l2 → l2.length = l.length
  | [], t, l, l2, h => hf t l l2 h
  | (i, j) :: p, t, l, l2, h => by
    simp only [updL] at h
    split at h
    · split at h
      · split at h
        · obtain rfl := Option.some.inj h; simp
        · cases h
      · cases h
    · cases h
theorem updL_sub {f : (u : RT) → List u.ty → Option (List u.ty)} : ∀ {p : Path} {t : RT} {l l2 : List t.ty}, updL f p t l = some l2 → ∃ ys', f (sub p t l).1 (sub p t l).2 = some ys'
  | [], t, l, l2, h => ⟨l2, h⟩
  | (i, j) :: p, t, l, l2, h => by
    simp only [updL] at h
    split at h
    · rename_i t' l' hn
      rw [sub, hn]
      split at h
      · rename_i l3 h3
        exact updL_sub (p := p) h3
      · cases h
    · cases h
def putRow (idx cell : Nat) (nl : List Leaf) : (u : RT) → List u.ty → Option (List u.ty) := fun u ys => match u.build (splice (u.leaves (ys.getD idx u.dflt)) cell nl) with
  | some y => some (ys.set idx y)
  | none => none
def modeOk (ow : Ow) (rt : RT) (p : Path) : Bool := match ow with
  | .all => ownsP (owT rt) p
  | _ => false
def storeEp (P : Program) [Fast P] (t : TypeId) (x y : AV) (st : St) : Option St := match x with
  | .ep i k p sz idx cell => match st.wr i, st.h.get i, sizeT P t with
    | true, some bk, some n => match bk.op, kindOf bk.cells with
      | some 0, .tree ow rt xs kv => match okVer k kv p && (modeOk ow rt p && (Nat.beq (sub p rt xs).1.size sz && (y.flat && (Nat.beq y.cells.length n && Nat.ble (Nat.add cell n) sz)))) with
        | true => match takeRow st false (sub p rt xs).1 cell ((((sub p rt xs).1.leaves ((sub p rt xs).2.getD idx (sub p rt xs).1.dflt)).drop cell).take n) y.cells with
          | some ks => match updL (putRow idx cell (lfsOf ks)) p rt xs with
            | some xs' => match isFlat (lfsOf ks) with
              | true => some ⟨st.h.set i ⟨bk.ty, [.tre ow rt xs' kv], some 0⟩, st.n, st.wr⟩
              | false => match apartN (i :: (ownsOf ks ++ relsOf ks)) with
                | true => some ⟨((dropN st.h (ownsOf ks ++ relsOf ks)).set st.n ⟨0, [.ver], some 0⟩).set i ⟨bk.ty, [.tre ow rt xs' st.n], some 0⟩, Nat.succ st.n, st.wr⟩
                | false => none
            | none => none
          | none => none
        | false => none
      | _, _ => none
    | _, _, _ => none
  | _ => none
theorem takeLf_flat {sh : Bool} {lf0 : Leaf} {a : AV} {k : Tk} (h : takeLf st sh lf0 a = some k) (hf : k.lf.elem = none) : k.own = [] ∧ k.rel = [] := by
  unfold takeLf at h
  split at h
  · split at h
    · obtain rfl := Option.some.inj h; exact ⟨rfl, rfl⟩
    · cases h
  · obtain rfl := Option.some.inj h; exact ⟨rfl, rfl⟩
  · obtain rfl := Option.some.inj h; exact ⟨rfl, rfl⟩
  · split at h
    · split at h
      · split at h
        · obtain rfl := Option.some.inj h; exact ⟨rfl, rfl⟩
        · split at h
          · obtain rfl := Option.some.inj h; cases hf
          · cases h
      · split at h
        · obtain rfl := Option.some.inj h; cases hf
        · cases h
    · cases h
  · cases h
theorem takeRow_flat {sh : Bool} {t : RT} : ∀ {j : Nat} {ls : List Leaf} {as : List AV} {ks : List Tk}, takeRow st sh t j ls as = some ks → isFlat (lfsOf ks) = true → ownsOf ks = [] ∧ relsOf ks = []
  | _, [], [], ks, h, _ => by simp only [takeRow, Option.some.injEq] at h; subst h; exact ⟨rfl, rfl⟩
  | _, [], _ :: _, _, h, _ => by simp [takeRow] at h
  | _, _ :: _, [], _, h, _ => by simp [takeRow] at h
  | j, lf :: ls, a :: as, ks, h, hf => by
    simp only [takeRow] at h
    split at h
    · rename_i k ks' h1 h2
      obtain rfl := Option.some.inj h
      have hk : k.lf.elem = none := isFlat_ok hf k.lf (by simp [lfsOf])
      have hf' : isFlat (lfsOf ks') = true := by
        simp only [lfsOf] at hf
        cases hl : k.lf <;> rw [hl] at hf <;> first | exact hf | (simp [isFlat] at hf)
      obtain ⟨e1, e2⟩ := takeLf_flat h1 hk
      obtain ⟨e3, e4⟩ := takeRow_flat h2 hf'
      exact ⟨by simp [ownsOf, e1, e3], by simp [relsOf, e2, e4]⟩
    · cases h
theorem storeEp_ok {o : Oper} {t : TypeId} {x y : Operand} (ho : o.op = .store t x y) (h : TR ρ nt tm a) (hs : Sim K w0 ρ st w) (hf : storeEp P t (ev tm x) (ev tm y) st = some st') :
    ∃ w' ρ', (execOp a.eval o).run P w = .ok .skip w' ∧ Ext st.n st'.n ρ ρ' ∧ Sim K w0 ρ' st' w' := by
  have hdx := h.ev x
  have hdy := h.ev y
  generalize ev tm y = yv at hdy hf
  unfold storeEp at hf
  split at hf
  case h_2 => cases hf
  rename_i i k p sz idx cell hx
  rw [hx] at hdx
  simp only [den] at hdx
  obtain ⟨g, hg, hlt, b, o', hgb, hav⟩ := hdx
  split at hf
  case h_2 => cases hf
  rename_i bk n hwi hb hn
  split at hf
  case h_2 => cases hf
  rename_i ow rt xs kv hop hkd
  split at hf
  case h_2 => cases hf
  rename_i hcc
  simp only [Bool.and_eq_true] at hcc
  obtain ⟨c1, c2, c3, c4, c5, c6⟩ := hcc
  have c3 := Nat.eq_of_beq_eq_true c3
  have c5 := Nat.eq_of_beq_eq_true c5
  have c6 : cell + n ≤ sz := Nat.le_of_ble_eq_true c6
  subst c3
  cases ow with
  | none => cases c2
  | fn f => cases c2
  | ro => cases c2
  | all =>
  have c2 : ownsP (owT rt) p = true := c2
  split at hf
  case h_2 => cases hf
  rename_i ks hks
  split at hf
  case h_2 => cases hf
  rename_i xs' hxs'
  obtain ⟨S, F, hs⟩ := hs
  obtain ⟨x', c, hi, ht, hhd, hK⟩ := Sim.at_ hs hb hop hkd c1 hg
  have hFS : ∀ y, F i y → ¬ S y := fun y hy => hs.sd i bk y hb hwi hy
  obtain ⟨G, g1, g2, g3⟩ := LfO.focus (ow := owT rt) ht.own c2 hhd hFS
  have hsub := g2.rd
  have hlen := hsub.lenEq
  have hidx : idx < (sub p rt xs).2.length := by omega
  have hGS : ∀ y, G y → ¬ S y := fun y hy => hFS y (g1 y hy)
  have hop0 : (fun q => Ow.all.f rt (p ++ q)) [] = true := by
    show owT rt (p ++ []) = true
    rw [List.append_nil]; exact ownsP_at c2
  obtain ⟨b', cs, T, Gi, hA, hGb, hblk, hroom, hGi, hGd, hold, hrow⟩ := LfO.row g2 hop0 hidx hGS
  rw [hgb] at hA
  simp only [Option.some.injEq, Addr.mk.injEq, and_true] at hA
  obtain ⟨rfl, rfl⟩ := hA
  -- the value
  obtain ⟨hdc, h1⟩ := den_cells hdy c4
  generalize hus : (a.eval y).cells.toList = us at hdc h1
  obtain ⟨k1, k2, k3⟩ := takeRow_ok hs hks hdc
  have hul := dens_length hdc
  have hnl : us.length = (lfsOf ks).length := by rw [lfsOf_len, k2]
  have hn' : us.length = n := by omega
  have hkn : cell + (lfsOf ks).length ≤ (sub p rt xs).1.size := by omega
  have hroom2 : idx * (sub p rt xs).1.size + cell + us.length ≤ cs.size := by rw [Nat.succ_mul] at hroom; omega
  -- the new row
  have hupd := hxs'
  obtain ⟨ys', hys'⟩ := updL_sub hxs'
  obtain ⟨y', hy', rfl⟩ : ∃ y', (sub p rt xs).1.build (splice ((sub p rt xs).1.leaves ((sub p rt xs).2.getD idx (sub p rt xs).1.dflt)) cell (lfsOf ks)) = some y' ∧ ys' = (sub p rt xs).2.set idx y' := by
    have h2 := hys'
    unfold putRow at h2
    split at h2
    · rename_i y' hy'
      exact ⟨y', hy', (Option.some.inj h2).symm⟩
    · cases h2
  have hyl := RT.build_ok hy'
  -- the world
  have hrun := run_storeB P b (idx * (sub p rt xs).1.size + cell) T us 0 cs w hblk (by omega) h1
  simp only [Nat.add_zero] at hrun
  have hspl : cs.toList.take (idx * (sub p rt xs).1.size + cell) ++ us ++ cs.toList.drop (idx * (sub p rt xs).1.size + cell + us.length) = splice cs.toList (idx * (sub p rt xs).1.size + cell) us := rfl
  rw [hspl] at hrun
  have hkp := Kp.setRow w b (splice cs.toList (idx * (sub p rt xs).1.size + cell) us).toArray
  have hblk' : Blk (w.setRow b (splice cs.toList (idx * (sub p rt xs).1.size + cell) us).toArray) b T (splice cs.toList (idx * (sub p rt xs).1.size + cell) us).toArray := hblk.setRow _ (by rw [List.size_toArray, splice_len (by simpa using hroom2), Array.length_toList])
  generalize hw' : w.setRow b (splice cs.toList (idx * (sub p rt xs).1.size + cell) us).toArray = w' at hrun hkp hblk'
  have hex : (execOp a.eval o).run P w = .ok .skip w' := by
    have hsz : (a.eval y).cells.size = n := by rw [← hn', ← hus]; simp
    rw [← hus] at hrun
    unfold execOp
    simp [ho, hav, Instr.storeAt, Instr.sureAddr, Sem.run_bind, storeVar, sizeT_run hn, hsz, hrun]
  have hFi : F i b := g1 b hGb
  have hkF : Kp (fun y => y < w.heap.size ∧ ¬ F i y) w w' := hkp.mono fun y hy => ⟨hy.1, fun e => hy.2 (e ▸ hFi)⟩
  have hSb : ∀ y, S y → y ≠ b := fun y hy e => hFS b hFi (e ▸ hy)
  have hcLen : c.m = xs'.length := by
    rw [ht.len, updL_len (f := putRow idx cell (lfsOf ks)) (fun u l l' h => by
      unfold putRow at h
      split at h
      · obtain rfl := Option.some.inj h; simp
      · cases h) hxs']
  -- the data, when the names do not stand in the way
  have data : ∀ (hap : (i :: (ownsOf ks ++ relsOf ks)).Nodup), LfO w' (fun y => S y ∨ Gn F st (relsOf ks) y) (.list rt xs') (owT rt) (fun y => F i y ∨ Gn F st (ownsOf ks) y) (rootH x' c).val := by
    intro hap
    have hni : i ∉ ownsOf ks ++ relsOf ks := (List.nodup_cons.1 hap).1
    have hap2 := List.nodup_append.1 (List.nodup_cons.1 hap).2
    have hoff : ∀ {l : List Nat}, (∀ j, j ∈ l → j ≠ i) → ∀ y, Gn F st l y → ¬ F i y := fun {l} hl y hy hy' => by
      obtain ⟨j, j1, j2, ⟨bj, j3⟩, j4⟩ := hy
      exact hs.sep j i bj bk y j3 hb (hl j j1) (.inl j2) j4 hy'
    have hH : ∀ y, Gn F st (ownsOf ks) y → ¬ F i y := hoff fun j hj e => hni (by rw [← e]; simp [hj])
    have hR : ∀ y, Gn F st (relsOf ks) y → ¬ F i y := hoff fun j hj e => hni (by rw [← e]; simp [hj])
    have hgb' : ∀ {l : List Nat} {y}, Gn F st l y → ¬ F i y → w'.heap[y]? = w.heap[y]? := fun hy hn => hkF.block _ ⟨(hy.lt hs).1, hn⟩
    refine g3 w' _ _ (owT rt) _ _ xs' (fun y hy hny => hkp.block y ⟨ht.lt y hy, fun e => hny (e ▸ hGb)⟩) (fun y hy => hkp.block y ⟨hs.sl y hy, hSb y hy⟩) (fun y hy => .inl hy) hH (fun q _ => rfl) hys' ?_ hxs'
    refine hrow w' _ (Gn F st (ownsOf ks)) (fun q => owT rt (p ++ q)) cell us (lfsOf ks) y' (fun q y => ∃ kq, ks[q]? = some kq ∧ Gn F st kq.own y) hnl hkn hyl (fun q y ⟨kq, e1, e2⟩ => .inl (e2.mono fun j hj => ownsOf_mem e1 hj)) (fun q q' y ⟨k1, e1, e2⟩ ⟨k2, e3, e4⟩ => ?_) (fun y hy hGy => hH y hy (g1 y hGy)) (fun y hy => .inl hy) (fun q _ => rfl) hkp hblk' (fun q lf v hq hv => ?_)
    · obtain ⟨j1, m1, m2, ⟨b1, m3⟩, m4⟩ := e2
      obtain ⟨j2, n1, n2, ⟨b2, n3⟩, n4⟩ := e4
      by_cases hj : j1 = j2
      · subst hj; exact owns_apart hap2.1 e1 e3 m1 n1
      · exact (hs.sep j1 j2 b1 b2 y m3 n3 hj (.inl m2) m4 n4).elim
    · rw [lfsOf_get] at hq
      cases hkq : ks[q]? with
      | none => rw [hkq] at hq; cases hq
      | some kq =>
        rw [hkq] at hq
        obtain rfl := Option.some.inj hq
        obtain ⟨l1, lf0, l2, l3⟩ := k3 q kq v hkq hv
        have l4 : LfO w' (fun y => S y ∨ Gn F st (relsOf ks) y) kq.lf (owLeaf (false || shT (sub p rt xs).1 (cell + q)) kq.lf) (Gn F st kq.own) v := by
          refine l1.keep (fun y hy _ => hgb' hy (hH y (hy.mono fun j hj => ownsOf_mem hkq hj))) (fun y hy => hy.imp id fun hy => hy.mono fun j hj => relsOf_mem hkq hj) (fun y hy _ => ?_)
          rcases hy with hy | hy
          · exact hkp.block y ⟨hs.sl y hy, hSb y hy⟩
          · exact hgb' hy (hR y (hy.mono fun j hj => relsOf_mem hkq hj))
        have l5 : LfO w' (fun y => S y ∨ Gn F st (relsOf ks) y) kq.lf (fun r => owT rt (p ++ (idx, cell + q) :: r)) (Gn F st kq.own) v := by
          cases he : kq.lf.elem with
          | none => exact l4.scal he
          | some t' =>
            have hel : (sub p rt xs).1.elemAt (cell + q) = some t' := by
              rw [List.getElem?_take] at l2
              split at l2
              · rw [List.getElem?_drop] at l2
                rw [he] at l3
                cases lf0 with
                | list u2 ll => simp only [Leaf.elem, Option.some.injEq] at l3; subst l3; exact elemAt_of l2
                | _ => cases l3
              · cases l2
            have e5 : (fun r => owT rt (p ++ (idx, cell + q) :: r)) = owLeaf (false || shT (sub p rt xs).1 (cell + q)) kq.lf := by
              funext r
              rw [owT_sub (ownsP_at c2) hhd]
              simp only [owT, owLeaf, hel, he, Bool.false_or]
              cases shT (sub p rt xs).1 (cell + q) <;> rfl
            rw [e5]; exact l4
        exact l5.wide fun y hy => ⟨kq, rfl, hy⟩
  split at hf
  · -- no slices
    rename_i hfl
    obtain rfl := Option.some.inj hf
    obtain ⟨e1, e2⟩ := takeRow_flat hks hfl
    have hd := data (by rw [e1, e2]; simp)
    rw [e1, e2] at hd
    have hd2 : LfO w' S (.list rt xs') (owT rt) (F i) (rootH x' c).val := by
      have := hd.wide (F' := F i) fun y hy => hy.elim id fun ⟨j, hj, _⟩ => nomatch hj
      exact this.keep (fun _ _ _ => rfl) (fun y hy => hy.elim id fun ⟨j, hj, _⟩ => nomatch hj) (fun _ _ _ => rfl)
    obtain ⟨yk, d, hk1, hk2⟩ := ht.hds
    have hh : ∀ p', hdrs w' p' rt xs' (rootH x' c) = hdrs w p' rt xs (rootH x' c) := by
      refine hdrs_upd (ow := owT rt) ht.own c2 hhd hFS w' _ _ xs' b 0 hgb (fun e => by rw [e] at hidx; simp at hidx) (fun y hy hlt => hkp.block y ⟨hlt, hy⟩) hSb hys' hxs' ?_
      exact hdrs_row g2 hop0 hidx hnl hkn hyl (isFlat_ok hfl) hgb hblk hroom2 hblk' (fun y hy hlt => hkp.block y ⟨hlt, hy⟩) hSb
    refine ⟨w', ρ, hex, .refl _ ρ, S, _, hs.write i hb hwi hi _ w' (F i) (fun y hy => .inl hy) hkF ⟨fun e => absurd rfl e, fun _ => ?_⟩⟩
    exact ⟨hcLen, hd2, fun y hy => Nat.lt_of_lt_of_le (ht.lt y hy) hkp.size, yk, d, hk1, by rw [hk2]; funext p'; exact (hh p').symm⟩
  · split at hf
    · rename_i hap
      obtain rfl := Option.some.inj hf
      have hd := data (apartN_ok hap)
      have hap' := List.nodup_cons.1 (apartN_ok hap)
      have s1 := hs.give (ownsOf ks) (relsOf ks)
      obtain ⟨s2, e2⟩ := s1.nameG (Kp.refl _ w) (fun _ _ _ _ _ => rfl) (fun _ _ => rfl) ⟨0, [.ver], some 0⟩ 0 ⟨0, 0, none, fun p' => hdrs w' p' rt xs' (rootH x' c)⟩ (fun _ => False) ⟨fun e => absurd rfl e, fun _ => fun y hy => hy⟩ (fun y hy => hy.elim)
      have hin : i < st.n := hs.dom i (by rw [hi]; simp)
      have hbi : ((dropN st.h (ownsOf ks ++ relsOf ks)).set st.n ⟨0, [.ver], some 0⟩).get i = some bk := by
        rw [Go.Proofs.YtiepllpgifnloaaGreat.Vx.T.get_put, if_neg (by omega), dropN_keep hap'.1]; exact hb
      have hFi2 : Fup F st.n (fun _ => False) i = F i := Fup_ne (by omega)
      refine ⟨w', _, hex, e2, _, _, s2.write2 i hbi hwi (e2.le _ _ hi) _ w' (fun y => F i y ∨ Gn F st (ownsOf ks) y) (fun y hy => ?_) (by rw [hFi2]; exact hkF) ⟨fun e => absurd rfl e, fun _ => ?_⟩⟩
      · rcases hy with hy | hy
        · exact .inl (by rw [hFi2]; exact hy)
        · refine .inr (.inr ⟨(hy.lt hs).2.1, fun hS => ?_, fun j bj hj hyj => ?_⟩)
          · rcases hS with hS | hS
            · exact (hy.lt hs).2.2 hS
            · refine Gn.apart hs (fun q h1 h2 => ?_) hy hS
              exact (List.nodup_append.1 hap'.2).2.2 q h1 q h2 rfl
          · rw [Go.Proofs.YtiepllpgifnloaaGreat.Vx.T.get_put] at hj
            by_cases hjn : j = st.n
            · rw [hjn, Fup_self] at hyj; exact hyj
            · rw [if_neg hjn] at hj
              rw [Fup_ne hjn] at hyj
              obtain ⟨h3, h4⟩ := dropN_get hj
              obtain ⟨q, q1, q2, ⟨bq, q3⟩, q4⟩ := hy
              exact hs.sep q j bq bj y q3 h3 (fun e => h4 (by rw [← e]; simp [q1])) (.inl q2) q4 hyj
      · refine ⟨hcLen, hd, fun y hy => ?_, 0, ⟨0, 0, none, fun p' => hdrs w' p' rt xs' (rootH x' c)⟩, by simp [Rho.up], rfl⟩
        rcases hy with hy | hy
        · exact Nat.lt_of_lt_of_le (ht.lt y hy) hkp.size
        · exact Nat.lt_of_lt_of_le (hy.lt hs).1 hkp.size
    · cases hf
end Go.Proofs.YtiepllpgifnloaaGreat.Vx
namespace Go.Proofs.YtiepllpgifnloaaGreat.Vx
open Go.RowKit
variable {P : Program} [Fast P] {ρ ρ' : Rho} {nt : Nat} {tm : T AV} {a : Act} {w w0 w' : World} {K : KS} {st st' : St} {S : Nat → Prop} {F : Nat → Nat → Prop}
def storeCut (P : Program) [Fast P] (t : TypeId) (x y : AV) (st : St) : Option (MP × St) := match x, y with
  | .ep i k p sz idx cell, .lv i' k' p' _ lo n' => match st.wr i, st.h.get i, sizeT P t with
    | true, some bk, some n => match bk.op, kindOf bk.cells with
      | some 0, .tree ow rt xs kv => match okVer k kv p && (modeOk ow rt p && (Nat.beq (sub p rt xs).1.size sz && (Nat.beq n 1 && (Nat.beq i i' && (Nat.beq k' kv && (Nat.beq lo 0 && (Nat.ble (Nat.succ cell) sz && !shT (sub p rt xs).1 cell))))))) with
        | true => match nthL ((sub p rt xs).1.leaves ((sub p rt xs).2.getD idx (sub p rt xs).1.dflt)) cell with
          | .list t' l' => match updL (putRow idx cell [.list t' (l'.take n')]) p rt xs with
            | some xs' => some (⟨p' = p ++ [(idx, cell)], inferInstance⟩, ⟨(st.h.set st.n ⟨0, [.ver], some 0⟩).set i ⟨bk.ty, [.tre ow rt xs' st.n], some 0⟩, Nat.succ st.n, st.wr⟩)
            | none => none
          | _ => none
        | false => none
      | _, _ => none
    | _, _, _ => none
  | _, _ => none
theorem nthL_of {ls : List Leaf} {j : Nat} {x : Leaf} (h : nthL ls j = x) (hj : j < ls.length) : ls[j]? = some x := by
  rw [List.getElem?_eq_getElem hj, ← h, nthL_eq (List.getElem?_eq_getElem hj)]
theorem storeCut_ok {o : Oper} {t : TypeId} {x y : Operand} {pp : MP} (ho : o.op = .store t x y) (h : TR ρ nt tm a) (hs : Sim K w0 ρ st w) (hf : storeCut P t (ev tm x) (ev tm y) st = some (pp, st')) (hpp : pp.p) :
    ∃ w' ρ', (execOp a.eval o).run P w = .ok .skip w' ∧ Ext st.n st'.n ρ ρ' ∧ Sim K w0 ρ' st' w' := by
  have hdx := h.ev x
  have hdy := h.ev y
  unfold storeCut at hf
  split at hf
  case h_2 => cases hf
  rename_i i k p sz idx cell i' k' p' sz' lo n' hx hy
  rw [hx] at hdx
  rw [hy] at hdy
  simp only [den] at hdx hdy
  obtain ⟨g, hg, hlt, b, o', hgb, hav⟩ := hdx
  obtain ⟨g', hg', hlv⟩ := hdy
  split at hf
  case h_2 => cases hf
  rename_i bk n hwi hb hn
  split at hf
  case h_2 => cases hf
  rename_i ow rt xs kv hop hkd
  split at hf
  case h_2 => cases hf
  rename_i hcc
  simp only [Bool.and_eq_true] at hcc
  obtain ⟨c1, c2, c3, c4, c5, c6, c7, c8, c9⟩ := hcc
  have c3 := Nat.eq_of_beq_eq_true c3
  have c4 := Nat.eq_of_beq_eq_true c4
  have c5 := Nat.eq_of_beq_eq_true c5
  have c6 := Nat.eq_of_beq_eq_true c6
  have c7 := Nat.eq_of_beq_eq_true c7
  have c8 : cell + 1 ≤ sz := Nat.le_of_ble_eq_true c8
  have c9 : shT (sub p rt xs).1 cell = false := by simpa using c9
  subst c3; subst c4; subst c5; subst c6; subst c7
  cases ow with
  | none => cases c2
  | fn f => cases c2
  | ro => cases c2
  | all =>
  have c2 : ownsP (owT rt) p = true := c2
  split at hf
  case h_2 => cases hf
  rename_i t' l' hnl
  split at hf
  case h_2 => cases hf
  rename_i xs' hxs'
  obtain ⟨rfl, rfl⟩ := Prod.mk.inj (Option.some.inj hf)
  have hpp : p' = p ++ [(idx, cell)] := hpp
  subst hpp
  obtain ⟨S, F, hs⟩ := hs
  obtain ⟨x', c, hi, ht, hhd, hK⟩ := Sim.at_ hs hb hop hkd c1 hg
  have hok : okVer k' k' (p ++ [(idx, cell)]) = true := by
    cases p <;> exact Nat.beq_refl k'
  obtain ⟨x2, c2', hi2, _, hhd2, _⟩ := Sim.at_ hs hb hop hkd hok hg'
  rw [hi] at hi2
  obtain ⟨rfl, rfl⟩ := Prod.mk.inj (Option.some.inj hi2)
  have hFS : ∀ y, F i y → ¬ S y := fun y hy => hs.sd i bk y hb hwi hy
  obtain ⟨G, g1, g2, g3⟩ := LfO.focus (ow := owT rt) ht.own c2 hhd hFS
  have hsub := g2.rd
  have hlen := hsub.lenEq
  have hidx : idx < (sub p rt xs).2.length := by omega
  have hGS : ∀ y, G y → ¬ S y := fun y hy => hFS y (g1 y hy)
  have hop0 : (fun q => Ow.all.f rt (p ++ q)) [] = true := by
    show owT rt (p ++ []) = true
    rw [List.append_nil]; exact ownsP_at c2
  obtain ⟨b', cs, T, Gi, hA, hGb, hblk, hroom, hGi, hGd, hold, hrow⟩ := LfO.row g2 hop0 hidx hGS
  rw [hgb] at hA
  simp only [Option.some.injEq, Addr.mk.injEq, and_true] at hA
  obtain ⟨rfl, rfl⟩ := hA
  -- the list that lies there
  have hleaf : ((sub p rt xs).1.leaves ((sub p rt xs).2.getD idx (sub p rt xs).1.dflt))[cell]? = some (.list t' l') := nthL_of hnl (by rw [RT.leaves_len]; omega)
  have hlo := hold cell _ hleaf
  obtain ⟨A, c0, hA0, hle, _⟩ := hlo.rd.slice
  have hcsz : idx * (sub p rt xs).1.size + cell < cs.size := by rw [Nat.succ_mul] at hroom; omega
  have hcell : w.cell? ⟨b, 0 + idx * (sub p rt xs).1.size + cell, none⟩ = some (.slice A l'.length c0) := by
    rw [hblk.cell, Nat.zero_add, ← hA0, Array.getD_eq_getD_getElem?, Array.getElem?_eq_getElem hcsz]
    rfl
  have hsn := hdrs_snoc (h := rootH x' c) ht.rd hhd hidx ⟨t', l', hleaf⟩ hgb hcell
  rw [hsn] at hhd2
  obtain rfl := Option.some.inj hhd2
  obtain ⟨hn1, _, A', hv, hA', _⟩ := hlv
  have hn1 : 0 + n' ≤ l'.length := hn1
  obtain rfl : A' = A := hA' rfl
  have hv : a.eval y = .slice A' n' c0 := hv
  have hnew : LfO w S (.list t' (l'.take n')) (fun q => owT rt (p ++ (idx, cell) :: q)) (Gi cell) (.slice A' n' c0) := by
    rw [hA0] at hlo
    refine LfO.take hlo ?_ (by omega)
    show owT rt (p ++ [(idx, cell)]) = true
    rw [owT_sub (ownsP_at c2) hhd]
    simp only [owT, c9, elemAt_of hleaf]
  have hus : (a.eval y).cells.toList = [.slice A' n' c0] := by rw [hv]; rfl
  have hkn : cell + 1 ≤ (sub p rt xs).1.size := c8
  have hroom2 : idx * (sub p rt xs).1.size + cell + 1 ≤ cs.size := by omega
  obtain ⟨ys', hys'⟩ := updL_sub hxs'
  obtain ⟨y', hy', rfl⟩ : ∃ y', (sub p rt xs).1.build (splice ((sub p rt xs).1.leaves ((sub p rt xs).2.getD idx (sub p rt xs).1.dflt)) cell [.list t' (l'.take n')]) = some y' ∧ ys' = (sub p rt xs).2.set idx y' := by
    have h2 := hys'
    unfold putRow at h2
    split at h2
    · rename_i y' hy'
      exact ⟨y', hy', (Option.some.inj h2).symm⟩
    · cases h2
  have hyl := RT.build_ok hy'
  have hrun := run_storeB P b (idx * (sub p rt xs).1.size + cell) T [.slice A' n' c0] 0 cs w hblk (by simpa using hroom2) (by simp [Value.oneCell'])
  simp only [Nat.add_zero] at hrun
  have hspl : cs.toList.take (idx * (sub p rt xs).1.size + cell) ++ [.slice A' n' c0] ++ cs.toList.drop (idx * (sub p rt xs).1.size + cell + ([.slice A' n' c0] : List Value).length) = splice cs.toList (idx * (sub p rt xs).1.size + cell) [.slice A' n' c0] := rfl
  rw [hspl] at hrun
  have hkp := Kp.setRow w b (splice cs.toList (idx * (sub p rt xs).1.size + cell) [.slice A' n' c0]).toArray
  have hblk' : Blk (w.setRow b (splice cs.toList (idx * (sub p rt xs).1.size + cell) [.slice A' n' c0]).toArray) b T (splice cs.toList (idx * (sub p rt xs).1.size + cell) [.slice A' n' c0]).toArray := hblk.setRow _ (by rw [List.size_toArray, splice_len (by simpa using hroom2), Array.length_toList])
  generalize hw' : w.setRow b (splice cs.toList (idx * (sub p rt xs).1.size + cell) [.slice A' n' c0]).toArray = w' at hrun hkp hblk'
  have hex : (execOp a.eval o).run P w = .ok .skip w' := by
    have hsz : (a.eval y).cells.size = 1 := by rw [hv]; rfl
    rw [← hus] at hrun
    unfold execOp
    simp [ho, hav, Instr.storeAt, Instr.sureAddr, Sem.run_bind, storeVar, sizeT_run hn, hsz, hrun]
  have hFi : F i b := g1 b hGb
  have hkF : Kp (fun y => y < w.heap.size ∧ ¬ F i y) w w' := hkp.mono fun y hy => ⟨hy.1, fun e => hy.2 (e ▸ hFi)⟩
  have hSb : ∀ y, S y → y ≠ b := fun y hy e => hFS b hFi (e ▸ hy)
  have hcLen : c.m = xs'.length := by
    rw [ht.len, updL_len (f := putRow idx cell [.list t' (l'.take n')]) (fun u l l' h => by
      unfold putRow at h
      split at h
      · obtain rfl := Option.some.inj h; simp
      · cases h) hxs']
  have hd : LfO w' S (.list rt xs') (owT rt) (F i) (rootH x' c).val := by
    have := g3 w' S (fun _ => False) (owT rt) _ _ xs' (fun y hy hny => hkp.block y ⟨ht.lt y hy, fun e => hny (e ▸ hGb)⟩) (fun y hy => hkp.block y ⟨hs.sl y hy, hSb y hy⟩) (fun y hy => hy) (fun y h => h.elim) (fun q _ => rfl) hys' ?_ hxs'
    · exact this.wide fun y hy => hy.elim id fun h => h.elim
    refine hrow w' S (fun _ => False) (fun q => owT rt (p ++ q)) cell [.slice A' n' c0] [.list t' (l'.take n')] y' (fun q y => q = 0 ∧ Gi cell y) rfl hkn hyl (fun q y ⟨e, hy⟩ => .inr (by rw [e]; exact hy)) (fun q q' y ⟨e, _⟩ ⟨e', _⟩ => e.trans e'.symm) (fun y h => h.elim) (fun y hy => hy) (fun q _ => rfl) hkp hblk' (fun q lf v hq hvq => ?_)
    cases q with
    | zero =>
      simp only [List.getElem?_cons_zero, Option.some.injEq] at hq hvq
      subst hq; subst hvq
      exact (hnew.keep (fun y hy hlt => hkp.block y ⟨hlt, (hGi cell y hy).2⟩) (fun y hy => hy) (fun y hy hlt => hkp.block y ⟨hlt, hSb y hy⟩)).wide fun y hy => ⟨rfl, hy⟩
    | succ q => simp at hq
  obtain ⟨s2, e2⟩ := hs.nameG (Kp.refl _ w) (fun _ _ _ _ _ => rfl) (fun _ _ => rfl) ⟨0, [.ver], some 0⟩ 0 ⟨0, 0, none, fun p' => hdrs w' p' rt xs' (rootH x' c)⟩ (fun _ => False) ⟨fun e => absurd rfl e, fun _ => fun y hy => hy⟩ (fun y hy => hy.elim)
  have hin : i < st.n := hs.dom i (by rw [hi]; simp)
  have hbi : (st.h.set st.n ⟨0, [.ver], some 0⟩).get i = some bk := by
    rw [Go.Proofs.YtiepllpgifnloaaGreat.Vx.T.get_put, if_neg (by omega)]; exact hb
  have hFi2 : Fup F st.n (fun _ => False) i = F i := Fup_ne (by omega)
  refine ⟨w', _, hex, e2, _, _, s2.write2 i hbi hwi (e2.le _ _ hi) _ w' (F i) (fun y hy => .inl (by rw [hFi2]; exact hy)) (by rw [hFi2]; exact hkF) ⟨fun e => absurd rfl e, fun _ => ?_⟩⟩
  exact ⟨hcLen, hd, fun y hy => Nat.lt_of_lt_of_le (ht.lt y hy) hkp.size, 0, ⟨0, 0, none, fun p' => hdrs w' p' rt xs' (rootH x' c)⟩, by simp [Rho.up], rfl⟩
end Go.Proofs.YtiepllpgifnloaaGreat.Vx
