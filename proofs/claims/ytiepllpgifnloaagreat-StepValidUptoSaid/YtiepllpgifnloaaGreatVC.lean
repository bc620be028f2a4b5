/- The reference's Valid functions: contracts. -/
import Derived.Test.YtiepllpgifnloaaGreatV5
import Derived.Test.YtiepllpgifnloaaGreatVA
import Derived.Test.YtiepllpgifnloaaGreatProg
import Derived.Test.YtiepllpgifnloaaGreatVB
import Derived.Test.YtiepllpgifnloaaGreatV4
set_option linter.unusedSimpArgs false
set_option linter.unusedVariables false
namespace Go.Proofs.YtiepllpgifnloaaGreat.Px
open Go Go.Proofs.YtiepllpgifnloaaGreat.Vx Go.Proofs
set_option maxRecDepth 1000000
set_option maxHeartbeats 0
theorem valid23_vc (p : Prg) (m : Mac) (hpre : ∀ o ∈ m.objects, (o.senders.length + o.receivers.length) * 40 ≤ 140737488355328) (hlen : ArgsL [.v false (.st .prg), .v false (.st .mac)] (p, m, ())) : (True ∧ bif !!heapOkR m.objects then bif !(m.goroutines.length : Int) == (0 : Int) then bif !decide ((m.goroutines.length : Int) > (8 : Int)) then bif !(m.objects.length : Int) == (0 : Int) then bif decide ((0 : Int) ≤ (0 : Int) ∧ (0 : Int) < (m.objects.length : Int)) then bif !(List.getD m.objects (Int.toNat (0 : Int)) dOb).id != (0 : Int) then bif decide ((0 : Int) ≤ (0 : Int) ∧ (0 : Int) < (m.objects.length : Int)) then bif !(List.getD m.objects (Int.toNat (0 : Int)) dOb).chan then bif decide ((0 : Int) ≤ (0 : Int) ∧ (0 : Int) < (m.objects.length : Int)) then bif (↑(List.length (List.getD m.objects (Int.toNat (0 : Int)) dOb).cells_) : Int) != (p.globals.length : Int) then false = validR p m ∧ true = true else ∃ (i : Nat), (validR p m = (List.all m.goroutines (gorOk p) && (List.all m.objects chOkR && allI (synOk m.syncs) m.syncs)) ∧ i ≤ m.goroutines.length ∧ List.all (List.take i m.goroutines) (gorOk p) = true) ∧ (True ∧ True ∧ (↑i : Int) = (0 : Int) ∧ True) ∧ ((True ∧ True) ∧ (True ∧ p.funcs = p.funcs) ∧ (True ∧ True) ∧ (True ∧ p.globals = p.globals) ∧ (True ∧ True) ∧ (True ∧ p.layouts = p.layouts) ∧ (True ∧ True) ∧ (True ∧ m.objects = m.objects) ∧ (True ∧ True) ∧ (True ∧ m.syncs = m.syncs) ∧ (True ∧ True) ∧ (True ∧ m.goroutines = m.goroutines) ∧ (True ∧ True) ∧ (True ∧ m.output = m.output) ∧ ((True ∧ p.funcs.length = p.funcs.length) ∧ (True ∧ p.globals.length = p.globals.length) ∧ (True ∧ p.layouts.length = p.layouts.length) ∧ p.main = p.main ∧ True) ∧ ((True ∧ m.objects.length = m.objects.length) ∧ (True ∧ m.syncs.length = m.syncs.length) ∧ (True ∧ m.goroutines.length = m.goroutines.length) ∧ (True ∧ m.output.length = m.output.length) ∧ True) ∧ True) ∧ true = true else False else false = validR p m ∧ true = true else False else false = validR p m ∧ true = true else False else false = validR p m ∧ true = true else false = validR p m ∧ true = true else false = validR p m ∧ true = true else false = validR p m ∧ true = true) ∧ (∀ (i : Nat), validR p m = (List.all m.goroutines (gorOk p) && (List.all m.objects chOkR && allI (synOk m.syncs) m.syncs)) ∧ i ≤ m.goroutines.length ∧ List.all (List.take i m.goroutines) (gorOk p) = true → bif decide ((↑i : Int) < (m.goroutines.length : Int)) then bif decide ((0 : Int) ≤ (↑i : Int) ∧ (↑i : Int) < (m.goroutines.length : Int)) then True ∧ bif !gorOk p (List.getD m.goroutines (Int.toNat (↑i : Int)) dGor) then false = validR p m ∧ true = true else ∃ (j : Nat), (validR p m = (List.all m.goroutines (gorOk p) && (List.all m.objects chOkR && allI (synOk m.syncs) m.syncs)) ∧ j ≤ m.goroutines.length ∧ List.all (List.take j m.goroutines) (gorOk p) = true) ∧ m.goroutines.length - j < m.goroutines.length - i ∧ (True ∧ True ∧ (↑j : Int) = IntKind.i64.wrap ((↑i : Int) + (1 : Int)) ∧ True) ∧ ((True ∧ True) ∧ (True ∧ p.funcs = p.funcs) ∧ (True ∧ True) ∧ (True ∧ p.globals = p.globals) ∧ (True ∧ True) ∧ (True ∧ p.layouts = p.layouts) ∧ (True ∧ True) ∧ (True ∧ m.objects = m.objects) ∧ (True ∧ True) ∧ (True ∧ m.syncs = m.syncs) ∧ (True ∧ True) ∧ (True ∧ m.goroutines = m.goroutines) ∧ (True ∧ True) ∧ (True ∧ m.output = m.output) ∧ ((True ∧ p.funcs.length = p.funcs.length) ∧ (True ∧ p.globals.length = p.globals.length) ∧ (True ∧ p.layouts.length = p.layouts.length) ∧ p.main = p.main ∧ True) ∧ ((True ∧ m.objects.length = m.objects.length) ∧ (True ∧ m.syncs.length = m.syncs.length) ∧ (True ∧ m.goroutines.length = m.goroutines.length) ∧ (True ∧ m.output.length = m.output.length) ∧ True) ∧ True) ∧ true = true else False else ∃ (i1 : Nat), (validR p m = (List.all m.objects chOkR && allI (synOk m.syncs) m.syncs) ∧ i1 ≤ m.objects.length ∧ List.all (List.take i1 m.objects) chOkR = true) ∧ (True ∧ (↑i1 : Int) = (0 : Int) ∧ True) ∧ ((True ∧ True) ∧ (True ∧ m.objects = m.objects) ∧ (True ∧ True) ∧ (True ∧ m.syncs = m.syncs) ∧ (True ∧ True) ∧ (True ∧ m.goroutines = m.goroutines) ∧ (True ∧ True) ∧ (True ∧ m.output = m.output) ∧ ((True ∧ m.objects.length = m.objects.length) ∧ (True ∧ m.syncs.length = m.syncs.length) ∧ (True ∧ m.goroutines.length = m.goroutines.length) ∧ (True ∧ m.output.length = m.output.length) ∧ True) ∧ True) ∧ true = true) ∧ (∀ (i : Nat), validR p m = (List.all m.objects chOkR && allI (synOk m.syncs) m.syncs) ∧ i ≤ m.objects.length ∧ List.all (List.take i m.objects) chOkR = true → bif decide ((↑i : Int) < (m.objects.length : Int)) then bif decide ((0 : Int) ≤ (↑i : Int) ∧ (↑i : Int) < (m.objects.length : Int)) then bif (List.getD m.objects (Int.toNat (↑i : Int)) dOb).chan then bif decide ((0 : Int) ≤ (↑i : Int) ∧ (↑i : Int) < (m.objects.length : Int)) then (List.length (List.getD m.objects (Int.toNat (↑i : Int)) dOb).senders + List.length (List.getD m.objects (Int.toNat (↑i : Int)) dOb).receivers) * (40 : Nat) ≤ (140737488355328 : Nat) ∧ bif !chan17R (List.getD m.objects (Int.toNat (↑i : Int)) dOb) then false = validR p m ∧ true = true else ∃ (j : Nat), (validR p m = (List.all m.objects chOkR && allI (synOk m.syncs) m.syncs) ∧ j ≤ m.objects.length ∧ List.all (List.take j m.objects) chOkR = true) ∧ m.objects.length - j < m.objects.length - i ∧ (True ∧ (↑j : Int) = IntKind.i64.wrap ((↑i : Int) + (1 : Int)) ∧ True) ∧ ((True ∧ True) ∧ (True ∧ m.objects = m.objects) ∧ (True ∧ True) ∧ (True ∧ m.syncs = m.syncs) ∧ (True ∧ True) ∧ (True ∧ m.goroutines = m.goroutines) ∧ (True ∧ True) ∧ (True ∧ m.output = m.output) ∧ ((True ∧ m.objects.length = m.objects.length) ∧ (True ∧ m.syncs.length = m.syncs.length) ∧ (True ∧ m.goroutines.length = m.goroutines.length) ∧ (True ∧ m.output.length = m.output.length) ∧ True) ∧ True) ∧ true = true else False else ∃ (j : Nat), (validR p m = (List.all m.objects chOkR && allI (synOk m.syncs) m.syncs) ∧ j ≤ m.objects.length ∧ List.all (List.take j m.objects) chOkR = true) ∧ m.objects.length - j < m.objects.length - i ∧ (True ∧ (↑j : Int) = IntKind.i64.wrap ((↑i : Int) + (1 : Int)) ∧ True) ∧ ((True ∧ True) ∧ (True ∧ m.objects = m.objects) ∧ (True ∧ True) ∧ (True ∧ m.syncs = m.syncs) ∧ (True ∧ True) ∧ (True ∧ m.goroutines = m.goroutines) ∧ (True ∧ True) ∧ (True ∧ m.output = m.output) ∧ ((True ∧ m.objects.length = m.objects.length) ∧ (True ∧ m.syncs.length = m.syncs.length) ∧ (True ∧ m.goroutines.length = m.goroutines.length) ∧ (True ∧ m.output.length = m.output.length) ∧ True) ∧ True) ∧ true = true else False else ∃ (i1 : Nat), (validR p m = allI (synOk m.syncs) m.syncs ∧ i1 ≤ m.syncs.length ∧ ∀ (j : Nat), j < i1 → synOk m.syncs j (List.getD m.syncs j s0_) = true) ∧ (True ∧ (↑i1 : Int) = (0 : Int) ∧ True) ∧ ((True ∧ True) ∧ (True ∧ m.objects = m.objects) ∧ (True ∧ True) ∧ (True ∧ m.syncs = m.syncs) ∧ (True ∧ True) ∧ (True ∧ m.goroutines = m.goroutines) ∧ (True ∧ True) ∧ (True ∧ m.output = m.output) ∧ ((True ∧ m.objects.length = m.objects.length) ∧ (True ∧ m.syncs.length = m.syncs.length) ∧ (True ∧ m.goroutines.length = m.goroutines.length) ∧ (True ∧ m.output.length = m.output.length) ∧ True) ∧ True) ∧ true = true) ∧ ∀ (i : Nat), (validR p m = allI (synOk m.syncs) m.syncs ∧ i ≤ m.syncs.length ∧ ∀ (j : Nat), j < i → synOk m.syncs j (List.getD m.syncs j s0_) = true) → bif decide ((↑i : Int) < (m.syncs.length : Int)) then bif decide ((0 : Int) ≤ (↑i : Int) ∧ (↑i : Int) < (m.syncs.length : Int)) then True ∧ bif !lockValid (List.getD m.syncs (Int.toNat (↑i : Int)) dSyn) then True ∧ bif !!groupValid (List.getD m.syncs (Int.toNat (↑i : Int)) dSyn) then bif decide ((↑i : Int) > (0 : Int)) then bif decide ((0 : Int) ≤ IntKind.i64.wrap ((↑i : Int) - (1 : Int)) ∧ IntKind.i64.wrap ((↑i : Int) - (1 : Int)) < (m.syncs.length : Int)) then True ∧ bif !beforeS (List.getD m.syncs (Int.toNat (IntKind.i64.wrap ((↑i : Int) - (1 : Int)))) dSyn) (List.getD m.syncs (Int.toNat (↑i : Int)) dSyn) then false = validR p m ∧ true = true else ∃ (j : Nat), (validR p m = allI (synOk m.syncs) m.syncs ∧ j ≤ m.syncs.length ∧ ∀ (j1 : Nat), j1 < j → synOk m.syncs j1 (List.getD m.syncs j1 s0_) = true) ∧ m.syncs.length - j < m.syncs.length - i ∧ (True ∧ (↑j : Int) = IntKind.i64.wrap ((↑i : Int) + (1 : Int)) ∧ True) ∧ ((True ∧ True) ∧ (True ∧ m.objects = m.objects) ∧ (True ∧ True) ∧ (True ∧ m.syncs = m.syncs) ∧ (True ∧ True) ∧ (True ∧ m.goroutines = m.goroutines) ∧ (True ∧ True) ∧ (True ∧ m.output = m.output) ∧ ((True ∧ m.objects.length = m.objects.length) ∧ (True ∧ m.syncs.length = m.syncs.length) ∧ (True ∧ m.goroutines.length = m.goroutines.length) ∧ (True ∧ m.output.length = m.output.length) ∧ True) ∧ True) ∧ true = true else False else ∃ (j : Nat), (validR p m = allI (synOk m.syncs) m.syncs ∧ j ≤ m.syncs.length ∧ ∀ (j1 : Nat), j1 < j → synOk m.syncs j1 (List.getD m.syncs j1 s0_) = true) ∧ m.syncs.length - j < m.syncs.length - i ∧ (True ∧ (↑j : Int) = IntKind.i64.wrap ((↑i : Int) + (1 : Int)) ∧ True) ∧ ((True ∧ True) ∧ (True ∧ m.objects = m.objects) ∧ (True ∧ True) ∧ (True ∧ m.syncs = m.syncs) ∧ (True ∧ True) ∧ (True ∧ m.goroutines = m.goroutines) ∧ (True ∧ True) ∧ (True ∧ m.output = m.output) ∧ ((True ∧ m.objects.length = m.objects.length) ∧ (True ∧ m.syncs.length = m.syncs.length) ∧ (True ∧ m.goroutines.length = m.goroutines.length) ∧ (True ∧ m.output.length = m.output.length) ∧ True) ∧ True) ∧ true = true else false = validR p m ∧ true = true else bif decide ((↑i : Int) > (0 : Int)) then bif decide ((0 : Int) ≤ IntKind.i64.wrap ((↑i : Int) - (1 : Int)) ∧ IntKind.i64.wrap ((↑i : Int) - (1 : Int)) < (m.syncs.length : Int)) then True ∧ bif !beforeS (List.getD m.syncs (Int.toNat (IntKind.i64.wrap ((↑i : Int) - (1 : Int)))) dSyn) (List.getD m.syncs (Int.toNat (↑i : Int)) dSyn) then false = validR p m ∧ true = true else ∃ (j : Nat), (validR p m = allI (synOk m.syncs) m.syncs ∧ j ≤ m.syncs.length ∧ ∀ (j1 : Nat), j1 < j → synOk m.syncs j1 (List.getD m.syncs j1 s0_) = true) ∧ m.syncs.length - j < m.syncs.length - i ∧ (True ∧ (↑j : Int) = IntKind.i64.wrap ((↑i : Int) + (1 : Int)) ∧ True) ∧ ((True ∧ True) ∧ (True ∧ m.objects = m.objects) ∧ (True ∧ True) ∧ (True ∧ m.syncs = m.syncs) ∧ (True ∧ True) ∧ (True ∧ m.goroutines = m.goroutines) ∧ (True ∧ True) ∧ (True ∧ m.output = m.output) ∧ ((True ∧ m.objects.length = m.objects.length) ∧ (True ∧ m.syncs.length = m.syncs.length) ∧ (True ∧ m.goroutines.length = m.goroutines.length) ∧ (True ∧ m.output.length = m.output.length) ∧ True) ∧ True) ∧ true = true else False else ∃ (j : Nat), (validR p m = allI (synOk m.syncs) m.syncs ∧ j ≤ m.syncs.length ∧ ∀ (j1 : Nat), j1 < j → synOk m.syncs j1 (List.getD m.syncs j1 s0_) = true) ∧ m.syncs.length - j < m.syncs.length - i ∧ (True ∧ (↑j : Int) = IntKind.i64.wrap ((↑i : Int) + (1 : Int)) ∧ True) ∧ ((True ∧ True) ∧ (True ∧ m.objects = m.objects) ∧ (True ∧ True) ∧ (True ∧ m.syncs = m.syncs) ∧ (True ∧ True) ∧ (True ∧ m.goroutines = m.goroutines) ∧ (True ∧ True) ∧ (True ∧ m.output = m.output) ∧ ((True ∧ m.objects.length = m.objects.length) ∧ (True ∧ m.syncs.length = m.syncs.length) ∧ (True ∧ m.goroutines.length = m.goroutines.length) ∧ (True ∧ m.output.length = m.output.length) ∧ True) ∧ True) ∧ true = true else False else true = validR p m ∧ true = true := by
  simp only [eq_self, true_and, and_true]
  refine ⟨?_, fun i ⟨hv, hi, hall⟩ => ?_, fun i ⟨hv, hi, hall⟩ => ?_, fun i ⟨hv, hi, hall⟩ => ?_⟩
  · have hvr : validR p m = (heapOkR m.objects && !m.goroutines.isEmpty && decide (m.goroutines.length ≤ 8) && headOk p m && (m.goroutines.all (gorOk p) && (m.objects.all chOkR && allI (synOk m.syncs) m.syncs))) := by unfold validR; simp only [Bool.and_assoc]
    rw [hvr]
    clear hvr
    generalize (m.goroutines.all (gorOk p) && (m.objects.all chOkR && allI (synOk m.syncs) m.syncs)) = b
    unfold headOk
    rcases hm : m.objects with _ | ⟨o, l⟩
    · simp
    · simp only [List.length_cons, List.getD_cons_zero, Int.toNat_zero, List.getElem?_cons_zero]
      have e1 : (((l.length + 1 : Nat) : Int) == 0) = false := by rw [beq_false_of_ne]; omega
      have e2 : decide ((0 : Int) ≤ 0 ∧ (0 : Int) < ((l.length + 1 : Nat) : Int)) = true := by simp <;> omega
      simp only [e1, e2, len_eq0, ite_int, ne_eq, ite_not, nlit, gt_iff_lt, ge_iff_le, dlt, bne, cond_not, Bool.not_not, Bool.decide_and, emp_dec, Bool.not_true, Bool.not_false, Bool.true_and, Bool.and_true, Bool.false_and, Bool.and_false, Bool.true_or, Bool.or_true, Bool.false_or, Bool.or_false, cond_true, cond_false, true_and, and_true, Bool.false_eq_true, if_true, if_false, Bool.not_eq_true, decide_eq_true_eq, nle, neqi]
      repeat' (refine bif_in (fun hc => ?_) (fun hc => ?_) <;> (try simp only [hc, len_eq0, ite_int, ne_eq, ite_not, nlit, gt_iff_lt, ge_iff_le, dlt, bne, cond_not, Bool.not_not, Bool.decide_and, emp_dec, Bool.not_true, Bool.not_false, Bool.true_and, Bool.and_true, Bool.false_and, Bool.and_false, Bool.true_or, Bool.or_true, Bool.false_or, Bool.or_false, cond_true, cond_false, true_and, and_true, Bool.false_eq_true, if_true, if_false, Bool.not_eq_true, decide_eq_true_eq] at ⊢) <;> (first | subst hc | clear hc))
      all_goals first
        | rfl
        | (simp_all; done)
        | (refine ⟨0, ?_⟩; simp_all; done)
  · by_cases h : i < m.goroutines.length
    · obtain ⟨hF, hT⟩ := allL (p := gorOk p) (d := dGor) h hall
      have hw := wrap_succ h hlen.2.1.2.2.1.len
      simp only [idx_t1 h, idx_t2 h, cond_true, Int.toNat_natCast, hw]
      generalize hB : gorOk p (m.goroutines.getD i dGor) = b at hF hT ⊢
      cases b
      · show false = _
        rw [hv, hF rfl]; rfl
      · exact ⟨i + 1, ⟨hv, by omega, hT rfl⟩, by omega, rfl⟩
    · simp only [idx_f1 h, cond_false]
      exact ⟨0, ⟨by rw [hv, take_all h hall]; rfl, by omega, by simp⟩, rfl⟩
  · by_cases h : i < m.objects.length
    · obtain ⟨hF, hT⟩ := allL (p := chOkR) (d := dOb) h hall
      have hw := wrap_succ h hlen.2.1.1.len
      simp only [idx_t1 h, idx_t2 h, cond_true, Int.toNat_natCast, hw]
      generalize hB : chOkR (m.objects.getD i dOb) = b at hF hT
      have hmem : m.objects.getD i dOb ∈ m.objects := getD_mem h
      generalize m.objects.getD i dOb = x at hB hmem ⊢
      unfold chOkR at hB
      cases hc : x.chan
      · rw [hc] at hB
        exact ⟨i + 1, ⟨hv, by omega, hT hB.symm⟩, by omega, rfl⟩
      · rw [hc] at hB
        refine ⟨hpre x hmem, ?_⟩
        simp only [Bool.not_true, Bool.false_or] at hB
        cases b
        · rw [hB]
          show false = _
          rw [hv, hF rfl]; rfl
        · rw [hB]
          exact ⟨i + 1, ⟨hv, by omega, hT rfl⟩, by omega, rfl⟩
    · simp only [idx_f1 h, cond_false]
      exact ⟨0, ⟨by rw [hv, take_all h hall]; rfl, by omega, fun j hj => by omega⟩, rfl⟩
  · by_cases h : i < m.syncs.length
    · obtain ⟨hF, hT⟩ := allIL (f := synOk m.syncs) (d := s0_) h hall
      have hw := wrap_succ h hlen.2.1.2.1.len
      simp only [dSyn, hv, idx_t1 h, idx_t2 h, cond_true, Int.toNat_natCast, hw]
      generalize hB : synOk m.syncs i (m.syncs.getD i s0_) = c at hF hT
      generalize hx : m.syncs.getD i s0_ = x at hB ⊢
      simp only [synOk] at hB
      rcases Nat.eq_zero_or_pos i with h0 | h0
      · subst h0
        simp only [idx_00, beq_self_eq_true] at hB ⊢
        simp only [len_eq0, ite_int, ne_eq, ite_not, nlit, gt_iff_lt, ge_iff_le, dlt, bne, cond_not, Bool.not_not, Bool.decide_and, emp_dec, Bool.not_true, Bool.not_false, Bool.true_and, Bool.and_true, Bool.false_and, Bool.and_false, Bool.true_or, Bool.or_true, Bool.false_or, Bool.or_false, cond_true, cond_false, true_and, and_true, Bool.false_eq_true, if_true, if_false, Bool.not_eq_true, decide_eq_true_eq] at hB ⊢
        repeat' (refine bif_in (fun hc => ?_) (fun hc => ?_) <;> (try simp only [hc, len_eq0, ite_int, ne_eq, ite_not, nlit, gt_iff_lt, ge_iff_le, dlt, bne, cond_not, Bool.not_not, Bool.decide_and, emp_dec, Bool.not_true, Bool.not_false, Bool.true_and, Bool.and_true, Bool.false_and, Bool.and_false, Bool.true_or, Bool.or_true, Bool.false_or, Bool.or_false, cond_true, cond_false, true_and, and_true, Bool.false_eq_true, if_true, if_false, Bool.not_eq_true, decide_eq_true_eq] at hB ⊢) <;> (first | subst hc | clear hc))
        all_goals first
          | (rw [hF hB.symm]; done)
          | exact (hF hB.symm).symm
          | exact ⟨1, ⟨by omega, hT hB.symm⟩, by omega, rfl⟩
      · have h1 : i - 1 < m.syncs.length := by omega
        have hne : (i == 0) = false := by simp; omega
        have hg : m.syncs[i - 1]?.getD s0_ = m.syncs.getD (i - 1) s0_ := by rw [List.getD_eq_getElem?_getD]
        rw [hg] at hB
        simp only [idx_0p h0, wrap_pred h h0 hlen.2.1.2.1.len, idx_t2 h1, Int.toNat_natCast, hne] at hB ⊢
        generalize m.syncs.getD (i - 1) s0_ = y at hB ⊢
        simp only [len_eq0, ite_int, ne_eq, ite_not, nlit, gt_iff_lt, ge_iff_le, dlt, bne, cond_not, Bool.not_not, Bool.decide_and, emp_dec, Bool.not_true, Bool.not_false, Bool.true_and, Bool.and_true, Bool.false_and, Bool.and_false, Bool.true_or, Bool.or_true, Bool.false_or, Bool.or_false, cond_true, cond_false, true_and, and_true, Bool.false_eq_true, if_true, if_false, Bool.not_eq_true, decide_eq_true_eq] at hB ⊢
        repeat' (refine bif_in (fun hc => ?_) (fun hc => ?_) <;> (try simp only [hc, len_eq0, ite_int, ne_eq, ite_not, nlit, gt_iff_lt, ge_iff_le, dlt, bne, cond_not, Bool.not_not, Bool.decide_and, emp_dec, Bool.not_true, Bool.not_false, Bool.true_and, Bool.and_true, Bool.false_and, Bool.and_false, Bool.true_or, Bool.or_true, Bool.false_or, Bool.or_false, cond_true, cond_false, true_and, and_true, Bool.false_eq_true, if_true, if_false, Bool.not_eq_true, decide_eq_true_eq] at hB ⊢) <;> (first | subst hc | clear hc))
        all_goals first
          | exact (hF hB.symm).symm
          | (exact ⟨i + 1, ⟨by omega, hT hB.symm⟩, by omega, rfl⟩)
    · simp only [idx_f1 h, cond_false]
      rw [hv]
      exact (allI_of (d := s0_) fun j hj => hall j (by omega)).symm
theorem valid23_spec : FSpec Tryz.prog 20 [.v false (.st .prg), .v false (.st .mac)] [.own (.bool)] (fun zz => ∀ o ∈ zz.2.1.objects, (o.senders.length + o.receivers.length) * 40 ≤ 140737488355328) (fun zz => (validR zz.1 zz.2.1, ())) :=
  spec_of (own := ownF) (by kernel_rfl) (call_ok (by kernel_rfl) tb10_ok ownF 100 30) (fn := Tryz.f20) (c := Tryz.f20.body.getD .skip) (by kernel_rfl) 15 130 (fun _ => Nat.le_refl _) rfl (fun zz => fun q => match q with | 0 => .mk (Nat) (fun i => (@id (Mac) zz.2.1).goroutines.length - i) (fun i => validR (@id (Prg) zz.1) (@id (Mac) zz.2.1) = ((@id (Mac) zz.2.1).goroutines.all (gorOk (@id (Prg) zz.1)) && ((@id (Mac) zz.2.1).objects.all chOkR && allI (synOk (@id (Mac) zz.2.1).syncs) (@id (Mac) zz.2.1).syncs)) ∧ i ≤ (@id (Mac) zz.2.1).goroutines.length ∧ ((@id (Mac) zz.2.1).goroutines.take i).all (gorOk (@id (Prg) zz.1)) = true) (fun i => ⟨[(2, AV.ptr 15 0), (3, AV.ptr 16 0), (5, .lit (.int .i64 i))], [(1, { ty := 0, cells := [AV.ver], op := Option.some 0 }), (2, { ty := 0, cells := [AV.tre Ow.ro (RT.st SN.fnc) (@id (Prg) zz.1).funcs 1], op := Option.some 0 }), (3, { ty := 0, cells := [AV.ver], op := Option.some 0 }), (4, { ty := 0, cells := [AV.tre Ow.ro (RT.st SN.glb) (@id (Prg) zz.1).globals 3], op := Option.some 0 }), (5, { ty := 0, cells := [AV.ver], op := Option.some 0 }), (6, { ty := 0, cells := [AV.tre Ow.ro (RT.list (RT.int IntKind.i64)) (@id (Prg) zz.1).layouts 5], op := Option.some 0 }), (7, { ty := 0, cells := [AV.ver], op := Option.some 0 }), (8, { ty := 0, cells := [AV.tre Ow.ro (RT.st SN.ob) (@id (Mac) zz.2.1).objects 7], op := Option.some 0 }), (9, { ty := 0, cells := [AV.ver], op := Option.some 0 }), (10, { ty := 0, cells := [AV.tre Ow.ro (RT.st SN.syn) (@id (Mac) zz.2.1).syncs 9], op := Option.some 0 }), (11, { ty := 0, cells := [AV.ver], op := Option.some 0 }), (12, { ty := 0, cells := [AV.tre Ow.ro (RT.st SN.gor) (@id (Mac) zz.2.1).goroutines 11], op := Option.some 0 }), (13, { ty := 0, cells := [AV.ver], op := Option.some 0 }), (14, { ty := 0, cells := [AV.tre Ow.ro (RT.int IntKind.i64) (@id (Mac) zz.2.1).output 13], op := Option.some 0 }), (15, { ty := 32, cells := [AV.lw 2 2 [] 4 (List.length (@id (Prg) zz.1).funcs), AV.lw 4 4 [] 2 (List.length (@id (Prg) zz.1).globals), AV.lw 6 6 [] 1 (List.length (@id (Prg) zz.1).layouts), AV.lit (Value.int IntKind.i64 (@id (Prg) zz.1).main)], op := Option.none }), (16, { ty := 38, cells := [AV.lw 8 8 [] 10 (List.length (@id (Mac) zz.2.1).objects), AV.lw 10 10 [] 6 (List.length (@id (Mac) zz.2.1).syncs), AV.lw 12 12 [] 4 (List.length (@id (Mac) zz.2.1).goroutines), AV.lw 14 14 [] 1 (List.length (@id (Mac) zz.2.1).output)], op := Option.none })], 17⟩) (fun _ => fun _ => .no) | 2 => .mk (Nat) (fun i => (@id (Mac) zz.2.1).objects.length - i) (fun i => validR (@id (Prg) zz.1) (@id (Mac) zz.2.1) = ((@id (Mac) zz.2.1).objects.all chOkR && allI (synOk (@id (Mac) zz.2.1).syncs) (@id (Mac) zz.2.1).syncs) ∧ i ≤ (@id (Mac) zz.2.1).objects.length ∧ ((@id (Mac) zz.2.1).objects.take i).all (chOkR) = true) (fun i => ⟨[(3, AV.ptr 16 0), (6, .lit (.int .i64 i))], [(7, { ty := 0, cells := [AV.ver], op := Option.some 0 }), (8, { ty := 0, cells := [AV.tre Ow.ro (RT.st SN.ob) (@id (Mac) zz.2.1).objects 7], op := Option.some 0 }), (9, { ty := 0, cells := [AV.ver], op := Option.some 0 }), (10, { ty := 0, cells := [AV.tre Ow.ro (RT.st SN.syn) (@id (Mac) zz.2.1).syncs 9], op := Option.some 0 }), (11, { ty := 0, cells := [AV.ver], op := Option.some 0 }), (12, { ty := 0, cells := [AV.tre Ow.ro (RT.st SN.gor) (@id (Mac) zz.2.1).goroutines 11], op := Option.some 0 }), (13, { ty := 0, cells := [AV.ver], op := Option.some 0 }), (14, { ty := 0, cells := [AV.tre Ow.ro (RT.int IntKind.i64) (@id (Mac) zz.2.1).output 13], op := Option.some 0 }), (16, { ty := 38, cells := [AV.lw 8 8 [] 10 (List.length (@id (Mac) zz.2.1).objects), AV.lw 10 10 [] 6 (List.length (@id (Mac) zz.2.1).syncs), AV.lw 12 12 [] 4 (List.length (@id (Mac) zz.2.1).goroutines), AV.lw 14 14 [] 1 (List.length (@id (Mac) zz.2.1).output)], op := Option.none })], 17⟩) (fun _ => fun _ => .no) | 4 => .mk (Nat) (fun i => (@id (Mac) zz.2.1).syncs.length - i) (fun i => validR (@id (Prg) zz.1) (@id (Mac) zz.2.1) = allI (synOk (@id (Mac) zz.2.1).syncs) (@id (Mac) zz.2.1).syncs ∧ i ≤ (@id (Mac) zz.2.1).syncs.length ∧ ∀ j, j < i → (synOk (@id (Mac) zz.2.1).syncs) j ((@id (Mac) zz.2.1).syncs.getD j s0_) = true) (fun i => ⟨[(3, AV.ptr 16 0), (7, .lit (.int .i64 i))], [(7, { ty := 0, cells := [AV.ver], op := Option.some 0 }), (8, { ty := 0, cells := [AV.tre Ow.ro (RT.st SN.ob) (@id (Mac) zz.2.1).objects 7], op := Option.some 0 }), (9, { ty := 0, cells := [AV.ver], op := Option.some 0 }), (10, { ty := 0, cells := [AV.tre Ow.ro (RT.st SN.syn) (@id (Mac) zz.2.1).syncs 9], op := Option.some 0 }), (11, { ty := 0, cells := [AV.ver], op := Option.some 0 }), (12, { ty := 0, cells := [AV.tre Ow.ro (RT.st SN.gor) (@id (Mac) zz.2.1).goroutines 11], op := Option.some 0 }), (13, { ty := 0, cells := [AV.ver], op := Option.some 0 }), (14, { ty := 0, cells := [AV.tre Ow.ro (RT.int IntKind.i64) (@id (Mac) zz.2.1).output 13], op := Option.some 0 }), (16, { ty := 38, cells := [AV.lw 8 8 [] 10 (List.length (@id (Mac) zz.2.1).objects), AV.lw 10 10 [] 6 (List.length (@id (Mac) zz.2.1).syncs), AV.lw 12 12 [] 4 (List.length (@id (Mac) zz.2.1).goroutines), AV.lw 14 14 [] 1 (List.length (@id (Mac) zz.2.1).output)], op := Option.none })], 17⟩) (fun _ => fun _ => .no) | _ => .no)
    (fun zz hx hl => cast (by kernel_rfl) (valid23_vc zz.1 zz.2.1 hx hl))
noncomputable def tb11 : T Ctr := tb10.set 20 (ctrOf [.v false (.st .prg), .v false (.st .mac)] [.own (.bool)] (fun zz => ∀ o ∈ zz.2.1.objects, (o.senders.length + o.receivers.length) * 40 ≤ 140737488355328) (fun zz => (validR zz.1 zz.2.1, ())))
theorem tb11_ok : ∀ f c, tb11.get f = some c → CtrOk Tryz.prog f c := tset tb10_ok (ctrOf_ok valid23_spec)
theorem hval_vc (v : Val) (hlen : ArgsL [.v false (.st .val)] (v, ())) : bif v.kind == (0 : Int) then (v.off == (0 : Int)) = validVal v ∧ true = true else bif v.kind == (1 : Int) then bif v.n == (0 : Int) then (v.off == (0 : Int)) = validVal v ∧ true = true else false = validVal v ∧ true = true else bif v.kind == (2 : Int) then bif decide (v.n ≥ (0 : Int)) then bif decide (v.off ≥ (0 : Int)) then decide (v.off ≤ (64 : Int)) = validVal v ∧ true = true else false = validVal v ∧ true = true else false = validVal v ∧ true = true else false = validVal v ∧ true = true := by
  simp only [validVal]
  simp only [len_eq0, ite_int, ne_eq, ite_not, nlit, gt_iff_lt, ge_iff_le, dlt, bne, cond_not, Bool.not_not, Bool.decide_and, emp_dec, Bool.not_true, Bool.not_false, Bool.true_and, Bool.and_true, Bool.false_and, Bool.and_false, Bool.true_or, Bool.or_true, Bool.false_or, Bool.or_false, cond_true, cond_false, true_and, and_true, Bool.false_eq_true, if_true, if_false, Bool.not_eq_true, decide_eq_true_eq, nle]
  repeat' (refine bif_in (fun hc => ?_) (fun hc => ?_) <;> (try simp only [hc, len_eq0, ite_int, ne_eq, ite_not, nlit, gt_iff_lt, ge_iff_le, dlt, bne, cond_not, Bool.not_not, Bool.decide_and, emp_dec, Bool.not_true, Bool.not_false, Bool.true_and, Bool.and_true, Bool.false_and, Bool.and_false, Bool.true_or, Bool.or_true, Bool.false_or, Bool.or_false, cond_true, cond_false, true_and, and_true, Bool.false_eq_true, if_true, if_false, Bool.not_eq_true, decide_eq_true_eq] at ⊢) <;> (first | subst hc | clear hc))
  all_goals first
    | rfl
    | (simp)
    | (simp_all)
    | ((simp_all; omega))
theorem hval_spec : FSpec Tryz.prog 173 [.v false (.st .val)] [.own (.bool)] (fun zz => True) (fun zz => (validVal zz.1, ())) :=
  spec_of (own := ownF) (by kernel_rfl) (call_ok (by kernel_rfl) tb11_ok ownF 100 30) (fn := Tryz.f173) (c := Tryz.f173.body.getD .skip) (by kernel_rfl) 1 35 (fun _ => Nat.le_refl _) rfl (fun zz => fun q => match q with | _ => .no)
    (fun zz hx hl => cast (by kernel_rfl) (hval_vc zz.1 hl))
noncomputable def tb12 : T Ctr := tb11.set 173 (ctrOf [.v false (.st .val)] [.own (.bool)] (fun zz => True) (fun zz => (validVal zz.1, ())))
theorem tb12_ok : ∀ f c, tb12.get f = some c → CtrOk Tryz.prog f c := tset tb11_ok (ctrOf_ok hval_spec)
theorem hall1_vc (v : Val) (c : Unit) (hlen : ArgsL [.v false (.st .val), .ptr 130 (.fn0 173)] (v, c, ())) : True ∧ (!validVal v) = !validVal v ∧ true = true := by
  simp
theorem hall1_spec : FSpec Tryz.prog 236 [.v false (.st .val), .ptr 130 (.fn0 173)] [.own (.bool)] (fun zz => True) (fun zz => ((!validVal zz.1), ())) :=
  spec_of (own := ownF) (by kernel_rfl) (call_ok (by kernel_rfl) tb12_ok ownF 100 30) (fn := Tryz.f236) (c := Tryz.f236.body.getD .skip) (by kernel_rfl) 2 8 (fun _ => Nat.le_refl _) rfl (fun zz => fun q => match q with | _ => .no)
    (fun zz hx hl => cast (by kernel_rfl) (hall1_vc zz.1 zz.2.1 hl))
noncomputable def tb13 : T Ctr := tb12.set 236 (ctrOf [.v false (.st .val), .ptr 130 (.fn0 173)] [.own (.bool)] (fun zz => True) (fun zz => ((!validVal zz.1), ())))
theorem tb13_ok : ∀ f c, tb13.get f = some c → CtrOk Tryz.prog f c := tset tb12_ok (ctrOf_ok hall1_spec)
theorem hidx1_vc (l : List Val) (c : Unit) (hlen : ArgsL [.v false (.list (.st .val)), .fn1 236 (.ptr 130 (.fn0 173))] (l, c, ())) : (∃ (i : Nat), (i ≤ l.length ∧ (List.all (List.take i l) fun (x : Val) => !!validVal x) = true) ∧ ((True ∧ l.length = l.length) ∧ (True ∧ True) ∧ (l.length : Int) = (l.length : Int) ∧ (↑i : Int) = (0 : Int) ∧ True) ∧ ((True ∧ True) ∧ (True ∧ l = l) ∧ (True ∧ True) ∧ True) ∧ true = true) ∧ ∀ (i : Nat), i ≤ l.length ∧ (List.all (List.take i l) fun (x : Val) => !!validVal x) = true → bif decide ((↑i : Int) < (l.length : Int)) then bif decide ((0 : Int) ≤ (↑i : Int) ∧ (↑i : Int) < (l.length : Int)) then True ∧ bif !validVal (List.getD l (Int.toNat (↑i : Int)) dVal) then (↑i : Int) = idxF (fun (x : Val) => !validVal x) l ∧ true = true else ∃ (j : Nat), (j ≤ l.length ∧ (List.all (List.take j l) fun (x : Val) => !!validVal x) = true) ∧ l.length - j < l.length - i ∧ ((True ∧ l.length = l.length) ∧ (True ∧ True) ∧ (l.length : Int) = (l.length : Int) ∧ (↑j : Int) = IntKind.i64.wrap ((↑i : Int) + (1 : Int)) ∧ True) ∧ ((True ∧ True) ∧ (True ∧ l = l) ∧ (True ∧ True) ∧ True) ∧ true = true else False else (-1 : Int) = idxF (fun (x : Val) => !validVal x) l ∧ true = true := by
  refine ⟨⟨0, ⟨by omega, by simp⟩, by simp⟩, fun i ⟨hi, hall⟩ => ?_⟩
  by_cases h : i < l.length
  · have hw := wrap_succ h hlen.1.1.len
    simp only [idx_t1 h, idx_t2 h, cond_true, Nat.zero_add, Int.toNat_natCast, hw, true_and]
    refine bif_in (fun hc => ?_) (fun hc => ?_)
    · first | exact (idxF_some h hc hall).symm | exact ⟨(idxF_some h hc hall).symm, trivial⟩
    · refine ⟨i + 1, ⟨by omega, (allL h hall).2 (by simpa using hc)⟩, by omega, by simp⟩
  · simp only [idx_f1 h, cond_false]
    first | exact ⟨(idxF_all (take_all h hall)).symm, rfl⟩ | exact ⟨(idxF_all (take_all h hall)).symm, trivial⟩
theorem hidx1_spec : FSpec Tryz.prog 272 [.v false (.list (.st .val)), .fn1 236 (.ptr 130 (.fn0 173))] [.own (.int .i64)] (fun zz => True) (fun zz => (idxF (fun x => !validVal x) zz.1, ())) :=
  spec_of (own := ownF) (by kernel_rfl) (call_ok (by kernel_rfl) tb13_ok ownF 100 30) (fn := Tryz.f272) (c := Tryz.f272.body.getD .skip) (by kernel_rfl) 4 19 (fun _ => Nat.le_refl _) rfl (fun zz => fun q => match q with | 0 => .mk (Nat) (fun i => (@id (List Val) zz.1).length - i) (fun i => i ≤ (@id (List Val) zz.1).length ∧ ((@id (List Val) zz.1).take i).all (fun x => !!validVal x) = true) (fun i => ⟨[(0, AV.lw 2 2 [] 3 (List.length (@id (List Val) zz.1))), (1, AV.fn 236 [AV.ptr 3 0]), (7, AV.lit (Value.int IntKind.i64 ↑(List.length (@id (List Val) zz.1)))), (8, .lit (.int .i64 i))], [(1, { ty := 0, cells := [AV.ver], op := Option.some 0 }), (2, { ty := 0, cells := [AV.tre Ow.ro (RT.st SN.val) (@id (List Val) zz.1) 1], op := Option.some 0 }), (3, { ty := 130, cells := [AV.fn 173 []], op := Option.none })], 4⟩) (fun _ => fun _ => .no) | _ => .no)
    (fun zz hx hl => cast (by kernel_rfl) (hidx1_vc zz.1 zz.2.1 hl))
noncomputable def tb14 : T Ctr := tb13.set 272 (ctrOf [.v false (.list (.st .val)), .fn1 236 (.ptr 130 (.fn0 173))] [.own (.int .i64)] (fun zz => True) (fun zz => (idxF (fun x => !validVal x) zz.1, ())))
theorem tb14_ok : ∀ f c, tb14.get f = some c → CtrOk Tryz.prog f c := tset tb13_ok (ctrOf_ok hidx1_spec)
theorem hcon1_vc (l : List Val) (c : Unit) (hlen : ArgsL [.v false (.list (.st .val)), .fn1 236 (.ptr 130 (.fn0 173))] (l, c, ())) : True ∧ decide (idxF (fun (x : Val) => !validVal x) l ≥ (0 : Int)) = !List.all l validVal ∧ true = true := by
  simp only [idxF_any, ← any_all, Bool.not_not]
  simp
theorem hcon1_spec : FSpec Tryz.prog 235 [.v false (.list (.st .val)), .fn1 236 (.ptr 130 (.fn0 173))] [.own (.bool)] (fun zz => True) (fun zz => ((!zz.1.all validVal), ())) :=
  spec_of (own := ownF) (by kernel_rfl) (call_ok (by kernel_rfl) tb14_ok ownF 100 30) (fn := Tryz.f235) (c := Tryz.f235.body.getD .skip) (by kernel_rfl) 4 9 (fun _ => Nat.le_refl _) rfl (fun zz => fun q => match q with | _ => .no)
    (fun zz hx hl => cast (by kernel_rfl) (hcon1_vc zz.1 zz.2.1 hl))
noncomputable def tb15 : T Ctr := tb14.set 235 (ctrOf [.v false (.list (.st .val)), .fn1 236 (.ptr 130 (.fn0 173))] [.own (.bool)] (fun zz => True) (fun zz => ((!zz.1.all validVal), ())))
theorem tb15_ok : ∀ f c, tb15.get f = some c → CtrOk Tryz.prog f c := tset tb14_ok (ctrOf_ok hcon1_spec)
theorem halv_vc (l : List Val) (v : Unit) (hlen : ArgsL [.v false (.list (.st .val)), .fn0 173] (l, v, ())) : True ∧ (!!List.all l validVal) = List.all l validVal ∧ true = true := by
  simp
theorem halv_spec : FSpec Tryz.prog 172 [.v false (.list (.st .val)), .fn0 173] [.own (.bool)] (fun zz => True) (fun zz => (zz.1.all validVal, ())) :=
  spec_of (own := ownF) (by kernel_rfl) (call_ok (by kernel_rfl) tb15_ok ownF 100 30) (fn := Tryz.f172) (c := Tryz.f172.body.getD .skip) (by kernel_rfl) 3 9 (fun _ => Nat.le_refl _) rfl (fun zz => fun q => match q with | _ => .no)
    (fun zz hx hl => cast (by kernel_rfl) (halv_vc zz.1 zz.2.1 hl))
noncomputable def tb16 : T Ctr := tb15.set 172 (ctrOf [.v false (.list (.st .val)), .fn0 173] [.own (.bool)] (fun zz => True) (fun zz => (zz.1.all validVal, ())))
theorem tb16_ok : ∀ f c, tb16.get f = some c → CtrOk Tryz.prog f c := tset tb15_ok (ctrOf_ok halv_spec)
theorem hwtr_vc (w : Wtr) (hlen : ArgsL [.v false (.st .wtr)] (w, ())) : bif decide (w.g ≥ (0 : Int)) then bif decide (w.g < (8 : Int)) then bif decide (w.case_ ≥ (-1 : Int)) then bif decide (w.case_ ≤ (7 : Int)) then True ∧ validVal w.val = wtrOk w ∧ true = true else false = wtrOk w ∧ true = true else false = wtrOk w ∧ true = true else false = wtrOk w ∧ true = true else false = wtrOk w ∧ true = true := by
  simp only [wtrOk]
  simp only [len_eq0, ite_int, ne_eq, ite_not, nlit, gt_iff_lt, ge_iff_le, dlt, bne, cond_not, Bool.not_not, Bool.decide_and, emp_dec, Bool.not_true, Bool.not_false, Bool.true_and, Bool.and_true, Bool.false_and, Bool.and_false, Bool.true_or, Bool.or_true, Bool.false_or, Bool.or_false, cond_true, cond_false, true_and, and_true, Bool.false_eq_true, if_true, if_false, Bool.not_eq_true, decide_eq_true_eq, nle]
  repeat' (refine bif_in (fun hc => ?_) (fun hc => ?_) <;> (try simp only [hc, len_eq0, ite_int, ne_eq, ite_not, nlit, gt_iff_lt, ge_iff_le, dlt, bne, cond_not, Bool.not_not, Bool.decide_and, emp_dec, Bool.not_true, Bool.not_false, Bool.true_and, Bool.and_true, Bool.false_and, Bool.and_false, Bool.true_or, Bool.or_true, Bool.false_or, Bool.or_false, cond_true, cond_false, true_and, and_true, Bool.false_eq_true, if_true, if_false, Bool.not_eq_true, decide_eq_true_eq] at ⊢) <;> (first | subst hc | clear hc))
  all_goals first
    | rfl
    | (simp)
theorem hwtr_spec : FSpec Tryz.prog 175 [.v false (.st .wtr)] [.own (.bool)] (fun zz => True) (fun zz => (wtrOk zz.1, ())) :=
  spec_of (own := ownF) (by kernel_rfl) (call_ok (by kernel_rfl) tb16_ok ownF 100 30) (fn := Tryz.f175) (c := Tryz.f175.body.getD .skip) (by kernel_rfl) 1 26 (fun _ => Nat.le_refl _) rfl (fun zz => fun q => match q with | _ => .no)
    (fun zz hx hl => cast (by kernel_rfl) (hwtr_vc zz.1 hl))
noncomputable def tb17 : T Ctr := tb16.set 175 (ctrOf [.v false (.st .wtr)] [.own (.bool)] (fun zz => True) (fun zz => (wtrOk zz.1, ())))
theorem tb17_ok : ∀ f c, tb17.get f = some c → CtrOk Tryz.prog f c := tset tb16_ok (ctrOf_ok hwtr_spec)
theorem hall2_vc (v : Wtr) (c : Unit) (hlen : ArgsL [.v false (.st .wtr), .ptr 220 (.fn0 175)] (v, c, ())) : True ∧ (!wtrOk v) = !wtrOk v ∧ true = true := by
  simp
theorem hall2_spec : FSpec Tryz.prog 238 [.v false (.st .wtr), .ptr 220 (.fn0 175)] [.own (.bool)] (fun zz => True) (fun zz => ((!wtrOk zz.1), ())) :=
  spec_of (own := ownF) (by kernel_rfl) (call_ok (by kernel_rfl) tb17_ok ownF 100 30) (fn := Tryz.f238) (c := Tryz.f238.body.getD .skip) (by kernel_rfl) 2 8 (fun _ => Nat.le_refl _) rfl (fun zz => fun q => match q with | _ => .no)
    (fun zz hx hl => cast (by kernel_rfl) (hall2_vc zz.1 zz.2.1 hl))
noncomputable def tb18 : T Ctr := tb17.set 238 (ctrOf [.v false (.st .wtr), .ptr 220 (.fn0 175)] [.own (.bool)] (fun zz => True) (fun zz => ((!wtrOk zz.1), ())))
theorem tb18_ok : ∀ f c, tb18.get f = some c → CtrOk Tryz.prog f c := tset tb17_ok (ctrOf_ok hall2_spec)
theorem hidx2_vc (l : List Wtr) (c : Unit) (hlen : ArgsL [.v false (.list (.st .wtr)), .fn1 238 (.ptr 220 (.fn0 175))] (l, c, ())) : (∃ (i : Nat), (i ≤ l.length ∧ (List.all (List.take i l) fun (x : Wtr) => !!wtrOk x) = true) ∧ ((True ∧ l.length = l.length) ∧ (True ∧ True) ∧ (l.length : Int) = (l.length : Int) ∧ (↑i : Int) = (0 : Int) ∧ True) ∧ ((True ∧ True) ∧ (True ∧ l = l) ∧ (True ∧ True) ∧ True) ∧ true = true) ∧ ∀ (i : Nat), i ≤ l.length ∧ (List.all (List.take i l) fun (x : Wtr) => !!wtrOk x) = true → bif decide ((↑i : Int) < (l.length : Int)) then bif decide ((0 : Int) ≤ (↑i : Int) ∧ (↑i : Int) < (l.length : Int)) then True ∧ bif !wtrOk (List.getD l (Int.toNat (↑i : Int)) dWtr) then (↑i : Int) = idxF (fun (x : Wtr) => !wtrOk x) l ∧ true = true else ∃ (j : Nat), (j ≤ l.length ∧ (List.all (List.take j l) fun (x : Wtr) => !!wtrOk x) = true) ∧ l.length - j < l.length - i ∧ ((True ∧ l.length = l.length) ∧ (True ∧ True) ∧ (l.length : Int) = (l.length : Int) ∧ (↑j : Int) = IntKind.i64.wrap ((↑i : Int) + (1 : Int)) ∧ True) ∧ ((True ∧ True) ∧ (True ∧ l = l) ∧ (True ∧ True) ∧ True) ∧ true = true else False else (-1 : Int) = idxF (fun (x : Wtr) => !wtrOk x) l ∧ true = true := by
  refine ⟨⟨0, ⟨by omega, by simp⟩, by simp⟩, fun i ⟨hi, hall⟩ => ?_⟩
  by_cases h : i < l.length
  · have hw := wrap_succ h hlen.1.1.len
    simp only [idx_t1 h, idx_t2 h, cond_true, Nat.zero_add, Int.toNat_natCast, hw, true_and]
    refine bif_in (fun hc => ?_) (fun hc => ?_)
    · first | exact (idxF_some h hc hall).symm | exact ⟨(idxF_some h hc hall).symm, trivial⟩
    · refine ⟨i + 1, ⟨by omega, (allL h hall).2 (by simpa using hc)⟩, by omega, by simp⟩
  · simp only [idx_f1 h, cond_false]
    first | exact ⟨(idxF_all (take_all h hall)).symm, rfl⟩ | exact ⟨(idxF_all (take_all h hall)).symm, trivial⟩
theorem hidx2_spec : FSpec Tryz.prog 273 [.v false (.list (.st .wtr)), .fn1 238 (.ptr 220 (.fn0 175))] [.own (.int .i64)] (fun zz => True) (fun zz => (idxF (fun x => !wtrOk x) zz.1, ())) :=
  spec_of (own := ownF) (by kernel_rfl) (call_ok (by kernel_rfl) tb18_ok ownF 100 30) (fn := Tryz.f273) (c := Tryz.f273.body.getD .skip) (by kernel_rfl) 4 19 (fun _ => Nat.le_refl _) rfl (fun zz => fun q => match q with | 0 => .mk (Nat) (fun i => (@id (List Wtr) zz.1).length - i) (fun i => i ≤ (@id (List Wtr) zz.1).length ∧ ((@id (List Wtr) zz.1).take i).all (fun x => !!wtrOk x) = true) (fun i => ⟨[(0, AV.lw 2 2 [] 5 (List.length (@id (List Wtr) zz.1))), (1, AV.fn 238 [AV.ptr 3 0]), (7, AV.lit (Value.int IntKind.i64 ↑(List.length (@id (List Wtr) zz.1)))), (8, .lit (.int .i64 i))], [(1, { ty := 0, cells := [AV.ver], op := Option.some 0 }), (2, { ty := 0, cells := [AV.tre Ow.ro (RT.st SN.wtr) (@id (List Wtr) zz.1) 1], op := Option.some 0 }), (3, { ty := 220, cells := [AV.fn 175 []], op := Option.none })], 4⟩) (fun _ => fun _ => .no) | _ => .no)
    (fun zz hx hl => cast (by kernel_rfl) (hidx2_vc zz.1 zz.2.1 hl))
noncomputable def tb19 : T Ctr := tb18.set 273 (ctrOf [.v false (.list (.st .wtr)), .fn1 238 (.ptr 220 (.fn0 175))] [.own (.int .i64)] (fun zz => True) (fun zz => (idxF (fun x => !wtrOk x) zz.1, ())))
theorem tb19_ok : ∀ f c, tb19.get f = some c → CtrOk Tryz.prog f c := tset tb18_ok (ctrOf_ok hidx2_spec)
theorem hcon2_vc (l : List Wtr) (c : Unit) (hlen : ArgsL [.v false (.list (.st .wtr)), .fn1 238 (.ptr 220 (.fn0 175))] (l, c, ())) : True ∧ decide (idxF (fun (x : Wtr) => !wtrOk x) l ≥ (0 : Int)) = !List.all l wtrOk ∧ true = true := by
  simp only [idxF_any, ← any_all, Bool.not_not]
  simp
theorem hcon2_spec : FSpec Tryz.prog 237 [.v false (.list (.st .wtr)), .fn1 238 (.ptr 220 (.fn0 175))] [.own (.bool)] (fun zz => True) (fun zz => ((!zz.1.all wtrOk), ())) :=
  spec_of (own := ownF) (by kernel_rfl) (call_ok (by kernel_rfl) tb19_ok ownF 100 30) (fn := Tryz.f237) (c := Tryz.f237.body.getD .skip) (by kernel_rfl) 4 9 (fun _ => Nat.le_refl _) rfl (fun zz => fun q => match q with | _ => .no)
    (fun zz hx hl => cast (by kernel_rfl) (hcon2_vc zz.1 zz.2.1 hl))
noncomputable def tb20 : T Ctr := tb19.set 237 (ctrOf [.v false (.list (.st .wtr)), .fn1 238 (.ptr 220 (.fn0 175))] [.own (.bool)] (fun zz => True) (fun zz => ((!zz.1.all wtrOk), ())))
theorem tb20_ok : ∀ f c, tb20.get f = some c → CtrOk Tryz.prog f c := tset tb19_ok (ctrOf_ok hcon2_spec)
theorem halw_vc (l : List Wtr) (v : Unit) (hlen : ArgsL [.v false (.list (.st .wtr)), .fn0 175] (l, v, ())) : True ∧ (!!List.all l wtrOk) = List.all l wtrOk ∧ true = true := by
  simp
theorem halw_spec : FSpec Tryz.prog 174 [.v false (.list (.st .wtr)), .fn0 175] [.own (.bool)] (fun zz => True) (fun zz => (zz.1.all wtrOk, ())) :=
  spec_of (own := ownF) (by kernel_rfl) (call_ok (by kernel_rfl) tb20_ok ownF 100 30) (fn := Tryz.f174) (c := Tryz.f174.body.getD .skip) (by kernel_rfl) 3 9 (fun _ => Nat.le_refl _) rfl (fun zz => fun q => match q with | _ => .no)
    (fun zz hx hl => cast (by kernel_rfl) (halw_vc zz.1 zz.2.1 hl))
noncomputable def tb21 : T Ctr := tb20.set 174 (ctrOf [.v false (.list (.st .wtr)), .fn0 175] [.own (.bool)] (fun zz => True) (fun zz => (zz.1.all wtrOk, ())))
theorem tb21_ok : ∀ f c, tb21.get f = some c → CtrOk Tryz.prog f c := tset tb20_ok (ctrOf_ok halw_spec)
theorem hobj_vc (o : Ob) (hlen : ArgsL [.v false (.st .ob)] (o, ())) : bif o.chan then bif (o.cells_.length : Int) == (0 : Int) then bif decide (o.cap ≥ (0 : Int)) then bif decide (o.cap ≤ (64 : Int)) then bif decide ((o.queue.length : Int) ≤ o.cap) then True ∧ bif List.all o.queue validVal then bif decide (o.sent ≥ (0 : Int)) then bif decide (o.received ≥ (0 : Int)) then True ∧ bif List.all o.senders wtrOk then True ∧ List.all o.receivers wtrOk = obOkP o ∧ true = true else false = obOkP o ∧ true = true else false = obOkP o ∧ true = true else false = obOkP o ∧ true = true else false = obOkP o ∧ true = true else false = obOkP o ∧ true = true else false = obOkP o ∧ true = true else false = obOkP o ∧ true = true else false = obOkP o ∧ true = true else bif decide ((o.cells_.length : Int) ≤ (64 : Int)) then True ∧ bif List.all o.cells_ validVal then bif o.cap == (0 : Int) then bif (o.queue.length : Int) == (0 : Int) then bif !o.closed then bif o.sent == (0 : Int) then bif o.received == (0 : Int) then bif (o.senders.length : Int) == (0 : Int) then ((o.receivers.length : Int) == (0 : Int)) = obOkP o ∧ true = true else false = obOkP o ∧ true = true else false = obOkP o ∧ true = true else false = obOkP o ∧ true = true else false = obOkP o ∧ true = true else false = obOkP o ∧ true = true else false = obOkP o ∧ true = true else false = obOkP o ∧ true = true else false = obOkP o ∧ true = true := by
  simp only [obOkP, chanOb, plainOb]
  simp only [len_eq0, ite_int, ne_eq, ite_not, nlit, gt_iff_lt, ge_iff_le, dlt, bne, cond_not, Bool.not_not, Bool.decide_and, emp_dec, Bool.not_true, Bool.not_false, Bool.true_and, Bool.and_true, Bool.false_and, Bool.and_false, Bool.true_or, Bool.or_true, Bool.false_or, Bool.or_false, cond_true, cond_false, true_and, and_true, Bool.false_eq_true, if_true, if_false, Bool.not_eq_true, decide_eq_true_eq, nle]
  repeat' (refine bif_in (fun hc => ?_) (fun hc => ?_) <;> (try simp only [hc, len_eq0, ite_int, ne_eq, ite_not, nlit, gt_iff_lt, ge_iff_le, dlt, bne, cond_not, Bool.not_not, Bool.decide_and, emp_dec, Bool.not_true, Bool.not_false, Bool.true_and, Bool.and_true, Bool.false_and, Bool.and_false, Bool.true_or, Bool.or_true, Bool.false_or, Bool.or_false, cond_true, cond_false, true_and, and_true, Bool.false_eq_true, if_true, if_false, Bool.not_eq_true, decide_eq_true_eq] at ⊢) <;> (first | subst hc | clear hc))
  all_goals first
    | rfl
    | (simp)
    | (simp_all)
    | ((simp_all; omega))
theorem hobj_spec : FSpec Tryz.prog 97 [.v false (.st .ob)] [.own (.bool)] (fun zz => True) (fun zz => (obOkP zz.1, ())) :=
  spec_of (own := ownF) (by kernel_rfl) (call_ok (by kernel_rfl) tb21_ok ownF 100 30) (fn := Tryz.f97) (c := Tryz.f97.body.getD .skip) (by kernel_rfl) 9 99 (fun _ => Nat.le_refl _) rfl (fun zz => fun q => match q with | _ => .no)
    (fun zz hx hl => cast (by kernel_rfl) (hobj_vc zz.1 hl))
noncomputable def tb22 : T Ctr := tb21.set 97 (ctrOf [.v false (.st .ob)] [.own (.bool)] (fun zz => True) (fun zz => (obOkP zz.1, ())))
theorem tb22_ok : ∀ f c, tb22.get f = some c → CtrOk Tryz.prog f c := tset tb21_ok (ctrOf_ok hobj_spec)
theorem heapP_vc (l : List Ob) (hlen : ArgsL [.v false (.list (.st .ob))] (l, ())) : (∃ (i : Nat), (i ≤ l.length ∧ ∀ (j : Nat), j < i → obI l j (List.getD l j o0_) = true) ∧ (prevId l i = (-1 : Int) ∧ (True ∧ l.length = l.length) ∧ (l.length : Int) = (l.length : Int) ∧ (↑i : Int) = (0 : Int) ∧ True) ∧ ((True ∧ True) ∧ (True ∧ l = l) ∧ True) ∧ true = true) ∧ ∀ (i : Nat), (i ≤ l.length ∧ ∀ (j : Nat), j < i → obI l j (List.getD l j o0_) = true) → bif decide ((↑i : Int) < (l.length : Int)) then bif decide ((0 : Int) ≤ (↑i : Int) ∧ (↑i : Int) < (l.length : Int)) then bif !decide ((List.getD l (Int.toNat (↑i : Int)) dOb).id ≤ prevId l i) then True ∧ bif !obOkP (List.getD l (Int.toNat (↑i : Int)) dOb) then false = heapOkP l ∧ true = true else ∃ (j : Nat), (j ≤ l.length ∧ ∀ (j1 : Nat), j1 < j → obI l j1 (List.getD l j1 o0_) = true) ∧ l.length - j < l.length - i ∧ (prevId l j = (List.getD l (Int.toNat (↑i : Int)) dOb).id ∧ (True ∧ l.length = l.length) ∧ (l.length : Int) = (l.length : Int) ∧ (↑j : Int) = IntKind.i64.wrap ((↑i : Int) + (1 : Int)) ∧ True) ∧ ((True ∧ True) ∧ (True ∧ l = l) ∧ True) ∧ true = true else false = heapOkP l ∧ true = true else False else true = heapOkP l ∧ true = true := by
  refine ⟨⟨0, ⟨by omega, fun j h => by omega⟩, by simp [prevId]⟩, fun i ⟨hi, hall⟩ => ?_⟩
  by_cases h : i < l.length
  · obtain ⟨hF, hT⟩ := allIL (f := obI l) (d := o0_) h hall
    have hw := wrap_succ h hlen.1.1.len
    have hp : prevId l (i + 1) = (l.getD i o0_).id := by simp [prevId, List.getD_eq_getElem?_getD]
    simp only [dOb, idx_t1 h, idx_t2 h, cond_true, Int.toNat_natCast, hw]
    generalize hB : obI l i (l.getD i o0_) = c at hF hT
    simp only [obI] at hB
    obtain ⟨x, hx⟩ : ∃ x, l.getD i o0_ = x := ⟨_, rfl⟩
    simp only [hx] at hB hp ⊢
    clear hx
    simp only [len_eq0, ite_int, ne_eq, ite_not, nlit, gt_iff_lt, ge_iff_le, dlt, bne, cond_not, Bool.not_not, Bool.decide_and, emp_dec, Bool.not_true, Bool.not_false, Bool.true_and, Bool.and_true, Bool.false_and, Bool.and_false, Bool.true_or, Bool.or_true, Bool.false_or, Bool.or_false, cond_true, cond_false, true_and, and_true, Bool.false_eq_true, if_true, if_false, Bool.not_eq_true, decide_eq_true_eq] at hB ⊢
    repeat' (refine bif_in (fun hc => ?_) (fun hc => ?_) <;> (try simp only [hc, len_eq0, ite_int, ne_eq, ite_not, nlit, gt_iff_lt, ge_iff_le, dlt, bne, cond_not, Bool.not_not, Bool.decide_and, emp_dec, Bool.not_true, Bool.not_false, Bool.true_and, Bool.and_true, Bool.false_and, Bool.and_false, Bool.true_or, Bool.or_true, Bool.false_or, Bool.or_false, cond_true, cond_false, true_and, and_true, Bool.false_eq_true, if_true, if_false, Bool.not_eq_true, decide_eq_true_eq] at hB ⊢) <;> (first | subst hc | clear hc))
    all_goals first
      | exact (hF hB.symm).symm
      | exact ⟨(hF hB.symm).symm, rfl⟩
      | (refine ⟨i + 1, ⟨by omega, hT hB.symm⟩, by omega, ?_⟩; rw [hp]; simp; done)
  · simp only [idx_f1 h, cond_false]
    have := (allI_of (d := o0_) fun j hj => hall j (by omega) : allI (obI l) l = true).symm
    simpa [heapOkP] using this
theorem heapP_spec : FSpec Tryz.prog 45 [.v false (.list (.st .ob))] [.own (.bool)] (fun zz => True) (fun zz => (heapOkP zz.1, ())) :=
  spec_of (own := ownF) (by kernel_rfl) (call_ok (by kernel_rfl) tb22_ok ownF 100 30) (fn := Tryz.f45) (c := Tryz.f45.body.getD .skip) (by kernel_rfl) 3 24 (fun _ => Nat.le_refl _) rfl (fun zz => fun q => match q with | 0 => .mk (Nat) (fun i => (@id (List Ob) zz.1).length - i) (fun i => i ≤ (@id (List Ob) zz.1).length ∧ ∀ j, j < i → obI (@id (List Ob) zz.1) j ((@id (List Ob) zz.1).getD j o0_) = true) (fun i => ⟨[(3, .lit (.int .i64 (prevId (@id (List Ob) zz.1) i))), (6, AV.lw 2 2 [] 10 (List.length (@id (List Ob) zz.1))), (7, AV.lit (Value.int IntKind.i64 ↑(List.length (@id (List Ob) zz.1)))), (8, .lit (.int .i64 i))], [(1, { ty := 0, cells := [AV.ver], op := Option.some 0 }), (2, { ty := 0, cells := [AV.tre Ow.ro (RT.st SN.ob) (@id (List Ob) zz.1) 1], op := Option.some 0 })], 3⟩) (fun _ => fun _ => .no) | _ => .no)
    (fun zz hx hl => cast (by kernel_rfl) (heapP_vc zz.1 hl))
noncomputable def tb23 : T Ctr := tb22.set 45 (ctrOf [.v false (.list (.st .ob))] [.own (.bool)] (fun zz => True) (fun zz => (heapOkP zz.1, ())))
theorem tb23_ok : ∀ f c, tb23.get f = some c → CtrOk Tryz.prog f c := tset tb22_ok (ctrOf_ok heapP_spec)
theorem cgok_vc (g : Int) (hlen : ArgsL [.v false (.int .i64)] (g, ())) : bif decide (g ≥ (0 : Int)) then decide (g < (8 : Int)) = gOK g ∧ true = true else false = gOK g ∧ true = true := by
  simp only [gOK]
  simp only [len_eq0, ite_int, ne_eq, ite_not, nlit, gt_iff_lt, ge_iff_le, dlt, bne, cond_not, Bool.not_not, Bool.decide_and, emp_dec, Bool.not_true, Bool.not_false, Bool.true_and, Bool.and_true, Bool.false_and, Bool.and_false, Bool.true_or, Bool.or_true, Bool.false_or, Bool.or_false, cond_true, cond_false, true_and, and_true, Bool.false_eq_true, if_true, if_false, Bool.not_eq_true, decide_eq_true_eq, nle]
  repeat' (refine bif_in (fun hc => ?_) (fun hc => ?_) <;> (try simp only [hc, len_eq0, ite_int, ne_eq, ite_not, nlit, gt_iff_lt, ge_iff_le, dlt, bne, cond_not, Bool.not_not, Bool.decide_and, emp_dec, Bool.not_true, Bool.not_false, Bool.true_and, Bool.and_true, Bool.false_and, Bool.and_false, Bool.true_or, Bool.or_true, Bool.false_or, Bool.or_false, cond_true, cond_false, true_and, and_true, Bool.false_eq_true, if_true, if_false, Bool.not_eq_true, decide_eq_true_eq] at ⊢) <;> (first | subst hc | clear hc))
  all_goals first
    | rfl
    | (simp)
theorem cgok_spec : FSpec Tryz.prog 99 [.v false (.int .i64)] [.own (.bool)] (fun zz => True) (fun zz => (gOK zz.1, ())) :=
  spec_of (own := ownF) (by kernel_rfl) (call_ok (by kernel_rfl) tb23_ok ownF 100 30) (fn := Tryz.f99) (c := Tryz.f99.body.getD .skip) (by kernel_rfl) 1 9 (fun _ => Nat.le_refl _) rfl (fun zz => fun q => match q with | _ => .no)
    (fun zz hx hl => cast (by kernel_rfl) (cgok_vc zz.1 hl))
noncomputable def tb24 : T Ctr := tb23.set 99 (ctrOf [.v false (.int .i64)] [.own (.bool)] (fun zz => True) (fun zz => (gOK zz.1, ())))
theorem tb24_ok : ∀ f c, tb24.get f = some c → CtrOk Tryz.prog f c := tset tb23_ok (ctrOf_ok cgok_spec)
theorem lgor_vc (g : Int) (hlen : ArgsL [.v false (.int .i64)] (g, ())) : bif decide ((0 : Int) ≤ g) then decide (g < (8 : Int)) = gOK g ∧ true = true else false = gOK g ∧ true = true := by
  simp only [gOK]
  simp only [len_eq0, ite_int, ne_eq, ite_not, nlit, gt_iff_lt, ge_iff_le, dlt, bne, cond_not, Bool.not_not, Bool.decide_and, emp_dec, Bool.not_true, Bool.not_false, Bool.true_and, Bool.and_true, Bool.false_and, Bool.and_false, Bool.true_or, Bool.or_true, Bool.false_or, Bool.or_false, cond_true, cond_false, true_and, and_true, Bool.false_eq_true, if_true, if_false, Bool.not_eq_true, decide_eq_true_eq, nle]
  repeat' (refine bif_in (fun hc => ?_) (fun hc => ?_) <;> (try simp only [hc, len_eq0, ite_int, ne_eq, ite_not, nlit, gt_iff_lt, ge_iff_le, dlt, bne, cond_not, Bool.not_not, Bool.decide_and, emp_dec, Bool.not_true, Bool.not_false, Bool.true_and, Bool.and_true, Bool.false_and, Bool.and_false, Bool.true_or, Bool.or_true, Bool.false_or, Bool.or_false, cond_true, cond_false, true_and, and_true, Bool.false_eq_true, if_true, if_false, Bool.not_eq_true, decide_eq_true_eq] at ⊢) <;> (first | subst hc | clear hc))
  all_goals first
    | rfl
    | (simp)
theorem lgor_spec : FSpec Tryz.prog 101 [.v false (.int .i64)] [.own (.bool)] (fun zz => True) (fun zz => (gOK zz.1, ())) :=
  spec_of (own := ownF) (by kernel_rfl) (call_ok (by kernel_rfl) tb24_ok ownF 100 30) (fn := Tryz.f101) (c := Tryz.f101.body.getD .skip) (by kernel_rfl) 1 9 (fun _ => Nat.le_refl _) rfl (fun zz => fun q => match q with | _ => .no)
    (fun zz hx hl => cast (by kernel_rfl) (lgor_vc zz.1 hl))
noncomputable def tb25 : T Ctr := tb24.set 101 (ctrOf [.v false (.int .i64)] [.own (.bool)] (fun zz => True) (fun zz => (gOK zz.1, ())))
theorem tb25_ok : ∀ f c, tb25.get f = some c → CtrOk Tryz.prog f c := tset tb24_ok (ctrOf_ok lgor_spec)
theorem groupP_vc (s : Syn) (hlen : ArgsL [.v false (.st .syn)] (s, ())) : bif !decide ((if s.count_ < if s.off < s.obj then s.off else s.obj then s.count_ else if s.off < s.obj then s.off else s.obj) < (0 : Int)) then bif decide ((s.readers.length : Int) > (0 : Int)) then false = groupValid s ∧ true = true else bif s.kind == (3 : Int) then bif s.owner == (-1 : Int) then decide (s.count_ ≤ (4611686018427387904 : Int)) = groupValid s ∧ true = true else false = groupValid s ∧ true = true else bif s.kind == (4 : Int) then bif s.owner == (-1 : Int) then bif !decide (s.count_ ≤ (1 : Int)) then bif decide (s.owner ≥ (0 : Int)) then bif decide (s.owner < (8 : Int)) then (s.count_ == (0 : Int)) = groupValid s ∧ true = true else false = groupValid s ∧ true = true else false = groupValid s ∧ true = true else true = groupValid s ∧ true = true else bif decide (s.owner ≥ (0 : Int)) then bif decide (s.owner < (8 : Int)) then (s.count_ == (0 : Int)) = groupValid s ∧ true = true else false = groupValid s ∧ true = true else false = groupValid s ∧ true = true else false = groupValid s ∧ true = true else false = groupValid s ∧ true = true := by
  have hmin : decide ((if s.count_ < if s.off < s.obj then s.off else s.obj then s.count_ else if s.off < s.obj then s.off else s.obj) < (0 : Int)) = !(decide (0 ≤ s.obj) && decide (0 ≤ s.off) && decide (0 ≤ s.count_)) := by
    have e : (if s.count_ < if s.off < s.obj then s.off else s.obj then s.count_ else if s.off < s.obj then s.off else s.obj) < (0 : Int) ↔ ¬ ((0 ≤ s.obj ∧ 0 ≤ s.off) ∧ 0 ≤ s.count_) := by split <;> split <;> omega
    rw [decide_eq_decide.2 e, decide_not, Bool.decide_and, Bool.decide_and]
  rw [hmin]
  have e62 : (2 : Int) ^ 62 = 4611686018427387904 := by decide
  unfold groupValid
  rw [e62]
  by_cases h1 : 0 ≤ s.obj <;> by_cases h2 : 0 ≤ s.off <;> by_cases h3 : 0 ≤ s.count_ <;> simp only [h1, h2, h3, decide_true, decide_false, Bool.and_true, Bool.and_false, Bool.not_true, Bool.not_false, Bool.true_and, Bool.false_and, cond_true, cond_false, eq_self, and_true]
  cases hr : s.readers with
  | cons a l => simp
  | nil =>
    by_cases k3 : s.kind = 3
    · by_cases o : s.owner = -1 <;> simp [k3, o]
    · by_cases k4 : s.kind = 4
      · by_cases o : s.owner = -1
        · by_cases c : s.count_ ≤ 1 <;> simp [k4, o, c]
        · by_cases c : s.count_ ≤ 1 <;> by_cases o2 : 0 ≤ s.owner <;> by_cases o3 : s.owner < 8 <;> by_cases o4 : -1 ≤ s.owner <;> simp [k4, o, c, o2, o3, o4] <;> omega
      · simp [k3, k4]
theorem groupP_spec : FSpec Tryz.prog 49 [.v false (.st .syn)] [.own (.bool)] (fun zz => True) (fun zz => (groupValid zz.1, ())) :=
  spec_of (own := ownF) (by kernel_rfl) (call_ok (by kernel_rfl) tb25_ok ownF 100 30) (fn := Tryz.f49) (c := Tryz.f49.body.getD .skip) (by kernel_rfl) 3 54 (fun _ => Nat.le_refl _) rfl (fun zz => fun q => match q with | _ => .no)
    (fun zz hx hl => cast (by kernel_rfl) (groupP_vc zz.1 hl))
noncomputable def tb26 : T Ctr := tb25.set 49 (ctrOf [.v false (.st .syn)] [.own (.bool)] (fun zz => True) (fun zz => (groupValid zz.1, ())))
theorem tb26_ok : ∀ f c, tb26.get f = some c → CtrOk Tryz.prog f c := tset tb25_ok (ctrOf_ok groupP_spec)
theorem lval1_vc (g : Int) (hlen : ArgsL [.v false (.int .i64)] (g, ())) : True ∧ (!gOK g) = !gOK g ∧ true = true := by
  simp
theorem lval1_spec : FSpec Tryz.prog 103 [.v false (.int .i64)] [.own (.bool)] (fun zz => True) (fun zz => ((!gOK zz.1), ())) :=
  spec_of (own := ownF) (by kernel_rfl) (call_ok (by kernel_rfl) tb26_ok ownF 100 30) (fn := Tryz.f103) (c := Tryz.f103.body.getD .skip) (by kernel_rfl) 1 6 (fun _ => Nat.le_refl _) rfl (fun zz => fun q => match q with | _ => .no)
    (fun zz hx hl => cast (by kernel_rfl) (lval1_vc zz.1 hl))
noncomputable def tb27 : T Ctr := tb26.set 103 (ctrOf [.v false (.int .i64)] [.own (.bool)] (fun zz => True) (fun zz => ((!gOK zz.1), ())))
theorem tb27_ok : ∀ f c, tb27.get f = some c → CtrOk Tryz.prog f c := tset tb26_ok (ctrOf_ok lval1_spec)
theorem lidx_vc (l : List Int) (c : Unit) (hlen : ArgsL [.v false (.list (.int .i64)), .fn0 103] (l, c, ())) : (∃ (i : Nat), (i ≤ l.length ∧ (List.all (List.take i l) fun (x : Int) => !!gOK x) = true) ∧ ((True ∧ l.length = l.length) ∧ True ∧ (l.length : Int) = (l.length : Int) ∧ (↑i : Int) = (0 : Int) ∧ True) ∧ ((True ∧ True) ∧ (True ∧ l = l) ∧ True) ∧ true = true) ∧ ∀ (i : Nat), i ≤ l.length ∧ (List.all (List.take i l) fun (x : Int) => !!gOK x) = true → bif decide ((↑i : Int) < (l.length : Int)) then bif decide ((0 : Int) ≤ (↑i : Int) ∧ (↑i : Int) < (l.length : Int)) then True ∧ bif !gOK (List.getD l (Int.toNat (↑i : Int)) (0 : Int)) then (↑i : Int) = idxF (fun (x : Int) => !gOK x) l ∧ true = true else ∃ (j : Nat), (j ≤ l.length ∧ (List.all (List.take j l) fun (x : Int) => !!gOK x) = true) ∧ l.length - j < l.length - i ∧ ((True ∧ l.length = l.length) ∧ True ∧ (l.length : Int) = (l.length : Int) ∧ (↑j : Int) = IntKind.i64.wrap ((↑i : Int) + (1 : Int)) ∧ True) ∧ ((True ∧ True) ∧ (True ∧ l = l) ∧ True) ∧ true = true else False else (-1 : Int) = idxF (fun (x : Int) => !gOK x) l ∧ true = true := by
  refine ⟨⟨0, ⟨by omega, by simp⟩, by simp⟩, fun i ⟨hi, hall⟩ => ?_⟩
  by_cases h : i < l.length
  · have hw := wrap_succ h hlen.1.1.len
    simp only [idx_t1 h, idx_t2 h, cond_true, Nat.zero_add, Int.toNat_natCast, hw, true_and]
    refine bif_in (fun hc => ?_) (fun hc => ?_)
    · first | exact (idxF_some h hc hall).symm | exact ⟨(idxF_some h hc hall).symm, trivial⟩
    · refine ⟨i + 1, ⟨by omega, (allL h hall).2 (by simpa using hc)⟩, by omega, by simp⟩
  · simp only [idx_f1 h, cond_false]
    first | exact ⟨(idxF_all (take_all h hall)).symm, rfl⟩ | exact ⟨(idxF_all (take_all h hall)).symm, trivial⟩
theorem lidx_spec : FSpec Tryz.prog 178 [.v false (.list (.int .i64)), .fn0 103] [.own (.int .i64)] (fun zz => True) (fun zz => (idxF (fun x => !gOK x) zz.1, ())) :=
  spec_of (own := ownF) (by kernel_rfl) (call_ok (by kernel_rfl) tb27_ok ownF 100 30) (fn := Tryz.f178) (c := Tryz.f178.body.getD .skip) (by kernel_rfl) 3 19 (fun _ => Nat.le_refl _) rfl (fun zz => fun q => match q with | 0 => .mk (Nat) (fun i => (@id (List Int) zz.1).length - i) (fun i => i ≤ (@id (List Int) zz.1).length ∧ ((@id (List Int) zz.1).take i).all (fun x => !!gOK x) = true) (fun i => ⟨[(0, AV.lw 2 2 [] 1 (List.length (@id (List Int) zz.1))), (1, AV.fn 103 []), (7, AV.lit (Value.int IntKind.i64 ↑(List.length (@id (List Int) zz.1)))), (8, .lit (.int .i64 i))], [(1, { ty := 0, cells := [AV.ver], op := Option.some 0 }), (2, { ty := 0, cells := [AV.tre Ow.ro (RT.int IntKind.i64) (@id (List Int) zz.1) 1], op := Option.some 0 })], 3⟩) (fun _ => fun _ => .no) | _ => .no)
    (fun zz hx hl => cast (by kernel_rfl) (lidx_vc zz.1 zz.2.1 hl))
noncomputable def tb28 : T Ctr := tb27.set 178 (ctrOf [.v false (.list (.int .i64)), .fn0 103] [.own (.int .i64)] (fun zz => True) (fun zz => (idxF (fun x => !gOK x) zz.1, ())))
theorem tb28_ok : ∀ f c, tb28.get f = some c → CtrOk Tryz.prog f c := tset tb27_ok (ctrOf_ok lidx_spec)
theorem lcon_vc (l : List Int) (c : Unit) (hlen : ArgsL [.v false (.list (.int .i64)), .fn0 103] (l, c, ())) : True ∧ decide (idxF (fun (x : Int) => !gOK x) l ≥ (0 : Int)) = !List.all l gOK ∧ true = true := by
  simp only [idxF_any, ← any_all, Bool.not_not]
  simp
theorem lcon_spec : FSpec Tryz.prog 102 [.v false (.list (.int .i64)), .fn0 103] [.own (.bool)] (fun zz => True) (fun zz => ((!zz.1.all gOK), ())) :=
  spec_of (own := ownF) (by kernel_rfl) (call_ok (by kernel_rfl) tb28_ok ownF 100 30) (fn := Tryz.f102) (c := Tryz.f102.body.getD .skip) (by kernel_rfl) 3 9 (fun _ => Nat.le_refl _) rfl (fun zz => fun q => match q with | _ => .no)
    (fun zz hx hl => cast (by kernel_rfl) (lcon_vc zz.1 zz.2.1 hl))
noncomputable def tb29 : T Ctr := tb28.set 102 (ctrOf [.v false (.list (.int .i64)), .fn0 103] [.own (.bool)] (fun zz => True) (fun zz => ((!zz.1.all gOK), ())))
theorem tb29_ok : ∀ f c, tb29.get f = some c → CtrOk Tryz.prog f c := tset tb28_ok (ctrOf_ok lcon_spec)
theorem lockP_vc (s : Syn) (hlen : ArgsL [.v false (.st .syn)] (s, ())) : bif s.kind != (1 : Int) then bif !s.kind != (2 : Int) then bif !decide ((if s.off < s.obj then s.off else s.obj) < (0 : Int)) then bif !s.count_ != (0 : Int) then bif s.owner != (-1 : Int) then True ∧ bif !gOK s.owner then false = lockValid s ∧ true = true else bif decide ((s.readers.length : Int) > (0 : Int)) then bif !s.kind == (1 : Int) then bif s.owner != (-1 : Int) then false = lockValid s ∧ true = true else True ∧ (!!List.all s.readers gOK) = lockValid s ∧ true = true else false = lockValid s ∧ true = true else True ∧ (!!List.all s.readers gOK) = lockValid s ∧ true = true else bif decide ((s.readers.length : Int) > (0 : Int)) then bif !s.kind == (1 : Int) then bif s.owner != (-1 : Int) then false = lockValid s ∧ true = true else True ∧ (!!List.all s.readers gOK) = lockValid s ∧ true = true else false = lockValid s ∧ true = true else True ∧ (!!List.all s.readers gOK) = lockValid s ∧ true = true else false = lockValid s ∧ true = true else false = lockValid s ∧ true = true else false = lockValid s ∧ true = true else bif !decide ((if s.off < s.obj then s.off else s.obj) < (0 : Int)) then bif !s.count_ != (0 : Int) then bif s.owner != (-1 : Int) then True ∧ bif !gOK s.owner then false = lockValid s ∧ true = true else bif decide ((s.readers.length : Int) > (0 : Int)) then bif !s.kind == (1 : Int) then bif s.owner != (-1 : Int) then false = lockValid s ∧ true = true else True ∧ (!!List.all s.readers gOK) = lockValid s ∧ true = true else false = lockValid s ∧ true = true else True ∧ (!!List.all s.readers gOK) = lockValid s ∧ true = true else bif decide ((s.readers.length : Int) > (0 : Int)) then bif !s.kind == (1 : Int) then bif s.owner != (-1 : Int) then false = lockValid s ∧ true = true else True ∧ (!!List.all s.readers gOK) = lockValid s ∧ true = true else false = lockValid s ∧ true = true else True ∧ (!!List.all s.readers gOK) = lockValid s ∧ true = true else false = lockValid s ∧ true = true else false = lockValid s ∧ true = true := by
  have hmin : decide ((if s.off < s.obj then s.off else s.obj) < (0 : Int)) = !(decide (0 ≤ s.obj) && decide (0 ≤ s.off)) := by
    have e : (if s.off < s.obj then s.off else s.obj) < (0 : Int) ↔ ¬ (0 ≤ s.obj ∧ 0 ≤ s.off) := by split <;> omega
    rw [decide_eq_decide.2 e, decide_not, Bool.decide_and]
  rw [hmin]
  unfold lockValid
  generalize s.readers.all gOK = ra
  by_cases h1 : 0 ≤ s.obj <;> by_cases h2 : 0 ≤ s.off <;> by_cases h3 : s.count_ = 0 <;> simp only [h1, h2, h3, bne, beq_self_eq_true, decide_true, decide_false, Bool.and_true, Bool.and_false, Bool.not_true, Bool.not_false, Bool.true_and, Bool.false_and, cond_true, cond_false, eq_self, and_true, true_and]
  all_goals try (simp [h3]; done)
  cases hr : s.readers with
  | nil =>
    by_cases k1 : s.kind = 1 <;> by_cases k2 : s.kind = 2 <;> by_cases o : s.owner = -1 <;> simp [k1, k2, o, gOK]
    all_goals (cases ra <;> simp <;> first | omega | (split <;> omega))
  | cons a l =>
    by_cases k1 : s.kind = 1 <;> by_cases k2 : s.kind = 2 <;> by_cases o : s.owner = -1 <;> simp [k1, k2, o, gOK]
    all_goals (cases ra <;> simp <;> first | omega | (split <;> omega))
theorem lockP_spec : FSpec Tryz.prog 48 [.v false (.st .syn)] [.own (.bool)] (fun zz => True) (fun zz => (lockValid zz.1, ())) :=
  spec_of (own := ownF) (by kernel_rfl) (call_ok (by kernel_rfl) tb29_ok ownF 100 30) (fn := Tryz.f48) (c := Tryz.f48.body.getD .skip) (by kernel_rfl) 3 53 (fun _ => Nat.le_refl _) rfl (fun zz => fun q => match q with | _ => .no)
    (fun zz hx hl => cast (by kernel_rfl) (lockP_vc zz.1 hl))
noncomputable def tb30 : T Ctr := tb29.set 48 (ctrOf [.v false (.st .syn)] [.own (.bool)] (fun zz => True) (fun zz => (lockValid zz.1, ())))
theorem tb30_ok : ∀ f c, tb30.get f = some c → CtrOk Tryz.prog f c := tset tb29_ok (ctrOf_ok lockP_spec)
theorem concat_vc (l : List (List Wtr)) (hpre : l.flatten.length * 40 ≤ 140737488355328) (hlen : ArgsL [.v false (.list (.list (.st .wtr)))] (l, ())) : (∃ (i : Nat), i ≤ l.length ∧ ((True ∧ l.length = l.length) ∧ Value.slice Option.none (0 : Nat) (0 : Nat) = Value.slice Option.none (0 : Nat) (0 : Nat) ∧ (↑(List.length (List.flatten (List.take i l))) : Int) = (0 : Int) ∧ (True ∧ l.length = l.length) ∧ (l.length : Int) = (l.length : Int) ∧ (↑i : Int) = (0 : Int) ∧ True) ∧ ((True ∧ True) ∧ (True ∧ l = l) ∧ True) ∧ true = true) ∧ (∀ (i : Nat), i ≤ l.length → bif decide ((↑i : Int) < (l.length : Int)) then bif decide ((0 : Int) ≤ (↑i : Int) ∧ (↑i : Int) < (l.length : Int)) then bif decide (IntKind.i64.wrap ((↑(List.length (List.flatten (List.take i l))) : Int) + (↑(List.length (List.getD l (Int.toNat (↑i : Int)) [])) : Int)) < (0 : Int)) then False else ∃ (j : Nat), j ≤ l.length ∧ l.length - j < l.length - i ∧ ((True ∧ l.length = l.length) ∧ Value.slice Option.none (0 : Nat) (0 : Nat) = Value.slice Option.none (0 : Nat) (0 : Nat) ∧ (↑(List.length (List.flatten (List.take j l))) : Int) = IntKind.i64.wrap ((↑(List.length (List.flatten (List.take i l))) : Int) + (↑(List.length (List.getD l (Int.toNat (↑i : Int)) [])) : Int)) ∧ (True ∧ l.length = l.length) ∧ (l.length : Int) = (l.length : Int) ∧ (↑j : Int) = IntKind.i64.wrap ((↑i : Int) + (1 : Int)) ∧ True) ∧ ((True ∧ True) ∧ (True ∧ l = l) ∧ True) ∧ true = true else False else bif decide (IntKind.i64.wrap ((↑(List.length (List.flatten (List.take i l))) : Int) - IntKind.i64.wrap ((↑(0 : Nat) : Int) - (↑(0 : Nat) : Int))) > (0 : Int)) then ((0 : Int) ≤ IntKind.i64.wrap ((↑(List.length (List.flatten (List.take i l))) : Int) - IntKind.i64.wrap ((↑(0 : Nat) : Int) - (↑(0 : Nat) : Int))) ∧ (↑(40 : Nat) : Int) * IntKind.i64.wrap ((↑(List.length (List.flatten (List.take i l))) : Int) - IntKind.i64.wrap ((↑(0 : Nat) : Int) - (↑(0 : Nat) : Int))) ≤ (140737488355328 : Int)) ∧ ∃ (i1 : Nat), i1 ≤ l.length ∧ (Value.slice Option.none (0 : Nat) (0 : Nat) = Value.slice Option.none (0 : Nat) (0 : Nat) ∧ (True ∧ List.length (List.flatten (List.take i1 l)) = List.length (List.take (Int.toNat ((↑(0 : Nat) : Int) - (0 : Int))) (List.drop (Int.toNat (0 : Int)) (List.replicate (Int.toNat (IntKind.i64.wrap ((↑(List.length (List.flatten (List.take i l))) : Int) - IntKind.i64.wrap ((↑(0 : Nat) : Int) - (↑(0 : Nat) : Int))))) (Wtr.mk (0 : Int) (0 : Int) (Val.mk (0 : Int) (0 : Int) (0 : Int))))))) ∧ (True ∧ l.length = l.length) ∧ (l.length : Int) = (l.length : Int) ∧ (↑i1 : Int) = (0 : Int) ∧ True) ∧ ((True ∧ True) ∧ (True ∧ l = l) ∧ (True ∧ True) ∧ (True ∧ List.flatten (List.take i1 l) = List.take (Int.toNat ((↑(0 : Nat) : Int) - (0 : Int))) (List.drop (Int.toNat (0 : Int)) (List.replicate (Int.toNat (IntKind.i64.wrap ((↑(List.length (List.flatten (List.take i l))) : Int) - IntKind.i64.wrap ((↑(0 : Nat) : Int) - (↑(0 : Nat) : Int))))) (Wtr.mk (0 : Int) (0 : Int) (Val.mk (0 : Int) (0 : Int) (0 : Int)))))) ∧ True) ∧ true = true else ∃ (i1 : Nat), i1 ≤ l.length ∧ (Value.slice Option.none (0 : Nat) (0 : Nat) = Value.slice Option.none (0 : Nat) (0 : Nat) ∧ (True ∧ List.length (List.flatten (List.take i1 l)) = (0 : Nat)) ∧ (True ∧ l.length = l.length) ∧ (l.length : Int) = (l.length : Int) ∧ (↑i1 : Int) = (0 : Int) ∧ True) ∧ ((True ∧ True) ∧ (True ∧ l = l) ∧ (True ∧ True) ∧ (True ∧ List.flatten (List.take i1 l) = []) ∧ True) ∧ true = true) ∧ ∀ (i : Nat), i ≤ l.length → bif decide ((↑i : Int) < (l.length : Int)) then bif decide ((0 : Int) ≤ (↑i : Int) ∧ (↑i : Int) < (l.length : Int)) then (List.length (List.flatten (List.take i l)) + List.length (List.getD l (Int.toNat (↑i : Int)) [])) * (40 : Nat) ≤ (140737488355328 : Nat) ∧ ∃ (j : Nat), j ≤ l.length ∧ l.length - j < l.length - i ∧ (Value.slice Option.none (0 : Nat) (0 : Nat) = Value.slice Option.none (0 : Nat) (0 : Nat) ∧ (True ∧ List.length (List.flatten (List.take j l)) = List.length (List.flatten (List.take i l) ++ List.getD l (Int.toNat (↑i : Int)) [])) ∧ (True ∧ l.length = l.length) ∧ (l.length : Int) = (l.length : Int) ∧ (↑j : Int) = IntKind.i64.wrap ((↑i : Int) + (1 : Int)) ∧ True) ∧ ((True ∧ True) ∧ (True ∧ l = l) ∧ (True ∧ True) ∧ (True ∧ List.flatten (List.take j l) = List.flatten (List.take i l) ++ List.getD l (Int.toNat (↑i : Int)) []) ∧ True) ∧ true = true else False else List.flatten (List.take i l) = List.flatten l ∧ true = true := by
  have hm : l.length ≤ maxLen := hlen.1.1.len
  have hfl : l.flatten.length ≤ 140737488355328 := by omega
  simp only [eq_self, true_and, and_true, wrap_00, Int.sub_zero]
  refine ⟨⟨0, by omega, by simp, by simp⟩, fun i hi => ?_, fun i hi => ?_⟩
  · have hb := flat_le l i
    by_cases h : i < l.length
    · have hw := wrap_succ h hm
      have hs := flat_succ h
      have hb2 := flat_le l (i + 1)
      rw [hs, List.length_append] at hb2
      have hw2 : IntKind.wrap .i64 (((l.take i).flatten.length : Int) + ((l.getD i []).length : Int)) = (((l.take (i + 1)).flatten.length : Nat) : Int) := by
        rw [hs, List.length_append]
        exact wrap_nat (n := (l.take i).flatten.length + (l.getD i []).length) (by omega)
      have hn : decide ((((l.take (i + 1)).flatten.length : Nat) : Int) < 0) = false := by simp
      simp only [idx_t1 h, idx_t2 h, cond_true, Int.toNat_natCast, hw, hw2, hn, cond_false]
      exact ⟨i + 1, by omega, by omega, rfl, rfl⟩
    · simp only [idx_f1 h, cond_false]
      have he : l.take i = l := List.take_of_length_le (by omega)
      rw [he, wrap_nat hfl]
      refine bif_in (fun hc => ?_) (fun hc => ?_)
      · exact ⟨⟨by omega, by omega⟩, 0, by omega, by simp⟩
      · exact ⟨0, by omega, by simp⟩
  · by_cases h : i < l.length
    · have hw := wrap_succ h hm
      have hs := flat_succ h
      have hb2 := flat_le l (i + 1)
      rw [hs, List.length_append] at hb2
      simp only [idx_t1 h, idx_t2 h, cond_true, Int.toNat_natCast, hw]
      refine ⟨by omega, i + 1, by omega, by omega, ?_⟩
      rw [hs]
      simp
    · simp only [idx_f1 h, cond_false]
      rw [List.take_of_length_le (by omega)]
theorem concat_spec : FSpec Tryz.prog 98 [.v false (.list (.list (.st .wtr)))] [.own (.list (.st .wtr))] (fun zz => zz.1.flatten.length * 40 ≤ 140737488355328) (fun zz => (zz.1.flatten, ())) :=
  spec_of (own := ownF) (by kernel_rfl) (call_ok (by kernel_rfl) tb30_ok ownF 100 30) (fn := Tryz.f98) (c := Tryz.f98.body.getD .skip) (by kernel_rfl) 3 36 (fun _ => Nat.le_refl _) rfl (fun zz => fun q => match q with | 0 => .mk (Nat) (fun i => (@id (List (List Wtr)) zz.1).length - i) (fun i => i ≤ (@id (List (List Wtr)) zz.1).length) (fun i => ⟨[(0, AV.lw 2 2 [] 1 (List.length (@id (List (List Wtr)) zz.1))), (2, AV.lit (Value.slice Option.none 0 0)), (3, .lit (.int .i64 (((@id (List (List Wtr)) zz.1).take i).flatten.length : Int))), (9, AV.lw 2 2 [] 1 (List.length (@id (List (List Wtr)) zz.1))), (10, AV.lit (Value.int IntKind.i64 ↑(List.length (@id (List (List Wtr)) zz.1)))), (11, .lit (.int .i64 (i : Int)))], [(1, { ty := 0, cells := [AV.ver], op := Option.some 0 }), (2, { ty := 0, cells := [AV.tre Ow.ro (RT.list (RT.st SN.wtr)) (@id (List (List Wtr)) zz.1) 1], op := Option.some 0 })], 3⟩) (fun _ => fun _ => .no) | 2 => .mk (Nat) (fun i => (@id (List (List Wtr)) zz.1).length - i) (fun i => i ≤ (@id (List (List Wtr)) zz.1).length) (fun i => ⟨[(2, AV.lit (Value.slice Option.none 0 0)), (6, AV.lw 6 6 [] 5 (List.length (((@id (List (List Wtr)) zz.1).take i).flatten))), (25, AV.lw 2 2 [] 1 (List.length (@id (List (List Wtr)) zz.1))), (26, AV.lit (Value.int IntKind.i64 ↑(List.length (@id (List (List Wtr)) zz.1)))), (27, .lit (.int .i64 (i : Int)))], [(1, { ty := 0, cells := [AV.ver], op := Option.some 0 }), (2, { ty := 0, cells := [AV.tre Ow.ro (RT.list (RT.st SN.wtr)) (@id (List (List Wtr)) zz.1) 1], op := Option.some 0 }), (5, { ty := 0, cells := [AV.ver], op := Option.some 0 }), (6, { ty := 0, cells := [AV.tre .all (.st .wtr) (((@id (List (List Wtr)) zz.1).take i).flatten) 5], op := Option.some 0 })], 7⟩) (fun _ => fun _ => .no) | _ => .no)
    (fun zz hx hl => cast (by kernel_rfl) (concat_vc zz.1 hx hl))
noncomputable def tb31 : T Ctr := tb30.set 98 (ctrOf [.v false (.list (.list (.st .wtr)))] [.own (.list (.st .wtr))] (fun zz => zz.1.flatten.length * 40 ≤ 140737488355328) (fun zz => (zz.1.flatten, ())))
theorem tb31_ok : ∀ f c, tb31.get f = some c → CtrOk Tryz.prog f c := tset tb30_ok (ctrOf_ok concat_spec)
end Go.Proofs.YtiepllpgifnloaaGreat.Px
