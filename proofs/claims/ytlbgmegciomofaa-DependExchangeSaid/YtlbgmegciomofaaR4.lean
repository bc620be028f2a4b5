/- For every list of steps and every place: where two neighbours are independent, the list with the two exchanged is equivalent and has the same canonical picks; where they are dependent, it is equivalent only if they are the same: DependExchange returns true, and its arguments read as before. No condition. -/
import Derived.Test.YtlbgmegciomofaaW20
import Derived.Test.YtlbgmegciomofaaR3
namespace Go.Proofs.Ytlbgmegciomofaa
open Go.RowKit Go.ChangeShapes Go.WideShapes Go.Deep

theorem lawExchange_any (w : World) (n c : Nat) (k : Nat) (hk : k < 256) (A : Option Addr) (a : List Step) (ha : Sl w (lt w.heap.size) A n a) (hn : n ≤ maxLen) :
    Calls Try.prog 6 #[.slice A n c, .int .u8 k] w (RetB (.bool true) w) := by
  cases fa : fewS a with
  | false => exact lawExchange_few w n c k hk A a ha hn fa
  | true =>
    rcases Nat.lt_or_ge (k + 1) n with hkn | hkn
    · cases va : validA a with
      | false => exact lawExchange_valid w n c k hk A a ha hn fa hkn va
      | true => exact lawExchange_main w n c k hk A a ha hn fa hkn va _ (k + 1) rfl rfl
    · exact lawExchange_short w n c k hk A a ha hn fa hkn

set_option maxRecDepth 100000 in
theorem exchange_lifted (os : Os) (started : os.Started) (H : Type) (enc : TypeId × Value → H) :
    ReturnsInHanded {} Try.checked os 6 .any (Rows.dependExchangeSpec.pre6 enc Try.prog Try.f6 Rows.dependExchangeRow.domain false) (Rows.dependExchangeSpec.post enc Try.prog Try.f6 false true false false) := by
  refine returnsInHanded_of_change (C := Try.checked) Try.own started (by kernel_rfl) Try.func6
    (ChangeSpec.witness6 (enc := enc) (C := Try.checked) false ⟨#[], #[.slice none 0 0, .int .u8 0], []⟩ 8 (by kernel_rfl) (by kernel_rfl) (by kernel_rfl) (by kernel_rfl)) ?_
  intro W base args ds gs before hval0 hW _ _
  have hval : ∀ (j : Nat) t v, Try.f6.params[j]? = some t → args[j]? = some v → Value.okWide Try.prog W .any base t v := hval0
  have hW' := hW
  obtain ⟨p, q, hA0, hV, rfl, hfz, hnd⟩ := hW
  have hA : DataW.TrodAll enc Try.prog W 0 (fun _ => true) true Try.f6.params.toList args.toList ds p := hA0
  rw [Try.params6] at hA hval
  obtain ⟨v0, v1, d0, d1, p0, p1, hargs, rfl, hp, h0, h1⟩ := trodAll_two hA
  obtain ⟨rfl, rfl⟩ := trodVars_none hV
  have hargs' : args = #[v0, v1] := by rw [← hargs]
  subst hargs'
  obtain ⟨a, A, n, c, rfl, hn, hc, ha⟩ := rd_slice_val Try.underlying30 rd_steps (hval 0 30 v0 rfl rfl) h0
  obtain ⟨z, rfl, -, -, hz⟩ := open_int Try.underlying5 (hval 1 5 v1 rfl rfl) h1
  obtain ⟨k, rfl, hk⟩ : ∃ k : Nat, z = (k : Int) ∧ k < 256 := by
    simp [Lit.wf, IntKind.min, IntKind.max, IntKind.signed, IntKind.bits] at hz
    exact ⟨z.toNat, by omega, by omega⟩
  simp only [List.append_nil] at hW'
  have hlt : ∀ x ∈ p, x.block < W.heap.size := fun x hx => hW'.lt x hx
  refine (lawExchange_any W n c k hk A a ha (Nat.le_trans hn hc)).mono fun e W' ⟨he, hbl⟩ => ?_
  subst he
  subst hp
  exact ⟨_, rfl, post_below (pa := p0 ++ p1) (pv := []) hW' (fun _ _ _ => trodAll_mk1 (shut_bool Try.underlying4 true))
    (fun sp hsp => trodAll_mk2 (WideElems.Trod_stays Try.laidOut (by kernel_rfl) (of_decide_eq_true (by kernel_rfl)) h0 (fun x hx => hbl.same (hlt x (by simp [hx]))) (fun x hx => hsp x (by simp [hx])))
      (WideElems.Trod_stays Try.laidOut (by kernel_rfl) (of_decide_eq_true (by kernel_rfl)) h1 (fun x hx => hbl.same (hlt x (by simp [hx]))) (fun x hx => hsp x (by simp [hx]))))
    (fun _ _ => rfl) (by simp) hbl (ok_one (by kernel_rfl) rfl (okWide_bool_mk Try.underlying4 true))⟩

theorem exchange_holds : Rows.DependExchangeSaid :=
  OpenClaim.holds_of_wide 6 Try.f6 rfl rfl rfl rfl rfl rfl rfl ⟨rfl, rfl, rfl, rfl, rfl⟩ rfl rfl rfl rfl rfl (by kernel_rfl) Try.func6 (by kernel_rfl)
    (of_decide_eq_true (by kernel_rfl)) (by unfold Func.isWrapper; rw [if_neg (of_decide_eq_false (by kernel_rfl))]; exact ⟨rfl, rfl⟩)
    (fun os started H enc _ => exchange_lifted os started H enc)
#print axioms exchange_holds

end Go.Proofs.Ytlbgmegciomofaa
