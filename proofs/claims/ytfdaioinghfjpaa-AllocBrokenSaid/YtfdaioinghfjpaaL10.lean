/- The law AllocBroken: its contract turned into the given row (printed by mklaw.py). -/
import Derived.Test.YtfdaioinghfjpaaLC
import Derived.Test.YtfdaioinghfjpaaG12
import Derived.Test.YtfdaioinghfjpaaG18
namespace Go.Proofs.Ytfdaioinghfjpaa
open Go.Rd Go.RowKit Go.ChangeShapes Go.WideShapes Go.ChangeAt
set_option linter.unusedVariables false
namespace allocBroken
theorem own : ownKnob Try.prog.godebug = none := by kernel_rfl
theorem laidOut : laidOutB Try.prog = true := by kernel_rfl
set_option maxRecDepth 100000 in
theorem lifted (os : Os) (started : os.Started) (H : Type) (enc : TypeId × Value → H) :
    ReturnsInHanded {} Try.checked os 10 .any (Rows.allocBrokenSpec.pre6 enc Try.prog Try.f10 Rows.allocBrokenRow.domain false) (Rows.allocBrokenSpec.post enc Try.prog Try.f10 false true false false) := by
  refine returnsInHanded_of_change_sized (C := Try.checked) own started (by kernel_rfl) Try.func10
    (ChangeSpec.witness6 (enc := enc) (C := Try.checked) false ⟨#[], #[.slice none 0 0], []⟩ 8 (by kernel_rfl) (by kernel_rfl) (by kernel_rfl) (by kernel_rfl)) ?_
  intro W base args ds gs before hval0 hW hcnd hsz0 _
  have hval : ∀ (j : Nat) t v, Try.f10.params[j]? = some t → args[j]? = some v → Value.okWide Try.prog W .any base t v := hval0
  have hW' := hW
  obtain ⟨p, q, hA0, hV, rfl, hfz, hnd⟩ := hW
  have hA : DataW.TrodAll enc Try.prog W 0 (fun _ => true) true Try.f10.params.toList args.toList ds p := hA0
  rw [show Try.f10.params = #[46] from by kernel_rfl] at hA hval
  obtain ⟨v0, vs0, d0, ds0, p0, q0, hargs, rfl, rfl, h0, r0⟩ := trodAll_cons hA
  obtain ⟨rfl, rfl, rfl⟩ := trodAll_nil r0
  obtain rfl : args = #[v0] := by cases args; simp_all
  obtain ⟨rfl, rfl⟩ := trodVars_none hV
  have lt0 : ∀ x ∈ p0, x.block < W.heap.size := by obtain ⟨m, hm⟩ := h0; exact DataW.trod_lt m _ _ _ hm
  obtain ⟨o0, w0, y0⟩ : ∃ o0 : Option (List Tb), True ∧ RepA W (Gd W (fun _ _ => 0) fun _ _ => none) (fun _ _ => 0) (fun _ _ => none) (cA o0) v0 := by
    obtain ⟨a, _, e⟩ := arg_sliceO (by kernel_rfl) readsC (by decide) (hval 0 46 v0 rfl rfl) h0
    exact ⟨a, trivial, e⟩
  clear hA0 hval0 hsz0
  refine (law_walk (allocBroken_AC fixed17_AC o0) W [v0] rfl (fun i y u hy hu => ?_)).mono fun e W' ⟨he, bel⟩ => ?_
  · match i, hy, hu with
    | 0, hy, hu => cases hy; cases hu; exact y0
  subst he
  exact ⟨_, rfl, _, _, _, [], _, [], hW', trodAll_mk1 (shut_bool (by kernel_rfl) _), (trodAll_cons_mk (Below.trod laidOut (by kernel_rfl) (of_decide_eq_true (by kernel_rfl)) h0 bel lt0) trodAll_mk0), rfl, bel.frame _, fun h => by cases h⟩
theorem over : Rows.allocBrokenRow.holds Try.pinned (OpenSpec.ofChange Rows.allocBrokenSpec) :=
  OpenClaim.holds_of_wide 10 Try.f10 rfl rfl rfl rfl rfl rfl rfl ⟨rfl, rfl, rfl, rfl, rfl⟩ rfl rfl rfl rfl rfl (by kernel_rfl) Try.func10 (by kernel_rfl)
    (of_decide_eq_true (by kernel_rfl)) (by unfold Func.isWrapper; first | (rw [if_pos (by decide +kernel)]; kernel_rfl) | (rw [if_neg (by decide +kernel)]; exact ⟨rfl, rfl⟩))
    (fun os started H enc _ => lifted os started H enc)
theorem proved : Rows.AllocBrokenSaid := over
end allocBroken
end Go.Proofs.Ytfdaioinghfjpaa
