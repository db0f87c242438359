/- The law AllocTells of the given program, for every input. (part 10 of 10) -/
import Derived.Test.YtfdaioinghfjpaaATl9
namespace Go.Proofs.Ytfdaioinghfjpaa
open Go.Rd Go.RowKit Go.ChangeShapes Go.WideShapes Go.ChangeAt
set_option linter.unusedVariables false
namespace allocTells
theorem own : ownKnob Try.prog.godebug = none := by kernel_rfl
theorem laidOut : laidOutB Try.prog = true := by kernel_rfl
set_option maxRecDepth 100000 in
theorem lifted (os : Os) (started : os.Started) (H : Type) (enc : TypeId × Value → H) :
    ReturnsInHanded {} Try.checked os 12 .any (Rows.allocTellsSpec.pre6 enc Try.prog Try.f12 Rows.allocTellsRow.domain false) (Rows.allocTellsSpec.post enc Try.prog Try.f12 false true false false) := by
  refine returnsInHanded_of_change_sized (C := Try.checked) own started (by kernel_rfl) Try.func12
    (ChangeSpec.witness6 (enc := enc) (C := Try.checked) false ⟨#[], #[.slice none 0 0, .agg #[.int .i64 0, .int .i64 0, .int .i64 0, .bool false], .agg #[.int .i64 0, .int .i64 0]], []⟩ 8 (by kernel_rfl) (by kernel_rfl) (by kernel_rfl) (by kernel_rfl)) ?_
  intro W base args ds gs before hval0 hW hcnd hsz0 _
  have hval : ∀ (j : Nat) t v, Try.f12.params[j]? = some t → args[j]? = some v → Value.okWide Try.prog W .any base t v := hval0
  have hW' := hW
  obtain ⟨p, q, hA0, hV, rfl, hfz, hnd⟩ := hW
  have hA : DataW.TrodAll enc Try.prog W 0 (fun _ => true) true Try.f12.params.toList args.toList ds p := hA0
  rw [show Try.f12.params = #[46, 53, 48] from by kernel_rfl] at hA hval
  obtain ⟨v0, vs0, d0, ds0, p0, q0, hargs, rfl, rfl, h0, r0⟩ := trodAll_cons hA
  obtain ⟨v1, vs1, d1, ds1, p1, q1, rfl, rfl, rfl, h1, r1⟩ := trodAll_cons r0
  obtain ⟨v2, vs2, d2, ds2, p2, q2, rfl, rfl, rfl, h2, r2⟩ := trodAll_cons r1
  obtain ⟨rfl, rfl, rfl⟩ := trodAll_nil r2
  obtain rfl : args = #[v0, v1, v2] := by cases args; simp_all
  obtain ⟨rfl, rfl⟩ := trodVars_none hV
  have lt0 : ∀ x ∈ p0, x.block < W.heap.size := by obtain ⟨m, hm⟩ := h0; exact DataW.trod_lt m _ _ _ hm
  have lt1 : ∀ x ∈ p1, x.block < W.heap.size := by obtain ⟨m, hm⟩ := h1; exact DataW.trod_lt m _ _ _ hm
  have lt2 : ∀ x ∈ p2, x.block < W.heap.size := by obtain ⟨m, hm⟩ := h2; exact DataW.trod_lt m _ _ _ hm
  obtain ⟨o0, w0, y0⟩ : ∃ o0 : Option (List Tb), True ∧ RepA W (Gd W (fun _ _ => 0) fun _ _ => none) (fun _ _ => 0) (fun _ _ => none) (cA o0) v0 := by
    obtain ⟨a, _, e⟩ := arg_sliceO (by kernel_rfl) readsC (by decide) (hval 0 46 v0 rfl rfl) h0
    exact ⟨a, trivial, e⟩
  obtain ⟨o1, w1, y1⟩ : ∃ o1 : Rf, True ∧ RepA W (Gd W (fun _ _ => 0) fun _ _ => none) (fun _ _ => 0) (fun _ _ => none) (rA o1) v1 := by
    obtain ⟨a, _, e⟩ := arg_agg (by kernel_rfl) readsR (hval 1 53 v1 rfl rfl) h1
    exact ⟨a, trivial, e⟩
  obtain ⟨o2, w2, y2⟩ : ∃ o2 : Sz, True ∧ RepA W (Gd W (fun _ _ => 0) fun _ _ => none) (fun _ _ => 0) (fun _ _ => none) (sA o2) v2 := by
    obtain ⟨a, _, e⟩ := arg_agg (by kernel_rfl) readsS (hval 2 48 v2 rfl rfl) h2
    exact ⟨a, trivial, e⟩
  clear hA0 hval0 hsz0
  refine (law_walk (allocTells_AC fixed17_AC o0 o1 o2) W [v0, v1, v2] rfl (fun i y u hy hu => ?_)).mono fun e W' ⟨he, bel⟩ => ?_
  · match i, hy, hu with
    | 0, hy, hu => cases hy; cases hu; exact y0
    | 1, hy, hu => cases hy; cases hu; exact y1
    | 2, hy, hu => cases hy; cases hu; exact y2
  subst he
  exact ⟨_, rfl, _, _, _, [], _, [], hW', trodAll_mk1 (shut_bool (by kernel_rfl) _), (trodAll_cons_mk (Below.trod laidOut (by kernel_rfl) (of_decide_eq_true (by kernel_rfl)) h0 bel lt0) (trodAll_cons_mk (Below.trod laidOut (by kernel_rfl) (of_decide_eq_true (by kernel_rfl)) h1 bel lt1) (trodAll_cons_mk (Below.trod laidOut (by kernel_rfl) (of_decide_eq_true (by kernel_rfl)) h2 bel lt2) trodAll_mk0))), rfl, bel.frame _, fun h => by cases h⟩
theorem over : Rows.allocTellsRow.holds Try.pinned (OpenSpec.ofChange Rows.allocTellsSpec) :=
  OpenClaim.holds_of_wide 12 Try.f12 rfl rfl rfl rfl rfl rfl rfl ⟨rfl, rfl, rfl, rfl, rfl⟩ rfl rfl rfl rfl rfl (by kernel_rfl) Try.func12 (by kernel_rfl)
    (of_decide_eq_true (by kernel_rfl)) (by unfold Func.isWrapper; first | (rw [if_pos (by decide +kernel)]; kernel_rfl) | (rw [if_neg (by decide +kernel)]; exact ⟨rfl, rfl⟩))
    (fun os started H enc _ => lifted os started H enc)
theorem proved : Rows.AllocTellsSaid := over
end allocTells
end Go.Proofs.Ytfdaioinghfjpaa
