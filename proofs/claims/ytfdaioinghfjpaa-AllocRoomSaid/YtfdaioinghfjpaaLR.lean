/- How a reference reads as an argument. -/
import Derived.Test.YtfdaioinghfjpaaLC
import Derived.Test.YtfdaioinghfjpaaG4
namespace Go.Rd
open Go.RowKit Go.Proofs Go.ChangeShapes Go.WideShapes
theorem arg_agg {H : Type} {enc : TypeId × Value → H} {P : Program} {w : World} {held : Bool} {t : TypeId} {k : Nat} {α : Type} {el : α → List PV} {wf : α → Prop} {v : Value} {d : DataW H} {ps : List MemPlace} {r : Reach} {b0 : Nat} (hs : (structOf P t).isSome = true) (hR : Reads P t k el wf)
    (hval : Value.okWide P w r b0 t v) (h : DataW.Trod enc P w 0 (fun _ => true) held t v d ps) :
    ∃ u : α, wf u ∧ RepA w (Gd w (fun _ _ => 0) fun _ _ => none) (fun _ _ => 0) (fun _ _ => none) (.agg ((el u).map .pv)) v := by
  obtain ⟨fs, ht⟩ : ∃ fs, P.underlying t = some (.struct fs) := by
    unfold structOf at hs
    split at hs
    · exact ⟨_, by assumption⟩
    · cases hs
  obtain ⟨cs, rfl, hsz⟩ := okWide_struct ht hval
  obtain ⟨fuel, hf⟩ := h
  obtain ⟨hc, hR⟩ := hR
  obtain ⟨u, h1, h2, h3⟩ := hR H enc w 0 held fuel _ _ hf
  refine ⟨u, h1, cs, rfl, by rw [List.length_map, h2, hsz, hc], fun j y hy => ?_⟩
  rw [List.getElem?_map] at hy
  cases hx : (el u)[j]? with
  | none => simp [hx] at hy
  | some x =>
    simp only [hx, Option.map_some, Option.some.injEq] at hy
    subst hy
    obtain ⟨z, hz, hr⟩ := h3 j x hx
    exact ⟨z, by simpa [Value.cells] using hz, hr⟩
end Go.Rd
namespace Go.Proofs.Ytfdaioinghfjpaa
open Go.Rd Go.RowKit Go.ChangeShapes Go.WideShapes
theorem readsR : Reads Try.prog 53 4 encR fun _ => True := by
  refine ⟨by kernel_rfl, fun H enc w base held n cs y h => ?_⟩
  have hs : structOf Try.prog 53 = some [(0, 3), (1, 3), (2, 3), (3, 4)] := by kernel_rfl
  obtain ⟨n0, h0, w0⟩ := field_int hs h (i := 0) rfl (k := .i64) (by kernel_rfl) (by kernel_rfl)
  obtain ⟨n1, h1, w1⟩ := field_int hs h (i := 1) rfl (k := .i64) (by kernel_rfl) (by kernel_rfl)
  obtain ⟨n2, h2, w2⟩ := field_int hs h (i := 2) rfl (k := .i64) (by kernel_rfl) (by kernel_rfl)
  obtain ⟨n3, h3⟩ := field_bool hs h (i := 3) rfl (by kernel_rfl) (by kernel_rfl)
  refine ⟨⟨n0, n1, n2, n3⟩, trivial, rfl, fun j x hj => ?_⟩
  match j, hj with
  | 0, hj => cases hj; exact ⟨_, h0, .lit _ rfl⟩
  | 1, hj => cases hj; exact ⟨_, h1, .lit _ rfl⟩
  | 2, hj => cases hj; exact ⟨_, h2, .lit _ rfl⟩
  | 3, hj => cases hj; exact ⟨_, h3, .lit _ rfl⟩
end Go.Proofs.Ytfdaioinghfjpaa
