/- How the laws' arguments read. -/
import Derived.Test.YtfdaioinghfjpaaF1
import Derived.Test.YtfdaioinghfjpaaRdLaw
import Derived.OpenShut
import Derived.ShutString
import Derived.ChangeOld
import Derived.SizedLaws
namespace Go.Rd
open Go.RowKit Go.Proofs Go.ChangeShapes Go.WideShapes
theorem arg_int {P : Program} {w : World} {t : TypeId} {k : IntKind} {v : Value} {b0 : Nat} {r : Reach} (ht : P.underlying t = some (.int k)) (hval : Value.okWide P w r b0 t v) :
    ∃ n : Int, True ∧ RepA w (Gd w (fun _ _ => 0) fun _ _ => none) (fun _ _ => 0) (fun _ _ => none) (.s (.pv (.lit (.int k n)))) v := by
  obtain ⟨n, rfl⟩ := okWide_int ht hval
  exact ⟨n, trivial, RepP.lit _ rfl⟩
end Go.Rd
namespace Go.Proofs.Ytfdaioinghfjpaa
open Go.Rd Go.RowKit Go.ChangeShapes Go.WideShapes Go.ChangeAt
theorem arg_sliceO {H : Type} {enc : TypeId × Value → H} {P : Program} {w : World} {held : Bool} {t e : TypeId} {k : Nat} {α : Type} {el : α → List PV} {wf : α → Prop} {v : Value} {d : DataW H} {ps : List MemPlace} {r : Reach} {b0 : Nat} (ht : P.underlying t = some (.slice e)) (hR : Reads P e k el wf) (hk : 0 < k)
    (hval : Value.okWide P w r b0 t v) (h : DataW.Trod enc P w 0 (fun _ => true) held t v d ps) :
    ∃ o : Option (List α), (∀ u ∈ o.getD [], wf u) ∧ RepA w (Gd w (fun _ _ => 0) fun _ _ => none) (fun _ _ => 0) (fun _ _ => none) (slA k el o) v := by
  rcases arg_slice ht hR hk hval h with rfl | ⟨l, hl, hr⟩
  · exact ⟨none, by simp, RepP.lit _ rfl⟩
  · exact ⟨some l, hl, hr⟩
def U.wf (u : U) : Prop := (Lit.int .i64 u.pos).wf = true ∧ (Lit.int .i64 u.len).wf = true ∧ (Lit.int .i64 u.count).wf = true
theorem readsU : Reads Try.prog 41 4 encU U.wf := by
  refine ⟨by kernel_rfl, fun H enc w base held n cs y h => ?_⟩
  have hs : structOf Try.prog 41 = some [(0, 3), (1, 3), (2, 3), (3, 4)] := by kernel_rfl
  obtain ⟨n0, h0, w0⟩ := field_int hs h (i := 0) rfl (k := .i64) (by kernel_rfl) (by kernel_rfl)
  obtain ⟨n1, h1, w1⟩ := field_int hs h (i := 1) rfl (k := .i64) (by kernel_rfl) (by kernel_rfl)
  obtain ⟨n2, h2, w2⟩ := field_int hs h (i := 2) rfl (k := .i64) (by kernel_rfl) (by kernel_rfl)
  obtain ⟨n3, h3⟩ := field_bool hs h (i := 3) rfl (by kernel_rfl) (by kernel_rfl)
  refine ⟨⟨n0, n1, n2, n3⟩, ⟨w0, w1, w2⟩, rfl, fun j x hj => ?_⟩
  match j, hj with
  | 0, hj => cases hj; exact ⟨_, h0, .lit _ rfl⟩
  | 1, hj => cases hj; exact ⟨_, h1, .lit _ rfl⟩
  | 2, hj => cases hj; exact ⟨_, h2, .lit _ rfl⟩
  | 3, hj => cases hj; exact ⟨_, h3, .lit _ rfl⟩
structure D2 where
  what : Int
  num : Int
def encD2 (u : D2) : List PV := [.lit (.int .i64 u.what), .lit (.int .i64 u.num)]
theorem readsD2 : Reads Try.prog 38 2 encD2 fun _ => True := by
  refine ⟨by kernel_rfl, fun H enc w base held n cs y h => ?_⟩
  have hs : structOf Try.prog 38 = some [(0, 3), (1, 3)] := by kernel_rfl
  obtain ⟨n0, h0, w0⟩ := field_int hs h (i := 0) rfl (k := .i64) (by kernel_rfl) (by kernel_rfl)
  obtain ⟨n1, h1, w1⟩ := field_int hs h (i := 1) rfl (k := .i64) (by kernel_rfl) (by kernel_rfl)
  refine ⟨⟨n0, n1⟩, trivial, rfl, fun j x hj => ?_⟩
  match j, hj with
  | 0, hj => cases hj; exact ⟨_, h0, .lit _ rfl⟩
  | 1, hj => cases hj; exact ⟨_, h1, .lit _ rfl⟩
end Go.Proofs.Ytfdaioinghfjpaa
