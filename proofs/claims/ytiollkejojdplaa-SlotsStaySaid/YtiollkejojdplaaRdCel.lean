/- RD, part 7b: what is no memory cells may turn under a state; marks of deferred calls; what an activation keeps. -/
import Derived.Test.YtiollkejojdplaaRdMake
import Derived.RangeFuncNested
import Derived.RangeFuncCalls
import Derived.RangeFuncLeaves
namespace Go.Rd
open Go.RowKit

/-- All blocks of cells lie as they lay. -/
structure Cel (w w' : World) : Prop where
  size : w.heap.size ≤ w'.heap.size
  same : ∀ (k : Nat) (c : Array Value) (e : TypeId) (m : Nat × Nat), w.heap[k]? = some (.cells c e m) → w'.heap[k]? = some (.cells c e m)

section
variable {w w' : World} {G G' : Nat → Prop} {ι : Nat → Nat → Nat} {O : Store}
theorem Cel.refl (w : World) : Cel w w := ⟨Nat.le_refl _, fun _ _ _ _ h => h⟩
theorem Cel.trans {w1 w2 w3 : World} (h : Cel w1 w2) (k : Cel w2 w3) : Cel w1 w3 := ⟨Nat.le_trans h.size k.size, fun q c e m hh => k.same q c e m (h.same q c e m hh)⟩
theorem Cel.of_grown {row : Option Nat} (h : w.grownBy w' row) (hr : ∀ r, row = some r → ∃ o : Obj, w.heap[r]? = some o ∧ o.isCells = false) : Cel w w' := by
  refine ⟨h.size, fun k c e m hk => ?_⟩
  rw [h.block k (Array.getElem?_eq_some_iff.1 hk).1 (fun q => ?_)]
  · exact hk
  · obtain ⟨o, ho, hc⟩ := hr k q.symm
    rw [hk] at ho
    cases ho
    cases hc
theorem Cel.putObj {l : Nat} {o o' : Obj} (h : w.heap[l]? = some o) (hc : o.isCells = false) : Cel w (w.putObj l o') :=
  .of_grown (grownBy_putObj' w l o') (fun r e => by cases e; exact ⟨o, h, hc⟩)
theorem Cel.cell (h : Cel w w') {a : Addr} {u : Value} (hu : w.cell? a = some u) : w'.cell? a = some u := by
  unfold World.cell? at hu ⊢
  split at hu
  · rename_i c e m hk
    rw [h.same _ _ _ _ hk]
    exact hu
  · cases hu

theorem RepP.cel {p : PV} {v : Value} (h : RepP w G p v) (hc : Cel w w') (hG : ∀ k, G k → G' k) : RepP w' G' p v := by
  induction h with
  | lit v h => exact .lit v h
  | row esz es blk off cap u hlen hcap hmax hGb hcl hr ih =>
    exact .row esz es blk off cap u hlen hcap hmax (fun hne => hG _ (hGb hne)) (fun i j e x he hx => hc.cell (hcl i j e x he hx)) ih
  | clo f caps vs blk u hvl hv hcl hr ih =>
    exact .clo f caps vs blk u hvl (fun i cs hi => ⟨(hv i cs hi).1, hG _ (hv i cs hi).2⟩) (fun i j cs x hi hx => hc.cell (hcl i j cs x hi hx)) ih
theorem RowAt.cel {esz : Nat} {es : List (List PV)} {blk off : Nat} (h : RowAt w G esz es blk off) (hc : Cel w w') (hG : ∀ k, G k → G' k) : RowAt w' G' esz es blk off :=
  ⟨h.len, fun hne => hG _ (h.good hne), h.max, fun i j e x he hx => by
    obtain ⟨u, hu, hr⟩ := h.cell i j e x he hx
    exact ⟨u, hc.cell hu, hr.cel hc hG⟩⟩
theorem RepS.cel {s : SV} {v : Value} (h : RepS w G ι O s v) (hc : Cel w w') (hG : ∀ k, G k → G' k) : RepS w' G' ι O s v := by
  cases s with
  | undef => exact h
  | pv p => exact RepP.cel h hc hG
  | pb l b j => exact h
  | pr l b i j => exact h
  | sl l b off len =>
    obtain ⟨e, esz, es, cap, c, q1, q2, q3, q4, q5, q6, q7⟩ := h
    exact ⟨e, esz, es, cap, c, q1, q2, q3, q4, q5, hc.same _ _ _ _ q6, q7⟩
  | slc l b off len cap =>
    obtain ⟨e, esz, es, c, q1, q2, q3, q4, q6, q7⟩ := h
    exact ⟨e, esz, es, c, q1, q2, q3, q4, hc.same _ _ _ _ q6, q7⟩
  | clo f caps => exact h
theorem RepA.cel {s : AV} {v : Value} (h : RepA w G ι O s v) (hc : Cel w w') (hG : ∀ k, G k → G' k) : RepA w' G' ι O s v := by
  cases s with
  | s x => exact RepS.cel h hc hG
  | agg xs =>
    obtain ⟨cs, rfl, hl, hcs⟩ := h
    exact ⟨cs, rfl, hl, fun j y hy => by
      obtain ⟨u, hu, hr⟩ := hcs j y hy
      exact ⟨u, hu, RepS.cel hr hc hG⟩⟩
  | pel esz es i j =>
    obtain ⟨blk, off, hr, rfl⟩ := h
    exact ⟨blk, off, hr.cel hc hG, rfl⟩
theorem RepT.cel {s : TV} {v : Value} (h : RepT w G ι O s v) (hc : Cel w w') (hG : ∀ k, G k → G' k) : RepT w' G' ι O s v := by
  cases s with
  | undef => trivial
  | a x => exact RepA.cel h hc hG
  | tup xs =>
    obtain ⟨cs, rfl, hl, hcs⟩ := h
    exact ⟨cs, rfl, hl, fun j y hy => by
      obtain ⟨u, hu, hr⟩ := hcs j y hy
      exact ⟨u, hu, RepA.cel hr hc hG⟩⟩
theorem RepO.cel {k : Nat} {o : AObj} (h : RepO w G ι O k o) (hc : Cel w w') (hG : ∀ k, G k → G' k) : RepO w' G' ι O k o := by
  cases o with
  | row e esz es =>
    obtain ⟨c, q1, q2, q3, q4, q5⟩ := h
    exact ⟨c, hc.same _ _ _ _ q1, q2, q3, q4, fun i j x y hx hy => by
      obtain ⟨u, hu, hr⟩ := q5 i j x y hx hy
      exact ⟨u, hu, hr.cel hc hG⟩⟩
  | box e cs =>
    obtain ⟨c, q1, q2, q3⟩ := h
    exact ⟨c, hc.same _ _ _ _ q1, q2, fun j y hy => by
      obtain ⟨u, hu, hr⟩ := q3 j y hy
      exact ⟨u, hu, RepS.cel hr hc hG⟩⟩
theorem Gd.cel (hc : Cel w w') : ∀ k, Gd w ι O k → Gd w' ι O k := fun _ hk => ⟨Nat.lt_of_lt_of_le hk.1 hc.size, hk.2⟩
theorem Lies.cel (h : Lies w ι O) (hc : Cel w w') : Lies w' ι O := ⟨fun l b o ho => (h.obj l b o ho).cel hc (Gd.cel hc), h.inj⟩
theorem Good.cel {st : ASt} {a : Act} (h : Good st a w ι) (hc : Cel w w') : Good st a w' ι :=
  ⟨⟨h.lies.cel hc, h.size, fun t ht => (h.tm t ht).cel hc (Gd.cel hc), h.out⟩, h.sup, h.lev⟩

/-- An own block is a block of cells. -/
theorem own_cells (h : Lies w ι O) {l b : Nat} {o : AObj} (ho : O l b = some o) : ∃ c e, w.heap[ι l b]? = some (.cells c e (0, 0)) := by
  have := h.obj l b o ho
  cases o with
  | row e esz es => obtain ⟨c, hc, _⟩ := this; exact ⟨c, e, hc⟩
  | box e cs => obtain ⟨c, hc, _⟩ := this; exact ⟨c, e, hc⟩
theorem not_own (h : Lies w ι O) {k : Nat} {o : Obj} (hk : w.heap[k]? = some o) (hc : o.isCells = false) : ¬ Own ι O k := by
  rintro ⟨l, b, o1, ho, rfl⟩
  obtain ⟨c, e, h1⟩ := own_cells h ho
  rw [hk] at h1
  cases h1
  cases hc
end

/-! ### marks -/
/-- The activation's deferred calls: nothing but marks of loops, of blocks that have come since. -/
def Marks (base : Nat) (a : Act) (w : World) : Prop := ∃ Ds : List Nat, Ds.Nodup ∧ a.defers = Ds.map (fun D => { target := .collected D, args := #[] }) ∧ ∀ D ∈ Ds, base ≤ D ∧ w.heap[D]? = some (.deferred (some []))
theorem Marks.nil {base : Nat} {a : Act} {w : World} (h : a.defers = []) : Marks base a w := ⟨[], List.nodup_nil, h, fun _ h => by cases h⟩
theorem Marks.moves {base : Nat} {st st' : ASt} {a a' : Act} {w w' : World} {ι ι' : Nat → Nat → Nat} (h : Marks base a w) (hg : Good st a w ι) (hm : Moves st st' w w' ι ι') (hd : a'.defers = a.defers) : Marks base a' w' := by
  obtain ⟨Ds, h1, h2, h3⟩ := h
  refine ⟨Ds, h1, hd.trans h2, fun D hD => ⟨(h3 D hD).1, ?_⟩⟩
  have hk := (h3 D hD).2
  rw [hm.keep D (Array.getElem?_eq_some_iff.1 hk).1 (not_own hg.lies hk rfl)]
  exact hk

/-! ### what of an activation stays -/
def writesOps (ops : List Oper) (t : Nat) : Bool := ops.any fun o => match o.dst with
  | some d => Nat.beq d t
  | none => false
def writesB : Code → Nat → Bool
  | .region _ ops _, t => writesOps ops.toList t
  | .seq x y, t => writesB x t || writesB y t
  | .cond _ x y, t => writesB x t || writesB y t
  | .block _ c, t => writesB c t
  | .loop c, t => writesB c t
  | _, _ => false
def Kept (W : Nat → Bool) (a a' : Act) : Prop := ∀ t, W t = false → a'.tmps.getD t undef = a.tmps.getD t undef
theorem Kept.refl (W : Nat → Bool) (a : Act) : Kept W a a := fun _ _ => rfl
theorem Kept.trans {W : Nat → Bool} {a b c : Act} (h : Kept W a b) (k : Kept W b c) : Kept W a c := fun t ht => (k t ht).trans (h t ht)
theorem Kept.mono {W W' : Nat → Bool} {a b : Act} (h : Kept W a b) (hw : ∀ t, W' t = false → W t = false) : Kept W' a b := fun t ht => h t (hw t ht)
theorem Kept.put {W : Nat → Bool} {a b : Act} (h : Kept W a b) {dst : Option Tmp} (hd : ∀ d, dst = some d → W d = true) (v : Value) : Kept W a (b.put dst v) := by
  intro t ht
  rw [← h t ht]
  cases dst with
  | none => rfl
  | some d =>
    have hne : d ≠ t := by rintro rfl; rw [hd d rfl] at ht; cases ht
    simp only [Act.put]
    rw [Array.getD_eq_getD_getElem?, Array.getElem?_setIfInBounds_ne hne, ← Array.getD_eq_getD_getElem?]
theorem writesOps_mem {ops : List Oper} {o : Oper} (h : o ∈ ops) : ∀ d, o.dst = some d → writesOps ops d = true := by
  intro d hd
  exact List.any_eq_true.2 ⟨o, h, by rw [hd]; exact Nat.beq_refl d⟩
theorem put_defers (a : Act) (dst : Option Tmp) (v : Value) : (a.put dst v).defers = a.defers := by cases dst <;> rfl
end Go.Rd
