/- RD, part 3: the operations that only look: what each yields, as a condition on pure data, and that the machine yields it. -/
import Derived.Test.YtiollkejojdplaaRdState
import Derived.Laws.StructEq
import Derived.Laws.Slices
import Derived.Laws.Shifts
import Derived.Laws.Cover1
namespace Go.Rd
open Go.RowKit

/-- What is known of a type. -/
inductive TD where
  | int (k : IntKind)
  | bool
  | str
  | slice (e : TypeId)
  | struct (fs : List (Nat × TypeId))
  | array (n : Nat) (e : TypeId)
  | other
structure TI where
  d : TD
  agg : Bool
  size : Nat
  bytes : Nat
  zero : List Value

def TD.ok (P : Program) (t : TypeId) : TD → Bool → Prop
  | .int k, g => P.underlying t = some (.int k) ∧ g = false
  | .bool, g => P.underlying t = some .bool ∧ g = false
  | .str, g => P.underlying t = some .string ∧ g = false
  | .slice e, g => P.underlying t = some (.slice e) ∧ g = false
  | .struct fs, g => (∃ f, P.underlying t = some (.struct f) ∧ f.toList.map (fun x => (x.offset, x.type)) = fs) ∧ g = true
  | .array n e, g => P.underlying t = some (.array n e) ∧ g = true
  | .other, g => (∃ d, P.underlying t = some d ∧ (match d with | .struct _ | .array _ _ => false | _ => true) = true) ∧ g = false

structure TI.ok (P : Program) (t : TypeId) (i : TI) : Prop where
  info : ∃ inf, P.info? t = some inf ∧ inf.size = i.size ∧ inf.bytes = i.bytes ∧ inf.zero = some (if i.agg then .agg i.zero.toArray else i.zero.headD undef)
  zero : i.zero.length = i.size
  one : i.zero.all (·.oneCell') = true
  desc : i.d.ok P t i.agg
  single : i.agg = false → i.size = 1

def TOk (P : Program) (T : TypeId → Option TI) : Prop := ∀ t i, T t = some i → i.ok P t

section
variable {P : Program} {T : TypeId → Option TI} (w : World)
theorem run_isAgg_ti {t : TypeId} {i : TI} (h : i.ok P t) : (isAgg t).run P w = .ok i.agg w := by
  obtain ⟨d, agg, size, bytes, zero⟩ := i
  have hd := h.desc
  cases d <;> simp only [TD.ok] at hd
  case struct fs => obtain ⟨⟨f, hf, _⟩, rfl⟩ := hd; simp [isAgg, run_underlying hf]
  case other => obtain ⟨⟨d, hf, hm⟩, rfl⟩ := hd; cases d <;> simp_all [isAgg, run_underlying]
  all_goals (obtain ⟨hf, rfl⟩ := hd; simp [isAgg, run_underlying hf])
theorem run_sizeOf_ti {t : TypeId} {i : TI} (h : i.ok P t) : (sizeOf t).run P w = .ok i.size w := by
  obtain ⟨inf, h1, h2, _⟩ := h.info
  simp [sizeOf, typeInfo, h1, h2]
theorem run_zeroValue_ti {t : TypeId} {i : TI} (h : i.ok P t) : (zeroValue t).run P w = .ok (if i.agg then .agg i.zero.toArray else i.zero.headD undef) w := by
  obtain ⟨inf, h1, _, _, h3⟩ := h.info
  simp [zeroValue, typeInfo, h1, h3]
end

/-- An operation's value: one that 'K' takes, in every world that has the memory of this one. -/
def Yields (B : World → Prop) (P : Program) (w : World) (ι : Nat → Nat → Nat) (O : Store) (K : TV → Prop) (s : Sem Value) : Prop :=
  ∃ v val, K v ∧ RepT w (Gd w ι O) ι O v val ∧ ∀ w', B w' → s.run P w' = .ok val w'

theorem Yields.pure {B : World → Prop} {P : Program} {w : World} {ι : Nat → Nat → Nat} {O : Store} {K : TV → Prop} {v : TV} {val : Value} (hk : K v)
    (hr : RepT w (Gd w ι O) ι O v val) : Yields B P w ι O K (Pure.pure val) := ⟨v, val, hk, hr, fun _ _ => rfl⟩

theorem Yields.lit {B : World → Prop} {P : Program} {w : World} {ι : Nat → Nat → Nat} {O : Store} {K : TV → Prop} {val : Value} {s : Sem Value} (hk : K (lit val)) (h1 : val.oneCell' = true)
    (hs : ∀ w' : World, s.run P w' = .ok val w') : Yields B P w ι O K s := ⟨_, val, hk, RepP.lit _ h1, fun w' _ => hs w'⟩

/-! ### load -/
def cellsK (ti : TI) (cs : List SV) (j : Nat) (K : TV → Prop) : Prop :=
  if ti.agg then j + ti.size ≤ cs.length ∧ K (.a (.agg ((cs.drop j).take ti.size))) else ∃ s, cs[j]? = some s ∧ K (.a (.s s))

def qLoad (T : TypeId → Option TI) (O : Store) (t : TypeId) (x : TV) (K : TV → Prop) : Prop :=
  ∃ ti, T t = some ti ∧ match x with
    | .a (.s (.pb l b j)) => (match O l b with
      | some (.box _ cs) => cellsK ti cs j K
      | _ => False)
    | .a (.s (.pr l b i j)) => (match O l b with
      | some (.row _ _ es) => ∃ x, es[i]? = some x ∧ cellsK ti (x.map .pv) j K
      | _ => False)
    | .a (.pel _ es i j) => ∃ x, es[i]? = some x ∧ cellsK ti (x.map .pv) j K
    | _ => False

theorem run_sureAddr_some (P : Program) (w : World) (a : Addr) : (Instr.sureAddr (.pointer (some a))).run P w = .ok a w := rfl

theorem addr_add (b o n : Nat) : (⟨b, o, none⟩ : Addr).add n = ⟨b, o + n, none⟩ := by
  unfold Addr.add; split <;> simp_all

/-- Cells that lie in a row at an address. -/
theorem load_cells {B : World → Prop} {P : Program} {w : World} {ι : Nat → Nat → Nat} {O : Store} {K : TV → Prop} {t : TypeId} {ti : TI} (hti : ti.ok P t) (hB : ∀ w', B w' → Below w.heap.size w w')
    {cs : List SV} {j b o : Nat} (hb : b < w.heap.size)
    (hc : ∀ (i : Nat) (y : SV), cs[i]? = some y → ∃ u, w.cell? ⟨b, o + i, none⟩ = some u ∧ RepS w (Gd w ι O) ι O y u)
    (h : cellsK ti cs j K) : Yields B P w ι O K (loadVar t ⟨b, o + j, none⟩) := by
  unfold cellsK at h
  split at h
  · rename_i hagg
    obtain ⟨hl, hk⟩ := h
    have hlen : ((cs.drop j).take ti.size).length = ti.size := by simp; omega
    have hvals : ∀ i, i < ti.size → ∃ u, w.cell? ⟨b, o + j + i, none⟩ = some u ∧ ∀ y, ((cs.drop j).take ti.size)[i]? = some y → RepS w (Gd w ι O) ι O y u := by
      intro i hi
      have hlt : j + i < cs.length := by omega
      obtain ⟨u, hu, hr⟩ := hc (j + i) cs[j + i] (by simp)
      refine ⟨u, by rw [← hu]; congr 2; omega, fun y hy => ?_⟩
      rw [List.getElem?_take] at hy
      simp only [hi, if_true, List.getElem?_drop] at hy
      rw [List.getElem?_eq_getElem hlt] at hy
      cases hy
      exact hr
    refine ⟨_, .agg ((List.range ti.size).map fun i => (w.cell? ⟨b, o + j + i, none⟩).getD undef).toArray, hk, ⟨_, rfl, by simp; omega, fun i y hy => ?_⟩, fun w' hb' => have hw' := hB w' hb'; ?_⟩
    · have hi : i < ti.size := by
        have := (List.getElem?_eq_some_iff.1 hy).1
        omega
      obtain ⟨u, hu, hr⟩ := hvals i hi
      exact ⟨u, by simp [hi, hu], hr y hy⟩
    · have hld := run_loadCells (P := P) w' ⟨b, o + j, none⟩ ti.size (fun i => (w.cell? ⟨b, o + j + i, none⟩).getD undef) (fun i hi => by
        obtain ⟨u, hu, _⟩ := hvals i hi
        rw [addr_add, hw'.cell (p := ⟨b, o + j + i, none⟩) hb, hu]
        rfl)
      simp only [loadVar, Sem.run_bind, run_isAgg_ti w' hti, Result.andThen_ok, hagg, if_true, run_sizeOf_ti w' hti, hld, Sem.run_pure]
  · rename_i hagg
    obtain ⟨s, hs, hk⟩ := h
    obtain ⟨u, hu, hr⟩ := hc j s hs
    refine ⟨_, u, hk, hr, fun w' hb' => have hw' := hB w' hb'; ?_⟩
    have hcell : w'.cell? ⟨b, o + j, none⟩ = some u := (hw'.cell (p := ⟨b, o + j, none⟩) hb).trans hu
    simp only [loadVar, Sem.run_bind, run_isAgg_ti w' hti, Result.andThen_ok, hagg, Bool.false_eq_true, if_false, run_load, hcell]

theorem cell_block {w : World} {b : Nat} {c : Array Value} {e : TypeId} {m : Nat × Nat} (h : w.heap[b]? = some (.cells c e m)) (o : Nat) : w.cell? ⟨b, o, none⟩ = c[o]? := by
  simp [World.cell?, h]

theorem qLoad_sound {B : World → Prop} {P : Program} {T : TypeId → Option TI} (hT : TOk P T) {w : World} {ι : Nat → Nat → Nat} {O : Store} {K : TV → Prop} {t : TypeId} {x : TV} {val : Value}
    (hB : ∀ w', B w' → Below w.heap.size w w') (hl : Lies w ι O) (hx : RepT w (Gd w ι O) ι O x val) (h : qLoad T O t x K) : Yields B P w ι O K (Instr.loadAt t val) := by
  obtain ⟨ti, hti, h⟩ := h
  have hti := hT t ti hti
  have hgo : ∀ a : Addr, Yields B P w ι O K (loadVar t a) → Yields B P w ι O K (Instr.loadAt t (.pointer (some a))) := by
    rintro a ⟨v, u, h1, h2, h3⟩
    exact ⟨v, u, h1, h2, fun w' hw' => by simp only [Instr.loadAt, Sem.run_bind, run_sureAddr_some, Result.andThen_ok]; exact h3 w' hw'⟩
  split at h
  · rename_i l b j
    obtain ⟨⟨e, cs, ho⟩, rfl⟩ := hx
    simp only [ho] at h
    obtain ⟨c, hc, hsz, hr⟩ := hl.obj l b _ ho
    refine hgo _ ?_
    have := load_cells (P := P) (o := 0) hti hB (hl.lt ho) (fun i y hy => by
      obtain ⟨u, hu, hr⟩ := hr i y hy
      exact ⟨u, by rw [cell_block hc]; simpa using hu, hr⟩) h
    simpa using this
  · rename_i l b i j
    obtain ⟨e, esz, es, ho, rfl⟩ := hx
    simp only [ho] at h
    obtain ⟨y, hy, h⟩ := h
    obtain ⟨c, hc, hlen, hfit, hmax, hr⟩ := hl.obj l b _ ho
    refine hgo _ (load_cells (P := P) hti hB (hl.lt ho) (fun k z hz => ?_) h)
    rw [List.getElem?_map] at hz
    cases hyk : y[k]? with
    | none => simp [hyk] at hz
    | some p =>
      simp only [hyk, Option.map_some, Option.some.injEq] at hz
      subst hz
      obtain ⟨u, hu, hr⟩ := hr i k y p hy hyk
      exact ⟨u, by rw [cell_block hc]; exact hu, hr⟩
  · rename_i esz es i j
    obtain ⟨blk, off, hr, rfl⟩ := hx
    obtain ⟨y, hy, h⟩ := h
    have hne : es ≠ [] := by intro h0; subst h0; simp at hy
    refine hgo _ (load_cells (P := P) hti hB (hr.good hne).1 (fun k z hz => ?_) h)
    rw [List.getElem?_map] at hz
    cases hyk : y[k]? with
    | none => simp [hyk] at hz
    | some p =>
      simp only [hyk, Option.map_some, Option.some.injEq] at hz
      subst hz
      obtain ⟨u, hu, hru⟩ := hr.cell i k y p hy hyk
      exact ⟨u, hu, hru⟩
  · exact h.elim
end Go.Rd
