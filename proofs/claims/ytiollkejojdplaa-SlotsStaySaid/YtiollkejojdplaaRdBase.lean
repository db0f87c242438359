/- RD, part 1: pure values, the objects of a call, what represents them in a world; what a change of the world leaves as it was. -/
import Derived.Below
import Derived.OwnWalk
import Derived.Laws.MakeOwn
import Derived.Laws.OwnMore
import Derived.Laws.NewBlocks
namespace Go.Rd
open Go.RowKit

/-- Pure values: a one-cell value that leads nowhere, or a slice that nobody writes any more, told by its elements (each so many cells). -/
inductive PV where
  | lit (v : Value)
  | row (esz : Nat) (es : List (List PV))
  | clo (f : FuncId) (caps : List (List PV))   -- a function with variables that nobody writes any more

/-- 'v' represents a pure value in world 'w'; all memory that is read for it lies in blocks of 'G'. -/
inductive RepP (w : World) (G : Nat → Prop) : PV → Value → Prop
  | lit (v : Value) (h : v.oneCell' = true) : RepP w G (.lit v) v
  | row (esz : Nat) (es : List (List PV)) (blk off cap : Nat) (u : Nat → Nat → Value)
      (hlen : ∀ (i : Nat) (e : List PV), es[i]? = some e → e.length = esz) (hcap : es.length ≤ cap) (hmax : cap ≤ maxLen)
      (hG : es ≠ [] → G blk)
      (hc : ∀ (i j : Nat) (e : List PV) (x : PV), es[i]? = some e → e[j]? = some x → w.cell? ⟨blk, off + i * esz + j, none⟩ = some (u i j))
      (hr : ∀ (i j : Nat) (e : List PV) (x : PV), es[i]? = some e → e[j]? = some x → RepP w G x (u i j)) :
      RepP w G (.row esz es) (.slice (some ⟨blk, off, none⟩) es.length cap)
  | clo (f : FuncId) (caps : List (List PV)) (vs : List Value) (blk : Nat → Nat) (u : Nat → Nat → Value) (hvl : vs.length = caps.length)
      (hv : ∀ (i : Nat) (cs : List PV), caps[i]? = some cs → vs[i]? = some (.pointer (some ⟨blk i, 0, none⟩)) ∧ G (blk i))
      (hc : ∀ (i j : Nat) (cs : List PV) (x : PV), caps[i]? = some cs → cs[j]? = some x → w.cell? ⟨blk i, j, none⟩ = some (u i j))
      (hr : ∀ (i j : Nat) (cs : List PV) (x : PV), caps[i]? = some cs → cs[j]? = some x → RepP w G x (u i j)) :
      RepP w G (.clo f caps) (.func (.func f) #[] vs.toArray)

theorem RepP.one {w : World} {G : Nat → Prop} {p : PV} {v : Value} (h : RepP w G p v) : v.oneCell' = true := by
  cases h with
  | lit _ h => exact h
  | row => rfl
  | clo => rfl

theorem cell_of_heap {w w' : World} {a : Addr} (h : w'.heap[a.block]? = w.heap[a.block]?) : w'.cell? a = w.cell? a := World.cell?_of_block h

theorem RepP.mono {w w' : World} {G G' : Nat → Prop} {p : PV} {v : Value} (h : RepP w G p v)
    (hG : ∀ k, G k → G' k ∧ w'.heap[k]? = w.heap[k]?) : RepP w' G' p v := by
  induction h with
  | lit v h => exact .lit v h
  | row esz es blk off cap u hlen hcap hmax hGb hc hr ih =>
    refine .row esz es blk off cap u hlen hcap hmax (fun hne => (hG _ (hGb hne)).1) (fun i j e x he hx => ?_) ih
    have hne : es ≠ [] := by intro h0; subst h0; simp at he
    rw [cell_of_heap (hG blk (hGb hne)).2]
    exact hc i j e x he hx
  | clo f caps vs blk u hvl hv hc hr ih =>
    refine .clo f caps vs blk u hvl (fun i cs hi => ⟨(hv i cs hi).1, (hG _ (hv i cs hi).2).1⟩) (fun i j cs x hi hx => ?_) ih
    rw [cell_of_heap (hG (blk i) (hv i cs hi).2).2]
    exact hc i j cs x hi hx

/-- The rows of a slice's memory, as an address and not as a value. -/
structure RowAt (w : World) (G : Nat → Prop) (esz : Nat) (es : List (List PV)) (blk off : Nat) : Prop where
  len : ∀ (i : Nat) (e : List PV), es[i]? = some e → e.length = esz
  good : es ≠ [] → G blk
  max : es.length ≤ maxLen
  cell : ∀ (i j : Nat) (e : List PV) (x : PV), es[i]? = some e → e[j]? = some x → ∃ u, w.cell? ⟨blk, off + i * esz + j, none⟩ = some u ∧ RepP w G x u

theorem RepP.row_inv {w : World} {G : Nat → Prop} {esz : Nat} {es : List (List PV)} {v : Value} (h : RepP w G (.row esz es) v) :
    ∃ blk off cap, v = .slice (some ⟨blk, off, none⟩) es.length cap ∧ es.length ≤ cap ∧ cap ≤ maxLen ∧ RowAt w G esz es blk off := by
  cases h with
  | row _ _ blk off cap u hlen hcap hmax hG hc hr =>
    exact ⟨blk, off, cap, rfl, hcap, hmax, hlen, hG, by omega, fun i j e x he hx => ⟨u i j, hc i j e x he hx, hr i j e x he hx⟩⟩

theorem RepP.mk_row {w : World} {G : Nat → Prop} {esz : Nat} {es : List (List PV)} {blk off cap : Nat} (hcap : es.length ≤ cap) (hmax : cap ≤ maxLen)
    (h : RowAt w G esz es blk off) : RepP w G (.row esz es) (.slice (some ⟨blk, off, none⟩) es.length cap) := by
  refine .row esz es blk off cap (fun i j => (w.cell? ⟨blk, off + i * esz + j, none⟩).getD undef) h.len hcap hmax h.good ?_ ?_
  · intro i j e x he hx
    obtain ⟨u, hu, _⟩ := h.cell i j e x he hx
    simp [hu]
  · intro i j e x he hx
    obtain ⟨u, hu, hr⟩ := h.cell i j e x he hx
    simpa [hu] using hr

theorem RepP.lit_inv {w : World} {G : Nat → Prop} {v u : Value} (h : RepP w G (.lit v) u) : u = v ∧ v.oneCell' = true := by
  cases h with
  | lit _ h => exact ⟨rfl, h⟩

theorem RowAt.mono {w w' : World} {G G' : Nat → Prop} {esz : Nat} {es : List (List PV)} {blk off : Nat} (h : RowAt w G esz es blk off)
    (hG : ∀ k, G k → G' k ∧ w'.heap[k]? = w.heap[k]?) : RowAt w' G' esz es blk off := by
  refine ⟨h.len, fun hne => (hG _ (h.good hne)).1, h.max, fun i j e x he hx => ?_⟩
  obtain ⟨u, hu, hr⟩ := h.cell i j e x he hx
  have hne : es ≠ [] := by intro h0; subst h0; simp at he
  exact ⟨u, by rw [cell_of_heap (hG blk (h.good hne)).2]; exact hu, hr.mono hG⟩

/-! ### Objects of a call -/

/-- A storable value of one cell. -/
inductive SV where
  | undef
  | pv (p : PV)
  | pb (l b j : Nat)             -- pointer to cell j of box (l, b)
  | pr (l b i j : Nat)           -- pointer to cell j of element i of row (l, b)
  | sl (l b off len : Nat)       -- a slice over row (l, b)
  | slc (l b off len cap : Nat)  -- .. with its capacity; it may reach beyond the elements that are known
  | clo (f : FuncId) (caps : List (Nat × Nat))   -- a function with the boxes that it has captured

inductive AObj where
  | row (elem : TypeId) (esz : Nat) (es : List (List PV))
  | box (elem : TypeId) (cs : List SV)

abbrev Store := Nat → Nat → Option AObj

def upd (O : Store) (l b : Nat) (o : Option AObj) : Store := fun l' b' => if l' = l ∧ b' = b then o else O l' b'
theorem upd_same (O : Store) (l b : Nat) (o : Option AObj) : upd O l b o l b = o := by simp [upd]
theorem upd_ne (O : Store) {l b l' b' : Nat} (o : Option AObj) (h : ¬ (l' = l ∧ b' = b)) : upd O l b o l' b' = O l' b' := by simp [upd, h]

def AObj.elem : AObj → TypeId
  | .row e _ _ => e
  | .box e _ => e

/-- The level of what a value leads to (0: nowhere). -/
def SV.lev : SV → Nat
  | .pb l _ _ | .pr l _ _ _ | .sl l _ _ _ | .slc l _ _ _ _ => l
  | .clo _ caps => caps.foldr (fun p m => max p.1 m) 0
  | _ => 0

section
variable (w : World) (G : Nat → Prop) (ι : Nat → Nat → Nat) (O : Store)

def RepS : SV → Value → Prop
  | .undef, v => v.oneCell' = true
  | .pv p, v => RepP w G p v
  | .pb l b j, v => (∃ e cs, O l b = some (.box e cs)) ∧ v = .pointer (some ⟨ι l b, j, none⟩)
  | .pr l b i j, v => ∃ e esz es, O l b = some (.row e esz es) ∧ v = .pointer (some ⟨ι l b, i * esz + j, none⟩)
  | .sl l b off len, v => ∃ e esz es cap c, O l b = some (.row e esz es) ∧ v = .slice (some ⟨ι l b, off * esz, none⟩) len cap ∧
      off + len ≤ es.length ∧ len ≤ cap ∧ cap ≤ maxLen ∧ w.heap[ι l b]? = some (.cells c e (0, 0)) ∧ (off + cap) * esz = c.size
  | .slc l b off len cap, v => ∃ e esz es c, O l b = some (.row e esz es) ∧ v = .slice (some ⟨ι l b, off * esz, none⟩) len cap ∧ len ≤ cap ∧ cap ≤ maxLen ∧ w.heap[ι l b]? = some (.cells c e (0, 0)) ∧ (off + cap) * esz = c.size
  | .clo f caps, v => v = .func (.func f) #[] (caps.map fun p => Value.pointer (some ⟨ι p.1 p.2, 0, none⟩)).toArray ∧ ∀ p ∈ caps, ∃ e cs, O p.1 p.2 = some (.box e cs)

/-- Block 'blk' holds object 'o'. -/
def RepO (blk : Nat) : AObj → Prop
  | .row e esz es => ∃ c, w.heap[blk]? = some (.cells c e (0, 0)) ∧ (∀ (i : Nat) (x : List PV), es[i]? = some x → x.length = esz) ∧ es.length * esz ≤ c.size ∧ es.length ≤ maxLen ∧
      ∀ (i j : Nat) (x : List PV) (y : PV), es[i]? = some x → x[j]? = some y → ∃ u, c[i * esz + j]? = some u ∧ RepP w G y u
  | .box e cs => ∃ c, w.heap[blk]? = some (.cells c e (0, 0)) ∧ c.size = cs.length ∧ ∀ (j : Nat) (y : SV), cs[j]? = some y → ∃ u, c[j]? = some u ∧ RepS w G ι O y u

def Own (k : Nat) : Prop := ∃ l b o, O l b = some o ∧ ι l b = k

end

def Gd (w : World) (ι : Nat → Nat → Nat) (O : Store) (k : Nat) : Prop := k < w.heap.size ∧ ¬ Own ι O k

theorem RepS.one {w : World} {G : Nat → Prop} {ι : Nat → Nat → Nat} {O : Store} {s : SV} {v : Value} (h : RepS w G ι O s v) : v.oneCell' = true := by
  cases s with
  | undef => exact h
  | pv p => exact RepP.one h
  | pb l b j => obtain ⟨_, rfl⟩ := h; rfl
  | pr l b i j => obtain ⟨_, _, _, _, rfl⟩ := h; rfl
  | sl l b off len => obtain ⟨_, _, _, _, _, _, rfl, _⟩ := h; rfl
  | slc l b off len cap => obtain ⟨_, _, _, _, _, rfl, _⟩ := h; rfl
  | clo f caps => obtain ⟨rfl, _⟩ := h; rfl

/-- What a reference leads to is known to the store. -/
def SV.live (O : Store) : SV → Prop
  | .pb l b _ | .pr l b _ _ | .sl l b _ _ | .slc l b _ _ _ => (O l b).isSome = true
  | .clo _ caps => ∀ p ∈ caps, (O p.1 p.2).isSome = true
  | _ => True

/-- How an object may turn while references to it stay good. -/
def AObj.fits : AObj → AObj → Prop
  | .row e esz es, .row e' esz' es' => e = e' ∧ esz = esz' ∧ es.length ≤ es'.length
  | .box _ _, .box _ _ => True
  | _, _ => False

theorem AObj.fits_refl (o : AObj) : o.fits o := by cases o <;> simp [AObj.fits]

/-- A value stays represented: the frozen memory lies as it lay, and each object that it leads to is there still (perhaps turned), in a block of the same number and size. -/
theorem RepS.mono {w w' : World} {G G' : Nat → Prop} {ι ι' : Nat → Nat → Nat} {O O' : Store} {s : SV} {v : Value} (h : RepS w G ι O s v)
    (hG : ∀ k, G k → G' k ∧ w'.heap[k]? = w.heap[k]?)
    (hO : ∀ l b o, O l b = some o → s.live O → ∃ o', O' l b = some o' ∧ o.fits o' ∧ ι' l b = ι l b)
    (hc : ∀ l b o c e, O l b = some o → w.heap[ι l b]? = some (.cells c e (0, 0)) → ∃ c', w'.heap[ι l b]? = some (.cells c' e (0, 0)) ∧ c'.size = c.size) :
    RepS w' G' ι' O' s v := by
  cases s with
  | undef => exact h
  | pv p => exact RepP.mono h hG
  | pb l b j =>
    obtain ⟨⟨e, cs, ho⟩, rfl⟩ := h
    obtain ⟨o', h1, h2, h3⟩ := hO l b _ ho (by simp [SV.live, ho])
    cases o' with
    | row => exact h2.elim
    | box e' cs' => exact ⟨⟨e', cs', h1⟩, by rw [h3]⟩
  | pr l b i j =>
    obtain ⟨e, esz, es, ho, rfl⟩ := h
    obtain ⟨o', h1, h2, h3⟩ := hO l b _ ho (by simp [SV.live, ho])
    cases o' with
    | box => exact h2.elim
    | row e' esz' es' =>
      obtain ⟨rfl, rfl, _⟩ := h2
      exact ⟨_, _, _, h1, by rw [h3]⟩
  | sl l b off len =>
    obtain ⟨e, esz, es, cap, c, ho, rfl, q1, q2, q3, q4, q5⟩ := h
    obtain ⟨o', h1, h2, h3⟩ := hO l b _ ho (by simp [SV.live, ho])
    cases o' with
    | box => exact h2.elim
    | row e' esz' es' =>
      obtain ⟨rfl, rfl, hl⟩ := h2
      obtain ⟨c', k1, k2⟩ := hc l b _ c _ ho q4
      exact ⟨_, _, _, cap, c', h1, by rw [h3], by omega, q2, q3, by rw [h3]; exact k1, by rw [k2]; exact q5⟩
  | slc l b off len cap =>
    obtain ⟨e, esz, es, c, ho, rfl, q2, q3, q4, q5⟩ := h
    obtain ⟨o', h1, h2, h3⟩ := hO l b _ ho (by simp [SV.live, ho])
    cases o' with
    | box => exact h2.elim
    | row e' esz' es' =>
      obtain ⟨rfl, rfl, hl⟩ := h2
      obtain ⟨c', k1, k2⟩ := hc l b _ c _ ho q4
      exact ⟨_, _, _, c', h1, by rw [h3], q2, q3, by rw [h3]; exact k1, by rw [k2]; exact q5⟩
  | clo f caps =>
    obtain ⟨rfl, hl⟩ := h
    have hlive : (SV.clo f caps).live O := fun p hp => by obtain ⟨e, cs, h⟩ := hl p hp; simp [h]
    refine ⟨?_, fun p hp => ?_⟩
    · congr 2
      refine List.map_congr_left fun p hp => ?_
      obtain ⟨e, cs, ho⟩ := hl p hp
      obtain ⟨_, _, _, h3⟩ := hO _ _ _ ho hlive
      rw [h3]
    · obtain ⟨e, cs, ho⟩ := hl p hp
      obtain ⟨o', h1, h2, h3⟩ := hO _ _ _ ho hlive
      cases o' with
      | row => exact h2.elim
      | box e' cs' => exact ⟨_, _, h1⟩
end Go.Rd
