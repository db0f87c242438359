/- The law AllocTells of the given program, for every input. (part 1 of 10) -/
import Derived.Below
import Derived.OwnWalk
import Derived.Laws.MakeOwn
import Derived.Laws.OwnMore
import Derived.Laws.NewBlocks
import Derived.Laws.StructEq
import Derived.Laws.FloatArith
import Derived.Laws.Slices
import Derived.Laws.Shifts
import Derived.Laws.Cover1
import Derived.Laws.Cover3
import Derived.Laws.Tables
import Derived.Laws.CopyRow
import Derived.Laws.AppendOwn
namespace Go.Rd
open Go.RowKit
inductive PV where
  | lit (v : Value)
  | row (esz : Nat) (es : List (List PV))
  | clo (f : FuncId) (caps : List (List PV))   -- a function with variables that nobody writes any more
inductive RepP (w : World) (G : Nat → Prop) : PV → Value → Prop
  | lit (v : Value) (h : v.oneCell' = true) : RepP w G (.lit v) v
  | row (esz : Nat) (es : List (List PV)) (blk off : Nat) (sp : Option Nat) (cap : Nat) (hsp : sp = none ∨ cap = 0) (u : Nat → Nat → Value)   -- an empty one may have been cut out of anything ('sp')
      (hlen : ∀ (i : Nat) (e : List PV), es[i]? = some e → e.length = esz) (hcap : es.length ≤ cap) (hmax : cap ≤ maxLen)
      (hG : es ≠ [] → G blk)
      (hc : ∀ (i j : Nat) (e : List PV) (x : PV), es[i]? = some e → e[j]? = some x → w.cell? ⟨blk, off + i * esz + j, none⟩ = some (u i j))
      (hr : ∀ (i j : Nat) (e : List PV) (x : PV), es[i]? = some e → e[j]? = some x → RepP w G x (u i j)) :
      RepP w G (.row esz es) (.slice (some ⟨blk, off, sp⟩) es.length cap)
  | clo (f : FuncId) (caps : List (List PV)) (vs : List Value) (blk : Nat → Nat) (u : Nat → Nat → Value) (hvl : vs.length = caps.length)
      (hv : ∀ (i : Nat) (cs : List PV), caps[i]? = some cs → vs[i]? = some (.pointer (some ⟨blk i, 0, none⟩)) ∧ G (blk i))
      (hc : ∀ (i j : Nat) (cs : List PV) (x : PV), caps[i]? = some cs → cs[j]? = some x → w.cell? ⟨blk i, j, none⟩ = some (u i j))
      (hr : ∀ (i j : Nat) (cs : List PV) (x : PV), caps[i]? = some cs → cs[j]? = some x → RepP w G x (u i j)) :
      RepP w G (.clo f caps) (.func (.func f) #[] vs.toArray)
theorem RepP.one {w : World} {G : Nat → Prop} {p : PV} {v : Value} (h : RepP w G p v) : v.oneCell' = true := by
  cases h with
  | lit _ h => exact h
  | row => rfl
  | clo => rfl
theorem cell_of_heap {w w' : World} {a : Addr} (h : w'.heap[a.block]? = w.heap[a.block]?) : w'.cell? a = w.cell? a := World.cell?_of_block h
theorem RepP.mono {w w' : World} {G G' : Nat → Prop} {p : PV} {v : Value} (h : RepP w G p v)
    (hG : ∀ k, G k → G' k ∧ w'.heap[k]? = w.heap[k]?) : RepP w' G' p v := by
  induction h with
  | lit v h => exact .lit v h
  | row esz es blk off sp cap hsp u hlen hcap hmax hGb hc hr ih =>
    refine .row esz es blk off sp cap hsp u hlen hcap hmax (fun hne => (hG _ (hGb hne)).1) (fun i j e x he hx => ?_) ih
    have hne : es ≠ [] := by intro h0; subst h0; simp at he
    rw [cell_of_heap (hG blk (hGb hne)).2]
    exact hc i j e x he hx
  | clo f caps vs blk u hvl hv hc hr ih =>
    refine .clo f caps vs blk u hvl (fun i cs hi => ⟨(hv i cs hi).1, (hG _ (hv i cs hi).2).1⟩) (fun i j cs x hi hx => ?_) ih
    rw [cell_of_heap (hG (blk i) (hv i cs hi).2).2]
    exact hc i j cs x hi hx
structure RowAt (w : World) (G : Nat → Prop) (esz : Nat) (es : List (List PV)) (blk off : Nat) : Prop where
  len : ∀ (i : Nat) (e : List PV), es[i]? = some e → e.length = esz
  good : es ≠ [] → G blk
  max : es.length ≤ maxLen
  cell : ∀ (i j : Nat) (e : List PV) (x : PV), es[i]? = some e → e[j]? = some x → ∃ u, w.cell? ⟨blk, off + i * esz + j, none⟩ = some u ∧ RepP w G x u
theorem RepP.row_inv {w : World} {G : Nat → Prop} {esz : Nat} {es : List (List PV)} {v : Value} (h : RepP w G (.row esz es) v) :
    ∃ blk off sp cap, v = .slice (some ⟨blk, off, sp⟩) es.length cap ∧ (sp = none ∨ cap = 0) ∧ es.length ≤ cap ∧ cap ≤ maxLen ∧ RowAt w G esz es blk off := by
  cases h with
  | row _ _ blk off sp cap hsp u hlen hcap hmax hG hc hr =>
    exact ⟨blk, off, sp, cap, rfl, hsp, hcap, hmax, hlen, hG, by omega, fun i j e x he hx => ⟨u i j, hc i j e x he hx, hr i j e x he hx⟩⟩
theorem RepP.mk_rowS {w : World} {G : Nat → Prop} {esz : Nat} {es : List (List PV)} {blk off cap : Nat} {sp : Option Nat} (hsp : sp = none ∨ cap = 0) (hcap : es.length ≤ cap) (hmax : cap ≤ maxLen)
    (h : RowAt w G esz es blk off) : RepP w G (.row esz es) (.slice (some ⟨blk, off, sp⟩) es.length cap) := by
  refine .row esz es blk off sp cap hsp (fun i j => (w.cell? ⟨blk, off + i * esz + j, none⟩).getD undef) h.len hcap hmax h.good ?_ ?_
  · intro i j e x he hx
    obtain ⟨u, hu, _⟩ := h.cell i j e x he hx
    simp [hu]
  · intro i j e x he hx
    obtain ⟨u, hu, hr⟩ := h.cell i j e x he hx
    simpa [hu] using hr
theorem RepP.mk_row {w : World} {G : Nat → Prop} {esz : Nat} {es : List (List PV)} {blk off cap : Nat} (hcap : es.length ≤ cap) (hmax : cap ≤ maxLen)
    (h : RowAt w G esz es blk off) : RepP w G (.row esz es) (.slice (some ⟨blk, off, none⟩) es.length cap) := RepP.mk_rowS (.inl rfl) hcap hmax h
theorem RepP.lit_inv {w : World} {G : Nat → Prop} {v u : Value} (h : RepP w G (.lit v) u) : u = v ∧ v.oneCell' = true := by
  cases h with
  | lit _ h => exact ⟨rfl, h⟩
theorem RowAt.mono {w w' : World} {G G' : Nat → Prop} {esz : Nat} {es : List (List PV)} {blk off : Nat} (h : RowAt w G esz es blk off)
    (hG : ∀ k, G k → G' k ∧ w'.heap[k]? = w.heap[k]?) : RowAt w' G' esz es blk off := by
  refine ⟨h.len, fun hne => (hG _ (h.good hne)).1, h.max, fun i j e x he hx => ?_⟩
  obtain ⟨u, hu, hr⟩ := h.cell i j e x he hx
  have hne : es ≠ [] := by intro h0; subst h0; simp at he
  exact ⟨u, by rw [cell_of_heap (hG blk (h.good hne)).2]; exact hu, hr.mono hG⟩
inductive SV where
  | undef
  | pv (p : PV)
  | pb (l b j : Nat)             -- pointer to cell j of box (l, b)
  | pr (l b i j : Nat)           -- pointer to cell j of element i of row (l, b)
  | sl (l b off len : Nat)       -- a slice over row (l, b)
  | slc (l b off len cap : Nat)  -- .. with its capacity; it may reach beyond the elements that are known
  | clo (f : FuncId) (caps : List (Nat × Nat))   -- a function with the boxes that it has captured
inductive AObj where
  | row (elem : TypeId) (esz : Nat) (es : List (List PV))
  | box (elem : TypeId) (cs : List SV)
abbrev Store := Nat → Nat → Option AObj
def upd (O : Store) (l b : Nat) (o : Option AObj) : Store := fun l' b' => if l' = l ∧ b' = b then o else O l' b'
theorem upd_same (O : Store) (l b : Nat) (o : Option AObj) : upd O l b o l b = o := by simp [upd]
theorem upd_ne (O : Store) {l b l' b' : Nat} (o : Option AObj) (h : ¬ (l' = l ∧ b' = b)) : upd O l b o l' b' = O l' b' := by simp [upd, h]
def AObj.elem : AObj → TypeId
  | .row e _ _ => e
  | .box e _ => e
def SV.lev : SV → Nat
  | .pb l _ _ | .pr l _ _ _ | .sl l _ _ _ | .slc l _ _ _ _ => l
  | .clo _ caps => caps.foldr (fun p m => max p.1 m) 0
  | _ => 0
section
variable (w : World) (G : Nat → Prop) (ι : Nat → Nat → Nat) (O : Store)
def RepS : SV → Value → Prop
  | .undef, v => v.oneCell' = true
  | .pv p, v => RepP w G p v
  | .pb l b j, v => (∃ e cs, O l b = some (.box e cs)) ∧ v = .pointer (some ⟨ι l b, j, none⟩)
  | .pr l b i j, v => ∃ e esz es, O l b = some (.row e esz es) ∧ v = .pointer (some ⟨ι l b, i * esz + j, none⟩)
  | .sl l b off len, v => ∃ e esz es cap c, O l b = some (.row e esz es) ∧ v = .slice (some ⟨ι l b, off * esz, none⟩) len cap ∧
      off + len ≤ es.length ∧ len ≤ cap ∧ cap ≤ maxLen ∧ w.heap[ι l b]? = some (.cells c e (0, 0)) ∧ (off + cap) * esz = c.size
  | .slc l b off len cap, v => ∃ e esz es c, O l b = some (.row e esz es) ∧ v = .slice (some ⟨ι l b, off * esz, none⟩) len cap ∧ len ≤ cap ∧ cap ≤ maxLen ∧ w.heap[ι l b]? = some (.cells c e (0, 0)) ∧ (off + cap) * esz = c.size
  | .clo f caps, v => v = .func (.func f) #[] (caps.map fun p => Value.pointer (some ⟨ι p.1 p.2, 0, none⟩)).toArray ∧ ∀ p ∈ caps, ∃ e cs, O p.1 p.2 = some (.box e cs)
def RepO (blk : Nat) : AObj → Prop
  | .row e esz es => ∃ c, w.heap[blk]? = some (.cells c e (0, 0)) ∧ (∀ (i : Nat) (x : List PV), es[i]? = some x → x.length = esz) ∧ es.length * esz ≤ c.size ∧ es.length ≤ maxLen ∧
      ∀ (i j : Nat) (x : List PV) (y : PV), es[i]? = some x → x[j]? = some y → ∃ u, c[i * esz + j]? = some u ∧ RepP w G y u
  | .box e cs => ∃ c, w.heap[blk]? = some (.cells c e (0, 0)) ∧ c.size = cs.length ∧ ∀ (j : Nat) (y : SV), cs[j]? = some y → ∃ u, c[j]? = some u ∧ RepS w G ι O y u
def Own (k : Nat) : Prop := ∃ l b o, O l b = some o ∧ ι l b = k
end
def Gd (w : World) (ι : Nat → Nat → Nat) (O : Store) (k : Nat) : Prop := k < w.heap.size ∧ ¬ Own ι O k
theorem RepS.one {w : World} {G : Nat → Prop} {ι : Nat → Nat → Nat} {O : Store} {s : SV} {v : Value} (h : RepS w G ι O s v) : v.oneCell' = true := by
  cases s with
  | undef => exact h
  | pv p => exact RepP.one h
  | pb l b j => obtain ⟨_, rfl⟩ := h; rfl
  | pr l b i j => obtain ⟨_, _, _, _, rfl⟩ := h; rfl
  | sl l b off len => obtain ⟨_, _, _, _, _, _, rfl, _⟩ := h; rfl
  | slc l b off len cap => obtain ⟨_, _, _, _, _, rfl, _⟩ := h; rfl
  | clo f caps => obtain ⟨rfl, _⟩ := h; rfl
def SV.live (O : Store) : SV → Prop
  | .pb l b _ | .pr l b _ _ | .sl l b _ _ | .slc l b _ _ _ => (O l b).isSome = true
  | .clo _ caps => ∀ p ∈ caps, (O p.1 p.2).isSome = true
  | _ => True
def AObj.fits : AObj → AObj → Prop
  | .row e esz es, .row e' esz' es' => e = e' ∧ esz = esz' ∧ es.length ≤ es'.length
  | .box _ _, .box _ _ => True
  | _, _ => False
theorem AObj.fits_refl (o : AObj) : o.fits o := by cases o <;> simp [AObj.fits]
theorem RepS.mono {w w' : World} {G G' : Nat → Prop} {ι ι' : Nat → Nat → Nat} {O O' : Store} {s : SV} {v : Value} (h : RepS w G ι O s v)
    (hG : ∀ k, G k → G' k ∧ w'.heap[k]? = w.heap[k]?)
    (hO : ∀ l b o, O l b = some o → s.live O → ∃ o', O' l b = some o' ∧ o.fits o' ∧ ι' l b = ι l b)
    (hc : ∀ l b o c e, O l b = some o → w.heap[ι l b]? = some (.cells c e (0, 0)) → ∃ c', w'.heap[ι l b]? = some (.cells c' e (0, 0)) ∧ c'.size = c.size) :
    RepS w' G' ι' O' s v := by
  cases s with
  | undef => exact h
  | pv p => exact RepP.mono h hG
  | pb l b j =>
    obtain ⟨⟨e, cs, ho⟩, rfl⟩ := h
    obtain ⟨o', h1, h2, h3⟩ := hO l b _ ho (by simp [SV.live, ho])
    cases o' with
    | row => exact h2.elim
    | box e' cs' => exact ⟨⟨e', cs', h1⟩, by rw [h3]⟩
  | pr l b i j =>
    obtain ⟨e, esz, es, ho, rfl⟩ := h
    obtain ⟨o', h1, h2, h3⟩ := hO l b _ ho (by simp [SV.live, ho])
    cases o' with
    | box => exact h2.elim
    | row e' esz' es' =>
      obtain ⟨rfl, rfl, _⟩ := h2
      exact ⟨_, _, _, h1, by rw [h3]⟩
  | sl l b off len =>
    obtain ⟨e, esz, es, cap, c, ho, rfl, q1, q2, q3, q4, q5⟩ := h
    obtain ⟨o', h1, h2, h3⟩ := hO l b _ ho (by simp [SV.live, ho])
    cases o' with
    | box => exact h2.elim
    | row e' esz' es' =>
      obtain ⟨rfl, rfl, hl⟩ := h2
      obtain ⟨c', k1, k2⟩ := hc l b _ c _ ho q4
      exact ⟨_, _, _, cap, c', h1, by rw [h3], by omega, q2, q3, by rw [h3]; exact k1, by rw [k2]; exact q5⟩
  | slc l b off len cap =>
    obtain ⟨e, esz, es, c, ho, rfl, q2, q3, q4, q5⟩ := h
    obtain ⟨o', h1, h2, h3⟩ := hO l b _ ho (by simp [SV.live, ho])
    cases o' with
    | box => exact h2.elim
    | row e' esz' es' =>
      obtain ⟨rfl, rfl, hl⟩ := h2
      obtain ⟨c', k1, k2⟩ := hc l b _ c _ ho q4
      exact ⟨_, _, _, c', h1, by rw [h3], q2, q3, by rw [h3]; exact k1, by rw [k2]; exact q5⟩
  | clo f caps =>
    obtain ⟨rfl, hl⟩ := h
    have hlive : (SV.clo f caps).live O := fun p hp => by obtain ⟨e, cs, h⟩ := hl p hp; simp [h]
    refine ⟨?_, fun p hp => ?_⟩
    · congr 2
      refine List.map_congr_left fun p hp => ?_
      obtain ⟨e, cs, ho⟩ := hl p hp
      obtain ⟨_, _, _, h3⟩ := hO _ _ _ ho hlive
      rw [h3]
    · obtain ⟨e, cs, ho⟩ := hl p hp
      obtain ⟨o', h1, h2, h3⟩ := hO _ _ _ ho hlive
      cases o' with
      | row => exact h2.elim
      | box e' cs' => exact ⟨_, _, h1⟩
end Go.Rd
namespace Go.Rd
open Go.RowKit
inductive AV where
  | s (x : SV)
  | agg (xs : List SV)
  | pel (esz : Nat) (es : List (List PV)) (i j : Nat)     -- pointer into a row that nobody writes
inductive TV where
  | undef
  | a (x : AV)
  | tup (xs : List AV)
abbrev lit (v : Value) : TV := .a (.s (.pv (.lit v)))
abbrev int (n : Int) : TV := lit (.int .i64 n)
abbrev bool (b : Bool) : TV := lit (.bool b)
abbrev str (s : ByteArray) : TV := lit (.string s)
abbrev row (esz : Nat) (es : List (List PV)) : TV := .a (.s (.pv (.row esz es)))
abbrev nilS : TV := lit (.slice none 0 0)
section
variable (w : World) (G : Nat → Prop) (ι : Nat → Nat → Nat) (O : Store)
def RepA : AV → Value → Prop
  | .s x, v => RepS w G ι O x v
  | .agg xs, v => ∃ cs, v = .agg cs ∧ cs.size = xs.length ∧ ∀ (j : Nat) (y : SV), xs[j]? = some y → ∃ u, cs[j]? = some u ∧ RepS w G ι O y u
  | .pel esz es i j, v => ∃ blk off, RowAt w G esz es blk off ∧ v = .pointer (some ⟨blk, off + i * esz + j, none⟩)
def RepT : TV → Value → Prop
  | .undef, _ => True
  | .a x, v => RepA w G ι O x v
  | .tup xs, v => ∃ vs, v = .tuple vs ∧ vs.size = xs.length ∧ ∀ (j : Nat) (y : AV), xs[j]? = some y → ∃ u, vs[j]? = some u ∧ RepA w G ι O y u
end
def AV.live (O : Store) : AV → Prop
  | .s x => x.live O
  | .agg xs => ∀ x ∈ xs, x.live O
  | .pel .. => True
def TV.live (O : Store) : TV → Prop
  | .undef => True
  | .a x => x.live O
  | .tup xs => ∀ x ∈ xs, x.live O
structure Stays (w w' : World) (G G' : Nat → Prop) (ι ι' : Nat → Nat → Nat) (O O' : Store) : Prop where
  good : ∀ k, G k → G' k ∧ w'.heap[k]? = w.heap[k]?
  objs : ∀ l b o, O l b = some o → ∃ o', O' l b = some o' ∧ o.fits o' ∧ ι' l b = ι l b
  room : ∀ l b o c e, O l b = some o → w.heap[ι l b]? = some (.cells c e (0, 0)) → ∃ c', w'.heap[ι l b]? = some (.cells c' e (0, 0)) ∧ c'.size = c.size
section
variable {w w' : World} {G G' : Nat → Prop} {ι ι' : Nat → Nat → Nat} {O O' : Store}
theorem RepS.stays {s : SV} {v : Value} (h : RepS w G ι O s v) (hs : Stays w w' G G' ι ι' O O') : RepS w' G' ι' O' s v :=
  h.mono hs.good (fun l b o ho _ => hs.objs l b o ho) hs.room
theorem RepA.stays {s : AV} {v : Value} (h : RepA w G ι O s v) (hs : Stays w w' G G' ι ι' O O') : RepA w' G' ι' O' s v := by
  cases s with
  | s x => exact RepS.stays h hs
  | agg xs =>
    obtain ⟨cs, rfl, hl, hc⟩ := h
    refine ⟨cs, rfl, hl, fun j y hy => ?_⟩
    obtain ⟨u, hu, hr⟩ := hc j y hy
    exact ⟨u, hu, hr.stays hs⟩
  | pel esz es i j =>
    obtain ⟨blk, off, hr, rfl⟩ := h
    exact ⟨blk, off, hr.mono hs.good, rfl⟩
theorem RepT.stays {s : TV} {v : Value} (h : RepT w G ι O s v) (hs : Stays w w' G G' ι ι' O O') : RepT w' G' ι' O' s v := by
  cases s with
  | undef => trivial
  | a x => exact RepA.stays h hs
  | tup xs =>
    obtain ⟨vs, rfl, hl, hc⟩ := h
    refine ⟨vs, rfl, hl, fun j y hy => ?_⟩
    obtain ⟨u, hu, hr⟩ := hc j y hy
    exact ⟨u, hu, RepA.stays hr hs⟩
end
structure ASt where
  L : Nat
  n : Nat
  tm : List (Nat × TV)
  O : Store
def look : List (Nat × TV) → Nat → TV
  | [], _ => .undef
  | (k, v) :: r, t => if t = k then v else look r t
def ASt.get (st : ASt) (t : Nat) : TV := look st.tm t
def constA : Value → TV
  | .bool b => bool b
  | .int k n => lit (.int k n)
  | .float k n => lit (.float k n)
  | .string s => str s
  | .pointer p => lit (.pointer p)
  | .slice p l c => lit (.slice p l c)
  | .map r => lit (.map r)
  | .nilFunc => lit .nilFunc
  | .nilIface => lit .nilIface
  | .agg cs => if cs.toList.all (·.oneCell') then .a (.agg (cs.toList.map fun c => .pv (.lit c))) else .undef
  | _ => .undef
def ASt.ev (st : ASt) : Operand → TV
  | .tmp t => st.get t
  | .const v => constA v
  | .global _ => .undef
  | .func f => .a (.s (.clo f []))
def ASt.set (st : ASt) (t : Nat) (v : TV) : ASt := { st with tm := (t, v) :: st.tm }
def ASt.put (st : ASt) (dst : Option Tmp) (v : TV) (K : ASt → Prop) : Prop :=
  match dst with
  | none => K st
  | some d => d < st.n ∧ K (st.set d v)
structure Lies (w : World) (ι : Nat → Nat → Nat) (O : Store) : Prop where
  obj : ∀ l b o, O l b = some o → RepO w (Gd w ι O) ι O (ι l b) o
  inj : ∀ l b o l' b' o', O l b = some o → O l' b' = some o' → ι l b = ι l' b' → l = l' ∧ b = b'
structure Done (w0 : World) (F : Nat → Prop) (w : World) (ι : Nat → Nat → Nat) (O : Store) : Prop where
  os : w.os = w0.os
  tape : w.tape = w0.tape
  output : w.output = w0.output
  size : w0.heap.size ≤ w.heap.size
  keep : ∀ k, k < w0.heap.size → ¬ F k → w.heap[k]? = w0.heap[k]?
  own : ∀ l b o, O l b = some o → F (ι l b) ∨ w0.heap.size ≤ ι l b
structure Fits (st : ASt) (a : Act) (w : World) (ι : Nat → Nat → Nat) : Prop where
  lies : Lies w ι st.O
  size : a.tmps.size = st.n
  tm : ∀ t, t < st.n → RepT w (Gd w ι st.O) ι st.O (st.get t) (a.tmps.getD t undef)
  out : ∀ t, st.n ≤ t → st.get t = .undef
theorem RepT.undef {w : World} {G : Nat → Prop} {ι : Nat → Nat → Nat} {O : Store} (v : Value) : RepT w G ι O .undef v := trivial
theorem Lies.lt {w : World} {ι : Nat → Nat → Nat} {O : Store} (h : Lies w ι O) {l b : Nat} {o : AObj} (ho : O l b = some o) : ι l b < w.heap.size := by
  have := h.obj l b o ho
  cases o with
  | row e esz es => obtain ⟨c, hc, _⟩ := this; exact (Array.getElem?_eq_some_iff.1 hc).1
  | box e cs => obtain ⟨c, hc, _⟩ := this; exact (Array.getElem?_eq_some_iff.1 hc).1
theorem RepT.const {w : World} {G : Nat → Prop} {ι : Nat → Nat → Nat} {O : Store} (v : Value) : RepT w G ι O (constA v) v := by
  cases v <;> first | exact trivial | exact RepP.lit _ rfl | skip
  rename_i cs
  simp only [constA]
  split
  · rename_i hall
    rw [List.all_eq_true] at hall
    refine ⟨cs, rfl, by simp, fun j y hy => ?_⟩
    rw [List.getElem?_map] at hy
    cases hc : cs.toList[j]? with
    | none => simp [hc] at hy
    | some u =>
      simp only [hc, Option.map_some, Option.some.injEq] at hy
      subst hy
      exact ⟨u, by simpa using hc, RepP.lit _ (hall u (List.mem_of_getElem? hc))⟩
  · trivial
theorem Fits.ev {st : ASt} {a : Act} {w : World} {ι : Nat → Nat → Nat} (h : Fits st a w ι) (x : Operand) : RepT w (Gd w ι st.O) ι st.O (st.ev x) (a.eval x) := by
  cases x with
  | tmp t =>
    rcases Nat.lt_or_ge t st.n with ht | ht
    · exact h.tm t ht
    · show RepT _ _ _ _ (st.get t) _
      rw [h.out t ht]
      trivial
  | const v => exact RepT.const v
  | global g => trivial
  | func f => exact ⟨rfl, by simp⟩
theorem ASt.get_set (st : ASt) (t : Nat) (v : TV) (t' : Nat) : (st.set t v).get t' = if t' = t then v else st.get t' := rfl
theorem Fits.set {st : ASt} {a : Act} {w : World} {ι : Nat → Nat → Nat} (h : Fits st a w ι) {d : Nat} (hd : d < st.n) {v : TV} {u : Value}
    (hr : RepT w (Gd w ι st.O) ι st.O v u) : Fits (st.set d v) (a.put (some d) u) w ι := by
  refine ⟨h.lies, by simpa [Act.put, ASt.set] using h.size, fun t ht => ?_, fun t ht => ?_⟩
  · rw [ASt.get_set]
    by_cases e : t = d
    · subst e
      have hs : t < a.tmps.size := by rw [h.size]; exact hd
      simp only [if_true, Act.put]
      rw [Array.getD_eq_getD_getElem?, Array.getElem?_setIfInBounds_self_of_lt hs]
      exact hr
    · rw [if_neg e]
      have := h.tm t ht
      simp only [Act.put]
      rw [Array.getD_eq_getD_getElem?, Array.getElem?_setIfInBounds_ne (fun e' => e e'.symm), ← Array.getD_eq_getD_getElem?]
      exact this
  · rw [ASt.get_set, if_neg (by have : st.n ≤ t := ht; omega)]
    exact h.out t ht
theorem Fits.world {st : ASt} {a : Act} {w w' : World} {ι ι' : Nat → Nat → Nat} {O' : Store} (h : Fits st a w ι)
    (hs : Stays w w' (Gd w ι st.O) (Gd w' ι' O') ι ι' st.O O') (hl : Lies w' ι' O') : Fits { st with O := O' } a w' ι' :=
  ⟨hl, h.size, fun t ht => (h.tm t ht).stays hs, h.out⟩
end Go.Rd
namespace Go.Rd
open Go.RowKit
inductive TD where
  | int (k : IntKind)
  | bool
  | str
  | slice (e : TypeId)
  | struct (fs : List (Nat × TypeId))
  | array (n : Nat) (e : TypeId)
  | other
structure TI where
  d : TD
  agg : Bool
  size : Nat
  bytes : Nat
  zero : List Value
def TD.ok (P : Program) (t : TypeId) : TD → Bool → Prop
  | .int k, g => P.underlying t = some (.int k) ∧ g = false
  | .bool, g => P.underlying t = some .bool ∧ g = false
  | .str, g => P.underlying t = some .string ∧ g = false
  | .slice e, g => P.underlying t = some (.slice e) ∧ g = false
  | .struct fs, g => (∃ f, P.underlying t = some (.struct f) ∧ f.toList.map (fun x => (x.offset, x.type)) = fs) ∧ g = true
  | .array n e, g => P.underlying t = some (.array n e) ∧ g = true
  | .other, g => (∃ d, P.underlying t = some d ∧ (match d with | .struct _ | .array _ _ => false | _ => true) = true) ∧ g = false
structure TI.ok (P : Program) (t : TypeId) (i : TI) : Prop where
  info : ∃ inf, P.info? t = some inf ∧ inf.size = i.size ∧ inf.bytes = i.bytes ∧ inf.zero = some (if i.agg then .agg i.zero.toArray else i.zero.headD undef)
  zero : i.zero.length = i.size
  one : i.zero.all (·.oneCell') = true
  desc : i.d.ok P t i.agg
  single : i.agg = false → i.size = 1
def TOk (P : Program) (T : TypeId → Option TI) : Prop := ∀ t i, T t = some i → i.ok P t
section
variable {P : Program} {T : TypeId → Option TI} (w : World)
theorem run_isAgg_ti {t : TypeId} {i : TI} (h : i.ok P t) : (isAgg t).run P w = .ok i.agg w := by
  obtain ⟨d, agg, size, bytes, zero⟩ := i
  have hd := h.desc
  cases d <;> simp only [TD.ok] at hd
  case struct fs => obtain ⟨⟨f, hf, _⟩, rfl⟩ := hd; simp [isAgg, run_underlying hf]
  case other => obtain ⟨⟨d, hf, hm⟩, rfl⟩ := hd; cases d <;> simp_all [isAgg, run_underlying]
  all_goals (obtain ⟨hf, rfl⟩ := hd; simp [isAgg, run_underlying hf])
theorem run_sizeOf_ti {t : TypeId} {i : TI} (h : i.ok P t) : (sizeOf t).run P w = .ok i.size w := by
  obtain ⟨inf, h1, h2, _⟩ := h.info
  simp [sizeOf, typeInfo, h1, h2]
theorem run_zeroValue_ti {t : TypeId} {i : TI} (h : i.ok P t) : (zeroValue t).run P w = .ok (if i.agg then .agg i.zero.toArray else i.zero.headD undef) w := by
  obtain ⟨inf, h1, _, _, h3⟩ := h.info
  simp [zeroValue, typeInfo, h1, h3]
end
def Yields (B : World → Prop) (P : Program) (w : World) (ι : Nat → Nat → Nat) (O : Store) (K : TV → Prop) (s : Sem Value) : Prop :=
  ∃ v val, K v ∧ RepT w (Gd w ι O) ι O v val ∧ ∀ w', B w' → s.run P w' = .ok val w'
theorem Yields.pure {B : World → Prop} {P : Program} {w : World} {ι : Nat → Nat → Nat} {O : Store} {K : TV → Prop} {v : TV} {val : Value} (hk : K v)
    (hr : RepT w (Gd w ι O) ι O v val) : Yields B P w ι O K (Pure.pure val) := ⟨v, val, hk, hr, fun _ _ => rfl⟩
theorem Yields.lit {B : World → Prop} {P : Program} {w : World} {ι : Nat → Nat → Nat} {O : Store} {K : TV → Prop} {val : Value} {s : Sem Value} (hk : K (lit val)) (h1 : val.oneCell' = true)
    (hs : ∀ w' : World, s.run P w' = .ok val w') : Yields B P w ι O K s := ⟨_, val, hk, RepP.lit _ h1, fun w' _ => hs w'⟩
def cellsK (ti : TI) (cs : List SV) (j : Nat) (K : TV → Prop) : Prop :=
  if ti.agg then j + ti.size ≤ cs.length ∧ K (.a (.agg ((cs.drop j).take ti.size))) else ∃ s, cs[j]? = some s ∧ K (.a (.s s))
def qLoad (T : TypeId → Option TI) (O : Store) (t : TypeId) (x : TV) (K : TV → Prop) : Prop :=
  ∃ ti, T t = some ti ∧ match x with
    | .a (.s (.pb l b j)) => (match O l b with
      | some (.box _ cs) => cellsK ti cs j K
      | _ => False)
    | .a (.s (.pr l b i j)) => (match O l b with
      | some (.row _ _ es) => ∃ x, es[i]? = some x ∧ cellsK ti (x.map .pv) j K
      | _ => False)
    | .a (.pel _ es i j) => ∃ x, es[i]? = some x ∧ cellsK ti (x.map .pv) j K
    | _ => False
theorem run_sureAddr_some (P : Program) (w : World) (a : Addr) : (Instr.sureAddr (.pointer (some a))).run P w = .ok a w := rfl
theorem addr_add (b o n : Nat) : (⟨b, o, none⟩ : Addr).add n = ⟨b, o + n, none⟩ := by
  unfold Addr.add; split <;> simp_all
theorem load_cells {B : World → Prop} {P : Program} {w : World} {ι : Nat → Nat → Nat} {O : Store} {K : TV → Prop} {t : TypeId} {ti : TI} (hti : ti.ok P t) (hB : ∀ w', B w' → Below w.heap.size w w')
    {cs : List SV} {j b o : Nat} (hb : b < w.heap.size)
    (hc : ∀ (i : Nat) (y : SV), cs[i]? = some y → ∃ u, w.cell? ⟨b, o + i, none⟩ = some u ∧ RepS w (Gd w ι O) ι O y u)
    (h : cellsK ti cs j K) : Yields B P w ι O K (loadVar t ⟨b, o + j, none⟩) := by
  unfold cellsK at h
  split at h
  · rename_i hagg
    obtain ⟨hl, hk⟩ := h
    have hlen : ((cs.drop j).take ti.size).length = ti.size := by simp; omega
    have hvals : ∀ i, i < ti.size → ∃ u, w.cell? ⟨b, o + j + i, none⟩ = some u ∧ ∀ y, ((cs.drop j).take ti.size)[i]? = some y → RepS w (Gd w ι O) ι O y u := by
      intro i hi
      have hlt : j + i < cs.length := by omega
      obtain ⟨u, hu, hr⟩ := hc (j + i) cs[j + i] (by simp)
      refine ⟨u, by rw [← hu]; congr 2; omega, fun y hy => ?_⟩
      rw [List.getElem?_take] at hy
      simp only [hi, if_true, List.getElem?_drop] at hy
      rw [List.getElem?_eq_getElem hlt] at hy
      cases hy
      exact hr
    refine ⟨_, .agg ((List.range ti.size).map fun i => (w.cell? ⟨b, o + j + i, none⟩).getD undef).toArray, hk, ⟨_, rfl, by simp; omega, fun i y hy => ?_⟩, fun w' hb' => have hw' := hB w' hb'; ?_⟩
    · have hi : i < ti.size := by
        have := (List.getElem?_eq_some_iff.1 hy).1
        omega
      obtain ⟨u, hu, hr⟩ := hvals i hi
      exact ⟨u, by simp [hi, hu], hr y hy⟩
    · have hld := run_loadCells (P := P) w' ⟨b, o + j, none⟩ ti.size (fun i => (w.cell? ⟨b, o + j + i, none⟩).getD undef) (fun i hi => by
        obtain ⟨u, hu, _⟩ := hvals i hi
        rw [addr_add, hw'.cell (p := ⟨b, o + j + i, none⟩) hb, hu]
        rfl)
      simp only [loadVar, Sem.run_bind, run_isAgg_ti w' hti, Result.andThen_ok, hagg, if_true, run_sizeOf_ti w' hti, hld, Sem.run_pure]
  · rename_i hagg
    obtain ⟨s, hs, hk⟩ := h
    obtain ⟨u, hu, hr⟩ := hc j s hs
    refine ⟨_, u, hk, hr, fun w' hb' => have hw' := hB w' hb'; ?_⟩
    have hcell : w'.cell? ⟨b, o + j, none⟩ = some u := (hw'.cell (p := ⟨b, o + j, none⟩) hb).trans hu
    simp only [loadVar, Sem.run_bind, run_isAgg_ti w' hti, Result.andThen_ok, hagg, Bool.false_eq_true, if_false, run_load, hcell]
theorem cell_block {w : World} {b : Nat} {c : Array Value} {e : TypeId} {m : Nat × Nat} (h : w.heap[b]? = some (.cells c e m)) (o : Nat) : w.cell? ⟨b, o, none⟩ = c[o]? := by
  simp [World.cell?, h]
theorem qLoad_sound {B : World → Prop} {P : Program} {T : TypeId → Option TI} (hT : TOk P T) {w : World} {ι : Nat → Nat → Nat} {O : Store} {K : TV → Prop} {t : TypeId} {x : TV} {val : Value}
    (hB : ∀ w', B w' → Below w.heap.size w w') (hl : Lies w ι O) (hx : RepT w (Gd w ι O) ι O x val) (h : qLoad T O t x K) : Yields B P w ι O K (Instr.loadAt t val) := by
  obtain ⟨ti, hti, h⟩ := h
  have hti := hT t ti hti
  have hgo : ∀ a : Addr, Yields B P w ι O K (loadVar t a) → Yields B P w ι O K (Instr.loadAt t (.pointer (some a))) := by
    rintro a ⟨v, u, h1, h2, h3⟩
    exact ⟨v, u, h1, h2, fun w' hw' => by simp only [Instr.loadAt, Sem.run_bind, run_sureAddr_some, Result.andThen_ok]; exact h3 w' hw'⟩
  split at h
  · rename_i l b j
    obtain ⟨⟨e, cs, ho⟩, rfl⟩ := hx
    simp only [ho] at h
    obtain ⟨c, hc, hsz, hr⟩ := hl.obj l b _ ho
    refine hgo _ ?_
    have := load_cells (P := P) (o := 0) hti hB (hl.lt ho) (fun i y hy => by
      obtain ⟨u, hu, hr⟩ := hr i y hy
      exact ⟨u, by rw [cell_block hc]; simpa using hu, hr⟩) h
    simpa using this
  · rename_i l b i j
    obtain ⟨e, esz, es, ho, rfl⟩ := hx
    simp only [ho] at h
    obtain ⟨y, hy, h⟩ := h
    obtain ⟨c, hc, hlen, hfit, hmax, hr⟩ := hl.obj l b _ ho
    refine hgo _ (load_cells (P := P) hti hB (hl.lt ho) (fun k z hz => ?_) h)
    rw [List.getElem?_map] at hz
    cases hyk : y[k]? with
    | none => simp [hyk] at hz
    | some p =>
      simp only [hyk, Option.map_some, Option.some.injEq] at hz
      subst hz
      obtain ⟨u, hu, hr⟩ := hr i k y p hy hyk
      exact ⟨u, by rw [cell_block hc]; exact hu, hr⟩
  · rename_i esz es i j
    obtain ⟨blk, off, hr, rfl⟩ := hx
    obtain ⟨y, hy, h⟩ := h
    have hne : es ≠ [] := by intro h0; subst h0; simp at hy
    refine hgo _ (load_cells (P := P) hti hB (hr.good hne).1 (fun k z hz => ?_) h)
    rw [List.getElem?_map] at hz
    cases hyk : y[k]? with
    | none => simp [hyk] at hz
    | some p =>
      simp only [hyk, Option.map_some, Option.some.injEq] at hz
      subst hz
      obtain ⟨u, hu, hru⟩ := hr.cell i k y p hy hyk
      exact ⟨u, hu, hru⟩
  · exact h.elim
end Go.Rd
namespace Go.Rd
open Go.RowKit
section
variable {B : World → Prop} {P : Program} {T : TypeId → Option TI} {w : World} {ι : Nat → Nat → Nat} {O : Store} {K : TV → Prop}
def intOp (op : BinOp) (k : IntKind) (a b : Int) (K : TV → Prop) : Prop :=
  match op with
  | .add => K (lit (.int k (k.wrap (a + b))))
  | .sub => K (lit (.int k (k.wrap (a - b))))
  | .mul => K (lit (.int k (k.wrap (a * b))))
  | .quo => b ≠ 0 ∧ K (lit (.int k (k.wrap (a.tdiv b))))
  | .rem => b ≠ 0 ∧ K (lit (.int k (a.tmod b)))
  | .and => K (lit (.int k (bits .and k a b)))
  | .or => K (lit (.int k (bits .or k a b)))
  | .xor => K (lit (.int k (bits .xor k a b)))
  | .andNot => K (lit (.int k (bits .andNot k a b)))
  | .shl => 0 ≤ b ∧ K (lit (.int k (k.wrap (a * 2 ^ min b.toNat k.bits))))
  | .shr => 0 ≤ b ∧ K (lit (.int k (a / 2 ^ min b.toNat k.bits)))
  | .eql => K (bool (decide (a = b)))
  | .neq => K (bool (!decide (a = b)))
  | .lss => K (bool (decide (a < b)))
  | .leq => K (bool (decide (a ≤ b)))
  | .gtr => K (bool (decide (b < a)))
  | .geq => K (bool (decide (b ≤ a)))
def strOp (op : BinOp) (a b : ByteArray) (K : TV → Prop) : Prop :=
  match op with
  | .add => a.size + b.size ≤ maxLen ∧ K (str (a ++ b))
  | .eql => K (bool (a.toList == b.toList))
  | .neq => K (bool (!(a.toList == b.toList)))
  | .lss => K (bool (Op.bytesLess a.toList b.toList))
  | .leq => K (bool (Op.bytesLess a.toList b.toList || a.toList == b.toList))
  | .gtr => K (bool (!(Op.bytesLess a.toList b.toList || a.toList == b.toList)))
  | .geq => K (bool (!(Op.bytesLess a.toList b.toList)))
  | _ => False
def litEq : Value → Value → Option Bool
  | .int k a, .int k' b => if k = k' then some (decide (a = b)) else none
  | .bool a, .bool b => some (a == b)
  | .string a, .string b => some (a.toList == b.toList)
  | _, _ => none
def lits : List SV → Option (List Value)
  | [] => some []
  | .pv (.lit v) :: r => (lits r).map (v :: ·)
  | _ :: _ => none
def eqAll : List Value → List Value → Option Bool
  | [], [] => some true
  | a :: x, b :: y => match litEq a b, eqAll x y with
    | some p, some q => some (p && q)
    | _, _ => none
  | _, _ => none
def EqAt (P : Program) (t : TypeId) (xs ys : List Value) (r : Bool) : Prop :=
  P.eqGuardType P.depth t = false ∧ ∀ (w : World), (Op.equalIn 10000 t (.agg xs.toArray) (.agg ys.toArray)).run P w = .ok r w
def floatOp (op : BinOp) (k : FloatKind) (a b : Nat) (K : TV → Prop) : Prop :=
  match op with
  | .eql => K (bool (k.format.order a b == some .eq))
  | .neq => K (bool (k.format.order a b != some .eq))
  | .lss => K (bool (k.format.order a b == some .lt))
  | .leq => K (bool (k.format.order a b == some .lt || k.format.order a b == some .eq))
  | .gtr => K (bool (k.format.order a b == some .gt))
  | .geq => K (bool (k.format.order a b == some .gt || k.format.order a b == some .eq))
  | _ => ∃ r, floatBits op k a b = some r ∧ K (lit (.float k r))
def qBin (P : Program) (op : BinOp) (t : TypeId) (x y : TV) (K : TV → Prop) : Prop :=
  match x, y with
  | .a (.s (.pv (.lit (.int k a)))), .a (.s (.pv (.lit (.int k' b)))) => (k = k' ∨ op = .shl ∨ op = .shr) ∧ intOp op k a b K
  | .a (.s (.pv (.lit (.string a)))), .a (.s (.pv (.lit (.string b)))) => strOp op a b K
  | .a (.s (.pv (.lit (.bool a)))), .a (.s (.pv (.lit (.bool b)))) => P.underlying t = some .bool ∧ (match op with
    | .eql => K (bool (a == b))
    | .neq => K (bool (!(a == b)))
    | _ => False)
  | .a (.agg xs), .a (.agg ys) => ∃ us vs r, lits xs = some us ∧ lits ys = some vs ∧ EqAt P t us vs r ∧ (match op with
    | .eql => K (bool r)
    | .neq => K (bool (!r))
    | _ => False)
  | .a (.s (.pv (.row _ _))), .a (.s (.pv (.lit (.slice none 0 0)))) => (∃ e, P.underlying t = some (.slice e)) ∧ (match op with
    | .eql => K (bool false)
    | .neq => K (bool true)
    | _ => False)
  | .a (.s (.sl _ _ _ _)), .a (.s (.pv (.lit (.slice none 0 0)))) => (∃ e, P.underlying t = some (.slice e)) ∧ (match op with
    | .eql => K (bool false)
    | .neq => K (bool true)
    | _ => False)
  | .a (.s (.pv (.lit (.slice none 0 0)))), .a (.s (.pv (.lit (.slice none 0 0)))) => (∃ e, P.underlying t = some (.slice e)) ∧ (match op with
    | .eql => K (bool true)
    | .neq => K (bool false)
    | _ => False)
  | .a (.s (.pv (.lit (.float k a)))), .a (.s (.pv (.lit (.float k' b)))) => k = k' ∧ floatOp op k a b K
  | _, _ => False
theorem lits_rep {G : Nat → Prop} : ∀ {xs : List SV} {us : List Value} {cs : Array Value}, lits xs = some us → cs.size = xs.length →
    (∀ (j : Nat) (y : SV), xs[j]? = some y → ∃ u, cs[j]? = some u ∧ RepS w G ι O y u) → cs.toList = us
  | [], us, cs, h, hl, _ => by
    simp only [lits, Option.some.injEq] at h
    subst h
    exact List.eq_nil_of_length_eq_zero (by simpa using hl)
  | s :: r, us, cs, h, hl, hc => by
    cases s with
    | pv p =>
      cases p with
      | lit v =>
        simp only [lits] at h
        cases hr : lits r with
        | none => simp [hr] at h
        | some us' =>
          simp only [hr, Option.map_some, Option.some.injEq] at h
          subst h
          obtain ⟨l⟩ := cs
          cases l with
          | nil => simp at hl
          | cons c l =>
            obtain ⟨u, hu, hru⟩ := hc 0 _ rfl
            simp only [List.getElem?_toArray, List.getElem?_cons_zero, Option.some.injEq] at hu
            subst hu
            have := RepP.lit_inv hru
            rw [this.1]
            have ih := lits_rep (cs := l.toArray) hr (by simpa using hl) (fun j y hy => by
              obtain ⟨u, hu, h2⟩ := hc (j + 1) y (by simpa using hy)
              exact ⟨u, by simpa using hu, h2⟩)
            simpa using ih
      | row => simp [lits] at h
      | clo => simp [lits] at h
    | _ => simp [lits] at h
theorem intOp_sound {op : BinOp} {k k' : IntKind} {a b : Int} {t : TypeId} {x y : Operand} (hk : k = k' ∨ op = .shl ∨ op = .shr) (h : intOp op k a b K) :
    Yields B P w ι O K (do eqGuard op t x y (.int k a) (.int k' b); binOp op t (.int k a) (.int k' b)) := by
  have hg : eqGuard op t x y (.int k a) (.int k' b) = Pure.pure () := by cases op <;> rfl
  rw [hg]
  cases op <;> simp only [intOp] at h <;> (try (rcases hk with rfl | h0 | h0 <;> first | cases h0 | skip))
  case shl => exact .lit h.2 rfl (fun w' => by rw [binOp_shl, shift_shl_any _ _ _ _ h.1]; rfl)
  case shr => exact .lit h.2 rfl (fun w' => by rw [binOp_shr, shift_shr_any _ _ _ _ h.1]; rfl)
  case shl.inr.inl => exact .lit h.2 rfl (fun w' => by rw [binOp_shl, shift_shl_any _ _ _ _ h.1]; rfl)
  case shr.inr.inr => exact .lit h.2 rfl (fun w' => by rw [binOp_shr, shift_shr_any _ _ _ _ h.1]; rfl)
  case quo => exact .lit h.2 rfl (fun w' => by simp [binOp, Op.intDiv, h.1])
  case rem => exact .lit h.2 rfl (fun w' => by simp [binOp, Op.intDiv, h.1])
  case neq => exact .lit h rfl (fun w' => by simp [binOp, Op.intCmp]; by_cases e : a = b <;> simp [e])
  all_goals (refine .lit h rfl (fun w' => ?_); simp [binOp, Op.intArith, Op.intBits, Op.intCmp, bits, Bool.beq_eq_decide_eq])
theorem strOp_sound {op : BinOp} {a b : ByteArray} {t : TypeId} {x y : Operand} (h : strOp op a b K) :
    Yields B P w ι O K (do eqGuard op t x y (.string a) (.string b); binOp op t (.string a) (.string b)) := by
  have hg : eqGuard op t x y (.string a) (.string b) = Pure.pure () := by cases op <;> rfl
  rw [hg]
  cases op <;> simp only [strOp] at h
  all_goals first
    | exact h.elim
    | exact .lit h rfl (fun w' => by simp [binOp, Op.stringOp]; done)
    | exact .lit h.2 rfl (fun w' => by
        have h1 := h.1
        unfold maxLen at h1
        have : ¬ (((a.size + b.size : Nat) : Int) > IntKind.i64.max) := by simp only [IntKind.max, IntKind.signed, IntKind.bits]; simp; omega
        simp only [binOp, Op.stringOp, if_neg this]; simp)
theorem floatOp_sound {op : BinOp} {k : FloatKind} {a b : Nat} {t : TypeId} {x y : Operand} (h : floatOp op k a b K) :
    Yields B P w ι O K (do eqGuard op t x y (.float k a) (.float k b); binOp op t (.float k a) (.float k b)) := by
  have hg : eqGuard op t x y (.float k a) (.float k b) = Pure.pure () := by cases op <;> rfl
  rw [hg]
  cases op <;> simp only [floatOp] at h
  all_goals first
    | exact .lit h rfl (fun w' => by simp [binOp, Op.floatCmp]; done)
    | (obtain ⟨r, hr, hk⟩ := h
       exact .lit hk rfl (fun w' => by simp only [Sem.run_bind, Sem.run_pure, Result.andThen_ok, run_float_arith w' _ t k a b r hr]))
theorem run_eql_nilS (w : World) (t e : TypeId) (a : Option Addr) (l c : Nat) (h : P.underlying t = some (.slice e)) : (binOp .eql t (.slice a l c) (.slice none 0 0)).run P w = .ok (.bool a.isNone) w := by
  simp only [binOp]
  simp [run_equal_slice_nil w t e a l c h]
theorem qBin_sound {op : BinOp} {t : TypeId} {x y : Operand} {vx vy : Value} {X Y : TV}
    (hX : RepT w (Gd w ι O) ι O X vx) (hY : RepT w (Gd w ι O) ι O Y vy) (h : qBin P op t X Y K) :
    Yields B P w ι O K (do eqGuard op t x y vx vy; binOp op t vx vy) := by
  unfold qBin at h
  split at h
  · obtain ⟨rfl, _⟩ := RepP.lit_inv hX
    obtain ⟨rfl, _⟩ := RepP.lit_inv hY
    exact intOp_sound h.1 h.2
  · obtain ⟨rfl, _⟩ := RepP.lit_inv hX
    obtain ⟨rfl, _⟩ := RepP.lit_inv hY
    exact strOp_sound h
  · rename_i a b
    obtain ⟨rfl, _⟩ := RepP.lit_inv hX
    obtain ⟨rfl, _⟩ := RepP.lit_inv hY
    obtain ⟨hu, h⟩ := h
    have hg : eqGuard op t x y (.bool a) (.bool b) = Pure.pure () := by cases op <;> rfl
    rw [hg]
    cases op <;> first
      | exact h.elim
      | exact .lit h rfl (fun w' => by simp [run_eql_bool, run_neq_bool, hu])
  · rename_i xs ys
    obtain ⟨us, vs, r, h1, h2, ⟨hm, heq⟩, h⟩ := h
    obtain ⟨cx, rfl, lx, hcx⟩ := hX
    obtain ⟨cy, rfl, ly, hcy⟩ := hY
    have ex := lits_rep h1 lx hcx
    have ey := lits_rep h2 ly hcy
    have hrun : ∀ w', (Op.equalIn 10000 t (.agg cx) (.agg cy)).run P w' = .ok r w' := fun w' => by
      have := heq w'
      rw [← ex, ← ey] at this
      simpa using this
    cases op <;> first
      | exact h.elim
      | exact .lit h rfl (fun w' => by
          simp only [Sem.run_bind, run_eqGuard_agg w' _ t x y cx cy hm, Result.andThen_ok, run_eql_struct, run_neq_struct, hrun])
  · rename_i esz es
    obtain ⟨blk, off, sp, cap, rfl, _⟩ := RepP.row_inv hX
    obtain ⟨rfl, _⟩ := RepP.lit_inv hY
    obtain ⟨⟨e, hu⟩, h⟩ := h
    have hg : eqGuard op t x y (.slice (some ⟨blk, off, sp⟩) es.length cap) (.slice none 0 0) = Pure.pure () := by cases op <;> rfl
    rw [hg]
    cases op <;> first
      | exact h.elim
      | exact .lit h rfl (fun w' => by simp [run_eql_nilS w' t e _ _ _ hu, run_neq_slice_nil w' t e _ _ _ hu])
  · obtain ⟨e', esz, es, cap, c, _, rfl, _⟩ := hX
    obtain ⟨rfl, _⟩ := RepP.lit_inv hY
    obtain ⟨⟨e, hu⟩, h⟩ := h
    have hg : ∀ a n c, eqGuard op t x y (.slice a n c) (.slice none 0 0) = Pure.pure () := fun a n c => by cases op <;> rfl
    rw [hg]
    cases op <;> first
      | exact h.elim
      | exact .lit h rfl (fun w' => by simp [run_eql_nilS w' t e _ _ _ hu, run_neq_slice_nil w' t e _ _ _ hu])
  · obtain ⟨rfl, _⟩ := RepP.lit_inv hX
    obtain ⟨rfl, _⟩ := RepP.lit_inv hY
    obtain ⟨⟨e, hu⟩, h⟩ := h
    have hg : eqGuard op t x y (.slice none 0 0) (.slice none 0 0) = Pure.pure () := by cases op <;> rfl
    rw [hg]
    cases op <;> first
      | exact h.elim
      | exact .lit h rfl (fun w' => by simp [run_eql_nilS w' t e _ _ _ hu, run_neq_slice_nil w' t e _ _ _ hu])
  · obtain ⟨rfl, _⟩ := RepP.lit_inv hX
    obtain ⟨rfl, _⟩ := RepP.lit_inv hY
    obtain ⟨rfl, h⟩ := h
    exact floatOp_sound h
  · exact h.elim
def qUn (op : UnOp) (x : TV) (K : TV → Prop) : Prop :=
  match op, x with
  | .not, .a (.s (.pv (.lit (.bool b)))) => K (bool (!b))
  | .neg, .a (.s (.pv (.lit (.int k n)))) => K (lit (.int k (k.wrap (-n))))
  | .xor, .a (.s (.pv (.lit (.int k n)))) => K (lit (.int k (bits .xor k (if k.signed then -1 else k.max) n)))
  | _, _ => False
theorem qUn_sound {op : UnOp} {X : TV} {vx : Value} (hX : RepT w (Gd w ι O) ι O X vx) (h : qUn op X K) : Yields B P w ι O K (Op.unary op vx) := by
  unfold qUn at h
  split at h
  · obtain ⟨rfl, _⟩ := RepP.lit_inv hX
    exact .lit h rfl (fun w' => by simp [Op.unary])
  · obtain ⟨rfl, _⟩ := RepP.lit_inv hX
    exact .lit h rfl (fun w' => by simp [Op.unary, Op.intArith])
  · obtain ⟨rfl, _⟩ := RepP.lit_inv hX
    exact .lit h rfl (fun w' => by simp [Op.unary, Op.intBits, bits])
  · exact h.elim
def qConv (P : Program) (src dst : TypeId) (x : TV) (K : TV → Prop) : Prop :=
  match x with
  | .a (.s (.pv (.lit (.int _ n)))) => (P.underlying src).isSome = true ∧ ((∃ k, P.underlying dst = some (.int k) ∧ K (lit (.int k (k.wrap n)))) ∨ ∃ k, P.underlying dst = some (.float k) ∧ K (lit (.float k (floatOfInt k n))))
  | .a (.s (.pv (.lit (.float s b)))) => (P.underlying src).isSome = true ∧ ∃ k n, P.underlying dst = some (.int k) ∧ floatToIntVal s b k = some n ∧ K (lit (.int k n))
  | .a (.s (.pv (.lit (.string s)))) => (P.underlying src).isSome = true ∧ P.underlying dst = some .string ∧ K (str s)
  | _ => False
theorem qConv_sound {src dst : TypeId} {X : TV} {vx : Value} (hX : RepT w (Gd w ι O) ι O X vx) (h : qConv P src dst X K) : Yields B P w ι O K (convert src dst vx) := by
  unfold qConv at h
  split at h
  · obtain ⟨rfl, _⟩ := RepP.lit_inv hX
    obtain ⟨hs, h⟩ := h
    obtain ⟨d, hd'⟩ := Option.isSome_iff_exists.mp hs
    rcases h with ⟨k, hd, h⟩ | ⟨k, hd, h⟩
    · exact .lit h rfl (fun w' => by simp [convert, run_underlying hd', run_underlying hd, Conv.intToInt])
    · exact .lit h rfl (fun w' => by cases d <;> simp [convert, run_underlying hd', run_underlying hd, Conv.intToFloat, floatOfInt])
  · obtain ⟨rfl, _⟩ := RepP.lit_inv hX
    obtain ⟨hs, k, n, hd, hn, h⟩ := h
    obtain ⟨d, hd'⟩ := Option.isSome_iff_exists.mp hs
    exact .lit h rfl (fun w' => by
      unfold floatToIntVal at hn
      split at hn
      · rename_i m hm
        split at hn
        · rename_i hb
          cases hn
          cases d <;> simp [convert, run_underlying hd', run_underlying hd, Conv.floatToInt, hm, hb]
        · cases hn
      · cases hn)
  · obtain ⟨rfl, _⟩ := RepP.lit_inv hX
    obtain ⟨hs, hd, h⟩ := h
    obtain ⟨d, hd'⟩ := Option.isSome_iff_exists.mp hs
    exact .lit h rfl (fun w' => by simp [convert, run_underlying hd', run_underlying hd])
  · exact h.elim
def qPick (c x y : TV) (K : TV → Prop) : Prop :=
  match c with
  | .a (.s (.pv (.lit (.bool t)))) => (t = true → K x) ∧ (t = false → K y)
  | _ => False
theorem qPick_sound {C X Y : TV} {vc vx vy : Value} (hC : RepT w (Gd w ι O) ι O C vc) (hX : RepT w (Gd w ι O) ι O X vx) (hY : RepT w (Gd w ι O) ι O Y vy)
    (h : qPick C X Y K) : Yields B P w ι O K (do Pure.pure (if ← asBool vc then vx else vy)) := by
  unfold qPick at h
  split at h
  · rename_i t
    obtain ⟨rfl, _⟩ := RepP.lit_inv hC
    cases t
    · exact ⟨Y, vy, h.2 rfl, hY, fun w' _ => by simp [asBool]⟩
    · exact ⟨X, vx, h.1 rfl, hX, fun w' _ => by simp [asBool]⟩
  · exact h.elim
def qExtract (ix : Nat) (x : TV) (K : TV → Prop) : Prop :=
  match x with
  | .tup xs => ∃ v, xs[ix]? = some v ∧ K (.a v)
  | _ => False
theorem qExtract_sound {ix : Nat} {X : TV} {vx : Value} (hX : RepT w (Gd w ι O) ι O X vx) (h : qExtract ix X K) : Yields B P w ι O K (Instr.extract vx ix) := by
  unfold qExtract at h
  split at h
  · obtain ⟨vs, rfl, hl, hc⟩ := hX
    obtain ⟨v, hv, h⟩ := h
    obtain ⟨u, hu, hr⟩ := hc ix v hv
    exact ⟨_, u, h, hr, fun w' _ => by simp [Instr.extract, hu]⟩
  · exact h.elim
end
end Go.Rd
namespace Go.Rd
open Go.RowKit
section
variable {B : World → Prop} {P : Program} {T : TypeId → Option TI} {w : World} {ι : Nat → Nat → Nat} {O : Store} {K : TV → Prop}
def qFieldAddr (T : TypeId → Option TI) (s : TypeId) (x : TV) (f : Nat) (K : TV → Prop) : Prop :=
  ∃ ti fs off ft fi, T s = some ti ∧ ti.d = .struct fs ∧ fs[f]? = some (off, ft) ∧ T ft = some fi ∧ fi.size ≠ 0 ∧ match x with
    | .a (.s (.pb l b j)) => K (.a (.s (.pb l b (j + off))))
    | .a (.s (.pr l b i j)) => K (.a (.s (.pr l b i (j + off))))
    | .a (.pel esz es i j) => K (.a (.pel esz es i (j + off)))
    | _ => False
theorem qFieldAddr_sound (hT : TOk P T) {s : TypeId} {X : TV} {vx : Value} {f : Nat} (hX : RepT w (Gd w ι O) ι O X vx) (h : qFieldAddr T s X f K) :
    Yields B P w ι O K (Instr.fieldAt s vx f) := by
  obtain ⟨ti, fs, off, ft, fi, h1, h2, h3, h4, h5, h⟩ := h
  have hd := (hT s ti h1).desc
  rw [h2] at hd
  obtain ⟨⟨fa, hu, hfs⟩, _⟩ := hd
  have hfi := hT ft fi h4
  obtain ⟨fld, hf, hoff, hty⟩ : ∃ fld, fa[f]? = some fld ∧ fld.offset = off ∧ fld.type = ft := by
    rw [← hfs, List.getElem?_map] at h3
    cases hq : fa.toList[f]? with
    | none => simp [hq] at h3
    | some fld =>
      simp only [hq, Option.map_some, Option.some.injEq, Prod.mk.injEq] at h3
      exact ⟨fld, by simpa using hq, h3.1, h3.2⟩
  have hrun : ∀ (b o : Nat) (w' : World), (Instr.fieldAt s (.pointer (some ⟨b, o, none⟩)) f).run P w' = .ok (.pointer (some ⟨b, o + off, none⟩)) w' := by
    intro b o w'
    simp only [Instr.fieldAt, Sem.run_bind, run_underlying hu, Result.andThen_ok, hf, run_sureAddr_some, fieldPlace, hty, run_sizeOf_ti w' hfi, h5, if_false, Sem.run_pure, hoff, addr_add]
  split at h
  · obtain ⟨⟨e, cs, ho⟩, rfl⟩ := hX
    exact ⟨_, _, h, ⟨⟨e, cs, ho⟩, rfl⟩, fun w' _ => hrun _ _ w'⟩
  · obtain ⟨e, esz, es, ho, rfl⟩ := hX
    exact ⟨_, _, h, ⟨e, esz, es, ho, by rw [← Nat.add_assoc]⟩, fun w' _ => hrun _ _ w'⟩
  · obtain ⟨blk, o, hr, rfl⟩ := hX
    exact ⟨_, _, h, ⟨blk, o, hr, by rw [← Nat.add_assoc]⟩, fun w' _ => hrun _ _ w'⟩
  · exact h.elim
def qIndexAddr (T : TypeId → Option TI) (t : TypeId) (x i : TV) (K : TV → Prop) : Prop :=
  ∃ ti, T t = some ti ∧ match ti.d, x, i with
    | .slice e, .a (.s (.pv (.row esz es))), .a (.s (.pv (.lit (.int _ n)))) => (∃ ei, T e = some ei ∧ ei.size = esz) ∧ 0 ≤ n ∧ n < es.length ∧ K (.a (.pel esz es n.toNat 0))
    | .slice e, .a (.s (.sl l b off len)), .a (.s (.pv (.lit (.int _ n)))) => (∃ ei, T e = some ei ∧ ∃ e' es, O l b = some (.row e' ei.size es)) ∧ 0 ≤ n ∧ n < len ∧ K (.a (.s (.pr l b (off + n.toNat) 0)))
    | .array m e, .a (.s (.pb l b j)), .a (.s (.pv (.lit (.int _ n)))) => ∃ ei, T e = some ei ∧ 0 ≤ n ∧ n < m ∧ K (.a (.s (.pb l b (j + n.toNat * ei.size))))
    | _, _, _ => False
theorem qIndexAddr_sound (hT : TOk P T) {t : TypeId} {X I : TV} {vx vi : Value} (hX : RepT w (Gd w ι O) ι O X vx) (hI : RepT w (Gd w ι O) ι O I vi)
    (h : qIndexAddr (O := O) T t X I K) : Yields B P w ι O K (Instr.indexAt t vx vi) := by
  obtain ⟨ti, h1, h⟩ := h
  have hd := (hT t ti h1).desc
  split at h
  · rename_i e esz es k n hdq
    rw [hdq] at hd
    obtain ⟨rfl, _⟩ := RepP.lit_inv hI
    obtain ⟨blk, off, sp, cap, rfl, hsp, hcap, _, hr⟩ := RepP.row_inv hX
    obtain ⟨⟨ei, he, hsz⟩, h0, hn, hk⟩ := h
    obtain rfl : sp = none := hsp.resolve_right (by omega)
    refine ⟨_, .pointer (some ⟨blk, off + n.toNat * esz, none⟩), hk, ⟨blk, off, hr, rfl⟩, fun w' _ => ?_⟩
    simp only [Instr.indexAt, asIntOf, Sem.run_pure, Sem.run_bind, Result.andThen_ok, run_underlying hd.1, h0, hn, and_self, if_true, run_sizeOf_ti w' (hT e ei he), hsz, addr_add]
  · rename_i e l b off len k n hdq
    rw [hdq] at hd
    obtain ⟨rfl, _⟩ := RepP.lit_inv hI
    obtain ⟨e1, esz, es, cap, c, ho, rfl, _⟩ := hX
    obtain ⟨⟨ei, he, e', es', ho'⟩, h0, hn, hk⟩ := h
    rw [ho] at ho'
    simp only [Option.some.injEq, AObj.row.injEq] at ho'
    obtain ⟨rfl, rfl, rfl⟩ := ho'
    refine ⟨_, .pointer (some ⟨ι l b, off * ei.size + n.toNat * ei.size, none⟩), hk, ⟨_, _, _, ho, by rw [Nat.add_mul, Nat.add_zero]⟩, fun w' _ => ?_⟩
    simp only [Instr.indexAt, asIntOf, Sem.run_pure, Sem.run_bind, Result.andThen_ok, run_underlying hd.1, h0, hn, and_self, if_true, run_sizeOf_ti w' (hT e ei he), addr_add]
  · rename_i m e l b j k n hdq
    rw [hdq] at hd
    obtain ⟨rfl, _⟩ := RepP.lit_inv hI
    obtain ⟨⟨e', cs, ho⟩, rfl⟩ := hX
    obtain ⟨ei, he, h0, hn, hk⟩ := h
    refine ⟨_, .pointer (some ⟨ι l b, j + n.toNat * ei.size, none⟩), hk, ⟨⟨e', cs, ho⟩, rfl⟩, fun w' _ => ?_⟩
    simp only [Instr.indexAt, asIntOf, Sem.run_pure, Sem.run_bind, Result.andThen_ok, run_underlying hd.1, run_sureAddr_some, h0, hn, and_self, if_true, run_sizeOf_ti w' (hT e ei he), addr_add]
  · exact h.elim
def bound (lo : Option TV) (d : Int) (K : Int → Prop) : Prop :=
  match lo with
  | none => K d
  | some (.a (.s (.pv (.lit (.int _ n))))) => K n
  | _ => False
def qSlice (T : TypeId → Option TI) (O : Store) (t : TypeId) (x : TV) (lo hi : Option TV) (K : TV → Prop) : Prop :=
  ∃ ti, T t = some ti ∧ match ti.d, x with
    | .str, .a (.s (.pv (.lit (.string s)))) => bound lo 0 fun l => bound hi s.size fun h => 0 ≤ l ∧ l ≤ h ∧ h ≤ s.size ∧ K (str (s.extract l.toNat h.toNat))
    | .slice e, .a (.s (.pv (.row esz es))) => bound lo 0 fun l => bound hi es.length fun h => (∃ ei, T e = some ei ∧ ei.size = esz) ∧ 0 ≤ l ∧ l ≤ h ∧ h ≤ es.length ∧
        K (row esz ((es.drop l.toNat).take (h.toNat - l.toNat)))
    | .slice e, .a (.s (.sl lv b off len)) => bound lo 0 fun l => bound hi len fun h => (∃ ei, T e = some ei ∧ ∃ e' es, O lv b = some (.row e' ei.size es)) ∧ 0 ≤ l ∧ l ≤ h ∧ h ≤ len ∧ (l = 0 ∨ l < len) ∧
        K (.a (.s (.sl lv b (off + l.toNat) (h.toNat - l.toNat))))
    | .slice e, .a (.s (.slc lv b off len cap)) => bound lo 0 fun l => bound hi len fun h => ∃ ei, T e = some ei ∧ (∃ e' es, O lv b = some (.row e' ei.size es)) ∧ 0 ≤ l ∧ l ≤ h ∧ h ≤ cap ∧
        (l.toNat < cap → K (.a (.s (.slc lv b (off + l.toNat) (h.toNat - l.toNat) (cap - l.toNat))))) ∧ (l.toNat = cap → K (row ei.size []))
    | .slice e, .a (.s (.pv (.lit (.slice none 0 0)))) => bound lo 0 fun l => bound hi 0 fun h => l = 0 ∧ h = 0 ∧ (∃ ei, T e = some ei) ∧ K nilS
    | _, _ => False
def RepOpt (w : World) (G : Nat → Prop) (ι : Nat → Nat → Nat) (O : Store) : Option TV → Option Value → Prop
  | none, none => True
  | some X, some v => RepT w G ι O X v
  | _, _ => False
theorem bound_inv {lo : Option TV} {vlo : Option Value} {d : Int} {F : Int → Prop} (hr : RepOpt w (Gd w ι O) ι O lo vlo) (h : bound lo d F) :
    ∃ l, F l ∧ ((vlo = none ∧ l = d) ∨ ∃ k, vlo = some (.int k l)) := by
  unfold bound at h
  split at h
  · cases vlo with
    | none => exact ⟨d, h, .inl ⟨rfl, rfl⟩⟩
    | some v => exact hr.elim
  · rename_i k n
    cases vlo with
    | none => exact hr.elim
    | some v =>
      obtain ⟨rfl, _⟩ := RepP.lit_inv hr
      exact ⟨n, h, .inr ⟨k, rfl⟩⟩
  · exact h.elim
theorem run_sliceBounds_ok (P : Program) (w' : World) (isS : Bool) (len cap : Nat) {vlo vhi : Option Value} {l h : Int} (hlo : (vlo = none ∧ l = 0) ∨ ∃ k, vlo = some (.int k l))
    (hhi : (vhi = none ∧ h = len) ∨ ∃ k, vhi = some (.int k h)) (h0 : 0 ≤ l) (h1 : l ≤ h) (h2 : h ≤ cap) :
    (Instr.sliceBounds isS len cap vlo vhi none).run P w' = .ok (l.toNat, h.toNat, cap) w' := by
  have e1 : ((h.toNat : Nat) : Int) = h := Int.toNat_of_nonneg (by omega)
  rcases hlo with ⟨rfl, rfl⟩ | ⟨k, rfl⟩ <;> rcases hhi with ⟨rfl, rfl⟩ | ⟨k', rfl⟩
  · simp [Instr.sliceBounds]
  · simp [Instr.sliceBounds, run_sliceBound_if, h2, Int.le_trans h0 h1]
  · simp [Instr.sliceBounds, run_sliceBound_if, h0, h1]
  · simp [Instr.sliceBounds, run_sliceBound_if, h0, h2, Int.le_trans h0 h1, e1, h1]
theorem qSlice_sound (hT : TOk P T) {t : TypeId} {X : TV} {vx : Value} {lo hi : Option TV} {vlo vhi : Option Value} (hX : RepT w (Gd w ι O) ι O X vx)
    (hlo : RepOpt w (Gd w ι O) ι O lo vlo) (hhi : RepOpt w (Gd w ι O) ι O hi vhi) (h : qSlice T O t X lo hi K) : Yields B P w ι O K (Instr.sliceAt t vx vlo vhi none) := by
  obtain ⟨ti, h1, h⟩ := h
  have hd := (hT t ti h1).desc
  split at h
  · rename_i s hdq
    rw [hdq] at hd
    obtain ⟨rfl, _⟩ := RepP.lit_inv hX
    obtain ⟨l, h, el⟩ := bound_inv hlo h
    obtain ⟨u, h, eu⟩ := bound_inv hhi h
    obtain ⟨q0, q1, q2, hk⟩ := h
    exact .lit hk rfl (fun w' => by
      simp only [Instr.sliceAt, Instr.slice, Sem.run_bind, run_underlying hd.1, Result.andThen_ok]
      simp [run_sliceBounds_ok P w' false s.size s.size el eu q0 q1 q2])
  · rename_i e esz es hdq
    rw [hdq] at hd
    obtain ⟨blk, off, sp, cap, rfl, hsp, hcap, hmax, hr⟩ := RepP.row_inv hX
    obtain ⟨l, h, el⟩ := bound_inv hlo h
    obtain ⟨u, h, eu⟩ := bound_inv hhi h
    obtain ⟨⟨ei, he, hsz⟩, q0, q1, q2, hk⟩ := h
    have hlen : ((es.drop l.toNat).take (u.toNat - l.toNat)).length = u.toNat - l.toNat := by simp; omega
    have hrun : ∀ w' : World, (Instr.sliceAt t (.slice (some ⟨blk, off, sp⟩) es.length cap) vlo vhi none).run P w' =
        .ok (.slice (some ⟨blk, if cap = l.toNat then off else off + l.toNat * esz, sp⟩) (u.toNat - l.toNat) (cap - l.toNat)) w' := fun w' => by
      simp only [Instr.sliceAt, Instr.slice, Sem.run_bind, run_underlying hd.1, Result.andThen_ok]
      simp only [run_sliceBounds_ok P w' true es.length cap el eu q0 q1 (by omega), Result.andThen_ok, run_sizeOf_ti w' (hT e ei he), hsz, Sem.run_pure]
      split
      · simp
      · rename_i h0
        rcases hsp with rfl | h9
        · simp [addr_add]
        · omega
    refine ⟨_, _, hk, ?_, fun w' _ => hrun w'⟩
    have hrow : RowAt w (Gd w ι O) esz ((es.drop l.toNat).take (u.toNat - l.toNat)) blk (if cap = l.toNat then off else off + l.toNat * esz) := by
      refine ⟨fun i x hx => ?_, fun hne => hr.good (fun h0 => by subst h0; simp at hne), by have := hr.max; omega, fun i j x y hx hy => ?_⟩
      · rw [List.getElem?_take] at hx
        split at hx
        · rw [List.getElem?_drop] at hx; exact hr.len _ _ hx
        · cases hx
      · rw [List.getElem?_take] at hx
        split at hx
        · rename_i hi
          rw [List.getElem?_drop] at hx
          obtain ⟨v, hv, hrv⟩ := hr.cell _ j x y hx hy
          refine ⟨v, ?_, hrv⟩
          rw [if_neg (by omega), ← hv]
          congr 2
          rw [Nat.add_mul]
          omega
        · cases hx
    have := RepP.mk_rowS (sp := sp) (cap := cap - l.toNat) (hsp.imp id fun h => by omega) (by omega) (by omega) hrow
    rw [hlen] at this
    exact this
  · rename_i e lv b off len hdq
    rw [hdq] at hd
    obtain ⟨e1, esz, es, cap, c, ho, rfl, p1, p2, p3, p4, p5⟩ := hX
    obtain ⟨l, h, el⟩ := bound_inv hlo h
    obtain ⟨u, h, eu⟩ := bound_inv hhi h
    obtain ⟨⟨ei, he, e', es', ho'⟩, q0, q1, q2, q3, hk⟩ := h
    rw [ho] at ho'
    simp only [Option.some.injEq, AObj.row.injEq] at ho'
    obtain ⟨rfl, rfl, rfl⟩ := ho'
    have hrun : ∀ w' : World, (Instr.sliceAt t (.slice (some ⟨ι lv b, off * ei.size, none⟩) len cap) vlo vhi none).run P w' =
        .ok (.slice (some ⟨ι lv b, if cap = l.toNat then off * ei.size else off * ei.size + l.toNat * ei.size, none⟩) (u.toNat - l.toNat) (cap - l.toNat)) w' := fun w' => by
      simp only [Instr.sliceAt, Instr.slice, Sem.run_bind, run_underlying hd.1, Result.andThen_ok]
      simp only [run_sliceBounds_ok P w' true len cap el eu q0 q1 (by omega), Result.andThen_ok, run_sizeOf_ti w' (hT e ei he), Sem.run_pure]
      split <;> simp [addr_add]
    have hoff : (if cap = l.toNat then off * ei.size else off * ei.size + l.toNat * ei.size) = (off + l.toNat) * ei.size := by
      rcases q3 with rfl | q3
      · simp
      · rw [if_neg (by omega), Nat.add_mul]
    refine ⟨_, _, hk, ⟨_, _, _, cap - l.toNat, c, ho, by rw [hoff], by omega, by omega, by omega, p4, ?_⟩, fun w' _ => hrun w'⟩
    rw [← p5]
    congr 1
    omega
  · rename_i e lv b off len cap hdq
    rw [hdq] at hd
    obtain ⟨e1, esz, es, c, ho, rfl, p2, p3, p4, p5⟩ := hX
    obtain ⟨l, h, el⟩ := bound_inv hlo h
    obtain ⟨u, h, eu⟩ := bound_inv hhi h
    obtain ⟨ei, he, ⟨e', es', ho'⟩, q0, q1, q2, hin, hend⟩ := h
    rw [ho] at ho'
    simp only [Option.some.injEq, AObj.row.injEq] at ho'
    obtain ⟨rfl, rfl, rfl⟩ := ho'
    have hrun : ∀ w' : World, (Instr.sliceAt t (.slice (some ⟨ι lv b, off * ei.size, none⟩) len cap) vlo vhi none).run P w' =
        .ok (.slice (some ⟨ι lv b, if cap = l.toNat then off * ei.size else off * ei.size + l.toNat * ei.size, none⟩) (u.toNat - l.toNat) (cap - l.toNat)) w' := fun w' => by
      simp only [Instr.sliceAt, Instr.slice, Sem.run_bind, run_underlying hd.1, Result.andThen_ok]
      simp only [run_sliceBounds_ok P w' true len cap el eu q0 q1 (by omega), Result.andThen_ok, run_sizeOf_ti w' (hT e ei he), Sem.run_pure]
      split <;> simp [addr_add]
    rcases Nat.lt_or_ge l.toNat cap with hlt | hge
    · refine ⟨_, _, hin hlt, ⟨_, _, _, c, ho, by rw [if_neg (by omega), Nat.add_mul], by omega, by omega, p4, ?_⟩, fun w' _ => hrun w'⟩
      rw [← p5]
      congr 1
      omega
    · have hz : u.toNat - l.toNat = 0 := by omega
      refine ⟨_, _, hend (by omega), ?_, fun w' _ => hrun w'⟩
      have := RepP.mk_row (w := w) (G := Gd w ι O) (esz := ei.size) (es := []) (blk := ι lv b) (off := if cap = l.toNat then off * ei.size else off * ei.size + l.toNat * ei.size) (cap := cap - l.toNat) (by simp) (by omega)
        ⟨fun i x hx => by simp at hx, fun hne => absurd rfl hne, by simp, fun i j x y hx => by simp at hx⟩
      rw [hz]
      exact this
  · rename_i e hdq
    rw [hdq] at hd
    obtain ⟨rfl, _⟩ := RepP.lit_inv hX
    obtain ⟨l, h, el⟩ := bound_inv hlo h
    obtain ⟨u, h, eu⟩ := bound_inv hhi h
    obtain ⟨rfl, rfl, ⟨ei, he⟩, hk⟩ := h
    obtain ⟨inf, hinf, _⟩ := (hT e ei he).info
    exact .lit hk rfl (fun w' => by
      simp only [Instr.sliceAt, Instr.slice, Sem.run_bind, run_underlying hd.1, Result.andThen_ok]
      have hb := run_sliceBounds_ok P w' true 0 0 el (h := 0) (vhi := vhi) eu (by omega) (by omega) (by omega)
      simp only [hb, Result.andThen_ok]
      simp [sizeOf, typeInfo, hinf])
  · exact h.elim
def qSlice3 (T : TypeId → Option TI) (t : TypeId) (x lo hi mx : TV) (K : TV → Prop) : Prop :=
  ∃ ti e ei, T t = some ti ∧ ti.d = .slice e ∧ T e = some ei ∧ match x, lo, hi, mx with
    | .a (.s (.slc _ _ _ _ cap)), .a (.s (.pv (.lit (.int _ l)))), .a (.s (.pv (.lit (.int _ h)))), .a (.s (.pv (.lit (.int _ m)))) => 0 ≤ l ∧ l ≤ h ∧ h ≤ m ∧ m ≤ cap ∧ K .undef
    | _, _, _, _ => False
theorem qSlice3_sound (hT : TOk P T) {t : TypeId} {X L H M : TV} {vx vl vh vm : Value} (hX : RepT w (Gd w ι O) ι O X vx) (hl : RepT w (Gd w ι O) ι O L vl) (hh : RepT w (Gd w ι O) ι O H vh) (hm : RepT w (Gd w ι O) ι O M vm)
    (h : qSlice3 T t X L H M K) : Yields B P w ι O K (Instr.sliceAt t vx (some vl) (some vh) (some vm)) := by
  obtain ⟨ti, e, ei, h1, h2, h3, h⟩ := h
  have hd := (hT t ti h1).desc
  rw [h2] at hd
  split at h
  · rename_i lv b off len cap k1 l k2 hh' k3 m
    obtain ⟨rfl, _⟩ := RepP.lit_inv hl
    obtain ⟨rfl, _⟩ := RepP.lit_inv hh
    obtain ⟨rfl, _⟩ := RepP.lit_inv hm
    obtain ⟨e1, esz, es, c, ho, rfl, p2, p3, p4, p5⟩ := hX
    obtain ⟨q0, q1, q2, q3, hk⟩ := h
    have em : ((m.toNat : Nat) : Int) = m := Int.toNat_of_nonneg (by omega)
    have eh : ((hh'.toNat : Nat) : Int) = hh' := Int.toNat_of_nonneg (by omega)
    have hb : ∀ w' : World, (Instr.sliceBounds true len cap (some (.int k1 l)) (some (.int k2 hh')) (some (.int k3 m))).run P w' = .ok (l.toNat, hh'.toNat, m.toNat) w' := fun w' => by
      simp [Instr.sliceBounds, run_sliceBound_if, q0, q1, q2, q3, em, eh, show 0 ≤ m by omega, show 0 ≤ hh' by omega]
    refine ⟨.undef, .slice (some (if m.toNat = l.toNat then ⟨ι lv b, off * esz, none⟩ else (⟨ι lv b, off * esz, none⟩ : Addr).add (l.toNat * ei.size))) (hh'.toNat - l.toNat) (m.toNat - l.toNat), hk, trivial, fun w' _ => ?_⟩
    simp only [Instr.sliceAt, Instr.slice, Sem.run_bind, run_underlying hd.1, Result.andThen_ok]
    simp only [hb w', Result.andThen_ok, run_sizeOf_ti w' (hT e ei h3), Sem.run_pure]
    split <;> simp_all
  · exact h.elim
def qIndex (P : Program) (t : TypeId) (x i : TV) (K : TV → Prop) : Prop :=
  match x, i with
  | .a (.s (.pv (.lit (.string s)))), .a (.s (.pv (.lit (.int _ n)))) => P.underlying t = some .string ∧ 0 ≤ n ∧ ∃ b, s.data[n.toNat]? = some b ∧ K (lit (.int .u8 b.toNat))
  | _, _ => False
theorem qIndex_sound {t : TypeId} {X I : TV} {vx vi : Value} (hX : RepT w (Gd w ι O) ι O X vx) (hI : RepT w (Gd w ι O) ι O I vi) (h : qIndex P t X I K) :
    Yields B P w ι O K (Instr.index t vx vi) := by
  unfold qIndex at h
  split at h
  · rename_i s k n
    obtain ⟨rfl, _⟩ := RepP.lit_inv hX
    obtain ⟨rfl, _⟩ := RepP.lit_inv hI
    obtain ⟨hu, h0, b, hb, hk⟩ := h
    refine .lit hk rfl (fun w' => ?_)
    have hs : s[n.toNat]? = some b := by
      obtain ⟨hlt, he⟩ := Array.getElem?_eq_some_iff.1 hb
      have : n.toNat < s.size := hlt
      rw [getElem?_pos s n.toNat this]
      exact congrArg some he
    simp [Instr.index, asIntOf, run_underlying hu, h0, hs]
  · exact h.elim
def qLen (P : Program) (t : TypeId) (x : TV) (K : TV → Prop) : Prop :=
  match x with
  | .a (.s (.pv (.lit (.string s)))) => P.underlying t = some .string ∧ K (int s.size)
  | .a (.s (.pv (.row _ es))) => (∃ e, P.underlying t = some (.slice e)) ∧ (es.length ≤ maxLen → K (int es.length))
  | .a (.s (.sl _ _ _ len)) => (∃ e, P.underlying t = some (.slice e)) ∧ (len ≤ maxLen → K (int len))
  | .a (.s (.slc _ _ _ len _)) => (∃ e, P.underlying t = some (.slice e)) ∧ (len ≤ maxLen → K (int len))
  | .a (.s (.pv (.lit (.slice none 0 0)))) => (∃ e, P.underlying t = some (.slice e)) ∧ K (int 0)
  | _ => False
theorem qLen_sound {t ty : TypeId} {X : TV} {vx : Value} (hX : RepT w (Gd w ι O) ι O X vx) (h : qLen P t X K) : Yields B P w ι O K (Builtin.len_ #[t] ty #[vx]) := by
  unfold qLen at h
  split at h
  · obtain ⟨rfl, _⟩ := RepP.lit_inv hX
    exact .lit h.2 rfl (fun w' => by simp [Builtin.len_, run_underlying h.1, goInt])
  · obtain ⟨blk, off, sp, cap, rfl, _, hcap, hmax, hr⟩ := RepP.row_inv hX
    obtain ⟨⟨e, hu⟩, h⟩ := h
    exact .lit (h hr.max) rfl (fun w' => by simp [Builtin.len_, run_underlying hu, goInt])
  · obtain ⟨e1, esz, es, cap, c, ho, rfl, p1, p2, p3, p4, p5⟩ := hX
    obtain ⟨⟨e, hu⟩, h⟩ := h
    exact .lit (h (by omega)) rfl (fun w' => by simp [Builtin.len_, run_underlying hu, goInt])
  · obtain ⟨e1, esz, es, c, ho, rfl, p2, p3, p4, p5⟩ := hX
    obtain ⟨⟨e, hu⟩, h⟩ := h
    exact .lit (h (by omega)) rfl (fun w' => by simp [Builtin.len_, run_underlying hu, goInt])
  · obtain ⟨rfl, _⟩ := RepP.lit_inv hX
    obtain ⟨⟨e, hu⟩, h⟩ := h
    exact .lit h rfl (fun w' => by simp [Builtin.len_, run_underlying hu, goInt])
  · exact h.elim
def qCap (P : Program) (t : TypeId) (x : TV) (K : TV → Prop) : Prop :=
  match x with
  | .a (.s (.slc _ _ _ _ cap)) => (∃ e, P.underlying t = some (.slice e)) ∧ (cap ≤ maxLen → K (int cap))
  | _ => False
theorem qCap_sound {t ty : TypeId} {X : TV} {vx : Value} (hX : RepT w (Gd w ι O) ι O X vx) (h : qCap P t X K) : Yields B P w ι O K (Builtin.cap_ #[t] ty #[vx]) := by
  unfold qCap at h
  split at h
  · obtain ⟨e1, esz, es, c, ho, rfl, p2, p3, p4, p5⟩ := hX
    obtain ⟨⟨e, hu⟩, h⟩ := h
    exact .lit (h (by omega)) rfl (fun w' => by simp [Builtin.cap_, run_underlying hu, goInt])
  · exact h.elim
def boxesOf : List TV → Option (List (Nat × Nat))
  | [] => some []
  | .a (.s (.pb l b 0)) :: r => (boxesOf r).map ((l, b) :: ·)
  | _ :: _ => none
def qFunc (fn : Fn) (first : Array Operand) (caps : List TV) (K : TV → Prop) : Prop :=
  match fn with
  | .func f => first = #[] ∧ ∃ bs, boxesOf caps = some bs ∧ K (.a (.s (.clo f bs)))
  | _ => False
theorem boxesOf_rep : ∀ {caps : List TV} {bs : List (Nat × Nat)} {vs : List Value}, boxesOf caps = some bs → vs.length = caps.length →
    (∀ (j : Nat) (y : TV) (u : Value), caps[j]? = some y → vs[j]? = some u → RepT w (Gd w ι O) ι O y u) →
    vs = bs.map (fun p => Value.pointer (some ⟨ι p.1 p.2, 0, none⟩)) ∧ ∀ p ∈ bs, ∃ e cs, O p.1 p.2 = some (.box e cs)
  | [], bs, vs, h, hl, _ => by
    simp only [boxesOf, Option.some.injEq] at h
    subst h
    exact ⟨List.eq_nil_of_length_eq_zero (by simpa using hl), by simp⟩
  | y :: r, bs, vs, h, hl, hr => by
    unfold boxesOf at h
    split at h
    · rename_i hh; cases hh
    · rename_i l b r' hh
      obtain ⟨rfl, rfl⟩ := List.cons.inj hh
      cases hb : boxesOf r with
      | none => simp [hb] at h
      | some bs' =>
        simp only [hb, Option.map_some, Option.some.injEq] at h
        subst h
        cases vs with
        | nil => simp at hl
        | cons v vs =>
          obtain ⟨he, rfl⟩ := hr 0 _ v rfl rfl
          obtain ⟨h1, h2⟩ := boxesOf_rep hb (by simpa using hl) (fun j y u hy hu => hr (j + 1) y u (by simpa using hy) (by simpa using hu))
          refine ⟨by rw [h1]; rfl, fun p hp => ?_⟩
          rcases List.mem_cons.1 hp with rfl | hp
          · exact he
          · exact h2 p hp
    · cases h
def lay (cs : List SV) (off : Nat) (x : List SV) : List SV := cs.take off ++ x ++ cs.drop (off + x.length)
def fillA (T : TypeId → Option TI) (fs : List (Nat × TypeId)) (ev : Operand → TV) : List SV → List (Nat × Operand) → (List SV → Prop) → Prop
  | cs, [], K => K cs
  | cs, (i, x) :: r, K => ∃ off ft fi, fs[i]? = some (off, ft) ∧ T ft = some fi ∧ off + fi.size ≤ cs.length ∧ match ev x with
    | .a (.s v) => fi.size = 1 ∧ fillA T fs ev (lay cs off [v]) r K
    | .a (.agg vs) => vs.length = fi.size ∧ fillA T fs ev (lay cs off vs) r K
    | _ => False
def qBuild (T : TypeId → Option TI) (t : TypeId) (ev : Operand → TV) (parts : Array (Nat × Operand)) (K : TV → Prop) : Prop :=
  ∃ ti fs, T t = some ti ∧ ti.d = .struct fs ∧ (∀ p ∈ fs, (T p.2).isSome = true) ∧ fillA T fs ev (ti.zero.map fun v => .pv (.lit v)) parts.toList fun cs => K (.a (.agg cs))
theorem foldl_set (off : Nat) : ∀ (l : List Value) (j0 : Nat) (c : Array Value), off + j0 + l.length ≤ c.size →
    ((l.zipIdx j0).foldl (fun cs p => cs.setIfInBounds (off + p.2) p.1) c).size = c.size ∧
    ∀ k, ((l.zipIdx j0).foldl (fun cs p => cs.setIfInBounds (off + p.2) p.1) c)[k]? = if off + j0 ≤ k ∧ k < off + j0 + l.length then l[k - (off + j0)]? else c[k]?
  | [], j0, c, _ => ⟨rfl, fun k => by rw [if_neg (by simp only [List.length_nil]; omega)]; rfl⟩
  | v :: l, j0, c, h => by
    simp only [List.length_cons] at h
    obtain ⟨h1, h2⟩ := foldl_set off l (j0 + 1) (c.setIfInBounds (off + j0) v) (by simp; omega)
    simp only [List.zipIdx_cons, List.foldl_cons]
    refine ⟨by rw [h1]; simp, fun k => ?_⟩
    rw [h2 k]
    by_cases hk : k = off + j0
    · subst hk
      rw [if_neg (by omega), if_pos (by simp), Array.getElem?_setIfInBounds_self_of_lt (by omega)]
      simp
    · rw [Array.getElem?_setIfInBounds_ne (by omega)]
      by_cases hin : off + (j0 + 1) ≤ k ∧ k < off + (j0 + 1) + l.length
      · rw [if_pos hin, if_pos (by simp only [List.length_cons]; omega)]
        rw [show k - (off + j0) = (k - (off + (j0 + 1))) + 1 by omega]
        simp
      · rw [if_neg hin, if_neg (by simp only [List.length_cons]; omega)]
def RepC (w : World) (G : Nat → Prop) (ι : Nat → Nat → Nat) (O : Store) (xs : List SV) (c : Array Value) : Prop :=
  c.size = xs.length ∧ ∀ (j : Nat) (y : SV), xs[j]? = some y → ∃ u, c[j]? = some u ∧ RepS w G ι O y u
theorem lay_getElem? (cs : List SV) (off : Nat) (x : List SV) (h : off + x.length ≤ cs.length) (k : Nat) :
    (lay cs off x)[k]? = if off ≤ k ∧ k < off + x.length then x[k - off]? else cs[k]? := by
  unfold lay
  by_cases h1 : k < off
  · rw [if_neg (by omega), List.append_assoc, List.getElem?_append_left (by simp; omega), List.getElem?_take, if_pos h1]
  · by_cases h2 : k < off + x.length
    · rw [if_pos (by omega), List.getElem?_append_left (by simp; omega), List.getElem?_append_right (by simp; omega)]
      congr 1
      simp
      omega
    · rw [if_neg (by omega), List.getElem?_append_right (by simp; omega), List.getElem?_drop]
      congr 1
      simp
      omega
theorem lay_rep {G : Nat → Prop} {cs : List SV} {c : Array Value} {off : Nat} {x : List SV} {v : Array Value} (hc : RepC w G ι O cs c) (hx : RepC w G ι O x v)
    (h : off + x.length ≤ cs.length) : RepC w G ι O (lay cs off x) (v.zipIdx.foldl (fun cs p => cs.setIfInBounds (off + p.2) p.1) c) := by
  have he : v.zipIdx.foldl (fun cs p => cs.setIfInBounds (off + p.2) p.1) c = (v.toList.zipIdx).foldl (fun cs p => cs.setIfInBounds (off + p.2) p.1) c := by
    rw [← Array.foldl_toList, Array.toList_zipIdx]
  have hl : v.toList.length = x.length := by rw [Array.length_toList]; exact hx.1
  obtain ⟨h1, h2⟩ := foldl_set off v.toList 0 c (by rw [hl, hc.1]; omega)
  rw [he]
  refine ⟨by rw [h1, hc.1]; unfold lay; simp only [List.length_append, List.length_take, List.length_drop]; omega, fun k y hy => ?_⟩
  rw [lay_getElem? cs off x h k] at hy
  rw [h2 k]
  by_cases hin : off ≤ k ∧ k < off + x.length
  · rw [if_pos hin] at hy
    rw [if_pos (by omega)]
    obtain ⟨u, hu, hr⟩ := hx.2 _ y hy
    exact ⟨u, by simpa using hu, hr⟩
  · rw [if_neg hin] at hy
    rw [if_neg (by omega)]
    exact hc.2 k y hy
theorem fillA_sound (hT : TOk P T) {fs : List (Nat × TypeId)} {places : List (Nat × Nat)} (hpl : ∀ (i off : Nat) (ft : TypeId) (fi : TI), fs[i]? = some (off, ft) → T ft = some fi → places[i]? = some (off, fi.size))
    {ev : Operand → TV} {ev' : Operand → Value} (hev : ∀ x, RepT w (Gd w ι O) ι O (ev x) (ev' x)) {K : List SV → Prop} :
    ∀ (parts : List (Nat × Operand)) (cs : List SV) (c : Array Value), RepC w (Gd w ι O) ι O cs c → fillA T fs ev cs parts K →
      ∃ cs' c', K cs' ∧ RepC w (Gd w ι O) ι O cs' c' ∧ Instr.fill (places.toArray[·]?) c (parts.map fun p => (p.1, ev' p.2)) = some c'
  | [], cs, c, hc, h => ⟨cs, c, h, hc, rfl⟩
  | (i, x) :: r, cs, c, hc, h => by
    obtain ⟨off, ft, fi, h1, h2, h3, h⟩ := h
    have hp := hpl i off ft fi h1 h2
    have hx := hev x
    have step : ∀ (v : List SV), RepC w (Gd w ι O) ι O v (ev' x).cells → v.length = fi.size → fillA T fs ev (lay cs off v) r K →
        ∃ cs' c', K cs' ∧ RepC w (Gd w ι O) ι O cs' c' ∧ Instr.fill (places.toArray[·]?) c (((i, x) :: r).map fun p => (p.1, ev' p.2)) = some c' := by
      intro v hv hvl hf
      obtain ⟨cs', c', k1, k2, k3⟩ := fillA_sound hT hpl hev r _ _ (lay_rep hc hv (by omega)) hf
      refine ⟨cs', c', k1, k2, ?_⟩
      have hsz : (ev' x).cells.size = fi.size := by rw [hv.1, hvl]
      have e1 : (places.toArray[i]? : Option (Nat × Nat)) = some (off, fi.size) := by simpa using hp
      simp only [List.map_cons, Instr.fill, e1]
      rw [if_neg (by
        have := hc.1
        simp only [hsz, ne_eq, not_true_eq_false, decide_false, Bool.false_or, decide_eq_true_eq]
        omega)]
      exact k3
    split at h
    · rename_i v hv
      rw [hv] at hx
      have hone := RepS.one hx
      have hcell : (ev' x).cells = #[ev' x] := by
        revert hone
        cases ev' x <;> simp [Value.cells, Value.oneCell']
      exact step [v] (by
        rw [hcell]
        refine ⟨rfl, fun j y hy => ?_⟩
        cases j with
        | zero => simp at hy; subst hy; exact ⟨_, rfl, hx⟩
        | succ j => simp at hy) (by simp; exact h.1.symm) h.2
    · rename_i vs hv
      rw [hv] at hx
      obtain ⟨cx, hcx, hl, hcc⟩ := hx
      exact step vs (by rw [hcx]; exact ⟨hl, hcc⟩) h.1 h.2
    · exact h.elim
theorem rep_lits {G : Nat → Prop} (l : List Value) (h : l.all (·.oneCell') = true) : RepC w G ι O (l.map fun v => .pv (.lit v)) l.toArray := by
  refine ⟨by simp, fun j y hy => ?_⟩
  rw [List.getElem?_map] at hy
  cases hl : l[j]? with
  | none => simp [hl] at hy
  | some u =>
    simp only [hl, Option.map_some, Option.some.injEq] at hy
    subst hy
    exact ⟨u, by simpa using hl, RepP.lit _ (List.all_eq_true.1 h u (List.mem_of_getElem? hl))⟩
theorem qBuild_sound (hT : TOk P T) {t : TypeId} {ev : Operand → TV} {ev' : Operand → Value} (hev : ∀ x, RepT w (Gd w ι O) ι O (ev x) (ev' x)) {parts : Array (Nat × Operand)}
    (h : qBuild T t ev parts K) : Yields B P w ι O K (Instr.build t (parts.map fun p => (p.1, ev' p.2))) := by
  obtain ⟨ti, fs, h1, h2, h3, h⟩ := h
  have hti := hT t ti h1
  obtain ⟨inf, hi, hs, hb, hz⟩ := hti.info
  have hd := hti.desc
  rw [h2] at hd
  obtain ⟨⟨fa, hu, hfs⟩, hagg⟩ := hd
  rw [hagg, if_pos rfl] at hz
  have hmap : ∀ (l : List Field) (fs : List (Nat × TypeId)), l.map (fun x => (x.offset, x.type)) = fs → (∀ p ∈ fs, (T p.2).isSome = true) →
      ∃ places, l.mapM (fun f => (P.info? f.type).map fun i => (f.offset, i.size)) = some places ∧
        ∀ (i off : Nat) (ft : TypeId) (fi : TI), fs[i]? = some (off, ft) → T ft = some fi → places[i]? = some (off, fi.size) := by
    intro l
    induction l with
    | nil => intro fs hf _; subst hf; exact ⟨[], rfl, by simp⟩
    | cons f l ih =>
      intro fs hf hall
      subst hf
      obtain ⟨pl, hpl, hq⟩ := ih _ rfl (fun p hp => hall p (List.mem_cons_of_mem _ hp))
      obtain ⟨fi, hfi⟩ := Option.isSome_iff_exists.1 (hall (f.offset, f.type) (by simp))
      obtain ⟨inf', hi', hs', _⟩ := (hT _ fi hfi).info
      refine ⟨(f.offset, inf'.size) :: pl, by simp [List.mapM_cons, hi', hpl], fun i off ft fi' he hfi' => ?_⟩
      cases i with
      | zero =>
        simp only [List.map_cons, List.getElem?_cons_zero, Option.some.injEq, Prod.mk.injEq] at he
        obtain ⟨rfl, rfl⟩ := he
        rw [hfi'] at hfi
        cases hfi
        simp [hs']
      | succ i => exact hq i off ft fi' (by simpa using he) hfi'
  obtain ⟨places, hp, hpl⟩ := hmap fa.toList fs hfs h3
  obtain ⟨cs', c', k1, k2, k3⟩ := fillA_sound hT hpl hev parts.toList _ _ (rep_lits (w := w) (G := Gd w ι O) (ι := ι) (O := O) ti.zero hti.one) h
  refine ⟨_, .agg c', k1, ⟨c', rfl, k2⟩, fun w' _ => run_build w' t _ c' ?_⟩
  unfold Program.built
  simp only [hi, hu, hz, hp]
  rw [← k3]
  congr 1
  simp
def qField (T : TypeId → Option TI) (t : TypeId) (x : TV) (f : Nat) (K : TV → Prop) : Prop :=
  ∃ ti fs off ft fi, T t = some ti ∧ ti.d = .struct fs ∧ fs[f]? = some (off, ft) ∧ T ft = some fi ∧ match x with
    | .a (.agg cs) => cellsK fi cs off K
    | _ => False
theorem qField_sound (hT : TOk P T) {t : TypeId} {X : TV} {vx : Value} {f : Nat} (hX : RepT w (Gd w ι O) ι O X vx) (h : qField T t X f K) :
    Yields B P w ι O K (Instr.field t vx f) := by
  obtain ⟨ti, fs, off, ft, fi, h1, h2, h3, h4, h⟩ := h
  have hd := (hT t ti h1).desc
  rw [h2] at hd
  obtain ⟨⟨fa, hu, hfs⟩, _⟩ := hd
  have hfi := hT ft fi h4
  obtain ⟨fld, hf, hoff, hty⟩ : ∃ fld, fa[f]? = some fld ∧ fld.offset = off ∧ fld.type = ft := by
    rw [← hfs, List.getElem?_map] at h3
    cases hq : fa.toList[f]? with
    | none => simp [hq] at h3
    | some fld =>
      simp only [hq, Option.map_some, Option.some.injEq, Prod.mk.injEq] at h3
      exact ⟨fld, by simpa using hq, h3.1, h3.2⟩
  split at h
  · rename_i xs
    obtain ⟨cs, rfl, hl, hc⟩ := hX
    unfold cellsK at h
    split at h
    · rename_i hagg
      obtain ⟨hlen, hk⟩ := h
      refine ⟨_, .agg (cs.extract off (off + fi.size)), hk, ⟨_, rfl, by simp; omega, fun j y hy => ?_⟩, fun w' _ => ?_⟩
      · rw [List.getElem?_take] at hy
        split at hy
        · rename_i hj
          rw [List.getElem?_drop] at hy
          obtain ⟨u, hu', hr⟩ := hc _ y hy
          refine ⟨u, ?_, hr⟩
          rw [Array.getElem?_extract, if_pos (by rw [Nat.min_def]; split <;> omega)]
          exact hu'
        · cases hy
      · simp only [Instr.field, Sem.run_bind, run_underlying hu, Result.andThen_ok, hf, asAgg, Sem.run_pure, part, hty, run_isAgg_ti w' hfi, hagg, if_true, run_sizeOf_ti w' hfi, hoff]
    · rename_i hagg
      obtain ⟨s, hs, hk⟩ := h
      obtain ⟨u, hu', hr⟩ := hc _ s hs
      refine ⟨_, u, hk, hr, fun w' _ => ?_⟩
      simp only [Instr.field, Sem.run_bind, run_underlying hu, Result.andThen_ok, hf, asAgg, Sem.run_pure, part, hty, run_isAgg_ti w' hfi, hagg, Bool.false_eq_true, if_false, hoff, hu']
  · exact h.elim
end
end Go.Rd
namespace Go.Rd
open Go.RowKit
def SV.sub (L b : Nat) (g : Nat → Nat → SV) : SV → SV
  | .sl l c off len => if l = L ∧ c = b then g off len else .sl l c off len
  | .slc l c off len cap => if l = L ∧ c = b then .undef else .slc l c off len cap
  | .pr l c i j => if l = L ∧ c = b then .undef else .pr l c i j
  | .pb l c j => if l = L ∧ c = b then .undef else .pb l c j
  | .clo f caps => if (L, b) ∈ caps then .undef else .clo f caps
  | x => x
def AV.sub (L b : Nat) (g : Nat → Nat → SV) : AV → AV
  | .s x => .s (x.sub L b g)
  | .agg xs => .agg (xs.map (·.sub L b g))
  | x => x
def TV.sub (L b : Nat) (g : Nat → Nat → SV) : TV → TV
  | .undef => .undef
  | .a x => .a (x.sub L b g)
  | .tup xs => .tup (xs.map (·.sub L b g))
def AObj.sub (L b : Nat) (g : Nat → Nat → SV) : AObj → AObj
  | .row e esz es => .row e esz es
  | .box e cs => .box e (cs.map (·.sub L b g))
def mapTm (f : TV → TV) : List (Nat × TV) → List (Nat × TV)
  | [] => []
  | (t, v) :: r => (t, f v) :: mapTm f r
def mapO (L : Nat) (f : AObj → AObj) (O : Store) : Store := fun l b => if l = L then (O l b).map f else O l b
def Sup (S : Store) (L : Nat) : Prop := ∀ l b, L ≤ l → S l b = none
theorem look_mapTm (f : TV → TV) (hf : f .undef = .undef) : ∀ (l : List (Nat × TV)) (t : Nat), look (mapTm f l) t = f (look l t)
  | [], _ => hf.symm
  | (k, v) :: r, t => by
    simp only [mapTm, look]
    split
    · rfl
    · exact look_mapTm f hf r t
def ASt.sub (st : ASt) (b : Nat) (g : Nat → Nat → SV) : ASt := { st with tm := mapTm (TV.sub st.L b g) st.tm, O := mapO st.L (AObj.sub st.L b g) st.O }
def ASt.drop (st : ASt) (b : Nat) : ASt :=
  match st.O st.L b with
  | none => st
  | some (.row _ esz es) =>
    let s := st.sub b fun off len => .pv (.row esz ((es.drop off).take len))
    { s with O := upd s.O st.L b none }
  | some (.box _ _) =>
    let s := st.sub b fun _ _ => .undef
    { s with O := upd s.O st.L b none }
structure Good (st : ASt) (a : Act) (w : World) (ι : Nat → Nat → Nat) : Prop extends Fits st a w ι where
  sup : ∀ l b o, st.O l b = some o → l ≤ st.L
  lev : ∀ l b e cs, st.O l b = some (.box e cs) → ∀ s ∈ cs, s.lev ≤ l
section
variable {w : World} {G G' : Nat → Prop} {ι : Nat → Nat → Nat} {O O' : Store}
def SubOk (w : World) (G G' : Nat → Prop) (ι : Nat → Nat → Nat) (O O' : Store) (L b : Nat) (g : Nat → Nat → SV) : Prop :=
  ∀ off len v, RepS w G ι O (.sl L b off len) v → RepS w G' ι O' (g off len) v
theorem RepS.sub {L b : Nat} {g : Nat → Nat → SV} {s : SV} {v : Value} (h : RepS w G ι O s v) (hg : SubOk w G G' ι O O' L b g)
    (hG : ∀ k, G k → G' k) (hO : ∀ l c o, O l c = some o → ¬ (l = L ∧ c = b) → ∃ o', O' l c = some o' ∧ o.fits o') : RepS w G' ι O' (s.sub L b g) v := by
  have keep : ∀ {s : SV}, RepS w G ι O s v → (∀ l c, ¬ (l = L ∧ c = b) ∨ True) → True := fun _ _ => trivial
  cases s with
  | undef => exact h
  | pv p => exact RepP.mono h (fun k hk => ⟨hG k hk, rfl⟩)
  | sl l c off len =>
    simp only [SV.sub]
    split
    · rename_i e; obtain ⟨rfl, rfl⟩ := e; exact hg off len v h
    · rename_i e
      obtain ⟨e1, esz, es, cap, cc, ho, rfl, q1, q2, q3, q4, q5⟩ := h
      obtain ⟨o', h1, h2⟩ := hO l c _ ho e
      cases o' with
      | box => exact h2.elim
      | row e' esz' es' =>
        obtain ⟨rfl, rfl, hl⟩ := h2
        exact ⟨_, _, _, cap, cc, h1, rfl, by omega, q2, q3, q4, q5⟩
  | slc l c off len cap =>
    simp only [SV.sub]
    obtain ⟨e1, esz, es, cc, ho, rfl, q2, q3, q4, q5⟩ := h
    split
    · rfl
    · rename_i e
      obtain ⟨o', h1, h2⟩ := hO l c _ ho e
      cases o' with
      | box => exact h2.elim
      | row e' esz' es' =>
        obtain ⟨rfl, rfl, hl⟩ := h2
        exact ⟨_, _, _, cc, h1, rfl, q2, q3, q4, q5⟩
  | pr l c i j =>
    simp only [SV.sub]
    obtain ⟨e1, esz, es, ho, rfl⟩ := h
    split
    · rfl
    · rename_i e
      obtain ⟨o', h1, h2⟩ := hO l c _ ho e
      cases o' with
      | box => exact h2.elim
      | row e' esz' es' => obtain ⟨rfl, rfl, hl⟩ := h2; exact ⟨_, _, _, h1, rfl⟩
  | pb l c j =>
    simp only [SV.sub]
    obtain ⟨⟨e1, cs, ho⟩, rfl⟩ := h
    split
    · rfl
    · rename_i e
      obtain ⟨o', h1, h2⟩ := hO l c _ ho e
      cases o' with
      | row => exact h2.elim
      | box e' cs' => exact ⟨⟨_, _, h1⟩, rfl⟩
  | clo f caps =>
    simp only [SV.sub]
    obtain ⟨rfl, hl⟩ := h
    split
    · rfl
    · rename_i e
      refine ⟨rfl, fun p hp => ?_⟩
      obtain ⟨e1, cs, ho⟩ := hl p hp
      obtain ⟨o', h1, h2⟩ := hO _ _ _ ho (fun hh => e (by obtain ⟨h1, h2⟩ := hh; rw [← h1, ← h2]; exact hp))
      cases o' with
      | row => exact h2.elim
      | box e' cs' => exact ⟨_, _, h1⟩
theorem RepA.sub {L b : Nat} {g : Nat → Nat → SV} {s : AV} {v : Value} (h : RepA w G ι O s v) (hg : SubOk w G G' ι O O' L b g)
    (hG : ∀ k, G k → G' k) (hO : ∀ l c o, O l c = some o → ¬ (l = L ∧ c = b) → ∃ o', O' l c = some o' ∧ o.fits o') : RepA w G' ι O' (s.sub L b g) v := by
  cases s with
  | s x => exact RepS.sub h hg hG hO
  | agg xs =>
    obtain ⟨cs, rfl, hl, hc⟩ := h
    refine ⟨cs, rfl, by simpa using hl, fun j y hy => ?_⟩
    rw [List.getElem?_map] at hy
    cases hx : xs[j]? with
    | none => simp [hx] at hy
    | some x =>
      simp only [hx, Option.map_some, Option.some.injEq] at hy
      subst hy
      obtain ⟨u, hu, hr⟩ := hc j x hx
      exact ⟨u, hu, hr.sub hg hG hO⟩
  | pel esz es i j =>
    obtain ⟨blk, off, hr, rfl⟩ := h
    exact ⟨blk, off, hr.mono (fun k hk => ⟨hG k hk, rfl⟩), rfl⟩
theorem RepT.sub {L b : Nat} {g : Nat → Nat → SV} {s : TV} {v : Value} (h : RepT w G ι O s v) (hg : SubOk w G G' ι O O' L b g)
    (hG : ∀ k, G k → G' k) (hO : ∀ l c o, O l c = some o → ¬ (l = L ∧ c = b) → ∃ o', O' l c = some o' ∧ o.fits o') : RepT w G' ι O' (s.sub L b g) v := by
  cases s with
  | undef => trivial
  | a x => exact RepA.sub h hg hG hO
  | tup xs =>
    obtain ⟨cs, rfl, hl, hc⟩ := h
    refine ⟨cs, rfl, by simpa using hl, fun j y hy => ?_⟩
    rw [List.getElem?_map] at hy
    cases hx : xs[j]? with
    | none => simp [hx] at hy
    | some x =>
      simp only [hx, Option.map_some, Option.some.injEq] at hy
      subst hy
      obtain ⟨u, hu, hr⟩ := hc j x hx
      exact ⟨u, hu, RepA.sub hr hg hG hO⟩
theorem SV.lev_sub {L b : Nat} {g : Nat → Nat → SV} {s : SV} (hg : ∀ off len, (g off len).lev = 0 ∨ (g off len).lev ≤ s.lev) : (s.sub L b g).lev ≤ s.lev := by
  cases s with
  | sl l c off len =>
    simp only [SV.sub]
    split
    · rcases hg off len with h | h
      · omega
      · exact h
    · exact Nat.le_refl _
  | slc => simp only [SV.sub]; split <;> simp [SV.lev]
  | pr => simp only [SV.sub]; split <;> simp [SV.lev]
  | pb => simp only [SV.sub]; split <;> simp [SV.lev]
  | clo => simp only [SV.sub]; split <;> simp [SV.lev]
  | undef => exact Nat.le_refl _
  | pv => exact Nat.le_refl _
end
theorem AObj.fits_sub (L b : Nat) (g : Nat → Nat → SV) (o : AObj) : o.fits (o.sub L b g) := by
  cases o <;> simp [AObj.sub, AObj.fits]
theorem Good.drop {st : ASt} {a : Act} {w : World} {ι : Nat → Nat → Nat} (h : Good st a w ι) (b : Nat) : Good (st.drop b) a w ι := by
  have main : ∀ (o : AObj) (g : Nat → Nat → SV), st.O st.L b = some o → (∀ off len, (g off len).lev = 0) →
      SubOk w (Gd w ι st.O) (Gd w ι (upd (mapO st.L (AObj.sub st.L b g) st.O) st.L b none)) ι st.O (upd (mapO st.L (AObj.sub st.L b g) st.O) st.L b none) st.L b g →
      Good { (st.sub b g) with O := upd (st.sub b g).O st.L b none } a w ι := by
    intro o g ho hg0 hsub
    have hO' : ∀ l c o', (upd (mapO st.L (AObj.sub st.L b g) st.O) st.L b none) l c = some o' → ¬ (l = st.L ∧ c = b) ∧ ∃ o1, st.O l c = some o1 ∧ (o' = o1 ∨ (l = st.L ∧ o' = o1.sub st.L b g)) := by
      intro l c o' h'
      simp only [upd] at h'
      split at h'
      · cases h'
      · rename_i hne
        refine ⟨hne, ?_⟩
        simp only [mapO] at h'
        split at h'
        · rename_i hl
          cases hq : st.O l c with
          | none => simp [hq] at h'
          | some o1 =>
            simp only [hq, Option.map_some, Option.some.injEq] at h'
            exact ⟨o1, rfl, .inr ⟨hl, h'.symm⟩⟩
        · exact ⟨o', h', .inl rfl⟩
    have hGd : ∀ k, Gd w ι st.O k → Gd w ι (upd (mapO st.L (AObj.sub st.L b g) st.O) st.L b none) k := by
      rintro k ⟨h1, h2⟩
      refine ⟨h1, fun ⟨l, c, o', h3, h4⟩ => h2 ?_⟩
      obtain ⟨_, o1, h5, _⟩ := hO' l c o' h3
      exact ⟨l, c, o1, h5, h4⟩
    have hkeep : ∀ l c o1, st.O l c = some o1 → ¬ (l = st.L ∧ c = b) → ∃ o', (upd (mapO st.L (AObj.sub st.L b g) st.O) st.L b none) l c = some o' ∧ o1.fits o' := by
      intro l c o1 h1 hne
      rw [upd_ne _ _ hne]
      simp only [mapO]
      split
      · exact ⟨_, by rw [h1]; rfl, AObj.fits_sub _ _ _ _⟩
      · exact ⟨o1, h1, AObj.fits_refl o1⟩
    refine ⟨⟨⟨fun l c o' h' => ?_, fun l c o' l2 c2 o2 h1 h2 e => ?_⟩, h.size, fun t ht => ?_, fun t ht => ?_⟩, fun l c o' h' => ?_, fun l c e cs h' s hs => ?_⟩
    · obtain ⟨hne, o1, h1, h2⟩ := hO' l c o' h'
      have hr := h.lies.obj l c o1 h1
      rcases h2 with rfl | ⟨hl, rfl⟩
      · cases o' with
        | row e esz es =>
          obtain ⟨cc, q1, q2, q3, q4, q5⟩ := hr
          exact ⟨cc, q1, q2, q3, q4, fun i j x y hx hy => by
            obtain ⟨u, hu, hru⟩ := q5 i j x y hx hy
            exact ⟨u, hu, hru.mono (fun k hk => ⟨hGd k hk, rfl⟩)⟩⟩
        | box e cs =>
          obtain ⟨cc, q1, q2, q3⟩ := hr
          refine ⟨cc, q1, q2, fun j y hy => ?_⟩
          obtain ⟨u, hu, hru⟩ := q3 j y hy
          refine ⟨u, hu, ?_⟩
          -- a box at another level: nothing in it leads to level L, or it is turned
          by_cases hl : l = st.L
          · subst hl
            simp only [ASt.sub] at h'
            rw [upd_ne _ _ hne] at h'
            simp only [mapO, if_true, h1, Option.map_some, AObj.sub, Option.some.injEq, AObj.box.injEq, true_and] at h'
            have hy' : (cs.map (·.sub st.L b g))[j]? = some y := by rw [h']; exact hy
            rw [List.getElem?_map] at hy'
            cases hx : cs[j]? with
            | none => simp [hx] at hy'
            | some x =>
              have hxy : x = y := by rw [hx] at hy; exact Option.some.inj hy
              subst hxy
              simp only [hx, Option.map_some, Option.some.injEq] at hy'
              have := hru.sub hsub hGd hkeep
              rw [hy'] at this
              exact this
          · have hle : y.lev ≤ l := h.lev l c e cs h1 y (List.mem_of_getElem? hy)
            have hlt : y.lev < st.L := by have := h.sup l c _ h1; omega
            have hsame : y.sub st.L b g = y := by
              cases y with
              | sl l2 c2 _ _ => simp only [SV.lev] at hlt; simp only [SV.sub]; rw [if_neg (by omega)]
              | slc l2 c2 _ _ _ => simp only [SV.lev] at hlt; simp only [SV.sub]; rw [if_neg (by omega)]
              | pr l2 c2 _ _ => simp only [SV.lev] at hlt; simp only [SV.sub]; rw [if_neg (by omega)]
              | pb l2 c2 _ => simp only [SV.lev] at hlt; simp only [SV.sub]; rw [if_neg (by omega)]
              | clo f caps =>
                simp only [SV.sub]
                rw [if_neg]
                intro hm
                have : st.L ≤ (SV.clo f caps).lev := by
                  simp only [SV.lev]
                  clear hlt hle hru hu hy
                  induction caps with
                  | nil => cases hm
                  | cons p r ih =>
                    simp only [List.foldr_cons]
                    rcases List.mem_cons.1 hm with rfl | hm
                    · omega
                    · have := ih hm; omega
                omega
              | undef => rfl
              | pv => rfl
            have := hru.sub hsub hGd hkeep
            rw [hsame] at this
            exact this
      · cases o1 with
        | row e esz es =>
          obtain ⟨cc, q1, q2, q3, q4, q5⟩ := hr
          exact ⟨cc, q1, q2, q3, q4, fun i j x y hx hy => by
            obtain ⟨u, hu, hru⟩ := q5 i j x y hx hy
            exact ⟨u, hu, hru.mono (fun k hk => ⟨hGd k hk, rfl⟩)⟩⟩
        | box e cs =>
          obtain ⟨cc, q1, q2, q3⟩ := hr
          refine ⟨cc, q1, by simpa using q2, fun j y hy => ?_⟩
          rw [List.getElem?_map] at hy
          cases hx : cs[j]? with
          | none => simp [hx] at hy
          | some x =>
            simp only [hx, Option.map_some, Option.some.injEq] at hy
            subst hy
            obtain ⟨u, hu, hru⟩ := q3 j x hx
            exact ⟨u, hu, hru.sub hsub hGd hkeep⟩
    · obtain ⟨_, o3, h3, _⟩ := hO' l c o' h1
      obtain ⟨_, o4, h4, _⟩ := hO' l2 c2 o2 h2
      exact h.lies.inj l c o3 l2 c2 o4 h3 h4 e
    · have hl := look_mapTm (TV.sub st.L b g) rfl st.tm t
      show RepT _ _ _ _ (look (mapTm (TV.sub st.L b g) st.tm) t) _
      rw [hl]
      exact (h.tm t ht).sub hsub hGd hkeep
    · have hl := look_mapTm (TV.sub st.L b g) rfl st.tm t
      show look (mapTm (TV.sub st.L b g) st.tm) t = .undef
      rw [hl]
      have : look st.tm t = .undef := h.out t ht
      rw [this]
      rfl
    · obtain ⟨_, o1, h1, _⟩ := hO' l c o' h'
      exact h.sup l c o1 h1
    · obtain ⟨_, o1, h1, h2⟩ := hO' l c _ h'
      rcases h2 with rfl | ⟨hl, h2⟩
      · exact h.lev l c e cs h1 s hs
      · cases o1 with
        | row => simp [AObj.sub] at h2
        | box e1 cs1 =>
          simp only [AObj.sub, AObj.box.injEq] at h2
          obtain ⟨rfl, rfl⟩ := h2
          obtain ⟨x, hx, rfl⟩ := List.mem_map.1 hs
          exact Nat.le_trans (SV.lev_sub (fun off len => .inl (hg0 off len))) (h.lev l c e cs1 h1 x hx)
  unfold ASt.drop
  split
  · exact h
  · rename_i e esz es ho
    refine main _ _ ho (fun _ _ => rfl) ?_
    rintro off len v ⟨e1, esz1, es1, cap, c, ho1, rfl, q1, q2, q3, q4, q5⟩
    rw [ho] at ho1
    simp only [Option.some.injEq, AObj.row.injEq] at ho1
    obtain ⟨rfl, rfl, rfl⟩ := ho1
    obtain ⟨c', p1, p2, p3, p4, p5⟩ := h.lies.obj _ _ _ ho
    rw [q4] at p1
    simp only [Option.some.injEq, Obj.cells.injEq] at p1
    obtain ⟨rfl, _⟩ := p1
    have hlen : ((es.drop off).take len).length = len := by simp; omega
    have hGd : ∀ k, Gd w ι st.O k → Gd w ι (upd (mapO st.L (AObj.sub st.L b fun off len => .pv (.row esz ((es.drop off).take len))) st.O) st.L b none) k := by
      rintro k ⟨h1, h2⟩
      refine ⟨h1, fun ⟨l, c2, o', h3, h4⟩ => h2 ?_⟩
      simp only [upd] at h3
      split at h3
      · cases h3
      · simp only [mapO] at h3
        split at h3
        · cases hq : st.O l c2 with
          | none => simp [hq] at h3
          | some o1 => exact ⟨l, c2, o1, hq, h4⟩
        · exact ⟨l, c2, o', h3, h4⟩
    have hrow : RowAt w (Gd w ι (upd (mapO st.L (AObj.sub st.L b fun off len => .pv (.row esz ((es.drop off).take len))) st.O) st.L b none)) esz ((es.drop off).take len) (ι st.L b) (off * esz) := by
      refine ⟨fun i x hx => ?_, fun _ => ⟨h.lies.lt ho, fun ⟨l, c2, o', h3, h4⟩ => ?_⟩, by omega, fun i j x y hx hy => ?_⟩
      · rw [List.getElem?_take] at hx
        split at hx
        · rw [List.getElem?_drop] at hx; exact p2 _ x hx
        · cases hx
      · simp only [upd] at h3
        split at h3
        · cases h3
        · rename_i hne
          simp only [mapO] at h3
          split at h3
          · cases hq : st.O l c2 with
            | none => simp [hq] at h3
            | some o1 => exact hne (h.lies.inj l c2 o1 _ _ _ hq ho h4)
          · exact hne (h.lies.inj l c2 o' _ _ _ h3 ho h4)
      · rw [List.getElem?_take] at hx
        split at hx
        · rw [List.getElem?_drop] at hx
          obtain ⟨u, hu, hr⟩ := p5 _ j x y hx hy
          refine ⟨u, ?_, hr.mono (fun k hk => ⟨hGd k hk, rfl⟩)⟩
          rw [cell_block q4, ← hu]
          congr 1
          rw [Nat.add_mul]
        · cases hx
    have := RepP.mk_row (cap := cap) (by omega) q3 hrow
    rw [hlen] at this
    exact this
  · rename_i e cs ho
    refine main _ _ ho (fun _ _ => rfl) ?_
    rintro off len v ⟨e1, esz1, es1, cap, c, ho1, _⟩
    rw [ho] at ho1
    cases ho1
end Go.Rd
namespace Go.Rd
open Go.RowKit
structure But (w w' : World) (x : Option Nat) : Prop where
  os : w'.os = w.os
  tape : w'.tape = w.tape
  output : w'.output = w.output
  size : w.heap.size ≤ w'.heap.size
  block : ∀ k, k < w.heap.size → some k ≠ x → w'.heap[k]? = w.heap[k]?
theorem But.refl (w : World) (x : Option Nat) : But w w x := ⟨rfl, rfl, rfl, Nat.le_refl _, fun _ _ _ => rfl⟩
theorem But.of_grown {w w' : World} {x : Option Nat} (h : w.grownBy w' x) : But w w' x := ⟨h.os, h.tape, h.output, h.size, h.block⟩
theorem But.of_below {w w' : World} (h : Below w.heap.size w w') (x : Option Nat) : But w w' x := ⟨h.os, h.tape, h.output, h.size, fun k hk _ => h.block k hk⟩
def iupd (ι : Nat → Nat → Nat) (l b g : Nat) : Nat → Nat → Nat := fun l' b' => if l' = l ∧ b' = b then g else ι l' b'
theorem iupd_same (ι : Nat → Nat → Nat) (l b g : Nat) : iupd ι l b g l b = g := by simp [iupd]
theorem iupd_ne (ι : Nat → Nat → Nat) {l b l' b' : Nat} (g : Nat) (h : ¬ (l' = l ∧ b' = b)) : iupd ι l b g l' b' = ι l' b' := by simp [iupd, h]
theorem RepO.stays {w w' : World} {G G' : Nat → Prop} {ι ι' : Nat → Nat → Nat} {O O' : Store} {k : Nat} {o : AObj} (h : RepO w G ι O k o) (hs : Stays w w' G G' ι ι' O O')
    (hk : w'.heap[k]? = w.heap[k]?) : RepO w' G' ι' O' k o := by
  cases o with
  | row e esz es =>
    obtain ⟨c, q1, q2, q3, q4, q5⟩ := h
    exact ⟨c, hk.trans q1, q2, q3, q4, fun i j x y hx hy => by
      obtain ⟨u, hu, hr⟩ := q5 i j x y hx hy
      exact ⟨u, hu, hr.mono hs.good⟩⟩
  | box e cs =>
    obtain ⟨c, q1, q2, q3⟩ := h
    exact ⟨c, hk.trans q1, q2, fun j y hy => by
      obtain ⟨u, hu, hr⟩ := q3 j y hy
      exact ⟨u, hu, hr.stays hs⟩⟩
section
variable {st : ASt} {a : Act} {w w' : World} {ι : Nat → Nat → Nat}
theorem stays_new (h : Good st a w ι) {d g : Nat} {o : AObj} (hw : Below w.heap.size w w') (hd : st.O st.L d = none) (hg : w.heap.size ≤ g) :
    Stays w w' (Gd w ι st.O) (Gd w' (iupd ι st.L d g) (upd st.O st.L d (some o))) ι (iupd ι st.L d g) st.O (upd st.O st.L d (some o)) := by
  have hne : ∀ l b o1, st.O l b = some o1 → ¬ (l = st.L ∧ b = d) := by
    rintro l b o1 h1 ⟨rfl, rfl⟩; rw [hd] at h1; cases h1
  refine ⟨?_, fun l b o1 h1 => ⟨o1, by rw [upd_ne _ _ (hne l b o1 h1)]; exact h1, AObj.fits_refl _, iupd_ne _ _ (hne l b o1 h1)⟩, fun l b o1 c e h1 h2 => ⟨c, ?_, rfl⟩⟩
  · rintro k ⟨h1, h2⟩
    refine ⟨⟨Nat.lt_of_lt_of_le h1 hw.size, ?_⟩, hw.block k h1⟩
    rintro ⟨l, b, o1, h3, h4⟩
    by_cases e : l = st.L ∧ b = d
    · obtain ⟨rfl, rfl⟩ := e
      rw [iupd_same] at h4
      omega
    · rw [upd_ne _ _ e] at h3
      rw [iupd_ne _ _ e] at h4
      exact h2 ⟨l, b, o1, h3, h4⟩
  · rw [hw.block _ (h.lies.lt h1)]; exact h2
theorem Good.new (h : Good st a w ι) {d g : Nat} {o : AObj} (hw : Below w.heap.size w w') (hd : st.O st.L d = none) (hg : w.heap.size ≤ g)
    (hobj : RepO w' (Gd w' (iupd ι st.L d g) (upd st.O st.L d (some o))) (iupd ι st.L d g) (upd st.O st.L d (some o)) g o)
    (hlev : ∀ e cs, o = .box e cs → ∀ s ∈ cs, s.lev ≤ st.L) :
    Good { st with O := upd st.O st.L d (some o) } a w' (iupd ι st.L d g) := by
  have hs := stays_new h (o := o) hw hd hg
  refine ⟨h.toFits.world hs ⟨fun l b o1 h1 => ?_, fun l b o1 l2 b2 o2 h1 h2 e => ?_⟩, fun l b o1 h1 => ?_, fun l b e cs h1 => ?_⟩
  · by_cases e : l = st.L ∧ b = d
    · obtain ⟨rfl, rfl⟩ := e
      rw [upd_same] at h1
      cases h1
      rw [iupd_same]
      exact hobj
    · rw [upd_ne _ _ e] at h1
      rw [iupd_ne _ _ e]
      exact (h.lies.obj l b o1 h1).stays hs (hw.block _ (h.lies.lt h1))
  · by_cases e1 : l = st.L ∧ b = d <;> by_cases e2 : l2 = st.L ∧ b2 = d
    · exact ⟨e1.1.trans e2.1.symm, e1.2.trans e2.2.symm⟩
    · rw [upd_ne _ _ e2] at h2
      rw [e1.1, e1.2, iupd_same, iupd_ne _ _ e2] at e
      have := h.lies.lt h2
      omega
    · rw [upd_ne _ _ e1] at h1
      rw [e2.1, e2.2, iupd_same, iupd_ne _ _ e1] at e
      have := h.lies.lt h1
      omega
    · rw [upd_ne _ _ e1] at h1
      rw [upd_ne _ _ e2] at h2
      rw [iupd_ne _ _ e1, iupd_ne _ _ e2] at e
      exact h.lies.inj l b o1 l2 b2 o2 h1 h2 e
  · by_cases e : l = st.L ∧ b = d
    · exact Nat.le_of_eq e.1
    · exact h.sup l b o1 (by rw [← upd_ne st.O (some o) e]; exact h1)
  · by_cases e1 : l = st.L ∧ b = d
    · obtain ⟨rfl, rfl⟩ := e1
      have h1' : some o = some (.box e cs) := by rw [← upd_same st.O st.L b (some o)]; exact h1
      exact hlev e cs (Option.some.inj h1')
    · exact h.lev l b e cs (by rw [← upd_ne st.O (some o) e1]; exact h1)
theorem stays_turn (h : Good st a w ι) {l b : Nat} {o o' : AObj} (ho : st.O l b = some o) (hf : o.fits o') (hw : But w w' (some (ι l b)))
    (hroom : ∀ c e, w.heap[ι l b]? = some (.cells c e (0, 0)) → ∃ c', w'.heap[ι l b]? = some (.cells c' e (0, 0)) ∧ c'.size = c.size) :
    Stays w w' (Gd w ι st.O) (Gd w' ι (upd st.O l b (some o'))) ι ι st.O (upd st.O l b (some o')) := by
  refine ⟨?_, fun l2 b2 o1 h1 => ?_, fun l2 b2 o1 c e h1 h2 => ?_⟩
  · rintro k ⟨h1, h2⟩
    refine ⟨⟨Nat.lt_of_lt_of_le h1 hw.size, ?_⟩, hw.block k h1 (fun e => h2 ⟨l, b, o, ho, (Option.some.inj e).symm⟩)⟩
    rintro ⟨l2, b2, o1, h3, h4⟩
    by_cases e : l2 = l ∧ b2 = b
    · obtain ⟨rfl, rfl⟩ := e
      exact h2 ⟨_, _, o, ho, h4⟩
    · rw [upd_ne _ _ e] at h3
      exact h2 ⟨l2, b2, o1, h3, h4⟩
  · by_cases e : l2 = l ∧ b2 = b
    · obtain ⟨rfl, rfl⟩ := e
      rw [ho] at h1; cases h1
      exact ⟨o', upd_same _ _ _ _, hf, rfl⟩
    · exact ⟨o1, by rw [upd_ne _ _ e]; exact h1, AObj.fits_refl _, rfl⟩
  · by_cases e1 : ι l2 b2 = ι l b
    · rw [e1] at h2 ⊢
      exact hroom c e h2
    · exact ⟨c, by rw [hw.block _ (h.lies.lt h1) (fun q => e1 (Option.some.inj q))]; exact h2, rfl⟩
theorem Good.turn (h : Good st a w ι) {l b : Nat} {o o' : AObj} (ho : st.O l b = some o) (hf : o.fits o') (hw : But w w' (some (ι l b)))
    (hroom : ∀ c e, w.heap[ι l b]? = some (.cells c e (0, 0)) → ∃ c', w'.heap[ι l b]? = some (.cells c' e (0, 0)) ∧ c'.size = c.size)
    (hobj : RepO w' (Gd w' ι (upd st.O l b (some o'))) ι (upd st.O l b (some o')) (ι l b) o')
    (hlev : ∀ e cs, o' = .box e cs → ∀ s ∈ cs, s.lev ≤ l) :
    Good { st with O := upd st.O l b (some o') } a w' ι := by
  have hs := stays_turn h ho hf hw hroom
  refine ⟨h.toFits.world hs ⟨fun l2 b2 o1 h1 => ?_, fun l1 b1 o1 l2 b2 o2 h1 h2 e => ?_⟩, fun l2 b2 o1 h1 => ?_, fun l2 b2 e cs h1 => ?_⟩
  · by_cases e : l2 = l ∧ b2 = b
    · obtain ⟨rfl, rfl⟩ := e
      rw [upd_same] at h1
      cases h1
      exact hobj
    · rw [upd_ne _ _ e] at h1
      exact (h.lies.obj l2 b2 o1 h1).stays hs (hw.block _ (h.lies.lt h1) (fun q => e (h.lies.inj _ _ _ _ _ _ h1 ho (Option.some.inj q))))
  · have up : ∀ l2 b2 o2, upd st.O l b (some o') l2 b2 = some o2 → ∃ o3, st.O l2 b2 = some o3 := by
      intro l2 b2 o2 h2
      by_cases e : l2 = l ∧ b2 = b
      · obtain ⟨rfl, rfl⟩ := e; exact ⟨o, ho⟩
      · rw [upd_ne _ _ e] at h2; exact ⟨o2, h2⟩
    obtain ⟨o3, h3⟩ := up _ _ _ h1
    obtain ⟨o4, h4⟩ := up _ _ _ h2
    exact h.lies.inj _ _ _ _ _ _ h3 h4 e
  · by_cases e : l2 = l ∧ b2 = b
    · rw [e.1]; exact h.sup l b o ho
    · exact h.sup l2 b2 o1 (by rw [← upd_ne st.O (some o') e]; exact h1)
  · by_cases e1 : l2 = l ∧ b2 = b
    · obtain ⟨rfl, rfl⟩ := e1
      have h1' : some o' = some (.box e cs) := by rw [← upd_same st.O l2 b2 (some o')]; exact h1
      exact hlev e cs (Option.some.inj h1')
    · exact h.lev l2 b2 e cs (by rw [← upd_ne st.O (some o') e1]; exact h1)
def ASt.kill (st : ASt) (b : Nat) : ASt := st.sub b fun _ _ => .undef
theorem Good.swap (h : Good st a w ι) {b g : Nat} {o : AObj} {e : TypeId} {esz : Nat} {es : List (List PV)} (ho : st.O st.L b = some o) (hw : But w w' (some (ι st.L b))) (hg : g = ι st.L b ∨ w.heap.size ≤ g)
    (hobj : ∀ G' : Nat → Prop, (∀ k, Gd w ι st.O k → G' k) → RepO w' G' (iupd ι st.L b g) (upd (mapO st.L (AObj.sub st.L b fun _ _ => .undef) st.O) st.L b (some (.row e esz es))) g (.row e esz es)) :
    Good { (st.kill b) with O := upd (st.kill b).O st.L b (some (.row e esz es)) } a w' (iupd ι st.L b g) := by
  have hO' : ∀ l c o', (upd (mapO st.L (AObj.sub st.L b fun _ _ => .undef) st.O) st.L b (some (.row e esz es))) l c = some o' →
      (l = st.L ∧ c = b ∧ o' = .row e esz es) ∨ (¬ (l = st.L ∧ c = b) ∧ ∃ o1, st.O l c = some o1 ∧ (o' = o1 ∧ l ≠ st.L ∨ (l = st.L ∧ o' = o1.sub st.L b fun _ _ => .undef))) := by
    intro l c o' h'
    by_cases hq : l = st.L ∧ c = b
    · obtain ⟨rfl, rfl⟩ := hq
      rw [upd_same] at h'
      exact .inl ⟨rfl, rfl, (Option.some.inj h').symm⟩
    · rw [upd_ne _ _ hq] at h'
      refine .inr ⟨hq, ?_⟩
      simp only [mapO] at h'
      split at h'
      · rename_i hl
        cases hqq : st.O l c with
        | none => simp [hqq] at h'
        | some o1 =>
          simp only [hqq, Option.map_some, Option.some.injEq] at h'
          exact ⟨o1, rfl, .inr ⟨hl, h'.symm⟩⟩
      · rename_i hl; exact ⟨o', h', .inl ⟨rfl, hl⟩⟩
  have hgne : ∀ k, Gd w ι st.O k → k ≠ g := by
    rintro k ⟨h1, h2⟩ rfl
    rcases hg with rfl | hg
    · exact h2 ⟨_, _, _, ho, rfl⟩
    · omega
  have hGd : ∀ k, Gd w ι st.O k → Gd w' (iupd ι st.L b g) (upd (mapO st.L (AObj.sub st.L b fun _ _ => .undef) st.O) st.L b (some (.row e esz es))) k := by
    rintro k hk
    refine ⟨Nat.lt_of_lt_of_le hk.1 hw.size, fun ⟨l, c, o', h3, h4⟩ => ?_⟩
    rcases hO' l c o' h3 with ⟨rfl, rfl, _⟩ | ⟨hne, o1, h5, _⟩
    · rw [iupd_same] at h4; exact hgne k hk h4.symm
    · rw [iupd_ne _ _ hne] at h4; exact hk.2 ⟨l, c, o1, h5, h4⟩
  have hheap : ∀ k, Gd w ι st.O k → w'.heap[k]? = w.heap[k]? := fun k hk => hw.block k hk.1 (fun q => hk.2 ⟨_, _, _, ho, (Option.some.inj q).symm⟩)
  -- first the references go, then the world turns
  have hkeep : ∀ l c o1, st.O l c = some o1 → ¬ (l = st.L ∧ c = b) → ∃ o', (upd (mapO st.L (AObj.sub st.L b fun _ _ => .undef) st.O) st.L b none) l c = some o' ∧ o1.fits o' := by
    intro l c o1 h1 hne
    rw [upd_ne _ _ hne]
    simp only [mapO]
    split
    · exact ⟨_, by rw [h1]; rfl, AObj.fits_sub _ _ _ _⟩
    · exact ⟨o1, h1, AObj.fits_refl o1⟩
  have hsub : SubOk w (Gd w ι st.O) (Gd w ι st.O) ι st.O (upd (mapO st.L (AObj.sub st.L b fun _ _ => .undef) st.O) st.L b none) st.L b fun _ _ => .undef := by
    rintro off len v ⟨_, _, _, _, _, _, rfl, _⟩; rfl
  have hst : Stays w w' (Gd w ι st.O) (Gd w' (iupd ι st.L b g) (upd (mapO st.L (AObj.sub st.L b fun _ _ => .undef) st.O) st.L b (some (.row e esz es)))) ι (iupd ι st.L b g)
      (upd (mapO st.L (AObj.sub st.L b fun _ _ => .undef) st.O) st.L b none) (upd (mapO st.L (AObj.sub st.L b fun _ _ => .undef) st.O) st.L b (some (.row e esz es))) := by
    have hne : ∀ l c o1, (upd (mapO st.L (AObj.sub st.L b fun _ _ => .undef) st.O) st.L b none) l c = some o1 → ¬ (l = st.L ∧ c = b) := by
      rintro l c o1 h1 ⟨rfl, rfl⟩; rw [upd_same] at h1; cases h1
    refine ⟨fun k hk => ⟨hGd k hk, hheap k hk⟩, fun l c o1 h1 => ⟨o1, ?_, AObj.fits_refl _, iupd_ne _ _ (hne l c o1 h1)⟩, fun l c o1 cc ee h1 h2 => ⟨cc, ?_, rfl⟩⟩
    · rw [upd_ne _ _ (hne l c o1 h1)]; rw [upd_ne _ _ (hne l c o1 h1)] at h1; exact h1
    · have hn := hne l c o1 h1
      rw [upd_ne _ _ hn] at h1
      obtain ⟨o2, h3⟩ : ∃ o2, st.O l c = some o2 := by
        simp only [mapO] at h1
        split at h1
        · cases hq : st.O l c with
          | none => simp [hq] at h1
          | some o2 => exact ⟨o2, rfl⟩
        · exact ⟨o1, h1⟩
      rw [hw.block _ (h.lies.lt h3) (fun q => hn (h.lies.inj _ _ _ _ _ _ h3 ho (Option.some.inj q)))]
      exact h2
  have hblk : ∀ l c o1, st.O l c = some o1 → ¬ (l = st.L ∧ c = b) → w'.heap[ι l c]? = w.heap[ι l c]? := fun l c o1 h1 hn =>
    hw.block _ (h.lies.lt h1) (fun q => hn (h.lies.inj _ _ _ _ _ _ h1 ho (Option.some.inj q)))
  refine ⟨⟨⟨fun l c o' h' => ?_, fun l c o' l2 c2 o2 h1 h2 e => ?_⟩, h.size, fun t ht => ?_, fun t ht => ?_⟩, fun l c o' h' => ?_, fun l c e' cs h' s hs => ?_⟩
  · rcases hO' l c o' h' with ⟨rfl, rfl, rfl⟩ | ⟨hne, o1, h1, h2⟩
    · rw [iupd_same]; exact hobj _ hGd
    · rw [iupd_ne _ _ hne]
      have hr := h.lies.obj l c o1 h1
      rcases h2 with ⟨rfl, hl⟩ | ⟨hl, rfl⟩
      · cases o' with
        | row e1 esz1 es1 =>
          obtain ⟨cc, q1, q2, q3, q4, q5⟩ := hr
          exact ⟨cc, (hblk l c _ h1 hne).trans q1, q2, q3, q4, fun i j x y hx hy => by
            obtain ⟨u, hu, hru⟩ := q5 i j x y hx hy
            exact ⟨u, hu, hru.mono (fun k hk => ⟨hGd k hk, hheap k hk⟩)⟩⟩
        | box e1 cs =>
          obtain ⟨cc, q1, q2, q3⟩ := hr
          refine ⟨cc, (hblk l c _ h1 hne).trans q1, q2, fun j y hy => ?_⟩
          obtain ⟨u, hu, hru⟩ := q3 j y hy
          have hle : y.lev ≤ l := h.lev l c e1 cs h1 y (List.mem_of_getElem? hy)
          have hlt : y.lev < st.L := by have := h.sup l c _ h1; omega
          have hsame : y.sub st.L b (fun _ _ => .undef) = y := by
            cases y with
            | sl l2 c2 _ _ => simp only [SV.lev] at hlt; simp only [SV.sub]; rw [if_neg (by omega)]
            | slc l2 c2 _ _ _ => simp only [SV.lev] at hlt; simp only [SV.sub]; rw [if_neg (by omega)]
            | pr l2 c2 _ _ => simp only [SV.lev] at hlt; simp only [SV.sub]; rw [if_neg (by omega)]
            | pb l2 c2 _ => simp only [SV.lev] at hlt; simp only [SV.sub]; rw [if_neg (by omega)]
            | clo f caps =>
              simp only [SV.sub]
              rw [if_neg]
              intro hm
              have : st.L ≤ (SV.clo f caps).lev := by
                simp only [SV.lev]
                clear hlt hle hru hu hy
                induction caps with
                | nil => cases hm
                | cons p r ih =>
                  simp only [List.foldr_cons]
                  rcases List.mem_cons.1 hm with rfl | hm
                  · omega
                  · have := ih hm; omega
              omega
            | undef => rfl
            | pv => rfl
          have := hru.sub hsub (fun k hk => hk) hkeep
          rw [hsame] at this
          exact ⟨u, hu, this.stays hst⟩
      · cases o1 with
        | row e1 esz1 es1 =>
          obtain ⟨cc, q1, q2, q3, q4, q5⟩ := hr
          exact ⟨cc, (hblk l c _ h1 hne).trans q1, q2, q3, q4, fun i j x y hx hy => by
            obtain ⟨u, hu, hru⟩ := q5 i j x y hx hy
            exact ⟨u, hu, hru.mono (fun k hk => ⟨hGd k hk, hheap k hk⟩)⟩⟩
        | box e1 cs =>
          obtain ⟨cc, q1, q2, q3⟩ := hr
          refine ⟨cc, (hblk l c _ h1 hne).trans q1, by simpa using q2, fun j y hy => ?_⟩
          rw [List.getElem?_map] at hy
          cases hx : cs[j]? with
          | none => simp [hx] at hy
          | some x =>
            simp only [hx, Option.map_some, Option.some.injEq] at hy
            subst hy
            obtain ⟨u, hu, hru⟩ := q3 j x hx
            exact ⟨u, hu, (hru.sub hsub (fun k hk => hk) hkeep).stays hst⟩
  · rcases hO' l c o' h1 with ⟨rfl, rfl, rfl⟩ | ⟨hne, o3, h3, _⟩ <;> rcases hO' l2 c2 o2 h2 with ⟨rfl, rfl, rfl⟩ | ⟨hne2, o4, h4, _⟩
    · exact ⟨rfl, rfl⟩
    · rw [iupd_same, iupd_ne _ _ hne2] at e
      rcases hg with rfl | hg
      · exact absurd (h.lies.inj _ _ _ _ _ _ h4 ho e.symm) hne2
      · have := h.lies.lt h4; omega
    · rw [iupd_same, iupd_ne _ _ hne] at e
      rcases hg with rfl | hg
      · exact absurd (h.lies.inj _ _ _ _ _ _ h3 ho e) hne
      · have := h.lies.lt h3; omega
    · rw [iupd_ne _ _ hne, iupd_ne _ _ hne2] at e
      exact h.lies.inj _ _ _ _ _ _ h3 h4 e
  · show RepT _ _ _ _ (look (mapTm (TV.sub st.L b fun _ _ => .undef) st.tm) t) _
    rw [look_mapTm (TV.sub st.L b fun _ _ => .undef) rfl st.tm t]
    exact ((h.tm t ht).sub hsub (fun k hk => hk) hkeep).stays hst
  · show look (mapTm (TV.sub st.L b fun _ _ => .undef) st.tm) t = .undef
    rw [look_mapTm (TV.sub st.L b fun _ _ => .undef) rfl st.tm t]
    have : look st.tm t = .undef := h.out t ht
    rw [this]
    rfl
  · rcases hO' l c o' h' with ⟨rfl, rfl, rfl⟩ | ⟨hne, o3, h3, _⟩
    · exact Nat.le_refl _
    · exact h.sup l c o3 h3
  · rcases hO' l c _ h' with ⟨_, _, h2⟩ | ⟨hne, o1, h1, h2⟩
    · cases h2
    · rcases h2 with ⟨rfl, _⟩ | ⟨hl, h2⟩
      · exact h.lev l c e' cs h1 s hs
      · cases o1 with
        | row => simp [AObj.sub] at h2
        | box e1 cs1 =>
          simp only [AObj.sub, AObj.box.injEq] at h2
          obtain ⟨rfl, rfl⟩ := h2
          obtain ⟨x, hx, rfl⟩ := List.mem_map.1 hs
          exact Nat.le_trans (SV.lev_sub (fun _ _ => .inl rfl)) (h.lev l c e' cs1 h1 x hx)
end
end Go.Rd
namespace Go.Rd
open Go.RowKit
structure Moves (st st' : ASt) (w w' : World) (ι ι' : Nat → Nat → Nat) : Prop where
  L : st'.L = st.L
  n : st'.n = st.n
  os : w'.os = w.os
  tape : w'.tape = w.tape
  output : w'.output = w.output
  size : w.heap.size ≤ w'.heap.size
  keep : ∀ k, k < w.heap.size → ¬ Own ι st.O k → w'.heap[k]? = w.heap[k]?
  own : ∀ l b o, st'.O l b = some o → Own ι st.O (ι' l b) ∨ w.heap.size ≤ ι' l b
  low : ∀ l b o, l < st.L → st.O l b = some o → ∃ o', st'.O l b = some o' ∧ o.fits o' ∧ ι' l b = ι l b
  roomy : ∀ l b o c e, l < st.L → st.O l b = some o → w.heap[ι l b]? = some (.cells c e (0, 0)) → ∃ c', w'.heap[ι l b]? = some (.cells c' e (0, 0)) ∧ c'.size = c.size
theorem Moves.refl (st : ASt) (w : World) (ι : Nat → Nat → Nat) : Moves st st w w ι ι :=
  ⟨rfl, rfl, rfl, rfl, rfl, Nat.le_refl _, fun _ _ _ => rfl, fun l b o h => .inl ⟨l, b, o, h, rfl⟩, fun _ _ o _ h => ⟨o, h, AObj.fits_refl o, rfl⟩, fun _ _ _ c _ _ _ h => ⟨c, h, rfl⟩⟩
theorem AObj.fits_trans {a b c : AObj} (h : a.fits b) (k : b.fits c) : a.fits c := by
  cases a <;> cases b <;> cases c <;> first
    | exact h.elim
    | exact k.elim
    | trivial
    | exact ⟨h.1.trans k.1, h.2.1.trans k.2.1, Nat.le_trans h.2.2 k.2.2⟩
theorem Moves.trans {s1 s2 s3 : ASt} {w1 w2 w3 : World} {i1 i2 i3 : Nat → Nat → Nat} (h : Moves s1 s2 w1 w2 i1 i2) (k : Moves s2 s3 w2 w3 i2 i3) : Moves s1 s3 w1 w3 i1 i3 := by
  refine ⟨k.L.trans h.L, k.n.trans h.n, k.os.trans h.os, k.tape.trans h.tape, k.output.trans h.output, Nat.le_trans h.size k.size, fun q hq hn => ?_, fun l b o ho => ?_, fun l b o hl ho => ?_, fun l b o c e hl ho hc => ?_⟩
  · rw [k.keep q (Nat.lt_of_lt_of_le hq h.size) ?_, h.keep q hq hn]
    rintro ⟨l, b, o, ho, rfl⟩
    rcases h.own l b o ho with h1 | h1
    · exact hn h1
    · omega
  · rcases k.own l b o ho with ⟨l2, b2, o2, h2, h3⟩ | h1
    · rw [← h3]; exact h.own l2 b2 o2 h2
    · exact .inr (Nat.le_trans h.size h1)
  · obtain ⟨o2, h1, h2, h3⟩ := h.low l b o hl ho
    obtain ⟨o3, h4, h5, h6⟩ := k.low l b o2 (by rw [h.L]; exact hl) h1
    exact ⟨o3, h4, AObj.fits_trans h2 h5, h6.trans h3⟩
  · obtain ⟨o2, h1, h2, h3⟩ := h.low l b o hl ho
    obtain ⟨c2, h4, h5⟩ := h.roomy l b o c e hl ho hc
    obtain ⟨c3, h6, h7⟩ := k.roomy l b o2 c2 e (by rw [h.L]; exact hl) h1 (by rw [h3]; exact h4)
    exact ⟨c3, by rw [← h3]; exact h6, h7.trans h5⟩
def Does (P : Program) (st : ASt) (a : Act) (w : World) (ι : Nat → Nat → Nat) (K : TV → ASt → Prop) (s : Sem Value) : Prop :=
  ∃ v val st' w' ι', K v st' ∧ s.run P w = .ok val w' ∧ Good st' a w' ι' ∧ Moves st st' w w' ι ι' ∧ RepT w' (Gd w' ι' st'.O) ι' st'.O v val
section
variable {P : Program} {T : TypeId → Option TI} {st : ASt} {a : Act} {w : World} {ι : Nat → Nat → Nat} {K : TV → ASt → Prop}
theorem ASt.drop_L (st : ASt) (b : Nat) : (st.drop b).L = st.L := by unfold ASt.drop; split <;> rfl
theorem ASt.drop_n (st : ASt) (b : Nat) : (st.drop b).n = st.n := by unfold ASt.drop; split <;> rfl
theorem ASt.drop_none (st : ASt) (b : Nat) : (st.drop b).O st.L b = none := by
  unfold ASt.drop
  split
  · assumption
  · exact upd_same _ _ _ _
  · exact upd_same _ _ _ _
theorem drop_O (st : ASt) (b : Nat) {l c : Nat} {o : AObj} (h : (st.drop b).O l c = some o) : ∃ o1, st.O l c = some o1 := by
  unfold ASt.drop at h
  have go : ∀ (g : Nat → Nat → SV), upd (mapO st.L (AObj.sub st.L b g) st.O) st.L b none l c = some o → ∃ o1, st.O l c = some o1 := by
    intro g h
    simp only [upd] at h
    split at h
    · cases h
    · simp only [mapO] at h
      split at h
      · cases hq : st.O l c with
        | none => simp [hq] at h
        | some o1 => exact ⟨o1, rfl⟩
      · exact ⟨o, h⟩
  split at h
  · exact ⟨o, h⟩
  · exact go _ h
  · exact go _ h
theorem drop_low (st : ASt) (b : Nat) {l c : Nat} (hl : l < st.L) : (st.drop b).O l c = st.O l c := by
  unfold ASt.drop
  have go : ∀ (g : Nat → Nat → SV), upd (mapO st.L (AObj.sub st.L b g) st.O) st.L b none l c = st.O l c := by
    intro g
    rw [upd_ne _ _ (by omega)]
    simp only [mapO]
    rw [if_neg (by omega)]
  split
  · rfl
  · exact go _
  · exact go _
theorem Moves.drop (st : ASt) (w : World) (ι : Nat → Nat → Nat) (b : Nat) : Moves st (st.drop b) w w ι ι :=
  ⟨ASt.drop_L _ _, ASt.drop_n _ _, rfl, rfl, rfl, Nat.le_refl _, fun _ _ _ => rfl, fun l c o h => by
      obtain ⟨o1, h1⟩ := drop_O st b h
      exact .inl ⟨l, c, o1, h1, rfl⟩,
    fun l c o hl h => ⟨o, by rw [drop_low st b hl]; exact h, AObj.fits_refl o, rfl⟩, fun _ _ _ c _ _ _ h => ⟨c, h, rfl⟩⟩
theorem Moves.new (h : Good st a w ι) {w' : World} {d g : Nat} {o : AObj} (hw : Below w.heap.size w w') (_hd : st.O st.L d = none) (hg : w.heap.size ≤ g) :
    Moves st { st with O := upd st.O st.L d (some o) } w w' ι (iupd ι st.L d g) := by
  refine ⟨rfl, rfl, hw.os, hw.tape, hw.output, hw.size, fun k hk _ => hw.block k hk, fun l b o1 h1 => ?_, fun l b o1 hl h1 => ⟨o1, ?_, AObj.fits_refl o1, iupd_ne _ _ (by omega)⟩, fun l b o1 c e hl h1 h2 => ⟨c, ?_, rfl⟩⟩
  · by_cases e : l = st.L ∧ b = d
    · rw [e.1, e.2, iupd_same]; exact .inr hg
    · rw [iupd_ne _ _ e]
      have h1' : st.O l b = some o1 := by rw [← upd_ne st.O (some o) e]; exact h1
      exact .inl ⟨l, b, o1, h1', rfl⟩
  · show upd st.O st.L d (some o) l b = some o1
    rw [upd_ne _ _ (by omega)]; exact h1
  · rw [hw.block _ (h.lies.lt h1)]; exact h2
theorem below_alloc' (w : World) (o : Obj) : Below w.heap.size w (w.alloc o) := (Below.refl _ w).alloc (Nat.le_refl _) o
def cellsOf : TV → Option (List SV)
  | .a (.s x) => some [x]
  | .a (.agg xs) => some xs
  | _ => none
theorem cellsOf_rep {G : Nat → Prop} {O : Store} {v : TV} {xs : List SV} {val : Value} (h : cellsOf v = some xs) (hr : RepT w G ι O v val) : RepC w G ι O xs val.cells := by
  unfold cellsOf at h
  split at h
  · rename_i x
    simp only [Option.some.injEq] at h
    subst h
    have hone := RepS.one hr
    have hcell : val.cells = #[val] := by
      revert hone
      cases val <;> simp [Value.cells, Value.oneCell']
    rw [hcell]
    refine ⟨rfl, fun j y hy => ?_⟩
    cases j with
    | zero => simp at hy; subst hy; exact ⟨_, rfl, hr⟩
    | succ j => simp at hy
  · rename_i xs'
    simp only [Option.some.injEq] at h
    subst h
    obtain ⟨cs, rfl, hl, hc⟩ := hr
    exact ⟨hl, hc⟩
  · cases h
theorem RepS.lev_le (h : Good st a w ι) {G : Nat → Prop} {s : SV} {v : Value} (hr : RepS w G ι st.O s v) : s.lev ≤ st.L := by
  cases s with
  | pb l b j => obtain ⟨⟨e, cs, ho⟩, _⟩ := hr; exact h.sup l b _ ho
  | pr l b i j => obtain ⟨e, esz, es, ho, _⟩ := hr; exact h.sup l b _ ho
  | sl l b off len => obtain ⟨e, esz, es, cap, c, ho, _⟩ := hr; exact h.sup l b _ ho
  | slc l b off len cap => obtain ⟨e, esz, es, c, ho, _⟩ := hr; exact h.sup l b _ ho
  | clo f caps =>
    obtain ⟨rfl, hl⟩ := hr
    simp only [SV.lev]
    induction caps with
    | nil => exact Nat.zero_le _
    | cons p r ih =>
      simp only [List.foldr_cons]
      obtain ⟨e, cs, ho⟩ := hl p (by simp)
      have := h.sup _ _ _ ho
      have := ih (fun q hq => hl q (List.mem_cons_of_mem _ hq))
      omega
  | _ => exact Nat.zero_le _
def mkBox (st : ASt) (d : Nat) (e : TypeId) (xs : List SV) (K : TV → ASt → Prop) : Prop :=
  K (.a (.s (.pb st.L d 0))) { st with O := upd st.O st.L d (some (.box e xs)) }
theorem mkBox_sound (h : Good st a w ι) {d : Nat} {e : TypeId} {xs : List SV} {c : Array Value} (hd : st.O st.L d = none) (hc : RepC w (Gd w ι st.O) ι st.O xs c)
    (hk : mkBox st d e xs K) {s : Sem Value} (hs : s.run P w = .ok (.pointer (some ⟨w.heap.size, 0, none⟩)) (w.alloc (.cells c e))) : Does P st a w ι K s := by
  have hw := below_alloc' w (.cells c e)
  have hst := stays_new h (o := .box e xs) hw hd (Nat.le_refl _)
  refine ⟨_, _, _, _, iupd ι st.L d w.heap.size, hk, hs, h.new hw hd (Nat.le_refl _) ⟨c, heap_alloc_new w _, hc.1, fun j y hy => ?_⟩ (fun e' cs he s hs => ?_), Moves.new h hw hd (Nat.le_refl _), ⟨⟨e, xs, upd_same _ _ _ _⟩, by rw [iupd_same]⟩⟩
  · obtain ⟨u, hu, hr⟩ := hc.2 j y hy
    exact ⟨u, hu, hr.stays hst⟩
  · cases he
    obtain ⟨j, hj⟩ := List.getElem?_of_mem hs
    obtain ⟨u, _, hr⟩ := hc.2 j s hj
    exact hr.lev_le h
def eBox (st : ASt) (d : Nat) (e : TypeId) (x : Operand) (K : TV → ASt → Prop) : Prop :=
  ∃ xs, cellsOf ((st.drop d).ev x) = some xs ∧ mkBox (st.drop d) d e xs K
theorem Does.drop {d : Nat} {s : Sem Value} (h : Does P (st.drop d) a w ι K s) : Does P st a w ι K s := by
  obtain ⟨v, val, st', w', ι', h1, h2, h3, h4, h5⟩ := h
  exact ⟨v, val, st', w', ι', h1, h2, h3, (Moves.drop st w ι d).trans h4, h5⟩
theorem eBox_sound (h : Good st a w ι) {d : Nat} {e : TypeId} {x : Operand} (hk : eBox st d e x K) : Does P st a w ι K (Instr.box e (a.eval x)) := by
  obtain ⟨xs, h1, h2⟩ := hk
  have hg := h.drop d
  refine Does.drop (mkBox_sound hg (by rw [ASt.drop_L]; exact ASt.drop_none st d) (cellsOf_rep h1 (hg.ev x)) h2 ?_)
  simp [Instr.box, newVar, newRow]
def eAlloc (T : TypeId → Option TI) (st : ASt) (d : Nat) (e : TypeId) (K : TV → ASt → Prop) : Prop :=
  ∃ ti, T e = some ti ∧ mkBox (st.drop d) d e (ti.zero.map fun v => .pv (.lit v)) K
theorem zero_cells {i : TI} {t : TypeId} (h : i.ok P t) : (if i.agg then Value.agg i.zero.toArray else i.zero.headD undef).cells = i.zero.toArray := by
  obtain ⟨d, agg, size, bytes, zero⟩ := i
  cases agg
  · simp only [Bool.false_eq_true, if_false]
    have h1 := h.one
    have hl := h.zero
    have hd := h.desc
    have hs : size = 1 := h.single rfl
    subst hs
    match zero, hl with
    | [v], _ =>
      simp only [List.all_cons, List.all_nil, Bool.and_true] at h1
      cases v <;> simp_all [Value.cells, Value.oneCell']
  · rfl
end
end Go.Rd
namespace Go.Rd
open Go.RowKit
section
variable {P : Program} {T : TypeId → Option TI} {st : ASt} {a : Act} {w : World} {ι : Nat → Nat → Nat} {K : TV → ASt → Prop}
theorem eAlloc_sound (hT : TOk P T) (h : Good st a w ι) {d : Nat} {e : TypeId} {old : Value} (hk : eAlloc T st d e K) : Does P st a w ι K (Instr.alloc e true old) := by
  obtain ⟨ti, h1, h2⟩ := hk
  have hti := hT e ti h1
  have hg := h.drop d
  refine Does.drop (mkBox_sound hg (by rw [ASt.drop_L]; exact ASt.drop_none st d) (rep_lits ti.zero hti.one) h2 ?_)
  simp only [Instr.alloc, Sem.run_bind, run_zeroValue_ti w hti, Result.andThen_ok]
  have hz := zero_cells hti
  generalize hq : (if ti.agg = true then Value.agg ti.zero.toArray else ti.zero.headD undef) = z at hz ⊢
  simp [newVar, newRow, hz]
def layG {α : Type} (cs : List α) (j : Nat) (xs : List α) : List α :=
  match xs with
  | [s] => cs.set j s
  | xs => if j = 0 ∧ xs.length = cs.length then xs else cs.take j ++ xs ++ cs.drop (j + xs.length)
theorem lay_gen {α : Type} (cs xs : List α) (j : Nat) (h : j + xs.length ≤ cs.length) (k : Nat) :
    (cs.take j ++ xs ++ cs.drop (j + xs.length))[k]? = if j ≤ k ∧ k < j + xs.length then xs[k - j]? else cs[k]? := by
  by_cases h1 : k < j
  · rw [if_neg (by omega), List.append_assoc, List.getElem?_append_left (by simp; omega), List.getElem?_take, if_pos h1]
  · by_cases h2 : k < j + xs.length
    · rw [if_pos (by omega), List.getElem?_append_left (by simp; omega), List.getElem?_append_right (by simp; omega)]
      congr 1
      simp
      omega
    · rw [if_neg (by omega), List.getElem?_append_right (by simp; omega), List.getElem?_drop]
      congr 1
      simp
      omega
theorem lay_eq {α : Type} (cs xs : List α) (j : Nat) (h : j + xs.length ≤ cs.length) (k : Nat) :
    (layG cs j xs)[k]? = if j ≤ k ∧ k < j + xs.length then xs[k - j]? else cs[k]? := by
  unfold layG
  split
  · rename_i s
    rw [List.getElem?_set]
    by_cases hk : j = k
    · subst hk
      simp only [List.length_cons, List.length_nil, Nat.zero_add] at h ⊢
      rw [if_pos trivial, if_pos (by omega), if_pos (by omega)]
      simp
    · rw [if_neg hk, if_neg (by simp; omega)]
  · split
    · rename_i hq
      obtain ⟨rfl, hl⟩ := hq
      by_cases hk : k < xs.length
      · rw [if_pos (by omega)]; simp
      · rw [if_neg (by omega), List.getElem?_eq_none (by omega), List.getElem?_eq_none (by omega)]
    · exact lay_gen cs xs j h k
theorem lay_len {α : Type} (cs xs : List α) (j : Nat) (h : j + xs.length ≤ cs.length) : (layG cs j xs).length = cs.length := by
  unfold layG
  split
  · simp
  · split
    · rename_i hq; exact hq.2
    · simp; omega
def pvs : List SV → Option (List PV)
  | [] => some []
  | .pv p :: r => (pvs r).map (p :: ·)
  | _ :: _ => none
theorem pvs_eq : ∀ {xs : List SV} {ps : List PV}, pvs xs = some ps → xs = ps.map .pv
  | [], ps, h => by simp only [pvs, Option.some.injEq] at h; subst h; rfl
  | s :: r, ps, h => by
    cases s with
    | pv p =>
      simp only [pvs] at h
      cases hr : pvs r with
      | none => simp [hr] at h
      | some q =>
        simp only [hr, Option.map_some, Option.some.injEq] at h
        subst h
        rw [pvs_eq hr]
        rfl
    | _ => simp [pvs] at h
def ASt.freezeOp (st : ASt) (x : Operand) : ASt :=
  match st.ev x with
  | .a (.s (.sl l b _ _)) => if l = st.L then st.drop b else st
  | _ => st
def eStore (T : TypeId → Option TI) (st : ASt) (t : TypeId) (ad x : Operand) (K : TV → ASt → Prop) : Prop :=
  ∃ ti, T t = some ti ∧ match st.ev ad with
    | .a (.s (.pb l b j)) => (match st.O l b with
      | some (.box e cs) => ∃ xs, cellsOf (st.ev x) = some xs ∧ xs.length = ti.size ∧ j + xs.length ≤ cs.length ∧ (l = st.L ∨ ∀ s ∈ xs, s.lev ≤ l) ∧
          K .undef { st with O := upd st.O l b (some (.box e (layG cs j xs))) }
      | _ => False)
    | .a (.s (.pr l b i j)) => (match (st.freezeOp x).O l b with
      | some (.row e esz es) => ∃ xs ps y, cellsOf ((st.freezeOp x).ev x) = some xs ∧ pvs xs = some ps ∧ ps.length = ti.size ∧ es[i]? = some y ∧ j + ps.length ≤ y.length ∧
          K .undef { (st.freezeOp x) with O := upd (st.freezeOp x).O l b (some (.row e esz (es.set i (layG y j ps)))) }
      | _ => False)
    | _ => False
theorem But.setRow (w : World) (g : Nat) (cs : Array Value) : But w (w.setRow g cs) (some g) :=
  ⟨rfl, rfl, rfl, by simp [World.setRow], fun k _ hk => setRow_other w g k cs (fun e => hk (by rw [e]))⟩
theorem Moves.turn (h : Good st a w ι) {w' : World} {l b : Nat} {o o' : AObj} (ho : st.O l b = some o) (hf : o.fits o') (hw : But w w' (some (ι l b)))
    (hroom : ∀ c e, w.heap[ι l b]? = some (.cells c e (0, 0)) → ∃ c', w'.heap[ι l b]? = some (.cells c' e (0, 0)) ∧ c'.size = c.size) :
    Moves st { st with O := upd st.O l b (some o') } w w' ι ι := by
  refine ⟨rfl, rfl, hw.os, hw.tape, hw.output, hw.size, fun k hk hn => hw.block k hk (fun e => hn ⟨l, b, o, ho, (Option.some.inj e).symm⟩), fun l2 b2 o2 h2 => ?_, fun l2 b2 o2 hl h2 => ?_, fun l2 b2 o2 c e hl h2 hc => ?_⟩
  · by_cases e : l2 = l ∧ b2 = b
    · rw [e.1, e.2]; exact .inl ⟨l, b, o, ho, rfl⟩
    · have h2' : st.O l2 b2 = some o2 := by rw [← upd_ne st.O (some o') e]; exact h2
      exact .inl ⟨l2, b2, o2, h2', rfl⟩
  · by_cases e : l2 = l ∧ b2 = b
    · obtain ⟨rfl, rfl⟩ := e
      rw [ho] at h2; cases h2
      exact ⟨o', upd_same _ _ _ _, hf, rfl⟩
    · refine ⟨o2, ?_, AObj.fits_refl _, rfl⟩
      show upd st.O l b (some o') l2 b2 = some o2
      rw [upd_ne _ _ e]; exact h2
  · by_cases e1 : ι l2 b2 = ι l b
    · rw [e1] at hc ⊢; exact hroom c e hc
    · exact ⟨c, by rw [hw.block _ (h.lies.lt h2) (fun q => e1 (Option.some.inj q))]; exact hc, rfl⟩
theorem run_storeVar_at {t : TypeId} {ti : TI} (hti : ti.ok P t) {g o : Nat} {cur : Array Value} {e : TypeId} {v : Value} (hg : w.heap[g]? = some (.cells cur e (0, 0)))
    (hv : v.cells.size = ti.size) (hfit : o + v.cells.size ≤ cur.size) (h1 : ∀ u ∈ v.cells.toList, u.oneCell' = true) :
    (Instr.storeAt t (.pointer (some ⟨g, o, none⟩)) v).run P w = .ok () (w.setRow g (cur.toList.take o ++ v.cells.toList ++ cur.toList.drop (o + v.cells.toList.length)).toArray) := by
  have hs := run_storeCells_at P g o e v.cells.toList 0 cur w hg (by simpa using hfit) h1
  simp only [Nat.add_zero] at hs
  simp only [Instr.storeAt, Sem.run_bind, run_sureAddr_some, Result.andThen_ok, storeVar, run_sizeOf_ti w hti, hv, ne_eq, not_true_eq_false, if_false]
  exact hs
theorem stored_getElem? (cur : Array Value) (vs : List Value) (o k n : Nat) (hn : vs.length = n) (h : o + n ≤ cur.size) :
    ((cur.toList.take o ++ vs ++ cur.toList.drop (o + vs.length)).toArray)[k]? = if o ≤ k ∧ k < o + n then vs[k - o]? else cur[k]? := by
  subst hn
  rw [List.getElem?_toArray]
  have hc : cur.toList.length = cur.size := Array.length_toList
  by_cases h1 : k < o
  · rw [if_neg (by omega), List.append_assoc, List.getElem?_append_left (by simp; omega), List.getElem?_take, if_pos h1]; simp
  · by_cases h2 : k < o + vs.length
    · rw [if_pos (by omega), List.getElem?_append_left (by simp; omega), List.getElem?_append_right (by simp; omega)]
      congr 1
      simp
      omega
    · rw [if_neg (by omega), List.getElem?_append_right (by simp; omega), List.getElem?_drop]
      rw [Array.getElem?_toList]
      congr 1
      simp
      omega
theorem Good.freezeOp (h : Good st a w ι) (x : Operand) : Good (st.freezeOp x) a w ι := by
  unfold ASt.freezeOp
  split
  · split
    · exact h.drop _
    · exact h
  · exact h
theorem Moves.freezeOp (st : ASt) (w : World) (ι : Nat → Nat → Nat) (x : Operand) : Moves st (st.freezeOp x) w w ι ι := by
  unfold ASt.freezeOp
  split
  · split
    · exact Moves.drop _ _ _ _
    · exact Moves.refl _ _ _
  · exact Moves.refl _ _ _
def DoesU (P : Program) (st : ASt) (a : Act) (w : World) (ι : Nat → Nat → Nat) (K : TV → ASt → Prop) (s : Sem Unit) : Prop :=
  ∃ st' w' ι', K .undef st' ∧ s.run P w = .ok () w' ∧ Good st' a w' ι' ∧ Moves st st' w w' ι ι'
theorem eStore_sound (hT : TOk P T) (h : Good st a w ι) {t : TypeId} {ad x : Operand} (hk : eStore T st t ad x K) :
    DoesU P st a w ι K (Instr.storeAt t (a.eval ad) (a.eval x)) := by
  obtain ⟨ti, h1, hk⟩ := hk
  have hti := hT t ti h1
  have had := h.ev ad
  split at hk
  · rename_i l b j hq
    rw [hq] at had
    obtain ⟨⟨e, cs, ho⟩, hp⟩ := had
    simp only [ho] at hk
    obtain ⟨xs, hx, hlen, hfit, hlv, hk⟩ := hk
    have hrep := cellsOf_rep hx (h.ev x)
    obtain ⟨c, hc, hcs, hcr⟩ := h.lies.obj l b _ ho
    have hone : ∀ u ∈ (a.eval x).cells.toList, u.oneCell' = true := by
      intro u hu
      obtain ⟨i, hi⟩ := List.getElem?_of_mem hu
      have hlt : i < xs.length := by have := (List.getElem?_eq_some_iff.1 hi).1; rw [Array.length_toList, hrep.1] at this; exact this
      obtain ⟨u', hu', hr⟩ := hrep.2 i xs[i] (by simp)
      have : u' = u := by simp at hi; rw [hi] at hu'; exact (Option.some.inj hu').symm
      subst this
      exact hr.one
    have hrun := run_storeVar_at (P := P) hti (o := j) hc (v := a.eval x) (by rw [hrep.1, hlen]) (by rw [hrep.1, hcs]; exact hfit) hone
    rw [← hp] at hrun
    have hvl : (a.eval x).cells.toList.length = xs.length := by rw [Array.length_toList, hrep.1]
    have hroom : ∀ c1 e1, w.heap[ι l b]? = some (.cells c1 e1 (0, 0)) → ∃ c', (w.setRow (ι l b) (c.toList.take j ++ (a.eval x).cells.toList ++ c.toList.drop (j + (a.eval x).cells.toList.length)).toArray).heap[ι l b]? = some (.cells c' e1 (0, 0)) ∧ c'.size = c1.size := by
      intro c1 e1 hq1
      rw [hc] at hq1
      simp only [Option.some.injEq, Obj.cells.injEq, and_true] at hq1
      obtain ⟨rfl, rfl⟩ := hq1
      refine ⟨_, setRow_heap w _ _ _ _ _ hc, ?_⟩
      simp only [List.size_toArray, List.length_append, List.length_take, List.length_drop, hvl, Array.length_toList]
      omega
    have hst := stays_turn h (o' := .box e (layG cs j xs)) ho trivial (But.setRow w _ _) hroom
    refine ⟨_, _, ι, hk, hrun, h.turn ho trivial (But.setRow w _ _) hroom ⟨_, setRow_heap w _ _ _ _ _ hc, ?_, fun k y hy => ?_⟩ (fun e' cs' he s hs => ?_), Moves.turn h ho trivial (But.setRow w _ _) hroom⟩
    · obtain ⟨c', q1, q2⟩ := hroom c e hc
      rw [setRow_heap w _ _ _ _ _ hc] at q1
      simp only [Option.some.injEq, Obj.cells.injEq, and_true] at q1
      rw [q1, q2, hcs]
      exact (lay_len cs xs j hfit).symm
    · have hy' := hy
      rw [lay_eq cs xs j hfit k] at hy'
      rw [stored_getElem? c _ j k xs.length hvl (by rw [hcs]; exact hfit)]
      split at hy'
      · rename_i hin
        rw [if_pos hin]
        obtain ⟨u, hu, hr⟩ := hrep.2 _ y hy'
        exact ⟨u, by simpa using hu, hr.stays hst⟩
      · rename_i hin
        rw [if_neg hin]
        obtain ⟨u, hu, hr⟩ := hcr k y hy'
        exact ⟨u, hu, hr.stays hst⟩
    · simp only [AObj.box.injEq] at he
      obtain ⟨rfl, rfl⟩ := he
      obtain ⟨k, hk'⟩ := List.getElem?_of_mem hs
      rw [lay_eq cs xs j hfit k] at hk'
      split at hk'
      · rcases hlv with rfl | hlv
        · obtain ⟨u, _, hr⟩ := hrep.2 _ s hk'
          exact hr.lev_le h
        · exact hlv s (List.mem_of_getElem? hk')
      · exact h.lev l b e cs ho s (List.mem_of_getElem? hk')
  · rename_i l b i j hq
    have hfg := h.freezeOp x
    rw [hq] at had
    generalize hst1 : st.freezeOp x = st1 at hfg hk
    split at hk
    · rename_i e esz es ho
      obtain ⟨xs, ps, y, hx, hps, hlen, hy, hfit, hk⟩ := hk
      obtain ⟨c, hc, hel, hcs, hmax, hcr⟩ := hfg.lies.obj l b _ ho
      -- the address, as it was before the freezing
      obtain ⟨e0, esz0, es0, ho0, hp⟩ := had
      have hsame : esz0 = esz := by
        have key : ∀ (s2 : ASt), st.freezeOp x = s2 → ∀ o2, s2.O l b = some o2 → ∃ o1, st.O l b = some o1 ∧ o1.fits o2 := by
          intro s2 h2 o2 h3
          rw [← h2] at h3
          unfold ASt.freezeOp at h3
          have dr : ∀ d, (st.drop d).O l b = some o2 → ∃ o1, st.O l b = some o1 ∧ o1.fits o2 := by
            intro d h4
            unfold ASt.drop at h4
            have go : ∀ (g : Nat → Nat → SV), upd (mapO st.L (AObj.sub st.L d g) st.O) st.L d none l b = some o2 → ∃ o1, st.O l b = some o1 ∧ o1.fits o2 := by
              intro g h5
              simp only [upd] at h5
              split at h5
              · cases h5
              · simp only [mapO] at h5
                split at h5
                · cases hq2 : st.O l b with
                  | none => simp [hq2] at h5
                  | some o1 =>
                    simp only [hq2, Option.map_some, Option.some.injEq] at h5
                    subst h5
                    exact ⟨o1, rfl, AObj.fits_sub _ _ _ _⟩
                · exact ⟨o2, h5, AObj.fits_refl _⟩
            split at h4
            · exact ⟨o2, h4, AObj.fits_refl _⟩
            · exact go _ h4
            · exact go _ h4
          split at h3
          · split at h3
            · exact dr _ h3
            · exact ⟨o2, h3, AObj.fits_refl _⟩
          · exact ⟨o2, h3, AObj.fits_refl _⟩
        obtain ⟨o1, h3, h4⟩ := key st1 hst1 _ ho
        rw [ho0] at h3
        cases h3
        exact h4.2.1
      subst hsame
      have hrep := cellsOf_rep hx (hfg.ev x)
      have hxs := pvs_eq hps
      have hxl : xs.length = ps.length := by rw [hxs]; simp
      have hone : ∀ u ∈ (a.eval x).cells.toList, u.oneCell' = true := by
        intro u hu
        obtain ⟨i, hi⟩ := List.getElem?_of_mem hu
        have hlt : i < xs.length := by have := (List.getElem?_eq_some_iff.1 hi).1; rw [Array.length_toList, hrep.1] at this; exact this
        obtain ⟨u', hu', hr⟩ := hrep.2 i xs[i] (by simp)
        have : u' = u := by simp at hi; rw [hi] at hu'; exact (Option.some.inj hu').symm
        subst this
        exact hr.one
      have hyl := hel i y hy
      have hilt : i < es.length := (List.getElem?_eq_some_iff.1 hy).1
      have hbig : i * esz0 + esz0 ≤ c.size := by
        have : (i + 1) * esz0 ≤ es.length * esz0 := Nat.mul_le_mul_right _ hilt
        rw [Nat.add_mul] at this
        omega
      have hvl : (a.eval x).cells.toList.length = ps.length := by rw [Array.length_toList, hrep.1, hxl]
      have hvs : (a.eval x).cells.size = ps.length := by rw [hrep.1, hxl]
      have hrun := run_storeVar_at (P := P) hti (o := i * esz0 + j) hc (v := a.eval x) (by rw [hvs, hlen]) (by rw [hvs]; omega) hone
      rw [← hp] at hrun
      have hroom : ∀ c1 e1, w.heap[ι l b]? = some (.cells c1 e1 (0, 0)) → ∃ c', (w.setRow (ι l b) (c.toList.take (i * esz0 + j) ++ (a.eval x).cells.toList ++ c.toList.drop (i * esz0 + j + (a.eval x).cells.toList.length)).toArray).heap[ι l b]? = some (.cells c' e1 (0, 0)) ∧ c'.size = c1.size := by
        intro c1 e1 hq1
        rw [hc] at hq1
        simp only [Option.some.injEq, Obj.cells.injEq, and_true] at hq1
        obtain ⟨rfl, rfl⟩ := hq1
        refine ⟨_, setRow_heap w _ _ _ _ _ hc, ?_⟩
        simp only [List.size_toArray, List.length_append, List.length_take, List.length_drop, hvl, Array.length_toList]
        omega
      have hf : (AObj.row e esz0 es).fits (.row e esz0 (es.set i (layG y j ps))) := ⟨rfl, rfl, by simp⟩
      have hst := stays_turn hfg (o' := .row e esz0 (es.set i (layG y j ps))) ho hf (But.setRow w _ _) hroom
      have hmv : Moves st st1 w w ι ι := by rw [← hst1]; exact Moves.freezeOp st w ι x
      refine ⟨_, _, ι, hk, hrun, hfg.turn ho hf (But.setRow w _ _) hroom ⟨_, setRow_heap w _ _ _ _ _ hc, fun i2 x2 h2 => ?_, ?_, by simpa using hmax, fun i2 j2 x2 y2 h2 h3 => ?_⟩ (fun e' cs' he s hs => by cases he), hmv.trans (Moves.turn hfg ho hf (But.setRow w _ _) hroom)⟩
      · rw [List.getElem?_set] at h2
        split at h2
        · simp only [Option.some.injEq] at h2
          rw [← h2, lay_len y ps j hfit, hyl]
        · exact hel _ _ h2
      · obtain ⟨c', q1, q2⟩ := hroom c e hc
        rw [setRow_heap w _ _ _ _ _ hc] at q1
        simp only [Option.some.injEq, Obj.cells.injEq, and_true] at q1
        rw [q1, q2]
        simpa using hcs
      · rw [stored_getElem? c _ _ _ ps.length hvl (by omega)]
        rw [List.getElem?_set] at h2
        have hj2 : j2 < esz0 := by
          have hl2 : x2.length = esz0 := by
            split at h2
            · simp only [Option.some.injEq] at h2
              rw [← h2, lay_len y ps j hfit, hyl]
            · exact hel _ _ h2
          have := (List.getElem?_eq_some_iff.1 h3).1
          omega
        split at h2
        · rename_i hii
          subst hii
          simp only [Option.some.injEq] at h2
          subst h2
          rw [lay_eq y ps j hfit j2] at h3
          by_cases hin : j ≤ j2 ∧ j2 < j + ps.length
          · rw [if_pos hin] at h3
            rw [if_pos (by omega)]
            obtain ⟨u, hu, hr⟩ := hrep.2 (j2 - j) (.pv y2) (by rw [hxs, List.getElem?_map, h3]; rfl)
            refine ⟨u, ?_, ?_⟩
            · rw [show i * esz0 + j2 - (i * esz0 + j) = j2 - j by omega]; simpa using hu
            · exact RepP.mono hr hst.good
          · rw [if_neg hin] at h3
            rw [if_neg (by omega)]
            obtain ⟨u, hu, hr⟩ := hcr i j2 y y2 hy h3
            exact ⟨u, hu, hr.mono hst.good⟩
        · rename_i hii
          have hout : ¬ (i * esz0 + j ≤ i2 * esz0 + j2 ∧ i2 * esz0 + j2 < i * esz0 + j + ps.length) := by
            rintro ⟨q1, q2⟩
            have hlt : j + ps.length ≤ esz0 := by omega
            rcases Nat.lt_or_ge i2 i with h4 | h4
            · have : (i2 + 1) * esz0 ≤ i * esz0 := Nat.mul_le_mul_right _ h4
              rw [Nat.add_mul] at this
              omega
            · have h5 : i + 1 ≤ i2 := by omega
              have : (i + 1) * esz0 ≤ i2 * esz0 := Nat.mul_le_mul_right _ h5
              rw [Nat.add_mul] at this
              omega
          rw [if_neg hout]
          obtain ⟨u, hu, hr⟩ := hcr i2 j2 x2 y2 h2 h3
          exact ⟨u, hu, hr.mono hst.good⟩
    · exact hk.elim
  · exact hk.elim
end
end Go.Rd
namespace Go.Rd
open Go.RowKit
section
variable {P : Program} {T : TypeId → Option TI} {st : ASt} {a : Act} {w : World} {ι : Nat → Nat → Nat} {K : TV → ASt → Prop}
def mkRow (st : ASt) (d : Nat) (e : TypeId) (esz : Nat) (es : List (List PV)) (K : TV → ASt → Prop) : Prop :=
  K (.a (.s (.sl st.L d 0 es.length))) { st with O := upd st.O st.L d (some (.row e esz es)) } ∨ K (row esz es) st
theorem mkRow_sound (h : Good st a w ι) {d : Nat} {e : TypeId} {esz g cap : Nat} {es : List (List PV)} {c : Array Value} {w' : World} (hd : st.O st.L d = none)
    (hw : Below w.heap.size w w') (hg : w.heap.size ≤ g) (hc : w'.heap[g]? = some (.cells c e (0, 0))) (hcs : cap * esz = c.size) (hcap : es.length ≤ cap) (hmax : cap ≤ maxLen)
    (hel : ∀ (i : Nat) (x : List PV), es[i]? = some x → x.length = esz)
    (hr : ∀ (i j : Nat) (x : List PV) (y : PV), es[i]? = some x → x[j]? = some y → ∃ u, c[i * esz + j]? = some u ∧ RepP w (Gd w ι st.O) y u)
    (hk : mkRow st d e esz es K) {s : Sem Value} (hs : s.run P w = .ok (.slice (some ⟨g, 0, none⟩) es.length cap) w') : Does P st a w ι K s := by
  rcases hk with hk | hk
  · have hst := stays_new h (o := .row e esz es) hw hd hg
    refine ⟨_, _, _, _, iupd ι st.L d g, hk, hs, h.new hw hd hg ⟨c, hc, hel, ?_, by omega, fun i j x y hx hy => ?_⟩ (fun e' cs he s hs => by cases he), Moves.new h hw hd hg,
      ⟨e, esz, es, cap, c, upd_same _ _ _ _, by rw [iupd_same]; simp, by simp, hcap, hmax, by rw [iupd_same]; exact hc, by simpa using hcs⟩⟩
    · rw [← hcs]; exact Nat.mul_le_mul_right _ hcap
    · obtain ⟨u, hu, hru⟩ := hr i j x y hx hy
      exact ⟨u, hu, hru.mono hst.good⟩
  · have hgd : ∀ k, Gd w ι st.O k → Gd w' ι st.O k ∧ w'.heap[k]? = w.heap[k]? := fun k hk => ⟨⟨Nat.lt_of_lt_of_le hk.1 hw.size, hk.2⟩, hw.block k hk.1⟩
    have hst : Stays w w' (Gd w ι st.O) (Gd w' ι st.O) ι ι st.O st.O :=
      ⟨hgd, fun l b o ho => ⟨o, ho, AObj.fits_refl o, rfl⟩, fun l b o c e ho hc => ⟨c, by rw [hw.block _ (h.lies.lt ho)]; exact hc, rfl⟩⟩
    refine ⟨_, _, st, w', ι, hk, hs, ⟨h.toFits.world hst ⟨fun l b o ho => (h.lies.obj l b o ho).stays hst (hw.block _ (h.lies.lt ho)), h.lies.inj⟩, h.sup, h.lev⟩,
      ⟨rfl, rfl, hw.os, hw.tape, hw.output, hw.size, fun k hk _ => hw.block k hk, fun l b o ho => .inl ⟨l, b, o, ho, rfl⟩, fun l b o _ ho => ⟨o, ho, AObj.fits_refl o, rfl⟩, fun l b o c e _ ho hc => ⟨c, by rw [hw.block _ (h.lies.lt ho)]; exact hc, rfl⟩⟩, ?_⟩
    refine RepP.mk_row hcap hmax ⟨hel, fun _ => ⟨(Array.getElem?_eq_some_iff.1 hc).1, fun ⟨l, b, o, ho, e1⟩ => ?_⟩, by omega, fun i j x y hx hy => ?_⟩
    · have := h.lies.lt ho
      omega
    · obtain ⟨u, hu, hru⟩ := hr i j x y hx hy
      exact ⟨u, by rw [cell_block hc, Nat.zero_add]; exact hu, hru.mono hgd⟩
def eMake (T : TypeId → Option TI) (st : ASt) (d : Nat) (t : TypeId) (len cap : Operand) (K : TV → ASt → Prop) : Prop :=
  ∃ ti e ei, T t = some ti ∧ ti.d = .slice e ∧ T e = some ei ∧ 0 < ei.size ∧ match (st.drop d).ev len, (st.drop d).ev cap with
    | .a (.s (.pv (.lit (.int _ l)))), .a (.s (.pv (.lit (.int _ c)))) => 0 ≤ l ∧ l ≤ c ∧ (ei.bytes : Int) * c ≤ 281474976710656 ∧ c ≤ 9223372036854775807 ∧
        mkRow (st.drop d) d e ei.size (List.replicate l.toNat (ei.zero.map .lit)) K
    | _, _ => False
theorem zero_at {i : TI} {t : TypeId} (hi : i.ok P t) {n k j : Nat} {y : PV} (hk : k < n) (hy : (i.zero.map PV.lit)[j]? = some y) {G : Nat → Prop} :
    ∃ u, (madeCells i.zero.toArray (n * i.size))[k * i.size + j]? = some u ∧ RepP w G y u := by
  rw [List.getElem?_map] at hy
  cases hz : i.zero[j]? with
  | none => simp [hz] at hy
  | some u =>
    simp only [hz, Option.map_some, Option.some.injEq] at hy
    subst hy
    have hj : j < i.size := by rw [← hi.zero]; exact (List.getElem?_eq_some_iff.1 hz).1
    have hlt : k * i.size + j < n * i.size := by
      have : (k + 1) * i.size ≤ n * i.size := Nat.mul_le_mul_right _ hk
      rw [Nat.add_mul] at this
      omega
    refine ⟨u, ?_, .lit _ (List.all_eq_true.1 hi.one u (List.mem_of_getElem? hz))⟩
    have hmod : (k * i.size + j) % i.size = j := by rw [Nat.mul_comm, Nat.mul_add_mod, Nat.mod_eq_of_lt hj]
    have hzj : i.zero.toArray[(k * i.size + j) % i.zero.toArray.size]! = u := by
      simp only [List.size_toArray, hi.zero, hmod]
      rw [getElem!_pos i.zero.toArray j (by simp; rw [hi.zero]; exact hj)]
      have := (List.getElem?_eq_some_iff.1 hz).2
      simpa using this
    simp only [madeCells, Array.getElem?_map, Array.getElem?_range, hlt, if_true, Option.map_some, hzj]
theorem eMake_sound (hT : TOk P T) (h : Good st a w ι) {d : Nat} {t : TypeId} {len cap : Operand} (hk : eMake T st d t len cap K) :
    Does P st a w ι K (Instr.makeSlice t (a.eval len) (a.eval cap)) := by
  obtain ⟨ti, e, ei, h1, h2, h3, hsz, hk⟩ := hk
  have hd := (hT t ti h1).desc
  rw [h2] at hd
  have hei := hT e ei h3
  obtain ⟨inf, hi, hs, hb, hz⟩ := hei.info
  have hg := h.drop d
  have hl := hg.ev len
  have hc := hg.ev cap
  split at hk
  · rename_i kl l kc c ql qc
    rw [ql] at hl
    rw [qc] at hc
    obtain ⟨el, _⟩ := RepP.lit_inv hl
    obtain ⟨ec, _⟩ := RepP.lit_inv hc
    obtain ⟨p1, p2, p3, p4, hk⟩ := hk
    have hrun := run_make (P := P) w t e inf _ hd.1 hi hz kl kc l c p1 p2 (by rw [hb]; exact p3) p4
    rw [← el, ← ec, zero_cells hei, hs] at hrun
    refine Does.drop (mkRow_sound hg (g := w.heap.size) (cap := c.toNat) (by rw [ASt.drop_L]; exact ASt.drop_none st d) (below_alloc' w _) (Nat.le_refl _) (heap_alloc_new w _) (size_madeCells _ _).symm (by simp; omega)
      (by unfold maxLen; omega) (fun i x hx => ?_) (fun i j x y hx hy => ?_) hk (by simpa using hrun))
    · rw [List.getElem?_replicate] at hx
      split at hx
      · cases hx; simp [hei.zero]
      · cases hx
    · rw [List.getElem?_replicate] at hx
      split at hx
      · cases hx
        exact zero_at hei (by omega) hy
      · cases hx
  · exact hk.elim
def elemsOf (sz : Nat) (ev : Operand → TV) : Nat → List (Nat × Operand) → Option (List (List PV))
  | _, [] => some []
  | k, (i, x) :: r => match cellsOf (ev x) with
    | some xs => match pvs xs, elemsOf sz ev (k + 1) r with
      | some ps, some es => if i = k ∧ ps.length = sz then some (ps :: es) else none
      | _, _ => none
    | none => none
def eBuildSlice (T : TypeId → Option TI) (st : ASt) (d : Nat) (t : TypeId) (len : Nat) (parts : Array (Nat × Operand)) (K : TV → ASt → Prop) : Prop :=
  ∃ ti e ei es, T t = some ti ∧ ti.d = .slice e ∧ T e = some ei ∧ 0 < ei.size ∧ elemsOf ei.size (st.drop d).ev 0 parts.toList = some es ∧ es.length = len ∧ len * ei.size ≤ 16777216 ∧
    mkRow (st.drop d) d e ei.size es K
theorem fill_elems {G : Nat → Prop} {O : Store} {sz : Nat} {ev : Operand → TV} {ev' : Operand → Value} (hev : ∀ x, RepT w G ι O (ev x) (ev' x)) :
    ∀ (parts : List (Nat × Operand)) (k : Nat) (es : List (List PV)) (c : Array Value), elemsOf sz ev k parts = some es → (k + parts.length) * sz = c.size →
      ∃ c', Instr.fill (fun i => some (i * sz, sz)) c (parts.map fun p => (p.1, ev' p.2)) = some c' ∧ c'.size = c.size ∧ es.length = parts.length ∧
        (∀ (i : Nat) (x : List PV), es[i]? = some x → x.length = sz) ∧
        (∀ q, q < k * sz → c'[q]? = c[q]?) ∧
        ∀ (i j : Nat) (x : List PV) (y : PV), es[i]? = some x → x[j]? = some y → ∃ u, c'[(k + i) * sz + j]? = some u ∧ RepP w G y u
  | [], k, es, c, h, hc => by
    simp only [elemsOf, Option.some.injEq] at h
    subst h
    exact ⟨c, rfl, rfl, rfl, by simp, fun _ _ => rfl, by simp⟩
  | (i, x) :: r, k, es, c, h, hc => by
    simp only [elemsOf] at h
    split at h
    · rename_i xs hxs
      split at h
      · rename_i ps es' hps hes
        split at h
        · rename_i hq
          obtain ⟨rfl, hpl⟩ := hq
          simp only [Option.some.injEq] at h
          subst h
          have hrep := cellsOf_rep hxs (hev x)
          have hx := pvs_eq hps
          have hl : (ev' x).cells.size = sz := by rw [hrep.1, hx]; simpa using hpl
          have hk1 : i * sz + sz ≤ c.size := by
            rw [← hc]
            have : (i + 1) * sz ≤ (i + ((i, x) :: r).length) * sz := Nat.mul_le_mul_right _ (by simp)
            rw [Nat.add_mul, Nat.one_mul] at this
            exact this
          have he : (ev' x).cells.zipIdx.foldl (fun cs p => cs.setIfInBounds (i * sz + p.2) p.1) c = ((ev' x).cells.toList.zipIdx).foldl (fun cs p => cs.setIfInBounds (i * sz + p.2) p.1) c := by
            rw [← Array.foldl_toList, Array.toList_zipIdx]
          have hll : (ev' x).cells.toList.length = sz := by rw [Array.length_toList]; exact hl
          obtain ⟨f1, f2⟩ := foldl_set (i * sz) (ev' x).cells.toList 0 c (by rw [hll]; omega)
          obtain ⟨c', g1, g2, g3, g4, g5, g6⟩ := fill_elems hev r (i + 1) es' _ hes (by rw [f1, ← hc]; congr 1; simp; omega)
          refine ⟨c', ?_, by rw [g2, f1], by simp [g3], fun i2 x2 h2 => ?_, fun q hq => ?_, fun i2 j2 x2 y2 h2 h3 => ?_⟩
          · simp only [List.map_cons, Instr.fill, hl]
            rw [if_neg (by simp; omega)]
            rw [he]
            exact g1
          · cases i2 with
            | zero => simp at h2; subst h2; exact hpl
            | succ i2 => exact g4 i2 x2 (by simpa using h2)
          · have hq2 : q < (i + 1) * sz := by rw [Nat.add_mul]; omega
            rw [g5 q hq2, f2 q, if_neg (by omega)]
          · cases i2 with
            | zero =>
              simp at h2
              subst h2
              have hj : j2 < sz := by rw [← hpl]; exact (List.getElem?_eq_some_iff.1 h3).1
              have hq2 : i * sz + j2 < (i + 1) * sz := by rw [Nat.add_mul]; omega
              obtain ⟨u, hu, hr⟩ := hrep.2 j2 (.pv y2) (by rw [hx, List.getElem?_map, h3]; rfl)
              refine ⟨u, ?_, hr⟩
              rw [Nat.add_zero, g5 _ hq2, f2 _, if_pos (by rw [hll]; omega)]
              rw [show i * sz + j2 - (i * sz + 0) = j2 by omega]
              simpa using hu
            | succ i2 =>
              obtain ⟨u, hu, hr⟩ := g6 i2 j2 x2 y2 (by simpa using h2) h3
              exact ⟨u, by rw [← hu]; congr 2; congr 1; omega, hr⟩
        · cases h
      · cases h
    · cases h
theorem eBuildSlice_sound (hT : TOk P T) (h : Good st a w ι) {d : Nat} {t : TypeId} {len : Nat} {parts : Array (Nat × Operand)} (hk : eBuildSlice T st d t len parts K) :
    Does P st a w ι K (Instr.buildSlice t len (parts.map fun p => (p.1, a.eval p.2))) := by
  obtain ⟨ti, e, ei, es, h1, h2, h3, hsz, h4, h5, h6, hk⟩ := hk
  have hd := (hT t ti h1).desc
  rw [h2] at hd
  have hei := hT e ei h3
  have hg := h.drop d
  have hplen : ∀ (l : List (Nat × Operand)) (k : Nat) (es : List (List PV)), elemsOf ei.size (st.drop d).ev k l = some es → es.length = l.length := by
    intro l
    induction l with
    | nil => intro k es h; simp only [elemsOf, Option.some.injEq] at h; subst h; rfl
    | cons p r ih =>
      intro k es h
      simp only [elemsOf] at h
      split at h
      · split at h
        · rename_i ps es' _ hes
          split at h
          · simp only [Option.some.injEq] at h
            subst h
            simp [ih _ _ hes]
          · cases h
        · cases h
      · cases h
  have hpl := hplen _ _ _ h4
  obtain ⟨c', g1, g2, g3, g4, _, g6⟩ := fill_elems (w := w) (ι := ι) (ev' := a.eval) (fun x => hg.ev x) parts.toList 0 es (madeCells ei.zero.toArray (len * ei.size)) h4 (by rw [size_madeCells, Nat.zero_add, ← hpl, h5])
  have hrun : (Instr.buildSlice t len (parts.map fun p => (p.1, a.eval p.2))).run P w = .ok (.slice (some ⟨w.heap.size, 0, none⟩) len len) (w.alloc (.cells c' e)) := by
    have g1' : Instr.fill (fun i => some (i * ei.size, ei.size)) (madeCells ei.zero.toArray (len * ei.size)) (parts.map fun p => (p.1, a.eval p.2)).toList = some c' := by
      rw [← g1]; congr 1; simp
    simp only [Instr.buildSlice, Sem.run_bind, run_underlying hd.1, Result.andThen_ok, run_sizeOf_ti w hei]
    rw [if_neg (by omega)]
    by_cases h0 : len * ei.size = 0
    · have hm : ((Array.range (len * ei.size)).map fun x => (#[] : Array Value)[x % (#[] : Array Value).size]!) = madeCells ei.zero.toArray (len * ei.size) := by
        rw [h0]; simp [madeCells]
      rw [if_pos h0]
      simp only [pure_bind, hm, g1']
      simp [newRow]
    · rw [if_neg h0]
      have hm : ((Array.range (len * ei.size)).map fun x => ei.zero.toArray[x % ei.zero.toArray.size]!) = madeCells ei.zero.toArray (len * ei.size) := rfl
      simp only [pure_bind, Sem.run_bind, run_zeroValue_ti w hei, Result.andThen_ok, zero_cells hei, hm, g1']
      simp [newRow]
  refine Does.drop (mkRow_sound hg (g := w.heap.size) (cap := len) (by rw [ASt.drop_L]; exact ASt.drop_none st d) (below_alloc' w _) (Nat.le_refl _) (heap_alloc_new w _) ?_ (by omega) ?_ g4 ?_ hk (by rw [h5]; exact hrun))
  · rw [g2, size_madeCells]
  · have : len * 1 ≤ len * ei.size := Nat.mul_le_mul_left _ hsz
    unfold maxLen
    omega
  · intro i j x y hx hy
    obtain ⟨u, hu, hr⟩ := g6 i j x y hx hy
    exact ⟨u, by simpa using hu, hr⟩
end
end Go.Rd
namespace Go.Rd
open Go.RowKit
structure News (w : World) (G : Nat → Prop) (sz : Nat) (es : List (List PV)) (ad : Addr) (news : List Value) : Prop where
  len : news.length = es.length * sz
  cell : ∀ j u, news[j]? = some u → w.cell? (ad.add j) = some u
  one : ∀ u ∈ news, u.oneCell' = true
  el : ∀ (i : Nat) (x : List PV), es[i]? = some x → x.length = sz
  rep : ∀ (i j : Nat) (x : List PV) (y : PV), es[i]? = some x → x[j]? = some y → ∃ u, news[i * sz + j]? = some u ∧ RepP w G y u
theorem news_nil {w : World} {G : Nat → Prop} {sz : Nat} {ad : Addr} : News w G sz [] ad [] := ⟨by simp, fun j u h => by simp at h, by simp, fun i x h => by simp at h, fun i j x y h => by simp at h⟩
theorem news_at {w : World} {G : Nat → Prop} {sz : Nat} {es : List (List PV)} {blk o : Nat} (hsz : 0 < sz) (hel : ∀ (i : Nat) (x : List PV), es[i]? = some x → x.length = sz)
    (hc : ∀ (i j : Nat) (x : List PV) (y : PV), es[i]? = some x → x[j]? = some y → ∃ u, w.cell? ⟨blk, o + i * sz + j, none⟩ = some u ∧ RepP w G y u) :
    ∃ news, News w G sz es ⟨blk, o, none⟩ news := by
  have split : ∀ j, j < es.length * sz → ∃ x y, es[j / sz]? = some x ∧ x[j % sz]? = some y ∧ j = j / sz * sz + j % sz := by
    intro j hj
    have h1 : j / sz < es.length := (Nat.div_lt_iff_lt_mul hsz).2 hj
    have h2 : j % sz < (es[j / sz]).length := by
      rw [hel (j / sz) es[j / sz] (by simp)]
      exact Nat.mod_lt _ hsz
    exact ⟨es[j / sz], (es[j / sz])[j % sz], by simp, by simp, by have := Nat.div_add_mod j sz; rw [Nat.mul_comm] at this; omega⟩
  refine ⟨(List.range (es.length * sz)).map fun j => (w.cell? ⟨blk, o + j, none⟩).getD undef, by simp, fun j u hu => ?_, fun u hu => ?_, hel, fun i j x y hx hy => ?_⟩
  · rw [List.getElem?_map] at hu
    by_cases hj : j < es.length * sz
    · obtain ⟨x, y, h1, h2, h3⟩ := split j hj
      obtain ⟨v, hv, _⟩ := hc _ _ x y h1 h2
      rw [List.getElem?_range hj] at hu
      have e : o + j = o + j / sz * sz + j % sz := by omega
      simp only [Option.map_some, Option.some.injEq, e, hv, Option.getD_some] at hu
      subst hu
      rw [addr_add, e]
      exact hv
    · rw [List.getElem?_eq_none (by simp; omega)] at hu
      cases hu
  · obtain ⟨j, hj, rfl⟩ := List.mem_map.1 hu
    have hj := List.mem_range.1 hj
    obtain ⟨x, y, h1, h2, h3⟩ := split j hj
    obtain ⟨v, hv, hr⟩ := hc _ _ x y h1 h2
    have e : o + j = o + j / sz * sz + j % sz := by omega
    simp only [e, hv, Option.getD_some]
    exact hr.one
  · obtain ⟨v, hv, hr⟩ := hc i j x y hx hy
    have hi : i < es.length := (List.getElem?_eq_some_iff.1 hx).1
    have hj : j < sz := by rw [← hel i x hx]; exact (List.getElem?_eq_some_iff.1 hy).1
    have hlt : i * sz + j < es.length * sz := by
      have : (i + 1) * sz ≤ es.length * sz := Nat.mul_le_mul_right _ hi
      rw [Nat.add_mul] at this
      omega
    refine ⟨v, ?_, hr⟩
    rw [List.getElem?_map, List.getElem?_range hlt]
    simp [← Nat.add_assoc, hv]
section
variable {P : Program} {T : TypeId → Option TI} {st : ASt} {a : Act} {w : World} {ι : Nat → Nat → Nat} {K : TV → ASt → Prop}
def newsOf (O : Store) (v : TV) (e : TypeId) (sz : Nat) (F : List (List PV) → Prop) : Prop :=
  match v with
  | .a (.s (.pv (.row esz es))) => esz = sz ∧ F es
  | .a (.s (.sl l b off len)) => ∃ es, O l b = some (.row e sz es) ∧ F ((es.drop off).take len)
  | _ => False
def eAppend (T : TypeId → Option TI) (st : ASt) (d : Nat) (t : TypeId) (s x : Operand) (K : TV → ASt → Prop) : Prop :=
  ∃ ti e ei, T t = some ti ∧ ti.d = .slice e ∧ T e = some ei ∧ 0 < ei.size ∧ newsOf st.O (st.ev x) e ei.size fun es' =>
    match st.ev s with
    | .a (.s (.pv (.lit (.slice none 0 0)))) => (match es' with
      | [] => K nilS st
      | p :: r => (p :: r).length * ei.bytes ≤ 140737488355328 ∧ (p :: r).length ≤ maxLen ∧ mkRow (st.drop d) d e ei.size (p :: r) K)
    | .a (.s (.sl l b off len)) => l = st.L ∧ off = 0 ∧ ∃ es, st.O st.L b = some (.row e ei.size es) ∧ len = es.length ∧ (es.length + es'.length) * ei.bytes ≤ 140737488355328 ∧ es.length + es'.length ≤ maxLen ∧
        K (.a (.s (.sl st.L b 0 (es ++ es').length))) { (st.kill b) with O := upd (st.kill b).O st.L b (some (.row e ei.size (es ++ es'))) }
    | _ => False
theorem newsOf_inv (h : Good st a w ι) {e : TypeId} {sz : Nat} (hsz : 0 < sz) {v : TV} {val : Value} {F : List (List PV) → Prop} (hr : RepT w (Gd w ι st.O) ι st.O v val) (hn : newsOf st.O v e sz F) :
    ∃ es ad m c news, F es ∧ val = .slice (some ad) m c ∧ m = es.length ∧ News w (Gd w ι st.O) sz es ad news := by
  unfold newsOf at hn
  split at hn
  · obtain ⟨blk, off, sp, cap, rfl, hsp, hcap, _, hrow⟩ := RepP.row_inv hr
    obtain ⟨rfl, hF⟩ := hn
    rcases hsp with rfl | rfl
    case inr => obtain rfl := List.eq_nil_of_length_eq_zero (Nat.le_zero.1 hcap); exact ⟨_, _, _, _, [], hF, rfl, rfl, news_nil⟩
    obtain ⟨news, hnews⟩ := news_at hsz hrow.len hrow.cell
    exact ⟨_, _, _, _, news, hF, rfl, rfl, hnews⟩
  · rename_i l b off len
    obtain ⟨es, ho, hF⟩ := hn
    obtain ⟨e1, esz, es1, cap, c, ho1, rfl, q1, q2, q3, q4, q5⟩ := hr
    rw [ho] at ho1
    simp only [Option.some.injEq, AObj.row.injEq] at ho1
    obtain ⟨rfl, rfl, rfl⟩ := ho1
    obtain ⟨c', p1, p2, p3, p4, p5⟩ := h.lies.obj _ _ _ ho
    rw [q4] at p1
    simp only [Option.some.injEq, Obj.cells.injEq, and_true] at p1
    obtain ⟨rfl, _⟩ := p1
    have hl : ((es.drop off).take len).length = len := by simp; omega
    obtain ⟨news, hnews⟩ := news_at (w := w) (G := Gd w ι st.O) (es := (es.drop off).take len) (blk := ι l b) (o := off * sz) hsz (fun i x hx => by
        rw [List.getElem?_take] at hx
        split at hx
        · rw [List.getElem?_drop] at hx; exact p2 _ x hx
        · cases hx) (fun i j x y hx hy => by
        rw [List.getElem?_take] at hx
        split at hx
        · rw [List.getElem?_drop] at hx
          obtain ⟨u, hu, hru⟩ := p5 _ j x y hx hy
          refine ⟨u, ?_, hru⟩
          rw [cell_block q4, ← hu]
          congr 1
          rw [Nat.add_mul]
        · cases hx)
    exact ⟨_, _, _, _, news, hF, rfl, hl.symm, hnews⟩
  · exact hn.elim
theorem below_drew_alloc (w : World) (o : Obj) : Below w.heap.size w (w.drew.alloc o) := ((Below.refl _ w).drew).alloc (Nat.le_refl _) o
theorem take_news {w : World} {G : Nat → Prop} {sz : Nat} {es : List (List PV)} {ad : Addr} {news : List Value} (h : News w G sz es ad news) (rest : Array Value)
    (i j : Nat) (x : List PV) (y : PV) (hx : es[i]? = some x) (hy : x[j]? = some y) : ∃ u, (news.toArray ++ rest)[i * sz + j]? = some u ∧ RepP w G y u := by
  obtain ⟨u, hu, hr⟩ := h.rep i j x y hx hy
  refine ⟨u, ?_, hr⟩
  have hlt : i * sz + j < news.length := (List.getElem?_eq_some_iff.1 hu).1
  rw [Array.getElem?_append_left (by simpa using hlt)]
  simpa using hu
theorem eAppend_sound (hT : TOk P T) (h : Good st a w ι) {d : Nat} {t ty : TypeId} {s x : Operand} (hk : eAppend T st d t s x K) :
    Does P st a w ι K (Builtin.append_ #[t, t] ty #[a.eval s, a.eval x]) := by
  obtain ⟨ti, e, ei, h1, h2, h3, hsz, hk⟩ := hk
  have hd := (hT t ti h1).desc
  rw [h2] at hd
  have hei := hT e ei h3
  obtain ⟨inf, hi, hs, hb, hz⟩ := hei.info
  have hzc := zero_cells hei
  obtain ⟨es', ad, m, c, news, hk, hxv, rfl, hnews⟩ := newsOf_inv h hsz (h.ev x) hk
  rw [hxv]
  have hsv := h.ev s
  have hnl : news.length = es'.length * inf.size := by rw [hs]; exact hnews.len
  split at hk
  · rename_i hq
    rw [hq] at hsv
    obtain ⟨esv, _⟩ := RepP.lit_inv hsv
    rw [esv]
    split at hk
    · have hnn : news = [] := List.eq_nil_of_length_eq_zero (by rw [hnews.len]; simp)
      have hf := run_firstCells_some (P := P) w inf.size 0 ad 0 c news (by rw [hnn]; simp) hnews.cell
      refine ⟨_, .slice none 0 0, st, w, ι, hk, ?_, h, Moves.refl _ _ _, RepP.lit _ rfl⟩
      subst hnn
      simp [Builtin.append_, run_underlying hd.1, sizeOf, typeInfo, hi, Builtin.lenOf, hf]
    · rename_i p r
      obtain ⟨hby, hmax, hk⟩ := hk
      have hrun := run_append_nil (P := P) w t ty e inf _ hd.1 hi hz ad (p :: r).length c news hnl hnews.cell (by simp) (by unfold maxLen at hmax; omega) (by rw [hb]; omega)
      have hg := h.drop d
      have hG : ∀ k, Gd w ι st.O k → Gd w ι (st.drop d).O k := by
        rintro k ⟨q1, q2⟩
        refine ⟨q1, fun ⟨l, b, o, q3, q4⟩ => ?_⟩
        obtain ⟨o1, q5⟩ := drop_O st d q3
        exact q2 ⟨l, b, o1, q5, q4⟩
      refine Does.drop (mkRow_sound hg (g := w.heap.size) (cap := grownCap w (p :: r).length 0 e) (by rw [ASt.drop_L]; exact ASt.drop_none st d) (below_drew_alloc w _) (Nat.le_refl _)
        (heap_alloc_new w.drew _) ?_ (grownCap_ge w _ 0 e) (grownCap_le_maxLen w _ 0 e hmax) hnews.el ?_ hk hrun)
      · have hge := grownCap_ge w (p :: r).length 0 e
        simp only [Array.size_append, List.size_toArray, size_zeroCells, hnews.len, hzc, hei.zero]
        rw [← Nat.add_mul]
        congr 1
        omega
      · intro i j x y hx hy
        obtain ⟨u, hu, hr⟩ := take_news hnews _ i j x y hx hy
        exact ⟨u, hu, hr.mono (fun k hk => ⟨hG k hk, rfl⟩)⟩
  · rename_i l b off len hq
    rw [hq] at hsv
    obtain ⟨rfl, rfl, es, ho, rfl, hby, hmax, hk⟩ := hk
    obtain ⟨e1, esz, es1, cap, cur, ho1, hv, q1, q2, q3, q4, q5⟩ := hsv
    rw [ho] at ho1
    simp only [Option.some.injEq, AObj.row.injEq] at ho1
    obtain ⟨rfl, rfl, rfl⟩ := ho1
    obtain ⟨c', p1, p2, p3, p4, p5⟩ := h.lies.obj _ _ _ ho
    rw [q4] at p1
    simp only [Option.some.injEq, Obj.cells.injEq, and_true] at p1
    obtain ⟨rfl, _⟩ := p1
    simp only [Nat.zero_mul, Nat.zero_add] at hv q1 q5
    rw [hv]
    have hlen : (es ++ es').length = es.length + es'.length := by simp
    -- the elements of the longer row
    have hel : ∀ (i : Nat) (x : List PV), (es ++ es')[i]? = some x → x.length = ei.size := by
      intro i x hx
      rw [List.getElem?_append] at hx
      split at hx
      · exact p2 i x hx
      · exact hnews.el _ x hx
    have fin : ∀ (g cap' : Nat) (cur' : Array Value) (w' : World), (Builtin.append_ #[t, t] ty #[.slice (some ⟨ι st.L b, 0, none⟩) es.length cap, .slice (some ad) es'.length c]).run P w = .ok (.slice (some ⟨g, 0, none⟩) (es.length + es'.length) cap') w' →
        But w w' (some (ι st.L b)) → (g = ι st.L b ∨ w.heap.size ≤ g) → w'.heap[g]? = some (.cells cur' e (0, 0)) → cap' * ei.size = cur'.size → es.length + es'.length ≤ cap' → cap' ≤ maxLen →
        (∀ q, q < es.length * ei.size → cur'[q]? = cur[q]?) → (∀ q, q < es'.length * ei.size → cur'[es.length * ei.size + q]? = news[q]?) →
        Does P st a w ι K (Builtin.append_ #[t, t] ty #[.slice (some ⟨ι st.L b, 0, none⟩) es.length cap, .slice (some ad) es'.length c]) := by
      intro g cap' cur' w' hrun hbut hg hheap hcs hcap hcm hold hnew
      have hkeep : ∀ k, Gd w ι st.O k → w'.heap[k]? = w.heap[k]? := fun k hk => hbut.block k hk.1 (fun e => hk.2 ⟨_, _, _, ho, (Option.some.inj e).symm⟩)
      have hcells : ∀ (G' : Nat → Prop), (∀ k, Gd w ι st.O k → G' k) → ∀ (i j : Nat) (x : List PV) (y : PV), (es ++ es')[i]? = some x → x[j]? = some y → ∃ u, cur'[i * ei.size + j]? = some u ∧ RepP w' G' y u := by
        intro G' hG' i j x y hx hy
        have hj : j < ei.size := by rw [← hel i x hx]; exact (List.getElem?_eq_some_iff.1 hy).1
        rw [List.getElem?_append] at hx
        split at hx
        · rename_i hi
          have hlt : i * ei.size + j < es.length * ei.size := by
            have : (i + 1) * ei.size ≤ es.length * ei.size := Nat.mul_le_mul_right _ hi
            rw [Nat.add_mul] at this
            omega
          obtain ⟨u, hu, hr⟩ := p5 i j x y hx hy
          exact ⟨u, by rw [hold _ hlt]; exact hu, hr.mono (fun k hk => ⟨hG' k hk, hkeep k hk⟩)⟩
        · rename_i hi
          have hil : i - es.length < es'.length := (List.getElem?_eq_some_iff.1 hx).1
          have hlt : (i - es.length) * ei.size + j < es'.length * ei.size := by
            have : (i - es.length + 1) * ei.size ≤ es'.length * ei.size := Nat.mul_le_mul_right _ hil
            rw [Nat.add_mul] at this
            omega
          obtain ⟨u, hu, hr⟩ := hnews.rep _ j x y hx hy
          refine ⟨u, ?_, hr.mono (fun k hk => ⟨hG' k hk, hkeep k hk⟩)⟩
          rw [show i * ei.size + j = es.length * ei.size + ((i - es.length) * ei.size + j) by
            rw [← Nat.add_assoc, ← Nat.add_mul]; congr 2; omega, hnew _ hlt]
          exact hu
      have hsw := h.swap (w' := w') (e := e) (esz := ei.size) (es := es ++ es') ho hbut hg (fun G' hG' => ⟨cur', hheap, hel, by rw [hlen, ← hcs]; exact Nat.mul_le_mul_right _ hcap, by omega, hcells G' hG'⟩)
      refine ⟨_, _, _, w', iupd ι st.L b g, hk, hrun, hsw, ?_, ⟨e, ei.size, es ++ es', cap', cur', upd_same _ _ _ _, ?_, by omega, by omega, hcm, ?_, by simpa using hcs⟩⟩
      · have hO' : ∀ l c o', upd (mapO st.L (AObj.sub st.L b fun _ _ => .undef) st.O) st.L b (some (.row e ei.size (es ++ es'))) l c = some o' → (l = st.L ∧ c = b) ∨ (¬ (l = st.L ∧ c = b) ∧ ∃ o1, st.O l c = some o1) := by
          intro l c o' h'
          by_cases hq : l = st.L ∧ c = b
          · exact .inl hq
          · rw [upd_ne _ _ hq] at h'
            refine .inr ⟨hq, ?_⟩
            simp only [mapO] at h'
            split at h'
            · cases hqq : st.O l c with
              | none => simp [hqq] at h'
              | some o1 => exact ⟨o1, rfl⟩
            · exact ⟨o', h'⟩
        refine ⟨rfl, rfl, hbut.os, hbut.tape, hbut.output, hbut.size, fun k hk hn => hbut.block k hk (fun e => hn ⟨_, _, _, ho, (Option.some.inj e).symm⟩), fun l c o' h' => ?_, fun l c o1 hl h' => ?_, fun l c o1 c1 e1 hl h' hc1 => ⟨c1, ?_, rfl⟩⟩
        · rcases hO' l c o' h' with ⟨rfl, rfl⟩ | ⟨hne, o1, h3⟩
          · rw [iupd_same]
            rcases hg with rfl | hg
            · exact .inl ⟨_, _, _, ho, rfl⟩
            · exact .inr hg
          · rw [iupd_ne _ _ hne]; exact .inl ⟨l, c, o1, h3, rfl⟩
        · refine ⟨o1, ?_, AObj.fits_refl _, iupd_ne _ _ (by omega)⟩
          show upd (mapO st.L (AObj.sub st.L b fun _ _ => .undef) st.O) st.L b (some (.row e ei.size (es ++ es'))) l c = some o1
          rw [upd_ne _ _ (by omega)]
          simp only [mapO]
          rw [if_neg (by omega)]
          exact h'
        · rw [hbut.block _ (h.lies.lt h') (fun e => by have := h.lies.inj _ _ _ _ _ _ h' ho (Option.some.inj e); omega)]
          exact hc1
      · rw [iupd_same, hlen]; simp
      · rw [iupd_same]; exact hheap
    by_cases hroom : es.length + es'.length ≤ cap
    · have hfit : es.length * inf.size + news.length ≤ cur.size := by rw [hnl, ← q5, hs, ← Nat.add_mul]; exact Nat.mul_le_mul_right _ hroom
      have hrun := run_append_room (P := P) w t ty e inf hd.1 hi (ι st.L b) es.length cap cur q4 ad es'.length c news hnl hnews.cell hnews.one hroom hfit
      have hsz2 : (cur.toList.take (es.length * inf.size) ++ news ++ cur.toList.drop (es.length * inf.size + news.length)).toArray.size = cur.size := by
        simp only [List.size_toArray, List.length_append, List.length_take, List.length_drop, Array.length_toList]
        omega
      refine fin (ι st.L b) cap _ _ hrun (But.setRow w _ _) (.inl rfl) (setRow_heap w _ _ _ _ _ q4) (by rw [hsz2]; exact q5) hroom q3 (fun q hq => ?_) (fun q hq => ?_)
      · rw [stored_getElem? cur news (es.length * inf.size) q news.length rfl hfit, if_neg (by rw [hs]; omega)]
      · rw [stored_getElem? cur news (es.length * inf.size) _ news.length rfl hfit, if_pos (by rw [hs, hnews.len]; omega)]
        congr 1
        rw [hs]; omega
    · have hlt : cap < es.length + es'.length := by omega
      have holds : ∀ j v, (cur.toList.take (es.length * ei.size))[j]? = some v → w.cell? ((⟨ι st.L b, 0, none⟩ : Addr).add j) = some v := by
        intro j v hj
        rw [List.getElem?_take] at hj
        split at hj
        · rw [addr_add, cell_block q4]
          simpa using hj
        · cases hj
      have hol : (cur.toList.take (es.length * ei.size)).length = es.length * inf.size := by
        have hcl : cur.toList.length = cur.size := Array.length_toList
        have hfit : es.length * ei.size ≤ cap * ei.size := Nat.mul_le_mul_right _ q2
        rw [List.length_take, hcl, hs]
        omega
      have hrun := run_append_grow (P := P) w t ty e inf _ hd.1 hi hz ⟨ι st.L b, 0, none⟩ es.length cap _ hol holds ad es'.length c news hnl hnews.cell hlt (by unfold maxLen at hmax; omega)
        (growslice_fits hlt (by rw [hb]; exact hby))
      have hge := grownCap_ge w (es.length + es'.length) cap e
      have hol' : (cur.toList.take (es.length * ei.size)).length = es.length * ei.size := by rw [hol, hs]
      refine fin w.heap.size (grownCap w (es.length + es'.length) cap e) _ _ hrun (But.of_below (below_drew_alloc w _) _) (.inr (Nat.le_refl _)) (heap_alloc_new w.drew _) ?_ hge (grownCap_le_maxLen w _ _ e hmax) (fun q hq => ?_) (fun q hq => ?_)
      · simp only [Array.size_append, List.size_toArray, hol', hnews.len, size_zeroCells, hzc, hei.zero]
        rw [← Nat.add_mul, ← Nat.add_mul]
        congr 1
        omega
      · have s1 : q < (cur.toList.take (es.length * ei.size)).toArray.size := by rw [List.size_toArray, hol']; exact hq
        rw [Array.getElem?_append_left (by rw [Array.size_append]; omega), Array.getElem?_append_left s1]
        simp only [List.getElem?_toArray, List.getElem?_take, hq, if_true, Array.getElem?_toList]
      · have s1 : (cur.toList.take (es.length * ei.size)).toArray.size = es.length * ei.size := by rw [List.size_toArray, hol']
        have s2 : news.toArray.size = es'.length * ei.size := by rw [List.size_toArray, hnews.len]
        rw [Array.getElem?_append_left (by rw [Array.size_append, s1, s2]; omega), Array.getElem?_append_right (by rw [s1]; omega), s1]
        simp only [List.getElem?_toArray]
        congr 1
        omega
  · exact hk.elim
end
end Go.Rd
