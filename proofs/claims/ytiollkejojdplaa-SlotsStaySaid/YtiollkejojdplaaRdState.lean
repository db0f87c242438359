/- RD, part 2: the state of a call as pure data, and what it says of the machine's frame and world. -/
import Derived.Test.YtiollkejojdplaaRdBase
namespace Go.Rd
open Go.RowKit

inductive AV where
  | s (x : SV)
  | agg (xs : List SV)
  | pel (esz : Nat) (es : List (List PV)) (i j : Nat)     -- pointer into a row that nobody writes

inductive TV where
  | undef
  | a (x : AV)
  | tup (xs : List AV)

abbrev lit (v : Value) : TV := .a (.s (.pv (.lit v)))
abbrev int (n : Int) : TV := lit (.int .i64 n)
abbrev bool (b : Bool) : TV := lit (.bool b)
abbrev str (s : ByteArray) : TV := lit (.string s)
abbrev row (esz : Nat) (es : List (List PV)) : TV := .a (.s (.pv (.row esz es)))
abbrev nilS : TV := lit (.slice none 0 0)

section
variable (w : World) (G : Nat → Prop) (ι : Nat → Nat → Nat) (O : Store)
def RepA : AV → Value → Prop
  | .s x, v => RepS w G ι O x v
  | .agg xs, v => ∃ cs, v = .agg cs ∧ cs.size = xs.length ∧ ∀ (j : Nat) (y : SV), xs[j]? = some y → ∃ u, cs[j]? = some u ∧ RepS w G ι O y u
  | .pel esz es i j, v => ∃ blk off, RowAt w G esz es blk off ∧ v = .pointer (some ⟨blk, off + i * esz + j, none⟩)
def RepT : TV → Value → Prop
  | .undef, _ => True
  | .a x, v => RepA w G ι O x v
  | .tup xs, v => ∃ vs, v = .tuple vs ∧ vs.size = xs.length ∧ ∀ (j : Nat) (y : AV), xs[j]? = some y → ∃ u, vs[j]? = some u ∧ RepA w G ι O y u
end

def AV.live (O : Store) : AV → Prop
  | .s x => x.live O
  | .agg xs => ∀ x ∈ xs, x.live O
  | .pel .. => True
def TV.live (O : Store) : TV → Prop
  | .undef => True
  | .a x => x.live O
  | .tup xs => ∀ x ∈ xs, x.live O

/-- What lets every represented value stay represented. -/
structure Stays (w w' : World) (G G' : Nat → Prop) (ι ι' : Nat → Nat → Nat) (O O' : Store) : Prop where
  good : ∀ k, G k → G' k ∧ w'.heap[k]? = w.heap[k]?
  objs : ∀ l b o, O l b = some o → ∃ o', O' l b = some o' ∧ o.fits o' ∧ ι' l b = ι l b
  room : ∀ l b o c e, O l b = some o → w.heap[ι l b]? = some (.cells c e (0, 0)) → ∃ c', w'.heap[ι l b]? = some (.cells c' e (0, 0)) ∧ c'.size = c.size

section
variable {w w' : World} {G G' : Nat → Prop} {ι ι' : Nat → Nat → Nat} {O O' : Store}
theorem RepS.stays {s : SV} {v : Value} (h : RepS w G ι O s v) (hs : Stays w w' G G' ι ι' O O') : RepS w' G' ι' O' s v :=
  h.mono hs.good (fun l b o ho _ => hs.objs l b o ho) hs.room
theorem RepA.stays {s : AV} {v : Value} (h : RepA w G ι O s v) (hs : Stays w w' G G' ι ι' O O') : RepA w' G' ι' O' s v := by
  cases s with
  | s x => exact RepS.stays h hs
  | agg xs =>
    obtain ⟨cs, rfl, hl, hc⟩ := h
    refine ⟨cs, rfl, hl, fun j y hy => ?_⟩
    obtain ⟨u, hu, hr⟩ := hc j y hy
    exact ⟨u, hu, hr.stays hs⟩
  | pel esz es i j =>
    obtain ⟨blk, off, hr, rfl⟩ := h
    exact ⟨blk, off, hr.mono hs.good, rfl⟩
theorem RepT.stays {s : TV} {v : Value} (h : RepT w G ι O s v) (hs : Stays w w' G G' ι ι' O O') : RepT w' G' ι' O' s v := by
  cases s with
  | undef => trivial
  | a x => exact RepA.stays h hs
  | tup xs =>
    obtain ⟨vs, rfl, hl, hc⟩ := h
    refine ⟨vs, rfl, hl, fun j y hy => ?_⟩
    obtain ⟨u, hu, hr⟩ := hc j y hy
    exact ⟨u, hu, RepA.stays hr hs⟩
end

/-- The state of a call: its level, how many temporaries it has, what they hold, what objects there are. -/
structure ASt where
  L : Nat
  n : Nat
  tm : List (Nat × TV)
  O : Store

def look : List (Nat × TV) → Nat → TV
  | [], _ => .undef
  | (k, v) :: r, t => if t = k then v else look r t
def ASt.get (st : ASt) (t : Nat) : TV := look st.tm t

def constA : Value → TV
  | .bool b => bool b
  | .int k n => lit (.int k n)
  | .float k n => lit (.float k n)
  | .string s => str s
  | .pointer p => lit (.pointer p)
  | .slice p l c => lit (.slice p l c)
  | .map r => lit (.map r)
  | .nilFunc => lit .nilFunc
  | .nilIface => lit .nilIface
  | .agg cs => if cs.toList.all (·.oneCell') then .a (.agg (cs.toList.map fun c => .pv (.lit c))) else .undef
  | _ => .undef

def ASt.ev (st : ASt) : Operand → TV
  | .tmp t => st.get t
  | .const v => constA v
  | .global _ => .undef
  | .func f => .a (.s (.clo f []))

def ASt.set (st : ASt) (t : Nat) (v : TV) : ASt := { st with tm := (t, v) :: st.tm }

/-- What is behind 'dst', with the place checked. -/
def ASt.put (st : ASt) (dst : Option Tmp) (v : TV) (K : ASt → Prop) : Prop :=
  match dst with
  | none => K st
  | some d => d < st.n ∧ K (st.set d v)

/-- The objects lie in memory, apart. -/
structure Lies (w : World) (ι : Nat → Nat → Nat) (O : Store) : Prop where
  obj : ∀ l b o, O l b = some o → RepO w (Gd w ι O) ι O (ι l b) o
  inj : ∀ l b o l' b' o', O l b = some o → O l' b' = some o' → ι l b = ι l' b' → l = l' ∧ b = b'

/-- What the call has done to the world so far: nothing but to the blocks of 'F' (objects that it was handed) and to its own new ones. -/
structure Done (w0 : World) (F : Nat → Prop) (w : World) (ι : Nat → Nat → Nat) (O : Store) : Prop where
  os : w.os = w0.os
  tape : w.tape = w0.tape
  output : w.output = w0.output
  size : w0.heap.size ≤ w.heap.size
  keep : ∀ k, k < w0.heap.size → ¬ F k → w.heap[k]? = w0.heap[k]?
  own : ∀ l b o, O l b = some o → F (ι l b) ∨ w0.heap.size ≤ ι l b

structure Fits (st : ASt) (a : Act) (w : World) (ι : Nat → Nat → Nat) : Prop where
  lies : Lies w ι st.O
  size : a.tmps.size = st.n
  tm : ∀ t, t < st.n → RepT w (Gd w ι st.O) ι st.O (st.get t) (a.tmps.getD t undef)
  out : ∀ t, st.n ≤ t → st.get t = .undef

theorem RepT.undef {w : World} {G : Nat → Prop} {ι : Nat → Nat → Nat} {O : Store} (v : Value) : RepT w G ι O .undef v := trivial

theorem Lies.lt {w : World} {ι : Nat → Nat → Nat} {O : Store} (h : Lies w ι O) {l b : Nat} {o : AObj} (ho : O l b = some o) : ι l b < w.heap.size := by
  have := h.obj l b o ho
  cases o with
  | row e esz es => obtain ⟨c, hc, _⟩ := this; exact (Array.getElem?_eq_some_iff.1 hc).1
  | box e cs => obtain ⟨c, hc, _⟩ := this; exact (Array.getElem?_eq_some_iff.1 hc).1

theorem RepT.const {w : World} {G : Nat → Prop} {ι : Nat → Nat → Nat} {O : Store} (v : Value) : RepT w G ι O (constA v) v := by
  cases v <;> first | exact trivial | exact RepP.lit _ rfl | skip
  rename_i cs
  simp only [constA]
  split
  · rename_i hall
    rw [List.all_eq_true] at hall
    refine ⟨cs, rfl, by simp, fun j y hy => ?_⟩
    rw [List.getElem?_map] at hy
    cases hc : cs.toList[j]? with
    | none => simp [hc] at hy
    | some u =>
      simp only [hc, Option.map_some, Option.some.injEq] at hy
      subst hy
      exact ⟨u, by simpa using hc, RepP.lit _ (hall u (List.mem_of_getElem? hc))⟩
  · trivial

theorem Fits.ev {st : ASt} {a : Act} {w : World} {ι : Nat → Nat → Nat} (h : Fits st a w ι) (x : Operand) : RepT w (Gd w ι st.O) ι st.O (st.ev x) (a.eval x) := by
  cases x with
  | tmp t =>
    rcases Nat.lt_or_ge t st.n with ht | ht
    · exact h.tm t ht
    · show RepT _ _ _ _ (st.get t) _
      rw [h.out t ht]
      trivial
  | const v => exact RepT.const v
  | global g => trivial
  | func f => exact ⟨rfl, by simp⟩

theorem ASt.get_set (st : ASt) (t : Nat) (v : TV) (t' : Nat) : (st.set t v).get t' = if t' = t then v else st.get t' := rfl

theorem Fits.set {st : ASt} {a : Act} {w : World} {ι : Nat → Nat → Nat} (h : Fits st a w ι) {d : Nat} (hd : d < st.n) {v : TV} {u : Value}
    (hr : RepT w (Gd w ι st.O) ι st.O v u) : Fits (st.set d v) (a.put (some d) u) w ι := by
  refine ⟨h.lies, by simpa [Act.put, ASt.set] using h.size, fun t ht => ?_, fun t ht => ?_⟩
  · rw [ASt.get_set]
    by_cases e : t = d
    · subst e
      have hs : t < a.tmps.size := by rw [h.size]; exact hd
      simp only [if_true, Act.put]
      rw [Array.getD_eq_getD_getElem?, Array.getElem?_setIfInBounds_self_of_lt hs]
      exact hr
    · rw [if_neg e]
      have := h.tm t ht
      simp only [Act.put]
      rw [Array.getD_eq_getD_getElem?, Array.getElem?_setIfInBounds_ne (fun e' => e e'.symm), ← Array.getD_eq_getD_getElem?]
      exact this
  · rw [ASt.get_set, if_neg (by have : st.n ≤ t := ht; omega)]
    exact h.out t ht

/-- A change of the world under a state. -/
theorem Fits.world {st : ASt} {a : Act} {w w' : World} {ι ι' : Nat → Nat → Nat} {O' : Store} (h : Fits st a w ι)
    (hs : Stays w w' (Gd w ι st.O) (Gd w' ι' O') ι ι' st.O O') (hl : Lies w' ι' O') : Fits { st with O := O' } a w' ι' :=
  ⟨hl, h.size, fun t ht => (h.tm t ht).stays hs, h.out⟩
end Go.Rd
