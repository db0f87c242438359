/- RD, part 8: the operations that make objects, or write into them. -/
import Derived.Test.YtiollkejojdplaaRdTurn
import Derived.Laws.CopyRow
namespace Go.Rd
open Go.RowKit

/-- What a piece of the call may have done to memory. -/
structure Moves (st st' : ASt) (w w' : World) (ι ι' : Nat → Nat → Nat) : Prop where
  L : st'.L = st.L
  n : st'.n = st.n
  os : w'.os = w.os
  tape : w'.tape = w.tape
  output : w'.output = w.output
  size : w.heap.size ≤ w'.heap.size
  keep : ∀ k, k < w.heap.size → ¬ Own ι st.O k → w'.heap[k]? = w.heap[k]?
  own : ∀ l b o, st'.O l b = some o → Own ι st.O (ι' l b) ∨ w.heap.size ≤ ι' l b
  low : ∀ l b o, l < st.L → st.O l b = some o → ∃ o', st'.O l b = some o' ∧ o.fits o' ∧ ι' l b = ι l b
  roomy : ∀ l b o c e, l < st.L → st.O l b = some o → w.heap[ι l b]? = some (.cells c e (0, 0)) → ∃ c', w'.heap[ι l b]? = some (.cells c' e (0, 0)) ∧ c'.size = c.size

theorem Moves.refl (st : ASt) (w : World) (ι : Nat → Nat → Nat) : Moves st st w w ι ι :=
  ⟨rfl, rfl, rfl, rfl, rfl, Nat.le_refl _, fun _ _ _ => rfl, fun l b o h => .inl ⟨l, b, o, h, rfl⟩, fun _ _ o _ h => ⟨o, h, AObj.fits_refl o, rfl⟩, fun _ _ _ c _ _ _ h => ⟨c, h, rfl⟩⟩

theorem AObj.fits_trans {a b c : AObj} (h : a.fits b) (k : b.fits c) : a.fits c := by
  cases a <;> cases b <;> cases c <;> first
    | exact h.elim
    | exact k.elim
    | trivial
    | exact ⟨h.1.trans k.1, h.2.1.trans k.2.1, Nat.le_trans h.2.2 k.2.2⟩

theorem Moves.trans {s1 s2 s3 : ASt} {w1 w2 w3 : World} {i1 i2 i3 : Nat → Nat → Nat} (h : Moves s1 s2 w1 w2 i1 i2) (k : Moves s2 s3 w2 w3 i2 i3) : Moves s1 s3 w1 w3 i1 i3 := by
  refine ⟨k.L.trans h.L, k.n.trans h.n, k.os.trans h.os, k.tape.trans h.tape, k.output.trans h.output, Nat.le_trans h.size k.size, fun q hq hn => ?_, fun l b o ho => ?_, fun l b o hl ho => ?_, fun l b o c e hl ho hc => ?_⟩
  · rw [k.keep q (Nat.lt_of_lt_of_le hq h.size) ?_, h.keep q hq hn]
    rintro ⟨l, b, o, ho, rfl⟩
    rcases h.own l b o ho with h1 | h1
    · exact hn h1
    · omega
  · rcases k.own l b o ho with ⟨l2, b2, o2, h2, h3⟩ | h1
    · rw [← h3]; exact h.own l2 b2 o2 h2
    · exact .inr (Nat.le_trans h.size h1)
  · obtain ⟨o2, h1, h2, h3⟩ := h.low l b o hl ho
    obtain ⟨o3, h4, h5, h6⟩ := k.low l b o2 (by rw [h.L]; exact hl) h1
    exact ⟨o3, h4, AObj.fits_trans h2 h5, h6.trans h3⟩
  · obtain ⟨o2, h1, h2, h3⟩ := h.low l b o hl ho
    obtain ⟨c2, h4, h5⟩ := h.roomy l b o c e hl ho hc
    obtain ⟨c3, h6, h7⟩ := k.roomy l b o2 c2 e (by rw [h.L]; exact hl) h1 (by rw [h3]; exact h4)
    exact ⟨c3, by rw [← h3]; exact h6, h7.trans h5⟩

/-- An operation with effect: a value and a state that 'K' takes. -/
def Does (P : Program) (st : ASt) (a : Act) (w : World) (ι : Nat → Nat → Nat) (K : TV → ASt → Prop) (s : Sem Value) : Prop :=
  ∃ v val st' w' ι', K v st' ∧ s.run P w = .ok val w' ∧ Good st' a w' ι' ∧ Moves st st' w w' ι ι' ∧ RepT w' (Gd w' ι' st'.O) ι' st'.O v val

theorem Does.of_yields {P : Program} {st : ASt} {a : Act} {w : World} {ι : Nat → Nat → Nat} {K : TV → ASt → Prop} {s : Sem Value} (h : Good st a w ι)
    (hy : Yields (fun w' => Below w.heap.size w w') P w ι st.O (fun v => K v st) s) : Does P st a w ι K s := by
  obtain ⟨v, val, h1, h2, h3⟩ := hy
  exact ⟨v, val, st, w, ι, h1, h3 w (Below.refl _ _), h, Moves.refl _ _ _, h2⟩

section
variable {P : Program} {T : TypeId → Option TI} {st : ASt} {a : Act} {w : World} {ι : Nat → Nat → Nat} {K : TV → ASt → Prop}

theorem ASt.drop_L (st : ASt) (b : Nat) : (st.drop b).L = st.L := by unfold ASt.drop; split <;> rfl
theorem ASt.drop_n (st : ASt) (b : Nat) : (st.drop b).n = st.n := by unfold ASt.drop; split <;> rfl
theorem ASt.drop_none (st : ASt) (b : Nat) : (st.drop b).O st.L b = none := by
  unfold ASt.drop
  split
  · assumption
  · exact upd_same _ _ _ _
  · exact upd_same _ _ _ _

theorem drop_O (st : ASt) (b : Nat) {l c : Nat} {o : AObj} (h : (st.drop b).O l c = some o) : ∃ o1, st.O l c = some o1 := by
  unfold ASt.drop at h
  have go : ∀ (g : Nat → Nat → SV), upd (mapO st.L (AObj.sub st.L b g) st.O) st.L b none l c = some o → ∃ o1, st.O l c = some o1 := by
    intro g h
    simp only [upd] at h
    split at h
    · cases h
    · simp only [mapO] at h
      split at h
      · cases hq : st.O l c with
        | none => simp [hq] at h
        | some o1 => exact ⟨o1, rfl⟩
      · exact ⟨o, h⟩
  split at h
  · exact ⟨o, h⟩
  · exact go _ h
  · exact go _ h

theorem drop_low (st : ASt) (b : Nat) {l c : Nat} (hl : l < st.L) : (st.drop b).O l c = st.O l c := by
  unfold ASt.drop
  have go : ∀ (g : Nat → Nat → SV), upd (mapO st.L (AObj.sub st.L b g) st.O) st.L b none l c = st.O l c := by
    intro g
    rw [upd_ne _ _ (by omega)]
    simp only [mapO]
    rw [if_neg (by omega)]
  split
  · rfl
  · exact go _
  · exact go _

theorem Moves.drop (st : ASt) (w : World) (ι : Nat → Nat → Nat) (b : Nat) : Moves st (st.drop b) w w ι ι :=
  ⟨ASt.drop_L _ _, ASt.drop_n _ _, rfl, rfl, rfl, Nat.le_refl _, fun _ _ _ => rfl, fun l c o h => by
      obtain ⟨o1, h1⟩ := drop_O st b h
      exact .inl ⟨l, c, o1, h1, rfl⟩,
    fun l c o hl h => ⟨o, by rw [drop_low st b hl]; exact h, AObj.fits_refl o, rfl⟩, fun _ _ _ c _ _ _ h => ⟨c, h, rfl⟩⟩

/-- A new object in a new block: what it may have done. -/
theorem Moves.new (h : Good st a w ι) {w' : World} {d g : Nat} {o : AObj} (hw : Below w.heap.size w w') (_hd : st.O st.L d = none) (hg : w.heap.size ≤ g) :
    Moves st { st with O := upd st.O st.L d (some o) } w w' ι (iupd ι st.L d g) := by
  refine ⟨rfl, rfl, hw.os, hw.tape, hw.output, hw.size, fun k hk _ => hw.block k hk, fun l b o1 h1 => ?_, fun l b o1 hl h1 => ⟨o1, ?_, AObj.fits_refl o1, iupd_ne _ _ (by omega)⟩, fun l b o1 c e hl h1 h2 => ⟨c, ?_, rfl⟩⟩
  · by_cases e : l = st.L ∧ b = d
    · rw [e.1, e.2, iupd_same]; exact .inr hg
    · rw [iupd_ne _ _ e]
      have h1' : st.O l b = some o1 := by rw [← upd_ne st.O (some o) e]; exact h1
      exact .inl ⟨l, b, o1, h1', rfl⟩
  · show upd st.O st.L d (some o) l b = some o1
    rw [upd_ne _ _ (by omega)]; exact h1
  · rw [hw.block _ (h.lies.lt h1)]; exact h2

theorem below_alloc' (w : World) (o : Obj) : Below w.heap.size w (w.alloc o) := (Below.refl _ w).alloc (Nat.le_refl _) o

/-- The cells of a value. -/
def cellsOf : TV → Option (List SV)
  | .a (.s x) => some [x]
  | .a (.agg xs) => some xs
  | _ => none

theorem cellsOf_rep {G : Nat → Prop} {O : Store} {v : TV} {xs : List SV} {val : Value} (h : cellsOf v = some xs) (hr : RepT w G ι O v val) : RepC w G ι O xs val.cells := by
  unfold cellsOf at h
  split at h
  · rename_i x
    simp only [Option.some.injEq] at h
    subst h
    have hone := RepS.one hr
    have hcell : val.cells = #[val] := by
      revert hone
      cases val <;> simp [Value.cells, Value.oneCell']
    rw [hcell]
    refine ⟨rfl, fun j y hy => ?_⟩
    cases j with
    | zero => simp at hy; subst hy; exact ⟨_, rfl, hr⟩
    | succ j => simp at hy
  · rename_i xs'
    simp only [Option.some.injEq] at h
    subst h
    obtain ⟨cs, rfl, hl, hc⟩ := hr
    exact ⟨hl, hc⟩
  · cases h

/-- What a value leads to lies at the call's level or below. -/
theorem RepS.lev_le (h : Good st a w ι) {G : Nat → Prop} {s : SV} {v : Value} (hr : RepS w G ι st.O s v) : s.lev ≤ st.L := by
  cases s with
  | pb l b j => obtain ⟨⟨e, cs, ho⟩, _⟩ := hr; exact h.sup l b _ ho
  | pr l b i j => obtain ⟨e, esz, es, ho, _⟩ := hr; exact h.sup l b _ ho
  | sl l b off len => obtain ⟨e, esz, es, cap, c, ho, _⟩ := hr; exact h.sup l b _ ho
  | slc l b off len cap => obtain ⟨e, esz, es, c, ho, _⟩ := hr; exact h.sup l b _ ho
  | clo f caps =>
    obtain ⟨rfl, hl⟩ := hr
    simp only [SV.lev]
    induction caps with
    | nil => exact Nat.zero_le _
    | cons p r ih =>
      simp only [List.foldr_cons]
      obtain ⟨e, cs, ho⟩ := hl p (by simp)
      have := h.sup _ _ _ ho
      have := ih (fun q hq => hl q (List.mem_cons_of_mem _ hq))
      omega
  | _ => exact Nat.zero_le _

/-! ### box, alloc -/
/-- A new box at place 'd'. -/
def mkBox (st : ASt) (d : Nat) (e : TypeId) (xs : List SV) (K : TV → ASt → Prop) : Prop :=
  K (.a (.s (.pb st.L d 0))) { st with O := upd st.O st.L d (some (.box e xs)) }

theorem mkBox_sound (h : Good st a w ι) {d : Nat} {e : TypeId} {xs : List SV} {c : Array Value} (hd : st.O st.L d = none) (hc : RepC w (Gd w ι st.O) ι st.O xs c)
    (hk : mkBox st d e xs K) {s : Sem Value} (hs : s.run P w = .ok (.pointer (some ⟨w.heap.size, 0, none⟩)) (w.alloc (.cells c e))) : Does P st a w ι K s := by
  have hw := below_alloc' w (.cells c e)
  have hst := stays_new h (o := .box e xs) hw hd (Nat.le_refl _)
  refine ⟨_, _, _, _, iupd ι st.L d w.heap.size, hk, hs, h.new hw hd (Nat.le_refl _) ⟨c, heap_alloc_new w _, hc.1, fun j y hy => ?_⟩ (fun e' cs he s hs => ?_), Moves.new h hw hd (Nat.le_refl _), ⟨⟨e, xs, upd_same _ _ _ _⟩, by rw [iupd_same]⟩⟩
  · obtain ⟨u, hu, hr⟩ := hc.2 j y hy
    exact ⟨u, hu, hr.stays hst⟩
  · cases he
    obtain ⟨j, hj⟩ := List.getElem?_of_mem hs
    obtain ⟨u, _, hr⟩ := hc.2 j s hj
    exact hr.lev_le h

def eBox (st : ASt) (d : Nat) (e : TypeId) (x : Operand) (K : TV → ASt → Prop) : Prop :=
  ∃ xs, cellsOf ((st.drop d).ev x) = some xs ∧ mkBox (st.drop d) d e xs K

theorem Does.drop {d : Nat} {s : Sem Value} (h : Does P (st.drop d) a w ι K s) : Does P st a w ι K s := by
  obtain ⟨v, val, st', w', ι', h1, h2, h3, h4, h5⟩ := h
  exact ⟨v, val, st', w', ι', h1, h2, h3, (Moves.drop st w ι d).trans h4, h5⟩

theorem eBox_sound (h : Good st a w ι) {d : Nat} {e : TypeId} {x : Operand} (hk : eBox st d e x K) : Does P st a w ι K (Instr.box e (a.eval x)) := by
  obtain ⟨xs, h1, h2⟩ := hk
  have hg := h.drop d
  refine Does.drop (mkBox_sound hg (by rw [ASt.drop_L]; exact ASt.drop_none st d) (cellsOf_rep h1 (hg.ev x)) h2 ?_)
  simp [Instr.box, newVar, newRow]

def eAlloc (T : TypeId → Option TI) (st : ASt) (d : Nat) (e : TypeId) (K : TV → ASt → Prop) : Prop :=
  ∃ ti, T e = some ti ∧ mkBox (st.drop d) d e (ti.zero.map fun v => .pv (.lit v)) K

theorem zero_cells {i : TI} {t : TypeId} (h : i.ok P t) : (if i.agg then Value.agg i.zero.toArray else i.zero.headD undef).cells = i.zero.toArray := by
  obtain ⟨d, agg, size, bytes, zero⟩ := i
  cases agg
  · simp only [Bool.false_eq_true, if_false]
    have h1 := h.one
    have hl := h.zero
    have hd := h.desc
    have hs : size = 1 := h.single rfl
    subst hs
    match zero, hl with
    | [v], _ =>
      simp only [List.all_cons, List.all_nil, Bool.and_true] at h1
      cases v <;> simp_all [Value.cells, Value.oneCell']
  · rfl
end
end Go.Rd
