/- RD, part 9: zero variables, stores, new rows, append. -/
import Derived.Test.YtiollkejojdplaaRdMake
import Derived.Laws.AppendOwn
namespace Go.Rd
open Go.RowKit

section
variable {P : Program} {T : TypeId → Option TI} {st : ASt} {a : Act} {w : World} {ι : Nat → Nat → Nat} {K : TV → ASt → Prop}

theorem eAlloc_sound (hT : TOk P T) (h : Good st a w ι) {d : Nat} {e : TypeId} {old : Value} (hk : eAlloc T st d e K) : Does P st a w ι K (Instr.alloc e true old) := by
  obtain ⟨ti, h1, h2⟩ := hk
  have hti := hT e ti h1
  have hg := h.drop d
  refine Does.drop (mkBox_sound hg (by rw [ASt.drop_L]; exact ASt.drop_none st d) (rep_lits ti.zero hti.one) h2 ?_)
  simp only [Instr.alloc, Sem.run_bind, run_zeroValue_ti w hti, Result.andThen_ok]
  have hz := zero_cells hti
  generalize hq : (if ti.agg = true then Value.agg ti.zero.toArray else ti.zero.headD undef) = z at hz ⊢
  simp [newVar, newRow, hz]

/-! ### store -/
/-- A part laid into cells. -/
def layG {α : Type} (cs : List α) (j : Nat) (xs : List α) : List α :=
  match xs with
  | [s] => cs.set j s
  | xs => if j = 0 ∧ xs.length = cs.length then xs else cs.take j ++ xs ++ cs.drop (j + xs.length)

theorem lay_gen {α : Type} (cs xs : List α) (j : Nat) (h : j + xs.length ≤ cs.length) (k : Nat) :
    (cs.take j ++ xs ++ cs.drop (j + xs.length))[k]? = if j ≤ k ∧ k < j + xs.length then xs[k - j]? else cs[k]? := by
  by_cases h1 : k < j
  · rw [if_neg (by omega), List.append_assoc, List.getElem?_append_left (by simp; omega), List.getElem?_take, if_pos h1]
  · by_cases h2 : k < j + xs.length
    · rw [if_pos (by omega), List.getElem?_append_left (by simp; omega), List.getElem?_append_right (by simp; omega)]
      congr 1
      simp
      omega
    · rw [if_neg (by omega), List.getElem?_append_right (by simp; omega), List.getElem?_drop]
      congr 1
      simp
      omega

theorem lay_eq {α : Type} (cs xs : List α) (j : Nat) (h : j + xs.length ≤ cs.length) (k : Nat) :
    (layG cs j xs)[k]? = if j ≤ k ∧ k < j + xs.length then xs[k - j]? else cs[k]? := by
  unfold layG
  split
  · rename_i s
    rw [List.getElem?_set]
    by_cases hk : j = k
    · subst hk
      simp only [List.length_cons, List.length_nil, Nat.zero_add] at h ⊢
      rw [if_pos trivial, if_pos (by omega), if_pos (by omega)]
      simp
    · rw [if_neg hk, if_neg (by simp; omega)]
  · split
    · rename_i hq
      obtain ⟨rfl, hl⟩ := hq
      by_cases hk : k < xs.length
      · rw [if_pos (by omega)]; simp
      · rw [if_neg (by omega), List.getElem?_eq_none (by omega), List.getElem?_eq_none (by omega)]
    · exact lay_gen cs xs j h k

theorem lay_len {α : Type} (cs xs : List α) (j : Nat) (h : j + xs.length ≤ cs.length) : (layG cs j xs).length = cs.length := by
  unfold layG
  split
  · simp
  · split
    · rename_i hq; exact hq.2
    · simp; omega

def pvs : List SV → Option (List PV)
  | [] => some []
  | .pv p :: r => (pvs r).map (p :: ·)
  | _ :: _ => none

theorem pvs_eq : ∀ {xs : List SV} {ps : List PV}, pvs xs = some ps → xs = ps.map .pv
  | [], ps, h => by simp only [pvs, Option.some.injEq] at h; subst h; rfl
  | s :: r, ps, h => by
    cases s with
    | pv p =>
      simp only [pvs] at h
      cases hr : pvs r with
      | none => simp [hr] at h
      | some q =>
        simp only [hr, Option.map_some, Option.some.injEq] at h
        subst h
        rw [pvs_eq hr]
        rfl
    | _ => simp [pvs] at h

/-- What the call's own row is stored as: frozen. -/
def ASt.freezeOp (st : ASt) (x : Operand) : ASt :=
  match st.ev x with
  | .a (.s (.sl l b _ _)) => if l = st.L then st.drop b else st
  | _ => st

def eStore (T : TypeId → Option TI) (st : ASt) (t : TypeId) (ad x : Operand) (K : TV → ASt → Prop) : Prop :=
  ∃ ti, T t = some ti ∧ match st.ev ad with
    | .a (.s (.pb l b j)) => (match st.O l b with
      | some (.box e cs) => ∃ xs, cellsOf (st.ev x) = some xs ∧ xs.length = ti.size ∧ j + xs.length ≤ cs.length ∧ (l = st.L ∨ ∀ s ∈ xs, s.lev ≤ l) ∧
          K .undef { st with O := upd st.O l b (some (.box e (layG cs j xs))) }
      | _ => False)
    | .a (.s (.pr l b i j)) => (match (st.freezeOp x).O l b with
      | some (.row e esz es) => ∃ xs ps y, cellsOf ((st.freezeOp x).ev x) = some xs ∧ pvs xs = some ps ∧ ps.length = ti.size ∧ es[i]? = some y ∧ j + ps.length ≤ y.length ∧
          K .undef { (st.freezeOp x) with O := upd (st.freezeOp x).O l b (some (.row e esz (es.set i (layG y j ps)))) }
      | _ => False)
    | _ => False

theorem But.setRow (w : World) (g : Nat) (cs : Array Value) : But w (w.setRow g cs) (some g) :=
  ⟨rfl, rfl, rfl, by simp [World.setRow], fun k _ hk => setRow_other w g k cs (fun e => hk (by rw [e]))⟩

theorem Moves.turn (h : Good st a w ι) {w' : World} {l b : Nat} {o o' : AObj} (ho : st.O l b = some o) (hf : o.fits o') (hw : But w w' (some (ι l b)))
    (hroom : ∀ c e, w.heap[ι l b]? = some (.cells c e (0, 0)) → ∃ c', w'.heap[ι l b]? = some (.cells c' e (0, 0)) ∧ c'.size = c.size) :
    Moves st { st with O := upd st.O l b (some o') } w w' ι ι := by
  refine ⟨rfl, rfl, hw.os, hw.tape, hw.output, hw.size, fun k hk hn => hw.block k hk (fun e => hn ⟨l, b, o, ho, (Option.some.inj e).symm⟩), fun l2 b2 o2 h2 => ?_, fun l2 b2 o2 hl h2 => ?_, fun l2 b2 o2 c e hl h2 hc => ?_⟩
  · by_cases e : l2 = l ∧ b2 = b
    · rw [e.1, e.2]; exact .inl ⟨l, b, o, ho, rfl⟩
    · have h2' : st.O l2 b2 = some o2 := by rw [← upd_ne st.O (some o') e]; exact h2
      exact .inl ⟨l2, b2, o2, h2', rfl⟩
  · by_cases e : l2 = l ∧ b2 = b
    · obtain ⟨rfl, rfl⟩ := e
      rw [ho] at h2; cases h2
      exact ⟨o', upd_same _ _ _ _, hf, rfl⟩
    · refine ⟨o2, ?_, AObj.fits_refl _, rfl⟩
      show upd st.O l b (some o') l2 b2 = some o2
      rw [upd_ne _ _ e]; exact h2
  · by_cases e1 : ι l2 b2 = ι l b
    · rw [e1] at hc ⊢; exact hroom c e hc
    · exact ⟨c, by rw [hw.block _ (h.lies.lt h2) (fun q => e1 (Option.some.inj q))]; exact hc, rfl⟩

/-- The store itself: 'vs' go into a block from 'o' on. -/
theorem run_storeVar_at {t : TypeId} {ti : TI} (hti : ti.ok P t) {g o : Nat} {cur : Array Value} {e : TypeId} {v : Value} (hg : w.heap[g]? = some (.cells cur e (0, 0)))
    (hv : v.cells.size = ti.size) (hfit : o + v.cells.size ≤ cur.size) (h1 : ∀ u ∈ v.cells.toList, u.oneCell' = true) :
    (Instr.storeAt t (.pointer (some ⟨g, o, none⟩)) v).run P w = .ok () (w.setRow g (cur.toList.take o ++ v.cells.toList ++ cur.toList.drop (o + v.cells.toList.length)).toArray) := by
  have hs := run_storeCells_at P g o e v.cells.toList 0 cur w hg (by simpa using hfit) h1
  simp only [Nat.add_zero] at hs
  simp only [Instr.storeAt, Sem.run_bind, run_sureAddr_some, Result.andThen_ok, storeVar, run_sizeOf_ti w hti, hv, ne_eq, not_true_eq_false, if_false]
  exact hs

theorem stored_getElem? (cur : Array Value) (vs : List Value) (o k n : Nat) (hn : vs.length = n) (h : o + n ≤ cur.size) :
    ((cur.toList.take o ++ vs ++ cur.toList.drop (o + vs.length)).toArray)[k]? = if o ≤ k ∧ k < o + n then vs[k - o]? else cur[k]? := by
  subst hn
  rw [List.getElem?_toArray]
  have hc : cur.toList.length = cur.size := Array.length_toList
  by_cases h1 : k < o
  · rw [if_neg (by omega), List.append_assoc, List.getElem?_append_left (by simp; omega), List.getElem?_take, if_pos h1]; simp
  · by_cases h2 : k < o + vs.length
    · rw [if_pos (by omega), List.getElem?_append_left (by simp; omega), List.getElem?_append_right (by simp; omega)]
      congr 1
      simp
      omega
    · rw [if_neg (by omega), List.getElem?_append_right (by simp; omega), List.getElem?_drop]
      rw [Array.getElem?_toList]
      congr 1
      simp
      omega

theorem Good.freezeOp (h : Good st a w ι) (x : Operand) : Good (st.freezeOp x) a w ι := by
  unfold ASt.freezeOp
  split
  · split
    · exact h.drop _
    · exact h
  · exact h
theorem Moves.freezeOp (st : ASt) (w : World) (ι : Nat → Nat → Nat) (x : Operand) : Moves st (st.freezeOp x) w w ι ι := by
  unfold ASt.freezeOp
  split
  · split
    · exact Moves.drop _ _ _ _
    · exact Moves.refl _ _ _
  · exact Moves.refl _ _ _

/-- A store's end: no value. -/
def DoesU (P : Program) (st : ASt) (a : Act) (w : World) (ι : Nat → Nat → Nat) (K : TV → ASt → Prop) (s : Sem Unit) : Prop :=
  ∃ st' w' ι', K .undef st' ∧ s.run P w = .ok () w' ∧ Good st' a w' ι' ∧ Moves st st' w w' ι ι'

theorem eStore_sound (hT : TOk P T) (h : Good st a w ι) {t : TypeId} {ad x : Operand} (hk : eStore T st t ad x K) :
    DoesU P st a w ι K (Instr.storeAt t (a.eval ad) (a.eval x)) := by
  obtain ⟨ti, h1, hk⟩ := hk
  have hti := hT t ti h1
  have had := h.ev ad
  split at hk
  · rename_i l b j hq
    rw [hq] at had
    obtain ⟨⟨e, cs, ho⟩, hp⟩ := had
    simp only [ho] at hk
    obtain ⟨xs, hx, hlen, hfit, hlv, hk⟩ := hk
    have hrep := cellsOf_rep hx (h.ev x)
    obtain ⟨c, hc, hcs, hcr⟩ := h.lies.obj l b _ ho
    have hone : ∀ u ∈ (a.eval x).cells.toList, u.oneCell' = true := by
      intro u hu
      obtain ⟨i, hi⟩ := List.getElem?_of_mem hu
      have hlt : i < xs.length := by have := (List.getElem?_eq_some_iff.1 hi).1; rw [Array.length_toList, hrep.1] at this; exact this
      obtain ⟨u', hu', hr⟩ := hrep.2 i xs[i] (by simp)
      have : u' = u := by simp at hi; rw [hi] at hu'; exact (Option.some.inj hu').symm
      subst this
      exact hr.one
    have hrun := run_storeVar_at (P := P) hti (o := j) hc (v := a.eval x) (by rw [hrep.1, hlen]) (by rw [hrep.1, hcs]; exact hfit) hone
    rw [← hp] at hrun
    have hvl : (a.eval x).cells.toList.length = xs.length := by rw [Array.length_toList, hrep.1]
    have hroom : ∀ c1 e1, w.heap[ι l b]? = some (.cells c1 e1 (0, 0)) → ∃ c', (w.setRow (ι l b) (c.toList.take j ++ (a.eval x).cells.toList ++ c.toList.drop (j + (a.eval x).cells.toList.length)).toArray).heap[ι l b]? = some (.cells c' e1 (0, 0)) ∧ c'.size = c1.size := by
      intro c1 e1 hq1
      rw [hc] at hq1
      simp only [Option.some.injEq, Obj.cells.injEq, and_true] at hq1
      obtain ⟨rfl, rfl⟩ := hq1
      refine ⟨_, setRow_heap w _ _ _ _ _ hc, ?_⟩
      simp only [List.size_toArray, List.length_append, List.length_take, List.length_drop, hvl, Array.length_toList]
      omega
    have hst := stays_turn h (o' := .box e (layG cs j xs)) ho trivial (But.setRow w _ _) hroom
    refine ⟨_, _, ι, hk, hrun, h.turn ho trivial (But.setRow w _ _) hroom ⟨_, setRow_heap w _ _ _ _ _ hc, ?_, fun k y hy => ?_⟩ (fun e' cs' he s hs => ?_), Moves.turn h ho trivial (But.setRow w _ _) hroom⟩
    · obtain ⟨c', q1, q2⟩ := hroom c e hc
      rw [setRow_heap w _ _ _ _ _ hc] at q1
      simp only [Option.some.injEq, Obj.cells.injEq, and_true] at q1
      rw [q1, q2, hcs]
      exact (lay_len cs xs j hfit).symm
    · have hy' := hy
      rw [lay_eq cs xs j hfit k] at hy'
      rw [stored_getElem? c _ j k xs.length hvl (by rw [hcs]; exact hfit)]
      split at hy'
      · rename_i hin
        rw [if_pos hin]
        obtain ⟨u, hu, hr⟩ := hrep.2 _ y hy'
        exact ⟨u, by simpa using hu, hr.stays hst⟩
      · rename_i hin
        rw [if_neg hin]
        obtain ⟨u, hu, hr⟩ := hcr k y hy'
        exact ⟨u, hu, hr.stays hst⟩
    · simp only [AObj.box.injEq] at he
      obtain ⟨rfl, rfl⟩ := he
      obtain ⟨k, hk'⟩ := List.getElem?_of_mem hs
      rw [lay_eq cs xs j hfit k] at hk'
      split at hk'
      · rcases hlv with rfl | hlv
        · obtain ⟨u, _, hr⟩ := hrep.2 _ s hk'
          exact hr.lev_le h
        · exact hlv s (List.mem_of_getElem? hk')
      · exact h.lev l b e cs ho s (List.mem_of_getElem? hk')
  · rename_i l b i j hq
    have hfg := h.freezeOp x
    rw [hq] at had
    generalize hst1 : st.freezeOp x = st1 at hfg hk
    split at hk
    · rename_i e esz es ho
      obtain ⟨xs, ps, y, hx, hps, hlen, hy, hfit, hk⟩ := hk
      obtain ⟨c, hc, hel, hcs, hmax, hcr⟩ := hfg.lies.obj l b _ ho
      -- the address, as it was before the freezing
      obtain ⟨e0, esz0, es0, ho0, hp⟩ := had
      have hsame : esz0 = esz := by
        have key : ∀ (s2 : ASt), st.freezeOp x = s2 → ∀ o2, s2.O l b = some o2 → ∃ o1, st.O l b = some o1 ∧ o1.fits o2 := by
          intro s2 h2 o2 h3
          rw [← h2] at h3
          unfold ASt.freezeOp at h3
          have dr : ∀ d, (st.drop d).O l b = some o2 → ∃ o1, st.O l b = some o1 ∧ o1.fits o2 := by
            intro d h4
            unfold ASt.drop at h4
            have go : ∀ (g : Nat → Nat → SV), upd (mapO st.L (AObj.sub st.L d g) st.O) st.L d none l b = some o2 → ∃ o1, st.O l b = some o1 ∧ o1.fits o2 := by
              intro g h5
              simp only [upd] at h5
              split at h5
              · cases h5
              · simp only [mapO] at h5
                split at h5
                · cases hq2 : st.O l b with
                  | none => simp [hq2] at h5
                  | some o1 =>
                    simp only [hq2, Option.map_some, Option.some.injEq] at h5
                    subst h5
                    exact ⟨o1, rfl, AObj.fits_sub _ _ _ _⟩
                · exact ⟨o2, h5, AObj.fits_refl _⟩
            split at h4
            · exact ⟨o2, h4, AObj.fits_refl _⟩
            · exact go _ h4
            · exact go _ h4
          split at h3
          · split at h3
            · exact dr _ h3
            · exact ⟨o2, h3, AObj.fits_refl _⟩
          · exact ⟨o2, h3, AObj.fits_refl _⟩
        obtain ⟨o1, h3, h4⟩ := key st1 hst1 _ ho
        rw [ho0] at h3
        cases h3
        exact h4.2.1
      subst hsame
      have hrep := cellsOf_rep hx (hfg.ev x)
      have hxs := pvs_eq hps
      have hxl : xs.length = ps.length := by rw [hxs]; simp
      have hone : ∀ u ∈ (a.eval x).cells.toList, u.oneCell' = true := by
        intro u hu
        obtain ⟨i, hi⟩ := List.getElem?_of_mem hu
        have hlt : i < xs.length := by have := (List.getElem?_eq_some_iff.1 hi).1; rw [Array.length_toList, hrep.1] at this; exact this
        obtain ⟨u', hu', hr⟩ := hrep.2 i xs[i] (by simp)
        have : u' = u := by simp at hi; rw [hi] at hu'; exact (Option.some.inj hu').symm
        subst this
        exact hr.one
      have hyl := hel i y hy
      have hilt : i < es.length := (List.getElem?_eq_some_iff.1 hy).1
      have hbig : i * esz0 + esz0 ≤ c.size := by
        have : (i + 1) * esz0 ≤ es.length * esz0 := Nat.mul_le_mul_right _ hilt
        rw [Nat.add_mul] at this
        omega
      have hvl : (a.eval x).cells.toList.length = ps.length := by rw [Array.length_toList, hrep.1, hxl]
      have hvs : (a.eval x).cells.size = ps.length := by rw [hrep.1, hxl]
      have hrun := run_storeVar_at (P := P) hti (o := i * esz0 + j) hc (v := a.eval x) (by rw [hvs, hlen]) (by rw [hvs]; omega) hone
      rw [← hp] at hrun
      have hroom : ∀ c1 e1, w.heap[ι l b]? = some (.cells c1 e1 (0, 0)) → ∃ c', (w.setRow (ι l b) (c.toList.take (i * esz0 + j) ++ (a.eval x).cells.toList ++ c.toList.drop (i * esz0 + j + (a.eval x).cells.toList.length)).toArray).heap[ι l b]? = some (.cells c' e1 (0, 0)) ∧ c'.size = c1.size := by
        intro c1 e1 hq1
        rw [hc] at hq1
        simp only [Option.some.injEq, Obj.cells.injEq, and_true] at hq1
        obtain ⟨rfl, rfl⟩ := hq1
        refine ⟨_, setRow_heap w _ _ _ _ _ hc, ?_⟩
        simp only [List.size_toArray, List.length_append, List.length_take, List.length_drop, hvl, Array.length_toList]
        omega
      have hf : (AObj.row e esz0 es).fits (.row e esz0 (es.set i (layG y j ps))) := ⟨rfl, rfl, by simp⟩
      have hst := stays_turn hfg (o' := .row e esz0 (es.set i (layG y j ps))) ho hf (But.setRow w _ _) hroom
      have hmv : Moves st st1 w w ι ι := by rw [← hst1]; exact Moves.freezeOp st w ι x
      refine ⟨_, _, ι, hk, hrun, hfg.turn ho hf (But.setRow w _ _) hroom ⟨_, setRow_heap w _ _ _ _ _ hc, fun i2 x2 h2 => ?_, ?_, by simpa using hmax, fun i2 j2 x2 y2 h2 h3 => ?_⟩ (fun e' cs' he s hs => by cases he), hmv.trans (Moves.turn hfg ho hf (But.setRow w _ _) hroom)⟩
      · rw [List.getElem?_set] at h2
        split at h2
        · simp only [Option.some.injEq] at h2
          rw [← h2, lay_len y ps j hfit, hyl]
        · exact hel _ _ h2
      · obtain ⟨c', q1, q2⟩ := hroom c e hc
        rw [setRow_heap w _ _ _ _ _ hc] at q1
        simp only [Option.some.injEq, Obj.cells.injEq, and_true] at q1
        rw [q1, q2]
        simpa using hcs
      · rw [stored_getElem? c _ _ _ ps.length hvl (by omega)]
        rw [List.getElem?_set] at h2
        have hj2 : j2 < esz0 := by
          have hl2 : x2.length = esz0 := by
            split at h2
            · simp only [Option.some.injEq] at h2
              rw [← h2, lay_len y ps j hfit, hyl]
            · exact hel _ _ h2
          have := (List.getElem?_eq_some_iff.1 h3).1
          omega
        split at h2
        · rename_i hii
          subst hii
          simp only [Option.some.injEq] at h2
          subst h2
          rw [lay_eq y ps j hfit j2] at h3
          by_cases hin : j ≤ j2 ∧ j2 < j + ps.length
          · rw [if_pos hin] at h3
            rw [if_pos (by omega)]
            obtain ⟨u, hu, hr⟩ := hrep.2 (j2 - j) (.pv y2) (by rw [hxs, List.getElem?_map, h3]; rfl)
            refine ⟨u, ?_, ?_⟩
            · rw [show i * esz0 + j2 - (i * esz0 + j) = j2 - j by omega]; simpa using hu
            · exact RepP.mono hr hst.good
          · rw [if_neg hin] at h3
            rw [if_neg (by omega)]
            obtain ⟨u, hu, hr⟩ := hcr i j2 y y2 hy h3
            exact ⟨u, hu, hr.mono hst.good⟩
        · rename_i hii
          have hout : ¬ (i * esz0 + j ≤ i2 * esz0 + j2 ∧ i2 * esz0 + j2 < i * esz0 + j + ps.length) := by
            rintro ⟨q1, q2⟩
            have hlt : j + ps.length ≤ esz0 := by omega
            rcases Nat.lt_or_ge i2 i with h4 | h4
            · have : (i2 + 1) * esz0 ≤ i * esz0 := Nat.mul_le_mul_right _ h4
              rw [Nat.add_mul] at this
              omega
            · have h5 : i + 1 ≤ i2 := by omega
              have : (i + 1) * esz0 ≤ i2 * esz0 := Nat.mul_le_mul_right _ h5
              rw [Nat.add_mul] at this
              omega
          rw [if_neg hout]
          obtain ⟨u, hu, hr⟩ := hcr i2 j2 x2 y2 h2 h3
          exact ⟨u, hu, hr.mono hst.good⟩
    · exact hk.elim
  · exact hk.elim
end
end Go.Rd
