/- The law AllocTells of the given program, for every input. (part 2 of 10) -/
import Derived.Test.YtfdaioinghfjpaaATl1
import Derived.Shelf.Abstract
import Derived.Laws.IdiomCopy
import Derived.Laws.CopyRow
import Derived.Deep.AppendSrc
import Derived.Lib.Overlaps
import Derived.Deep.Quiet
import Derived.RangeFuncNested
import Derived.RangeFuncCalls
import Derived.RangeFuncLeaves
namespace Go.Rd
open Go.RowKit Go.Proofs
inductive RV where
  | val (r : TV)
  | own (e : TypeId) (esz : Nat) (es : List (List PV))
  | ownT (e : TypeId) (esz : Nat) (es : List (List PV)) (rest : List PV)
def RV.store (L : Nat) (S : Store) : RV → Store
  | .val _ => S
  | .own e esz es => upd S L 0 (some (.row e esz es))
  | .ownT e esz es _ => upd S L 0 (some (.row e esz es))
def RV.tv (L : Nat) : RV → TV
  | .val r => r
  | .own _ _ es => .a (.s (.sl L 0 0 es.length))
  | .ownT _ _ es rest => .tup (.s (.sl L 0 0 es.length) :: rest.map fun p => .s (.pv p))
structure MovesS (L : Nat) (S S' : Store) (w w' : World) (ι ι' : Nat → Nat → Nat) : Prop where
  os : w'.os = w.os
  tape : w'.tape = w.tape
  output : w'.output = w.output
  size : w.heap.size ≤ w'.heap.size
  keep : ∀ k, k < w.heap.size → ¬ Own ι S k → w'.heap[k]? = w.heap[k]?
  own : ∀ l b o, S' l b = some o → Own ι S (ι' l b) ∨ w.heap.size ≤ ι' l b
  low : ∀ l b o, l < L → S l b = some o → ∃ o', S' l b = some o' ∧ o.fits o' ∧ ι' l b = ι l b
  roomy : ∀ l b o c e, l < L → S l b = some o → w.heap[ι l b]? = some (.cells c e (0, 0)) → ∃ c', w'.heap[ι l b]? = some (.cells c' e (0, 0)) ∧ c'.size = c.size
def Lev (S : Store) : Prop := ∀ l b e cs, S l b = some (.box e cs) → ∀ s ∈ cs, s.lev ≤ l
def AC (P : Program) (L : Nat) (f : FuncId) (args : List AV) (S : Store) (R : RV → Store → Prop) : Prop :=
  Enters P f ∧ ∀ (w : World) (ι : Nat → Nat → Nat) (vals : List Value), Sup S L → Lev S → Lies w ι S → vals.length = args.length →
    (∀ (i : Nat) (y : AV) (u : Value), args[i]? = some y → vals[i]? = some u → RepA w (Gd w ι S) ι S y u) →
    Calls P f vals.toArray w fun e w' => ∃ r S' v ι', R r S' ∧ e = .returned v ∧ Sup S' L ∧ Lev S' ∧ Lies w' ι' (r.store L S') ∧ MovesS L S (r.store L S') w w' ι ι' ∧
      RepT w' (Gd w' ι' (r.store L S')) ι' (r.store L S') (r.tv L) v
theorem AC.mono {P : Program} {L : Nat} {f : FuncId} {args : List AV} {S : Store} {R R' : RV → Store → Prop} (h : AC P L f args S R) (hr : ∀ r S', R r S' → R' r S') : AC P L f args S R' :=
  ⟨h.1, fun w ι vals h1 h2 h3 h4 h5 => (h.2 w ι vals h1 h2 h3 h4 h5).mono fun _ _ ⟨r, S', v, ι', q1, q2⟩ => ⟨r, S', v, ι', hr r S' q1, q2⟩⟩
section
variable {P : Program} {st : ASt} {a : Act} {w : World} {ι : Nat → Nat → Nat} {K : TV → ASt → Prop}
def ASt.freezeL (st : ASt) : List SV → ASt
  | [] => st
  | .sl l b _ _ :: r => (if l = st.L then st.drop b else st).freezeL r
  | _ :: r => st.freezeL r
def ASt.freezeA (st : ASt) : List Operand → ASt
  | [] => st
  | x :: r => (match cellsOf (st.ev x) with
    | some xs => st.freezeL xs
    | none => st).freezeA r
def argsOf : List TV → Option (List AV)
  | [] => some []
  | .a x :: r => (argsOf r).map (x :: ·)
  | _ :: _ => none
def acallIn (P : Program) (L d : Nat) (st1 : ASt) (f : FuncId) (caps : List (Nat × Nat)) (xs : List Operand) (K : TV → ASt → Prop) : Prop :=
  ∃ avs R, argsOf (xs.map st1.ev) = some avs ∧ AC P (L + 1) f (avs ++ caps.map fun p => .s (.pb p.1 p.2 0)) st1.O R ∧
    ∀ r S', R r S' → match r with
      | .val tv => K tv { st1 with O := S' }
      | .own e esz es => S' L d = none ∧ K (.a (.s (.sl L d 0 es.length))) { st1 with O := upd S' L d (some (.row e esz es)) }
      | .ownT e esz es rest => S' L d = none ∧ K (.tup (.s (.sl L d 0 es.length) :: rest.map fun p => .s (.pv p))) { st1 with O := upd S' L d (some (.row e esz es)) }
def acallAt (P : Program) (L : Nat) (st1 : ASt) (d : Nat) (fop : Operand) (xs : List Operand) (K : TV → ASt → Prop) : Prop :=
  match st1.ev fop with
  | .a (.s (.clo f caps)) => acallIn P L d st1 f caps xs K
  | _ => False
def acall (P : Program) (st : ASt) (d : Nat) (fop : Operand) (xs : List Operand) (K : TV → ASt → Prop) : Prop :=
  acallAt P st.L ((st.drop d).freezeA xs) d fop xs K ∨ acallAt P st.L (st.drop d) d fop xs K
theorem freezeL_L : ∀ (xs : List SV) (st : ASt), (st.freezeL xs).L = st.L
  | [], _ => rfl
  | s :: r, st => by
    cases s with
    | sl l b off len =>
      show (ASt.freezeL _ r).L = _
      rw [freezeL_L r]
      split
      · exact ASt.drop_L _ _
      · rfl
    | _ => exact freezeL_L r st
theorem Good.freezeL : ∀ (xs : List SV) {st : ASt}, Good st a w ι → Good (st.freezeL xs) a w ι
  | [], _, h => h
  | s :: r, st, h => by
    cases s with
    | sl l b off len =>
      show Good (ASt.freezeL _ r) a w ι
      refine Good.freezeL r ?_
      split
      · exact h.drop b
      · exact h
    | _ => exact Good.freezeL r h
theorem Moves.freezeL : ∀ (xs : List SV) (st : ASt), Moves st (st.freezeL xs) w w ι ι
  | [], _ => Moves.refl _ _ _
  | s :: r, st => by
    cases s with
    | sl l b off len =>
      show Moves st (ASt.freezeL _ r) w w ι ι
      split
      · exact (Moves.drop st w ι b).trans (Moves.freezeL r _)
      · exact Moves.freezeL r _
    | _ => exact Moves.freezeL r st
theorem freezeA_both : ∀ (xs : List Operand) {st : ASt}, Good st a w ι → Good (st.freezeA xs) a w ι ∧ Moves st (st.freezeA xs) w w ι ι
  | [], st, h => ⟨h, Moves.refl _ _ _⟩
  | x :: r, st, h => by
    unfold ASt.freezeA
    split
    · rename_i ys _
      have h1 := Good.freezeL ys h
      obtain ⟨h2, h3⟩ := freezeA_both r h1
      exact ⟨h2, (Moves.freezeL ys st).trans h3⟩
    · exact freezeA_both r h
theorem argsOf_rep {G : Nat → Prop} {O : Store} : ∀ {tvs : List TV} {avs : List AV} {vals : List Value}, argsOf tvs = some avs → vals.length = tvs.length →
    (∀ (i : Nat) (y : TV) (u : Value), tvs[i]? = some y → vals[i]? = some u → RepT w G ι O y u) → avs.length = vals.length ∧ ∀ (i : Nat) (y : AV) (u : Value), avs[i]? = some y → vals[i]? = some u → RepA w G ι O y u
  | [], avs, vals, h, hl, _ => by
    simp only [argsOf, Option.some.injEq] at h
    subst h
    exact ⟨by simpa using hl.symm, by simp⟩
  | t :: r, avs, vals, h, hl, hr => by
    cases t with
    | a x =>
      simp only [argsOf] at h
      cases hq : argsOf r with
      | none => simp [hq] at h
      | some q =>
        simp only [hq, Option.map_some, Option.some.injEq] at h
        subst h
        cases vals with
        | nil => simp at hl
        | cons v vals =>
          obtain ⟨h1, h2⟩ := argsOf_rep hq (vals := vals) (by simpa using hl) (fun i y u hy hu => hr (i + 1) y u (by simpa using hy) (by simpa using hu))
          refine ⟨by simpa using h1, fun i y u hy hu => ?_⟩
          cases i with
          | zero =>
            simp only [List.getElem?_cons_zero, Option.some.injEq] at hy hu
            subst hy; subst hu
            exact hr 0 (.a x) v rfl rfl
          | succ i => exact h2 i y u (by simpa using hy) (by simpa using hu)
    | _ => simp [argsOf] at h
theorem Good.behind (h : Good st a w ι) {S' : Store} {w' : World} {ι' : Nat → Nat → Nat} (hm : MovesS (st.L + 1) st.O S' w w' ι ι') (hl : Lies w' ι' S') (hs : Sup S' (st.L + 1)) (hv : Lev S') :
    Good { st with O := S' } a w' ι' ∧ Moves st { st with O := S' } w w' ι ι' := by
  have hlt : ∀ l b o, st.O l b = some o → l < st.L + 1 := fun l b o ho => by have := h.sup l b o ho; omega
  have hst : Stays w w' (Gd w ι st.O) (Gd w' ι' S') ι ι' st.O S' := by
    refine ⟨fun k hk => ⟨⟨Nat.lt_of_lt_of_le hk.1 hm.size, ?_⟩, hm.keep k hk.1 hk.2⟩, fun l b o ho => hm.low l b o (hlt l b o ho) ho, fun l b o c e ho hc => hm.roomy l b o c e (hlt l b o ho) ho hc⟩
    rintro ⟨l, b, o, ho, rfl⟩
    rcases hm.own l b o ho with h1 | h1
    · exact hk.2 h1
    · have := hk.1; omega
  refine ⟨⟨h.toFits.world hst hl, fun l b o ho => ?_, fun l b e cs ho => hv l b e cs ho⟩, ⟨rfl, rfl, hm.os, hm.tape, hm.output, hm.size, hm.keep, hm.own, fun l b o hl ho => hm.low l b o (by omega) ho, fun l b o c e hl ho hc => hm.roomy l b o c e (by omega) ho hc⟩⟩
  rcases Nat.lt_or_ge st.L l with h1 | h1
  · have ho' : S' l b = some o := ho
    rw [hs l b h1] at ho'
    cases ho'
  · exact h1
theorem adopt {S' : Store} {w' : World} {ι' : Nat → Nat → Nat} {L d : Nat} {e : TypeId} {esz : Nat} {es : List (List PV)} (hs : Sup S' (L + 1)) (hv : Lev S') (hd : S' L d = none)
    (hl : Lies w' ι' (upd S' (L + 1) 0 (some (.row e esz es)))) :
    Lies w' (iupd ι' L d (ι' (L + 1) 0)) (upd S' L d (some (.row e esz es))) ∧
    (∀ k, Gd w' ι' (upd S' (L + 1) 0 (some (.row e esz es))) k → Gd w' (iupd ι' L d (ι' (L + 1) 0)) (upd S' L d (some (.row e esz es))) k) ∧
    (∀ s v, s.lev ≤ L → RepS w' (Gd w' ι' (upd S' (L + 1) 0 (some (.row e esz es)))) ι' (upd S' (L + 1) 0 (some (.row e esz es))) s v →
      RepS w' (Gd w' (iupd ι' L d (ι' (L + 1) 0)) (upd S' L d (some (.row e esz es)))) (iupd ι' L d (ι' (L + 1) 0)) (upd S' L d (some (.row e esz es))) s v) := by
  have hlt : ∀ l b o, S' l b = some o → l ≤ L := by
    intro l b o ho
    rcases Nat.lt_or_ge L l with h1 | h1
    · rw [hs l b h1] at ho; cases ho
    · exact h1
  have hne1 : ∀ l b o, S' l b = some o → ¬ (l = L + 1 ∧ b = 0) := fun l b o ho q => by have := hlt l b o ho; omega
  have hne2 : ∀ l b o, S' l b = some o → ¬ (l = L ∧ b = d) := by rintro l b o ho ⟨rfl, rfl⟩; rw [hd] at ho; cases ho
  have hGd : ∀ k, Gd w' ι' (upd S' (L + 1) 0 (some (.row e esz es))) k → Gd w' (iupd ι' L d (ι' (L + 1) 0)) (upd S' L d (some (.row e esz es))) k := by
    rintro k ⟨h1, h2⟩
    refine ⟨h1, fun ⟨l, b, o, h3, h4⟩ => h2 ?_⟩
    by_cases q : l = L ∧ b = d
    · obtain ⟨rfl, rfl⟩ := q
      rw [iupd_same] at h4
      exact ⟨l + 1, 0, _, upd_same _ _ _ _, h4⟩
    · rw [upd_ne _ _ q] at h3
      rw [iupd_ne _ _ q] at h4
      exact ⟨l, b, o, by rw [upd_ne _ _ (hne1 l b o h3)]; exact h3, h4⟩
  have hrep : ∀ s v, s.lev ≤ L → RepS w' (Gd w' ι' (upd S' (L + 1) 0 (some (.row e esz es)))) ι' (upd S' (L + 1) 0 (some (.row e esz es))) s v →
      RepS w' (Gd w' (iupd ι' L d (ι' (L + 1) 0)) (upd S' L d (some (.row e esz es)))) (iupd ι' L d (ι' (L + 1) 0)) (upd S' L d (some (.row e esz es))) s v := by
    intro s v hlev hr
    have turn : ∀ l b o, l ≤ L → upd S' (L + 1) 0 (some (.row e esz es)) l b = some o → upd S' L d (some (.row e esz es)) l b = some o ∧ iupd ι' L d (ι' (L + 1) 0) l b = ι' l b := by
      intro l b o hl ho
      rw [upd_ne _ _ (by omega)] at ho
      exact ⟨by rw [upd_ne _ _ (hne2 l b o ho)]; exact ho, iupd_ne _ _ (hne2 l b o ho)⟩
    cases s with
    | undef => exact hr
    | pv p => exact RepP.mono hr (fun k hk => ⟨hGd k hk, rfl⟩)
    | pb l b j =>
      obtain ⟨⟨e1, cs, ho⟩, rfl⟩ := hr
      obtain ⟨h1, h2⟩ := turn l b _ hlev ho
      exact ⟨⟨_, _, h1⟩, by rw [h2]⟩
    | pr l b i j =>
      obtain ⟨e1, esz1, es1, ho, rfl⟩ := hr
      obtain ⟨h1, h2⟩ := turn l b _ hlev ho
      exact ⟨_, _, _, h1, by rw [h2]⟩
    | sl l b off len =>
      obtain ⟨e1, esz1, es1, cap, c, ho, rfl, q1, q2, q3, q4, q5⟩ := hr
      obtain ⟨h1, h2⟩ := turn l b _ hlev ho
      exact ⟨_, _, _, cap, c, h1, by rw [h2], q1, q2, q3, by rw [h2]; exact q4, q5⟩
    | slc l b off len cap =>
      obtain ⟨e1, esz1, es1, c, ho, rfl, q2, q3, q4, q5⟩ := hr
      obtain ⟨h1, h2⟩ := turn l b _ hlev ho
      exact ⟨_, _, _, c, h1, by rw [h2], q2, q3, by rw [h2]; exact q4, q5⟩
    | clo f caps =>
      obtain ⟨rfl, hc⟩ := hr
      have hle : ∀ p ∈ caps, p.1 ≤ L := by
        intro p hp
        have : p.1 ≤ (SV.clo f caps).lev := by
          simp only [SV.lev]
          clear hlev hc
          induction caps with
          | nil => cases hp
          | cons q r ih =>
            simp only [List.foldr_cons]
            rcases List.mem_cons.1 hp with rfl | hp
            · omega
            · have := ih hp; omega
        omega
      refine ⟨?_, fun p hp => ?_⟩
      · congr 2
        refine List.map_congr_left fun p hp => ?_
        obtain ⟨e1, cs, ho⟩ := hc p hp
        rw [(turn _ _ _ (hle p hp) ho).2]
      · obtain ⟨e1, cs, ho⟩ := hc p hp
        exact ⟨_, _, (turn _ _ _ (hle p hp) ho).1⟩
  refine ⟨⟨fun l b o ho => ?_, fun l b o l2 b2 o2 h1 h2 q => ?_⟩, hGd, hrep⟩
  · by_cases q : l = L ∧ b = d
    · obtain ⟨rfl, rfl⟩ := q
      rw [upd_same] at ho
      cases ho
      rw [iupd_same]
      obtain ⟨c, q1, q2, q3, q4, q5⟩ := hl.obj (l + 1) 0 _ (upd_same _ _ _ _)
      exact ⟨c, q1, q2, q3, q4, fun i j x y hx hy => by
        obtain ⟨u, hu, hr⟩ := q5 i j x y hx hy
        exact ⟨u, hu, hr.mono (fun k hk => ⟨hGd k hk, rfl⟩)⟩⟩
    · rw [upd_ne _ _ q] at ho
      rw [iupd_ne _ _ q]
      have hr := hl.obj l b o (by rw [upd_ne _ _ (hne1 l b o ho)]; exact ho)
      cases o with
      | row e1 esz1 es1 =>
        obtain ⟨c, q1, q2, q3, q4, q5⟩ := hr
        exact ⟨c, q1, q2, q3, q4, fun i j x y hx hy => by
          obtain ⟨u, hu, hr⟩ := q5 i j x y hx hy
          exact ⟨u, hu, hr.mono (fun k hk => ⟨hGd k hk, rfl⟩)⟩⟩
      | box e1 cs =>
        obtain ⟨c, q1, q2, q3⟩ := hr
        refine ⟨c, q1, q2, fun j y hy => ?_⟩
        obtain ⟨u, hu, hr⟩ := q3 j y hy
        exact ⟨u, hu, hrep y u (by have := hv l b e1 cs ho y (List.mem_of_getElem? hy); have := hlt l b _ ho; omega) hr⟩
  · have back : ∀ l b o, upd S' L d (some (.row e esz es)) l b = some o → ∃ l' b' o', upd S' (L + 1) 0 (some (.row e esz es)) l' b' = some o' ∧ iupd ι' L d (ι' (L + 1) 0) l b = ι' l' b' ∧ ((l' = L + 1 ∧ b' = 0 ∧ l = L ∧ b = d) ∨ (l' ≠ L + 1 ∧ l' = l ∧ b' = b)) := by
      intro l b o ho
      by_cases q : l = L ∧ b = d
      · obtain ⟨rfl, rfl⟩ := q
        exact ⟨l + 1, 0, _, upd_same _ _ _ _, by rw [iupd_same], .inl ⟨rfl, rfl, rfl, rfl⟩⟩
      · rw [upd_ne _ _ q] at ho
        exact ⟨l, b, o, by rw [upd_ne _ _ (hne1 l b o ho)]; exact ho, iupd_ne _ _ q, .inr ⟨by have := hlt l b o ho; omega, rfl, rfl⟩⟩
    obtain ⟨l', b', o', p1, p2, p3⟩ := back l b o h1
    obtain ⟨l2', b2', o2', r1, r2, r3⟩ := back l2 b2 o2 h2
    rw [p2, r2] at q
    obtain ⟨e1, e2⟩ := hl.inj _ _ _ _ _ _ p1 r1 q
    rcases p3 with ⟨a1, a2, a3, a4⟩ | ⟨a1, a2, a3⟩ <;> rcases r3 with ⟨c1, c2, c3, c4⟩ | ⟨c1, c2, c3⟩
    · exact ⟨a3.trans c3.symm, a4.trans c4.symm⟩
    · exact absurd (e1.symm.trans a1) c1
    · exact absurd (e1.trans c1) a1
    · exact ⟨a2.symm.trans (e1.trans c2), a3.symm.trans (e2.trans c3)⟩
theorem freezeA_L : ∀ (xs : List Operand) (st : ASt), (st.freezeA xs).L = st.L
  | [], _ => rfl
  | x :: r, st => by
    unfold ASt.freezeA
    rw [freezeA_L r]
    split
    · exact freezeL_L _ _
    · rfl
theorem acall_sound (h : Good st a w ι) {d : Nat} {fop : Operand} {xs : List Operand} (hk : acall P st d fop xs K) :
    ∃ f capv, a.eval fop = .func (.func f) #[] capv ∧ Enters P f ∧
      Calls P f ((xs.map a.eval).toArray ++ capv) w fun e w' => ∃ v val st' ι', K v st' ∧ e = .returned val ∧ Good st' a w' ι' ∧ Moves st st' w w' ι ι' ∧ RepT w' (Gd w' ι' st'.O) ι' st'.O v val := by
  obtain ⟨st1, hk, hg, hm1, hL⟩ : ∃ st1, acallAt P st.L st1 d fop xs K ∧ Good st1 a w ι ∧ Moves st st1 w w ι ι ∧ st1.L = st.L := by
    rcases hk with hk | hk
    · obtain ⟨hg, hm0⟩ := freezeA_both xs (h.drop d)
      exact ⟨_, hk, hg, (Moves.drop st w ι d).trans hm0, by rw [freezeA_L, ASt.drop_L]⟩
    · exact ⟨_, hk, h.drop d, Moves.drop st w ι d, ASt.drop_L _ _⟩
  unfold acallAt at hk
  split at hk
  · rename_i f caps hq
    have hf := hg.ev fop
    rw [hq] at hf
    obtain ⟨hfv, hcaps⟩ := hf
    obtain ⟨avs, R, h1, ⟨hent, h2⟩, h3⟩ := hk
    refine ⟨f, _, hfv, hent, ?_⟩
    obtain ⟨hal, har⟩ := argsOf_rep (w := w) (G := Gd w ι st1.O) (ι := ι) (O := st1.O) (vals := xs.map a.eval) h1 (by simp) (fun i y u hy hu => by
      rw [List.getElem?_map] at hy hu
      cases hx : xs[i]? with
      | none => simp [hx] at hy
      | some x =>
        simp only [hx, Option.map_some, Option.some.injEq] at hy hu
        subst hy; subst hu
        exact hg.ev x)
    have hsup : Sup st1.O (st.L + 1) := by
      intro l b hl
      cases ho : st1.O l b with
      | none => rfl
      | some o => have := hg.sup l b o ho; omega
    have hc := h2 w ι (xs.map a.eval ++ caps.map fun p => Value.pointer (some ⟨ι p.1 p.2, 0, none⟩)) hsup hg.lev hg.lies (by simp at hal ⊢; omega) (fun i y u hy hu => by
      have hxl : (xs.map a.eval).length = avs.length := hal.symm
      rcases Nat.lt_or_ge i avs.length with hi | hi
      · rw [List.getElem?_append_left hi] at hy
        rw [List.getElem?_append_left (by omega)] at hu
        exact har i y u hy hu
      · rw [List.getElem?_append_right hi] at hy
        rw [List.getElem?_append_right (by omega), hxl] at hu
        rw [List.getElem?_map] at hy hu
        cases hp : caps[i - avs.length]? with
        | none => simp [hp] at hy
        | some p =>
          simp only [hp, Option.map_some, Option.some.injEq] at hy hu
          subst hy; subst hu
          obtain ⟨e, cs, ho⟩ := hcaps p (List.mem_of_getElem? hp)
          exact ⟨⟨e, cs, ho⟩, rfl⟩)
    have hargs : (xs.map a.eval ++ caps.map fun p => Value.pointer (some ⟨ι p.1 p.2, 0, none⟩)).toArray = (xs.map a.eval).toArray ++ (caps.map fun p => Value.pointer (some ⟨ι p.1 p.2, 0, none⟩)).toArray := by simp
    rw [hargs] at hc
    refine hc.mono ?_
    rintro e w' ⟨r, S', v, ι', q1, rfl, q2, q3, q4, q5, q6⟩
    have hr := h3 r S' q1
    cases r with
    | val tv =>
      obtain ⟨g1, g2⟩ := hg.behind (by rw [hL]; exact q5) q4 (by rw [hL]; exact q2) q3
      exact ⟨tv, v, _, ι', hr, rfl, g1, hm1.trans g2, q6⟩
    | own e esz es =>
      obtain ⟨hd, hr⟩ := hr
      obtain ⟨a1, a2, a3⟩ := adopt q2 q3 hd q4
      have hms : MovesS (st1.L + 1) st1.O (upd S' st.L d (some (.row e esz es))) w w' ι (iupd ι' st.L d (ι' (st.L + 1) 0)) := by
        refine ⟨q5.os, q5.tape, q5.output, q5.size, q5.keep, fun l b o ho => ?_, fun l b o hl ho => ?_, fun l b o c e1 hl ho hc1 => ?_⟩
        · by_cases hh : l = st.L ∧ b = d
          · rw [hh.1, hh.2, iupd_same]; exact q5.own _ _ _ (upd_same _ _ _ _)
          · rw [upd_ne _ _ hh] at ho
            rw [iupd_ne _ _ hh]
            exact q5.own l b o (by show upd S' (st.L + 1) 0 _ l b = _; rw [upd_ne _ _ (by rintro ⟨rfl, rfl⟩; rw [q2 _ _ (Nat.le_refl _)] at ho; cases ho)]; exact ho)
        · obtain ⟨o', p1, p2, p3⟩ := q5.low l b o (by rw [← hL]; exact hl) ho
          have hlt : ¬ (l = st.L + 1 ∧ b = 0) := by rw [hL] at hl; omega
          have p1' : S' l b = some o' := by rw [← upd_ne S' (some (.row e esz es)) hlt]; exact p1
          have hh : ¬ (l = st.L ∧ b = d) := by rintro ⟨rfl, rfl⟩; rw [hd] at p1'; cases p1'
          exact ⟨o', by rw [upd_ne _ _ hh]; exact p1', p2, by rw [iupd_ne _ _ hh]; exact p3⟩
        · exact q5.roomy l b o c e1 (by rw [← hL]; exact hl) ho hc1
      obtain ⟨g1, g2⟩ := hg.behind hms a1 (by
          intro l b hl
          rw [hL] at hl
          rw [upd_ne _ _ (by omega)]
          exact q2 l b hl) (by
          intro l b e1 cs ho s hs
          by_cases hh : l = st.L ∧ b = d
          · rw [hh.1, hh.2, upd_same] at ho; cases ho
          · rw [upd_ne _ _ hh] at ho; exact q3 l b e1 cs ho s hs)
      refine ⟨_, v, _, _, hr, rfl, g1, hm1.trans g2, ?_⟩
      obtain ⟨e1, esz1, es1, cap, c, ho1, rfl, p1, p2, p3, p4, p5⟩ := q6
      rw [show (RV.own e esz es).store (st.L + 1) S' = upd S' (st.L + 1) 0 (some (.row e esz es)) from rfl, upd_same] at ho1
      simp only [Option.some.injEq, AObj.row.injEq] at ho1
      obtain ⟨rfl, rfl, rfl⟩ := ho1
      exact ⟨_, _, _, cap, c, upd_same _ _ _ _, by rw [iupd_same], p1, p2, p3, by rw [iupd_same]; exact p4, p5⟩
    | ownT e esz es rest =>
      obtain ⟨hd, hr⟩ := hr
      obtain ⟨a1, a2, a3⟩ := adopt q2 q3 hd q4
      have hms : MovesS (st1.L + 1) st1.O (upd S' st.L d (some (.row e esz es))) w w' ι (iupd ι' st.L d (ι' (st.L + 1) 0)) := by
        refine ⟨q5.os, q5.tape, q5.output, q5.size, q5.keep, fun l b o ho => ?_, fun l b o hl ho => ?_, fun l b o c e1 hl ho hc1 => ?_⟩
        · by_cases hh : l = st.L ∧ b = d
          · rw [hh.1, hh.2, iupd_same]; exact q5.own _ _ _ (upd_same _ _ _ _)
          · rw [upd_ne _ _ hh] at ho
            rw [iupd_ne _ _ hh]
            exact q5.own l b o (by show upd S' (st.L + 1) 0 _ l b = _; rw [upd_ne _ _ (by rintro ⟨rfl, rfl⟩; rw [q2 _ _ (Nat.le_refl _)] at ho; cases ho)]; exact ho)
        · obtain ⟨o', p1, p2, p3⟩ := q5.low l b o (by rw [← hL]; exact hl) ho
          have hlt : ¬ (l = st.L + 1 ∧ b = 0) := by rw [hL] at hl; omega
          have p1' : S' l b = some o' := by rw [← upd_ne S' (some (.row e esz es)) hlt]; exact p1
          have hh : ¬ (l = st.L ∧ b = d) := by rintro ⟨rfl, rfl⟩; rw [hd] at p1'; cases p1'
          exact ⟨o', by rw [upd_ne _ _ hh]; exact p1', p2, by rw [iupd_ne _ _ hh]; exact p3⟩
        · exact q5.roomy l b o c e1 (by rw [← hL]; exact hl) ho hc1
      obtain ⟨g1, g2⟩ := hg.behind hms a1 (by
          intro l b hl
          rw [hL] at hl
          rw [upd_ne _ _ (by omega)]
          exact q2 l b hl) (by
          intro l b e1 cs ho s hs
          by_cases hh : l = st.L ∧ b = d
          · rw [hh.1, hh.2, upd_same] at ho; cases ho
          · rw [upd_ne _ _ hh] at ho; exact q3 l b e1 cs ho s hs)
      refine ⟨_, v, _, _, hr, rfl, g1, hm1.trans g2, ?_⟩
      obtain ⟨vs, rfl, hvl, hvs⟩ := q6
      refine ⟨vs, rfl, by simpa using hvl, fun j y hy => ?_⟩
      cases j with
      | zero =>
        simp only [List.getElem?_cons_zero, Option.some.injEq] at hy
        subst hy
        obtain ⟨u, hu, e1, esz1, es1, cap, c, ho1, rfl, p1, p2, p3, p4, p5⟩ := hvs 0 _ rfl
        rw [show (RV.ownT e esz es rest).store (st.L + 1) S' = upd S' (st.L + 1) 0 (some (.row e esz es)) from rfl, upd_same] at ho1
        simp only [Option.some.injEq, AObj.row.injEq] at ho1
        obtain ⟨rfl, rfl, rfl⟩ := ho1
        exact ⟨_, hu, _, _, _, cap, c, upd_same _ _ _ _, by rw [iupd_same], p1, p2, p3, by rw [iupd_same]; exact p4, p5⟩
      | succ j =>
        obtain ⟨u, hu, hru⟩ := hvs (j + 1) y (by simpa using hy)
        refine ⟨u, hu, ?_⟩
        simp only [List.getElem?_cons_succ, List.getElem?_map] at hy
        cases hp : rest[j]? with
        | none => simp [hp] at hy
        | some p =>
          simp only [hp, Option.map_some, Option.some.injEq] at hy
          subst hy
          exact RepP.mono hru (fun k hk => ⟨a2 k hk, rfl⟩)
  · exact hk.elim
end
end Go.Rd
namespace Go.Rd
open Go.RowKit Go.Proofs
def SV.liveAt (O : Store) (L : Nat) : SV → Prop
  | .pb l b _ | .pr l b _ _ | .sl l b _ _ | .slc l b _ _ _ => l = L → (O l b).isSome = true
  | .clo _ caps => ∀ p ∈ caps, p.1 = L → (O p.1 p.2).isSome = true
  | _ => True
def AV.liveAt (O : Store) (L : Nat) : AV → Prop
  | .s x => x.liveAt O L
  | .agg xs => ∀ x ∈ xs, x.liveAt O L
  | .pel .. => True
def TV.liveAt (O : Store) (L : Nat) : TV → Prop
  | .undef => True
  | .a x => x.liveAt O L
  | .tup xs => ∀ x ∈ xs, x.liveAt O L
structure Wk (s s' : ASt) : Prop where
  L : s'.L = s.L
  n : s'.n = s.n
  tm : ∀ t, s'.get t = .undef ∨ s'.get t = s.get t
  obj : ∀ l b o, s'.O l b = some o → s.O l b = some o
  low : ∀ l b, l < s.L → s'.O l b = s.O l b
  live : ∀ t, (s'.get t).liveAt s'.O s.L
  box : ∀ b e cs, s'.O s.L b = some (.box e cs) → ∀ x ∈ cs, x.liveAt s'.O s.L
section
variable {w : World} {G G' : Nat → Prop} {ι : Nat → Nat → Nat} {O O' : Store} {L : Nat}
theorem forget_obj (hs : ∀ l b o, O l b = some o → l ≤ L) (h1 : ∀ l b o, O' l b = some o → O l b = some o) (h2 : ∀ l b, l < L → O' l b = O l b) {l b : Nat} {o : AObj} (ho : O l b = some o)
    (hl : l = L → (O' l b).isSome = true) : O' l b = some o := by
  rcases Nat.lt_or_ge l L with h | h
  · rw [h2 l b h]; exact ho
  · have : l = L := Nat.le_antisymm (hs l b o ho) h
    obtain ⟨o', ho'⟩ := Option.isSome_iff_exists.1 (hl this)
    have := h1 l b o' ho'
    rw [ho] at this
    rw [ho']
    exact this.symm
theorem RepS.forget {s : SV} {v : Value} (h : RepS w G ι O s v) (hG : ∀ k, G k → G' k) (hs : ∀ l b o, O l b = some o → l ≤ L) (h1 : ∀ l b o, O' l b = some o → O l b = some o) (h2 : ∀ l b, l < L → O' l b = O l b)
    (hl : s.liveAt O' L) : RepS w G' ι O' s v := by
  cases s with
  | undef => exact h
  | pv p => exact RepP.mono h (fun k hk => ⟨hG k hk, rfl⟩)
  | pb l b j =>
    obtain ⟨⟨e, cs, ho⟩, rfl⟩ := h
    exact ⟨⟨e, cs, forget_obj hs h1 h2 ho hl⟩, rfl⟩
  | pr l b i j =>
    obtain ⟨e, esz, es, ho, rfl⟩ := h
    exact ⟨e, esz, es, forget_obj hs h1 h2 ho hl, rfl⟩
  | sl l b off len =>
    obtain ⟨e, esz, es, cap, c, ho, q⟩ := h
    exact ⟨e, esz, es, cap, c, forget_obj hs h1 h2 ho hl, q⟩
  | slc l b off len cap =>
    obtain ⟨e, esz, es, c, ho, q⟩ := h
    exact ⟨e, esz, es, c, forget_obj hs h1 h2 ho hl, q⟩
  | clo f caps =>
    obtain ⟨rfl, q⟩ := h
    refine ⟨rfl, fun p hp => ?_⟩
    obtain ⟨e, cs, ho⟩ := q p hp
    exact ⟨e, cs, forget_obj hs h1 h2 ho (hl p hp)⟩
theorem RepA.forget {s : AV} {v : Value} (h : RepA w G ι O s v) (hG : ∀ k, G k → G' k) (hs : ∀ l b o, O l b = some o → l ≤ L) (h1 : ∀ l b o, O' l b = some o → O l b = some o) (h2 : ∀ l b, l < L → O' l b = O l b)
    (hl : s.liveAt O' L) : RepA w G' ι O' s v := by
  cases s with
  | s x => exact RepS.forget h hG hs h1 h2 hl
  | agg xs =>
    obtain ⟨cs, rfl, hn, hc⟩ := h
    refine ⟨cs, rfl, hn, fun j y hy => ?_⟩
    obtain ⟨u, hu, hr⟩ := hc j y hy
    exact ⟨u, hu, RepS.forget hr hG hs h1 h2 (hl y (List.mem_of_getElem? hy))⟩
  | pel esz es i j =>
    obtain ⟨blk, off, hr, rfl⟩ := h
    exact ⟨blk, off, hr.mono (fun k hk => ⟨hG k hk, rfl⟩), rfl⟩
theorem RepT.forget {s : TV} {v : Value} (h : RepT w G ι O s v) (hG : ∀ k, G k → G' k) (hs : ∀ l b o, O l b = some o → l ≤ L) (h1 : ∀ l b o, O' l b = some o → O l b = some o) (h2 : ∀ l b, l < L → O' l b = O l b)
    (hl : s.liveAt O' L) : RepT w G' ι O' s v := by
  cases s with
  | undef => trivial
  | a x => exact RepA.forget h hG hs h1 h2 hl
  | tup xs =>
    obtain ⟨cs, rfl, hn, hc⟩ := h
    refine ⟨cs, rfl, hn, fun j y hy => ?_⟩
    obtain ⟨u, hu, hr⟩ := hc j y hy
    exact ⟨u, hu, RepA.forget hr hG hs h1 h2 (hl y (List.mem_of_getElem? hy))⟩
end
theorem SV.liveAt_lev {O : Store} {L l : Nat} {s : SV} (hl : s.lev ≤ l) (h : l < L) : s.liveAt O L := by
  cases s with
  | pb a b j => exact fun e => by simp only [SV.lev] at hl; omega
  | pr a b i j => exact fun e => by simp only [SV.lev] at hl; omega
  | sl a b off len => exact fun e => by simp only [SV.lev] at hl; omega
  | slc a b off len cap => exact fun e => by simp only [SV.lev] at hl; omega
  | clo f caps =>
    intro p hp e
    have : p.1 ≤ caps.foldr (fun p m => max p.1 m) 0 := by
      clear hl
      induction caps with
      | nil => cases hp
      | cons q r ih =>
        simp only [List.foldr_cons]
        rcases List.mem_cons.1 hp with rfl | hp
        · exact Nat.le_max_left _ _
        · exact Nat.le_trans (ih hp) (Nat.le_max_right _ _)
    simp only [SV.lev] at hl
    omega
  | undef => trivial
  | pv p => trivial
theorem Good.wk {s s' : ASt} {a : Act} {w : World} {ι : Nat → Nat → Nat} (h : Good s a w ι) (hw : Wk s s') : Good s' a w ι ∧ Moves s s' w w ι ι := by
  have hG : ∀ k, Gd w ι s.O k → Gd w ι s'.O k := fun k hk => ⟨hk.1, fun ⟨l, b, o, ho, e⟩ => hk.2 ⟨l, b, o, hw.obj l b o ho, e⟩⟩
  refine ⟨⟨⟨⟨fun l b o ho => ?_, fun l b o l' b' o' ho ho' e => h.lies.inj l b o l' b' o' (hw.obj _ _ _ ho) (hw.obj _ _ _ ho') e⟩, by rw [hw.n]; exact h.size, fun t ht => ?_, fun t ht => ?_⟩, fun l b o ho => by rw [hw.L]; exact h.sup l b o (hw.obj _ _ _ ho), fun l b e cs ho => h.lev l b e cs (hw.obj _ _ _ ho)⟩, ?_⟩
  · have := h.lies.obj l b o (hw.obj l b o ho)
    cases o with
    | row e esz es =>
      obtain ⟨c, q1, q2, q3, q4, q5⟩ := this
      refine ⟨c, q1, q2, q3, q4, fun i j x y hx hy => ?_⟩
      obtain ⟨u, hu, hr⟩ := q5 i j x y hx hy
      exact ⟨u, hu, hr.mono (fun k hk => ⟨hG k hk, rfl⟩)⟩
    | box e cs =>
      obtain ⟨c, q1, q2, q3⟩ := this
      refine ⟨c, q1, q2, fun j y hy => ?_⟩
      obtain ⟨u, hu, hr⟩ := q3 j y hy
      refine ⟨u, hu, RepS.forget hr hG h.sup hw.obj hw.low ?_⟩
      rcases Nat.lt_or_ge l s.L with hl | hl
      · exact SV.liveAt_lev (h.lev l b e cs (hw.obj _ _ _ ho) y (List.mem_of_getElem? hy)) hl
      · have : l = s.L := Nat.le_antisymm (h.sup l b _ (hw.obj _ _ _ ho)) hl
        subst this
        exact hw.box b e cs ho y (List.mem_of_getElem? hy)
  · rw [hw.n] at ht
    rcases hw.tm t with e | e
    · rw [e]; trivial
    · have hl := hw.live t
      rw [e] at hl ⊢
      exact RepT.forget (h.tm t ht) hG h.sup hw.obj hw.low hl
  · rw [hw.n] at ht
    rcases hw.tm t with e | e
    · exact e
    · rw [e]; exact h.out t ht
  · refine ⟨hw.L, hw.n, rfl, rfl, rfl, Nat.le_refl _, fun k _ _ => rfl, fun l b o ho => .inl ⟨l, b, o, hw.obj _ _ _ ho, rfl⟩, fun l b o hl ho => ⟨o, by rw [hw.low l b hl]; exact ho, AObj.fits_refl o, rfl⟩, fun l b o c e hl ho hc => ⟨c, hc, rfl⟩⟩
theorem Good.wk' {s s' : ASt} {a : Act} {w : World} {ι : Nat → Nat → Nat} (h : Good s a w ι) (hw : s' = s ∨ Wk s s') : Good s' a w ι ∧ Moves s s' w w ι ι := by
  rcases hw with rfl | hw
  · exact ⟨h, Moves.refl _ _ _⟩
  · exact h.wk hw
def wkK (K : TV → ASt → Prop) (v : TV) (st : ASt) : Prop := K v st ∨ ∃ s', Wk st s' ∧ v.liveAt s'.O st.L ∧ K v s'
theorem wkK_use {K : TV → ASt → Prop} {s : ASt} {a : Act} {w : World} {ι : Nat → Nat → Nat} {v : TV} {val : Value} (h : Good s a w ι) (hr : RepT w (Gd w ι s.O) ι s.O v val) (hk : wkK K v s) :
    ∃ s', K v s' ∧ Good s' a w ι ∧ Moves s s' w w ι ι ∧ RepT w (Gd w ι s'.O) ι s'.O v val := by
  rcases hk with hk | ⟨s', hw, hl, hk⟩
  · exact ⟨s, hk, h, Moves.refl _ _ _, hr⟩
  · obtain ⟨h1, h2⟩ := h.wk hw
    exact ⟨s', hk, h1, h2, RepT.forget hr (fun k hk => ⟨hk.1, fun ⟨l, b, o, ho, e⟩ => hk.2 ⟨l, b, o, hw.obj l b o ho, e⟩⟩) h.sup hw.obj hw.low hl⟩
end Go.Rd
namespace Go.Rd
open Go.RowKit
section
variable {P : Program} {T : TypeId → Option TI} {st : ASt} {a : Act} {w : World} {ι : Nat → Nat → Nat} {K : TV → ASt → Prop}
def over {α : Type} (es : List α) (o : Nat) (news : List α) : List α := es.take o ++ (news ++ es.drop (o + news.length))
theorem over_get {α : Type} {es news : List α} {o : Nat} (ho : o ≤ es.length) (i : Nat) (x : α) (h : (over es o news)[i]? = some x) :
    (i < o ∧ es[i]? = some x) ∨ (o ≤ i ∧ i < o + news.length ∧ news[i - o]? = some x) ∨ (o + news.length ≤ i ∧ es[i]? = some x) := by
  unfold over at h
  have hl : (es.take o).length = o := by rw [List.length_take]; omega
  rw [List.getElem?_append, hl] at h
  split at h
  · rename_i h1
    rw [List.getElem?_take, if_pos h1] at h
    exact .inl ⟨h1, h⟩
  · rename_i h1
    rw [List.getElem?_append] at h
    split at h
    · exact .inr (.inl ⟨by omega, by omega, h⟩)
    · refine .inr (.inr ⟨by omega, ?_⟩)
      rw [List.getElem?_drop] at h
      rw [← h]
      congr 1
      omega
theorem over_length {α : Type} {es news : List α} {o : Nat} (ho : o ≤ es.length) : (over es o news).length = max es.length (o + news.length) := by
  unfold over
  simp only [List.length_append, List.length_take, List.length_drop]
  omega
theorem row_write (h : Good st a w ι) {l b : Nat} {e : TypeId} {esz : Nat} {es news : List (List PV)} {c : Array Value} {vs : List Value} {o : Nat} (ho : st.O l b = some (.row e esz es)) (hc : w.heap[ι l b]? = some (.cells c e (0, 0)))
    (hoe : o ≤ es.length) (hvl : vs.length = news.length * esz) (hfit : o * esz + vs.length ≤ c.size) (hel : ∀ (i : Nat) (x : List PV), news[i]? = some x → x.length = esz)
    (hrep : ∀ (i j : Nat) (x : List PV) (y : PV), news[i]? = some x → x[j]? = some y → ∃ u, vs[i * esz + j]? = some u ∧ RepP w (Gd w ι st.O) y u) (hmax : o + news.length ≤ maxLen) :
    Good { st with O := upd st.O l b (some (.row e esz (over es o news))) } a (w.setRow (ι l b) (c.toList.take (o * esz) ++ vs ++ c.toList.drop (o * esz + vs.length)).toArray) ι ∧
    Moves st { st with O := upd st.O l b (some (.row e esz (over es o news))) } w (w.setRow (ι l b) (c.toList.take (o * esz) ++ vs ++ c.toList.drop (o * esz + vs.length)).toArray) ι ι ∧
    ∃ c', (w.setRow (ι l b) (c.toList.take (o * esz) ++ vs ++ c.toList.drop (o * esz + vs.length)).toArray).heap[ι l b]? = some (.cells c' e (0, 0)) ∧ c'.size = c.size := by
  obtain ⟨c', p1, p2, p3, p4, p5⟩ := h.lies.obj _ _ _ ho
  rw [hc] at p1
  simp only [Option.some.injEq, Obj.cells.injEq, and_true] at p1
  subst p1
  have hsz : (c.toList.take (o * esz) ++ vs ++ c.toList.drop (o * esz + vs.length)).toArray.size = c.size := by
    simp only [List.size_toArray, List.length_append, List.length_take, List.length_drop, Array.length_toList]
    omega
  have hnew := setRow_heap w (ι l b) c (c.toList.take (o * esz) ++ vs ++ c.toList.drop (o * esz + vs.length)).toArray e (0, 0) hc
  have hroom : ∀ c1 e1, w.heap[ι l b]? = some (.cells c1 e1 (0, 0)) → ∃ c', (w.setRow (ι l b) (c.toList.take (o * esz) ++ vs ++ c.toList.drop (o * esz + vs.length)).toArray).heap[ι l b]? = some (.cells c' e1 (0, 0)) ∧ c'.size = c1.size := by
    intro c1 e1 hq
    rw [hc] at hq
    simp only [Option.some.injEq, Obj.cells.injEq, and_true] at hq
    obtain ⟨rfl, rfl⟩ := hq
    exact ⟨_, hnew, hsz⟩
  have hf : (AObj.row e esz es).fits (.row e esz (over es o news)) := ⟨rfl, rfl, by rw [over_length hoe]; omega⟩
  have hst := stays_turn h (o' := .row e esz (over es o news)) ho hf (But.setRow w _ _) hroom
  have hlen : ∀ (i : Nat) (x : List PV), (over es o news)[i]? = some x → x.length = esz := by
    intro i x hx
    rcases over_get hoe i x hx with ⟨_, h1⟩ | ⟨_, _, h1⟩ | ⟨_, h1⟩
    · exact p2 _ x h1
    · exact hel _ x h1
    · exact p2 _ x h1
  refine ⟨h.turn ho hf (But.setRow w _ _) hroom ⟨_, hnew, hlen, ?_, by rw [over_length hoe]; omega, fun i j x y hx hy => ?_⟩ (fun e' cs' he s hs => by cases he), Moves.turn h ho hf (But.setRow w _ _) hroom, ⟨_, hnew, hsz⟩⟩
  · rw [hsz, over_length hoe]
    rcases Nat.le_total es.length (o + news.length) with h1 | h1
    · rw [Nat.max_eq_right h1, Nat.add_mul, ← hvl]; exact hfit
    · rw [Nat.max_eq_left h1]; exact p3
  · have hj : j < esz := by rw [← hlen i x hx]; exact (List.getElem?_eq_some_iff.1 hy).1
    rw [stored_getElem? c vs (o * esz) _ vs.length rfl hfit]
    have mul : ∀ {p q : Nat}, p < q → p * esz + esz ≤ q * esz := fun {p q} hpq => by
      have : (p + 1) * esz ≤ q * esz := Nat.mul_le_mul_right _ hpq
      rw [Nat.add_mul] at this
      omega
    rcases over_get hoe i x hx with ⟨h1, h2⟩ | ⟨h1, h1', h2⟩ | ⟨h1, h2⟩
    · have := mul h1
      rw [if_neg (by omega)]
      obtain ⟨u, hu, hr⟩ := p5 i j x y h2 hy
      exact ⟨u, hu, hr.mono hst.good⟩
    · have h3 := mul h1'
      have h4 : o * esz ≤ i * esz := Nat.mul_le_mul_right _ h1
      rw [Nat.add_mul] at h3
      rw [if_pos (by rw [hvl]; omega)]
      obtain ⟨u, hu, hr⟩ := hrep (i - o) j x y h2 hy
      refine ⟨u, ?_, hr.mono hst.good⟩
      rw [← hu]
      congr 1
      rw [Nat.sub_mul]
      omega
    · have h3 : (o + news.length) * esz ≤ i * esz := Nat.mul_le_mul_right _ h1
      rw [Nat.add_mul] at h3
      rw [if_neg (by rw [hvl]; omega)]
      obtain ⟨u, hu, hr⟩ := p5 i j x y h2 hy
      exact ⟨u, hu, hr.mono hst.good⟩
end
end Go.Rd
namespace Go.Rd
open Go.RowKit
section
variable {P : Program} {T : TypeId → Option TI} {st : ASt} {a : Act} {w : World} {ι : Nat → Nat → Nat} {K : TV → ASt → Prop}
def dstOf (O : Store) (v : TV) (e : TypeId) (sz : Nat) (F : Nat → Nat → Nat → Nat → List (List PV) → Prop) : Prop :=
  match v with
  | .a (.s (.sl l b off len)) => ∃ es, O l b = some (.row e sz es) ∧ F l b off len es
  | .a (.s (.slc l b off len _)) => ∃ es, O l b = some (.row e sz es) ∧ F l b off len es
  | _ => False
def srcOf (O : Store) (v : TV) (e : TypeId) (sz n : Nat) (F : Nat → List (List PV) → Prop) : Prop :=
  match v with
  | .a (.s (.pv (.row esz es))) => esz = sz ∧ F es.length (es.take n)
  | .a (.s (.sl l b off len)) => ∃ es, O l b = some (.row e sz es) ∧ F len ((es.drop off).take (min n len))
  | .a (.s (.slc l b off len _)) => ∃ es, O l b = some (.row e sz es) ∧ off + min n len ≤ es.length ∧ F len ((es.drop off).take (min n len))
  | _ => False
theorem dst_inv {e : TypeId} {sz : Nat} {v : TV} {val : Value} {F : Nat → Nat → Nat → Nat → List (List PV) → Prop} (hr : RepT w (Gd w ι st.O) ι st.O v val) (hn : dstOf st.O v e sz F) :
    ∃ l b off len es cap c, F l b off len es ∧ st.O l b = some (.row e sz es) ∧ val = .slice (some ⟨ι l b, off * sz, none⟩) len cap ∧ len ≤ cap ∧ cap ≤ maxLen ∧ w.heap[ι l b]? = some (.cells c e (0, 0)) ∧ (off + cap) * sz = c.size := by
  unfold dstOf at hn
  split at hn
  · obtain ⟨es, ho, hF⟩ := hn
    obtain ⟨e1, esz, es1, cap, c, ho1, rfl, q1, q2, q3, q4, q5⟩ := hr
    rw [ho] at ho1
    simp only [Option.some.injEq, AObj.row.injEq] at ho1
    obtain ⟨rfl, rfl, rfl⟩ := ho1
    exact ⟨_, _, _, _, es, cap, c, hF, ho, rfl, q2, q3, q4, q5⟩
  · obtain ⟨es, ho, hF⟩ := hn
    obtain ⟨e1, esz, es1, c, ho1, rfl, q2, q3, q4, q5⟩ := hr
    rw [ho] at ho1
    simp only [Option.some.injEq, AObj.row.injEq] at ho1
    obtain ⟨rfl, rfl, rfl⟩ := ho1
    exact ⟨_, _, _, _, es, _, c, hF, ho, rfl, q2, q3, q4, q5⟩
  · exact hn.elim
theorem src_inv (h : Good st a w ι) {e : TypeId} {sz n : Nat} (hsz : 0 < sz) {v : TV} {val : Value} {F : Nat → List (List PV) → Prop} (hr : RepT w (Gd w ι st.O) ι st.O v val) (hn : srcOf st.O v e sz n F) :
    ∃ es ad m c news, F m es ∧ val = .slice (some ad) m c ∧ es.length = min n m ∧ News w (Gd w ι st.O) sz es ad news := by
  have own : ∀ {l b off k : Nat} {es : List (List PV)} {c : Array Value}, st.O l b = some (.row e sz es) → w.heap[ι l b]? = some (.cells c e (0, 0)) →
      ∃ news, News w (Gd w ι st.O) sz ((es.drop off).take k) ⟨ι l b, off * sz, none⟩ news := by
    intro l b off k es c ho q4
    obtain ⟨c', p1, p2, p3, p4, p5⟩ := h.lies.obj _ _ _ ho
    rw [q4] at p1
    simp only [Option.some.injEq, Obj.cells.injEq, and_true] at p1
    subst p1
    exact news_at (w := w) (G := Gd w ι st.O) hsz (fun i x hx => by
        rw [List.getElem?_take] at hx
        split at hx
        · rw [List.getElem?_drop] at hx; exact p2 _ x hx
        · cases hx) (fun i j x y hx hy => by
        rw [List.getElem?_take] at hx
        split at hx
        · rw [List.getElem?_drop] at hx
          obtain ⟨u, hu, hru⟩ := p5 _ j x y hx hy
          refine ⟨u, ?_, hru⟩
          rw [cell_block q4, ← hu]
          congr 1
          rw [Nat.add_mul]
        · cases hx)
  unfold srcOf at hn
  split at hn
  · rename_i esz es
    obtain ⟨blk, off, sp, cap, rfl, hsp, hcap, _, hrow⟩ := RepP.row_inv hr
    obtain ⟨rfl, hF⟩ := hn
    rcases hsp with rfl | rfl
    case inr => obtain rfl := List.eq_nil_of_length_eq_zero (Nat.le_zero.1 hcap); exact ⟨_, _, _, _, [], hF, rfl, by simp, by rw [List.take_nil]; exact news_nil⟩
    obtain ⟨news, hnews⟩ := news_at (es := es.take n) hsz (fun i x hx => by
        rw [List.getElem?_take] at hx
        split at hx
        · exact hrow.len i x hx
        · cases hx) (fun i j x y hx hy => by
        rw [List.getElem?_take] at hx
        split at hx
        · exact hrow.cell i j x y hx hy
        · cases hx)
    exact ⟨_, _, _, _, news, hF, rfl, by rw [List.length_take], hnews⟩
  · rename_i l b off len
    obtain ⟨es, ho, hF⟩ := hn
    obtain ⟨e1, esz, es1, cap, c, ho1, rfl, q1, q2, q3, q4, q5⟩ := hr
    rw [ho] at ho1
    simp only [Option.some.injEq, AObj.row.injEq] at ho1
    obtain ⟨rfl, rfl, rfl⟩ := ho1
    obtain ⟨news, hnews⟩ := own (off := off) (k := min n len) ho q4
    exact ⟨_, _, _, _, news, hF, rfl, by rw [List.length_take, List.length_drop]; omega, hnews⟩
  · rename_i l b off len cap
    obtain ⟨es, ho, hle, hF⟩ := hn
    obtain ⟨e1, esz, es1, c, ho1, rfl, q2, q3, q4, q5⟩ := hr
    rw [ho] at ho1
    simp only [Option.some.injEq, AObj.row.injEq] at ho1
    obtain ⟨rfl, rfl, rfl⟩ := ho1
    obtain ⟨news, hnews⟩ := own (off := off) (k := min n len) ho q4
    exact ⟨_, _, _, _, news, hF, rfl, by rw [List.length_take, List.length_drop]; omega, hnews⟩
  · exact hn.elim
def eCopy (T : TypeId → Option TI) (st : ASt) (t : TypeId) (x y : Operand) (K : TV → ASt → Prop) : Prop :=
  ∃ ti e ei, T t = some ti ∧ ti.d = .slice e ∧ T e = some ei ∧ 0 < ei.size ∧ dstOf st.O (st.ev x) e ei.size fun l b off len es => srcOf st.O (st.ev y) e ei.size len fun m news =>
    off ≤ es.length ∧ off + news.length ≤ maxLen ∧ K (int ((min m len : Nat) : Int)) { st with O := upd st.O l b (some (.row e ei.size (over es off news))) }
theorem eCopy_sound (hT : TOk P T) (h : Good st a w ι) {t t2 ty : TypeId} {x y : Operand} (hk : eCopy T st t x y K) :
    Does P st a w ι K (Builtin.copy_ #[t, t2] ty #[a.eval x, a.eval y]) := by
  obtain ⟨ti, e, ei, h1, h2, h3, hsz, hk⟩ := hk
  have hd := (hT t ti h1).desc
  rw [h2] at hd
  have hei := hT e ei h3
  obtain ⟨l, b, off, len, es, cap, c, hk, ho, hx, q1, q2, q3, q4⟩ := dst_inv (h.ev x) hk
  obtain ⟨es', ad, m, c2, news, ⟨hoff, hmx, hk⟩, hy, hlen, hnews⟩ := src_inv h hsz (h.ev y) hk
  rw [hx, hy]
  have hmin : Nat.min m len = es'.length := by rw [hlen]; exact Nat.min_comm m len
  have hfit : off * ei.size + news.length ≤ c.size := by
    rw [hnews.len, ← q4, ← Nat.add_mul]
    exact Nat.mul_le_mul_right _ (by rw [hlen]; omega)
  have hf := run_firstCells_some (P := P) w ei.size es'.length ad m c2 news hnews.len hnews.cell
  have hst := run_storeCells_at P (ι l b) (off * ei.size) e news 0 c w q3 (by simpa using hfit) hnews.one
  simp only [Nat.add_zero] at hst
  obtain ⟨g1, g2, _⟩ := row_write h ho q3 hoff hnews.len hfit hnews.el hnews.rep hmx
  refine ⟨_, .int .i64 ((min m len : Nat) : Int), _, _, ι, hk, ?_, g1, g2, RepP.lit _ rfl⟩
  simp only [Builtin.copy_, List.getElem?_toArray, List.getElem?_cons_zero, List.getElem?_cons_succ, Sem.run_bind, run_underlying hd.1, Result.andThen_ok, Builtin.lenOf, Sem.run_pure, run_sizeOf_ti w hei, hmin, hf, hst]
  rfl
theorem zeros_at {i : TI} {t : TypeId} (hi : i.ok P t) {n k j : Nat} {y : PV} (hk : k < n) (hy : (i.zero.map PV.lit)[j]? = some y) {G : Nat → Prop} :
    ∃ u, (Builtin.zeroCells i.zero.toArray n).toList[k * i.size + j]? = some u ∧ RepP w G y u := by
  rw [List.getElem?_map] at hy
  cases hz : i.zero[j]? with
  | none => simp [hz] at hy
  | some u =>
    simp only [hz, Option.map_some, Option.some.injEq] at hy
    subst hy
    have hj : j < i.size := by rw [← hi.zero]; exact (List.getElem?_eq_some_iff.1 hz).1
    have hlt : k * i.size + j < n * i.size := by
      have : (k + 1) * i.size ≤ n * i.size := Nat.mul_le_mul_right _ hk
      rw [Nat.add_mul] at this
      omega
    refine ⟨u, ?_, .lit _ (List.all_eq_true.1 hi.one u (List.mem_of_getElem? hz))⟩
    have hmod : (k * i.size + j) % i.size = j := by rw [Nat.mul_comm, Nat.mul_add_mod, Nat.mod_eq_of_lt hj]
    have hzj : i.zero.toArray[(k * i.size + j) % i.zero.toArray.size]! = u := by
      simp only [List.size_toArray, hi.zero, hmod]
      rw [getElem!_pos i.zero.toArray j (by simp; rw [hi.zero]; exact hj)]
      have := (List.getElem?_eq_some_iff.1 hz).2
      simpa using this
    have hlt' : k * i.size + j < n * i.zero.toArray.size := by simpa [hi.zero] using hlt
    rw [Array.getElem?_toList]
    simp only [Builtin.zeroCells, Array.getElem?_map, Array.getElem?_range, hlt', if_true, Option.map_some, hzj]
theorem zeros_one {i : TI} {t : TypeId} (hi : i.ok P t) (n : Nat) : ∀ v ∈ (Builtin.zeroCells i.zero.toArray n).toList, v.oneCell' = true := by
  intro v hv
  simp only [Builtin.zeroCells, Array.toList_map, List.mem_map, Array.mem_toList_iff, Array.mem_range] at hv
  obtain ⟨q, hq, rfl⟩ := hv
  have hpos : 0 < i.zero.toArray.size := by
    rcases Nat.eq_zero_or_pos i.zero.toArray.size with h0 | h0
    · rw [h0] at hq; simp at hq
    · exact h0
  have hlt : q % i.zero.toArray.size < i.zero.toArray.size := Nat.mod_lt _ hpos
  rw [getElem!_pos i.zero.toArray _ hlt]
  have hm : i.zero.toArray[q % i.zero.toArray.size] ∈ i.zero := by simp
  exact List.all_eq_true.1 hi.one _ hm
def eClear (T : TypeId → Option TI) (st : ASt) (t : TypeId) (x : Operand) (K : TV → ASt → Prop) : Prop :=
  ∃ ti e ei, T t = some ti ∧ ti.d = .slice e ∧ T e = some ei ∧ 0 < ei.size ∧ dstOf st.O (st.ev x) e ei.size fun l b off len es =>
    off ≤ es.length ∧ off + len ≤ maxLen ∧ 0 < len ∧ K (.tup []) { st with O := upd st.O l b (some (.row e ei.size (over es off (List.replicate len (ei.zero.map .lit))))) }
theorem eClear_sound (hT : TOk P T) (h : Good st a w ι) {t ty : TypeId} {x : Operand} (hk : eClear T st t x K) : Does P st a w ι K (Builtin.clear_ #[t] ty #[a.eval x]) := by
  obtain ⟨ti, e, ei, h1, h2, h3, hsz, hk⟩ := hk
  have hd := (hT t ti h1).desc
  rw [h2] at hd
  have hei := hT e ei h3
  obtain ⟨l, b, off, len, es, cap, c, ⟨hoff, hmx, hpos, hk⟩, ho, hx, q1, q2, q3, q4⟩ := dst_inv (h.ev x) hk
  rw [hx]
  have hzl : (Builtin.zeroCells ei.zero.toArray len).toList.length = (List.replicate len (ei.zero.map PV.lit)).length * ei.size := by
    rw [Array.length_toList, size_zeroCells, List.length_replicate]
    simp [hei.zero]
  have hfit : off * ei.size + (Builtin.zeroCells ei.zero.toArray len).toList.length ≤ c.size := by
    rw [hzl, List.length_replicate, ← q4, ← Nat.add_mul]
    exact Nat.mul_le_mul_right _ (by omega)
  have hst := run_storeCells_at P (ι l b) (off * ei.size) e (Builtin.zeroCells ei.zero.toArray len).toList 0 c w q3 (by simpa using hfit) (zeros_one hei len)
  simp only [Nat.add_zero] at hst
  obtain ⟨g1, g2, _⟩ := row_write h ho q3 hoff hzl hfit (fun i x hx => by
      rw [List.getElem?_replicate] at hx
      split at hx
      · cases hx; simp [hei.zero]
      · cases hx) (fun i j x y hx hy => by
      rw [List.getElem?_replicate] at hx
      split at hx
      · cases hx
        exact zeros_at hei (by omega) hy
      · cases hx) (by rw [List.length_replicate]; exact hmx)
  refine ⟨_, .tuple #[], _, _, ι, hk, ?_, g1, g2, rep_skip'⟩
  cases len with
  | zero => omega
  | succ m =>
    have hz := run_zeroValue_ti w hei
    simp only [Builtin.clear_, List.getElem?_toArray, List.getElem?_cons_zero, Sem.run_bind, run_underlying hd.1, Result.andThen_ok, hz, zero_cells hei, hst, Sem.run_pure]
where
  rep_skip' {w : World} {G : Nat → Prop} {ι : Nat → Nat → Nat} {O : Store} : RepT w G ι O (.tup []) (.tuple #[]) := ⟨#[], rfl, rfl, fun j y h => by simp at h⟩
end
end Go.Rd
namespace Go.Rd
open Go.RowKit
section
variable {P : Program} {T : TypeId → Option TI} {st : ASt} {a : Act} {w : World} {ι : Nat → Nat → Nat} {K : TV → ASt → Prop}
def srcAll (O : Store) (v : TV) (e : TypeId) (sz : Nat) (F : List (List PV) → Prop) : Prop :=
  match v with
  | .a (.s (.pv (.row esz es))) => esz = sz ∧ F es
  | .a (.s (.sl l b off len)) => ∃ es, O l b = some (.row e sz es) ∧ F ((es.drop off).take len)
  | .a (.s (.slc l b off len _)) => ∃ es, O l b = some (.row e sz es) ∧ off + len ≤ es.length ∧ F ((es.drop off).take len)
  | _ => False
theorem own_news (h : Good st a w ι) {e : TypeId} {sz : Nat} (hsz : 0 < sz) {l b : Nat} (off k : Nat) {es : List (List PV)} {c : Array Value} (ho : st.O l b = some (.row e sz es)) (q4 : w.heap[ι l b]? = some (.cells c e (0, 0))) :
    ∃ news, News w (Gd w ι st.O) sz ((es.drop off).take k) ⟨ι l b, off * sz, none⟩ news := by
  obtain ⟨c', p1, p2, p3, p4, p5⟩ := h.lies.obj _ _ _ ho
  rw [q4] at p1
  simp only [Option.some.injEq, Obj.cells.injEq, and_true] at p1
  subst p1
  exact news_at (w := w) (G := Gd w ι st.O) hsz (fun i x hx => by
      rw [List.getElem?_take] at hx
      split at hx
      · rw [List.getElem?_drop] at hx; exact p2 _ x hx
      · cases hx) (fun i j x y hx hy => by
      rw [List.getElem?_take] at hx
      split at hx
      · rw [List.getElem?_drop] at hx
        obtain ⟨u, hu, hru⟩ := p5 _ j x y hx hy
        refine ⟨u, ?_, hru⟩
        rw [cell_block q4, ← hu]
        congr 1
        rw [Nat.add_mul]
      · cases hx)
theorem srcAll_inv (h : Good st a w ι) {e : TypeId} {sz : Nat} (hsz : 0 < sz) {v : TV} {val : Value} {F : List (List PV) → Prop} (hr : RepT w (Gd w ι st.O) ι st.O v val) (hn : srcAll st.O v e sz F) :
    ∃ es ad m c news, F es ∧ val = .slice (some ad) m c ∧ m = es.length ∧ News w (Gd w ι st.O) sz es ad news := by
  unfold srcAll at hn
  split at hn
  · rename_i esz es
    obtain ⟨blk, off, sp, cap, rfl, hsp, hcap, _, hrow⟩ := RepP.row_inv hr
    obtain ⟨rfl, hF⟩ := hn
    rcases hsp with rfl | rfl
    case inr => obtain rfl := List.eq_nil_of_length_eq_zero (Nat.le_zero.1 hcap); exact ⟨_, _, _, _, [], hF, rfl, rfl, news_nil⟩
    obtain ⟨news, hnews⟩ := news_at hsz hrow.len hrow.cell
    exact ⟨_, _, _, _, news, hF, rfl, rfl, hnews⟩
  · rename_i l b off len
    obtain ⟨es, ho, hF⟩ := hn
    obtain ⟨e1, esz, es1, cap, c, ho1, rfl, q1, q2, q3, q4, q5⟩ := hr
    rw [ho] at ho1
    simp only [Option.some.injEq, AObj.row.injEq] at ho1
    obtain ⟨rfl, rfl, rfl⟩ := ho1
    obtain ⟨news, hnews⟩ := own_news h hsz off len ho q4
    exact ⟨_, _, _, _, news, hF, rfl, by rw [List.length_take, List.length_drop]; omega, hnews⟩
  · rename_i l b off len cap
    obtain ⟨es, ho, hle, hF⟩ := hn
    obtain ⟨e1, esz, es1, c, ho1, rfl, q2, q3, q4, q5⟩ := hr
    rw [ho] at ho1
    simp only [Option.some.injEq, AObj.row.injEq] at ho1
    obtain ⟨rfl, rfl, rfl⟩ := ho1
    obtain ⟨news, hnews⟩ := own_news h hsz off len ho q4
    exact ⟨_, _, _, _, news, hF, rfl, by rw [List.length_take, List.length_drop]; omega, hnews⟩
  · exact hn.elim
def eAppendS (T : TypeId → Option TI) (st : ASt) (d : Nat) (t : TypeId) (s x : Operand) (K : TV → ASt → Prop) : Prop :=
  ∃ ti e ei, T t = some ti ∧ ti.d = .slice e ∧ T e = some ei ∧ 0 < ei.size ∧ srcAll st.O (st.ev x) e ei.size fun news =>
    match st.ev s with
    | .a (.s (.slc l b 0 len cap)) => ∃ es, st.O l b = some (.row e ei.size es) ∧ len ≤ es.length ∧ len + news.length ≤ maxLen ∧
      (len + news.length ≤ cap → K (.a (.s (.slc l b 0 (len + news.length) cap))) { st with O := upd st.O l b (some (.row e ei.size (over es len news))) }) ∧
      (cap < len + news.length → (len + news.length) * ei.bytes ≤ 140737488355328 ∧ mkRow (st.drop d) d e ei.size (es.take len ++ news) K)
    | _ => False
theorem drop_Gd (st : ASt) (d : Nat) {w : World} {ι : Nat → Nat → Nat} : ∀ k, Gd w ι st.O k → Gd w ι (st.drop d).O k := by
  rintro k ⟨q1, q2⟩
  refine ⟨q1, fun ⟨l, b, o, q3, q4⟩ => ?_⟩
  obtain ⟨o1, q5⟩ := drop_O st d q3
  exact q2 ⟨l, b, o1, q5, q4⟩
theorem grow_sound (h : Good st a w ι) {d : Nat} {e : TypeId} {ei : TI} (hei : ei.ok P e) {es1 es2 : List (List PV)} {ad1 ad2 : Addr} {n1 n2 : List Value} {cap : Nat} (h1 : News w (Gd w ι st.O) ei.size es1 ad1 n1)
    (h2 : News w (Gd w ι st.O) ei.size es2 ad2 n2) (hmax : es1.length + es2.length ≤ maxLen) (hk : mkRow (st.drop d) d e ei.size (es1 ++ es2) K) {s : Sem Value}
    (hs : s.run P w = .ok (.slice (some ⟨w.heap.size, 0, none⟩) (es1.length + es2.length) (grownCap w (es1.length + es2.length) cap e))
      (w.drew.alloc (.cells ((n1 ++ n2).toArray ++ Builtin.zeroCells ei.zero.toArray (grownCap w (es1.length + es2.length) cap e - (es1.length + es2.length))) e))) : Does P st a w ι K s := by
  have hg := h.drop d
  have hge := grownCap_ge w (es1.length + es2.length) cap e
  refine Does.drop (mkRow_sound hg (g := w.heap.size) (cap := grownCap w (es1.length + es2.length) cap e) (by rw [ASt.drop_L]; exact ASt.drop_none st d) (below_drew_alloc w _) (Nat.le_refl _)
    (heap_alloc_new w.drew _) ?_ (by rw [List.length_append]; exact hge) (grownCap_le_maxLen w _ _ e hmax) (fun i x hx => ?_) (fun i j x y hx hy => ?_) hk (by rw [List.length_append]; exact hs))
  · simp only [Array.size_append, List.size_toArray, size_zeroCells, List.length_append, h1.len, h2.len, hei.zero]
    rw [← Nat.add_mul, ← Nat.add_mul]
    congr 1
    omega
  · rw [List.getElem?_append] at hx
    split at hx
    · exact h1.el _ x hx
    · exact h2.el _ x hx
  · have hx0 := hx
    rw [List.getElem?_append] at hx
    have key : ∃ u, (n1 ++ n2)[i * ei.size + j]? = some u ∧ RepP w (Gd w ι st.O) y u := by
      split at hx
      · obtain ⟨u, hu, hr⟩ := h1.rep i j x y hx hy
        exact ⟨u, by rw [List.getElem?_append_left (List.getElem?_eq_some_iff.1 hu).1]; exact hu, hr⟩
      · rename_i hi
        obtain ⟨u, hu, hr⟩ := h2.rep _ j x y hx hy
        have hle : es1.length * ei.size ≤ i * ei.size := Nat.mul_le_mul_right _ (by omega)
        refine ⟨u, ?_, hr⟩
        rw [List.getElem?_append_right (by rw [h1.len]; omega), h1.len, ← hu]
        congr 1
        rw [Nat.sub_mul]
        omega
    obtain ⟨u, hu, hr⟩ := key
    refine ⟨u, ?_, hr.mono (fun k hk => ⟨drop_Gd st d k hk, rfl⟩)⟩
    have hlt : i * ei.size + j < (n1 ++ n2).length := (List.getElem?_eq_some_iff.1 hu).1
    rw [Array.getElem?_append_left (by simpa using hlt)]
    simpa using hu
theorem eAppendS_sound (hT : TOk P T) (h : Good st a w ι) {d : Nat} {t ty : TypeId} {s x : Operand} (hk : eAppendS T st d t s x K) :
    Does P st a w ι K (Builtin.append_ #[t, t] ty #[a.eval s, a.eval x]) := by
  obtain ⟨ti, e, ei, h1, h2, h3, hsz, hk⟩ := hk
  have hd := (hT t ti h1).desc
  rw [h2] at hd
  have hei := hT e ei h3
  obtain ⟨inf, hi, hs, hb, hz⟩ := hei.info
  have hzc := zero_cells hei
  obtain ⟨es', ad, m, c, news, hk, hxv, rfl, hnews⟩ := srcAll_inv h hsz (h.ev x) hk
  rw [hxv]
  have hsv := h.ev s
  have hnl : news.length = es'.length * inf.size := by rw [hs]; exact hnews.len
  split at hk
  · rename_i l b len cap hq
    rw [hq] at hsv
    obtain ⟨es, ho, hle, hmax, hin, hout⟩ := hk
    obtain ⟨e1, esz, es1, cur, ho1, hv, q2, q3, q4, q5⟩ := hsv
    rw [ho] at ho1
    simp only [Option.some.injEq, AObj.row.injEq] at ho1
    obtain ⟨rfl, rfl, rfl⟩ := ho1
    rw [hv, Nat.zero_mul]
    rw [Nat.zero_add] at q5
    by_cases hroom : len + es'.length ≤ cap
    · have hfit : len * inf.size + news.length ≤ cur.size := by rw [hnl, ← q5, hs, ← Nat.add_mul]; exact Nat.mul_le_mul_right _ hroom
      have hrun := run_append_room (P := P) w t ty e inf hd.1 hi (ι l b) len cap cur q4 ad es'.length c news hnl hnews.cell hnews.one hroom hfit
      rw [hs] at hrun hfit
      obtain ⟨g1, g2, c', g3, g4⟩ := row_write h ho q4 hle hnews.len hfit hnews.el hnews.rep hmax
      exact ⟨_, _, _, _, ι, hin hroom, hrun, g1, g2, ⟨e, ei.size, over es len es', c', upd_same _ _ _ _, by rw [Nat.zero_mul], hroom, q3, g3, by rw [g4, Nat.zero_add]; exact q5⟩⟩
    · obtain ⟨hby, hk⟩ := hout (by omega)
      obtain ⟨olds, holds⟩ := own_news h hsz 0 len ho q4
      rw [Nat.zero_mul, List.drop_zero] at holds
      have hlt : (es.take len).length = len := by rw [List.length_take]; omega
      have hrun := run_append_grow (P := P) w t ty e inf _ hd.1 hi hz ⟨ι l b, 0, none⟩ len cap olds (by rw [holds.len, hlt, hs]) holds.cell ad es'.length c news hnl hnews.cell (by omega) (by unfold maxLen at hmax; omega)
        (growslice_fits (by omega) (by rw [hb]; exact hby))
      rw [hzc] at hrun
      refine grow_sound (es1 := es.take len) (cap := cap) h hei holds hnews (by rw [hlt]; exact hmax) hk ?_
      rw [hlt, show (olds ++ news).toArray = olds.toArray ++ news.toArray by simp]
      exact hrun
  · exact hk.elim
end
end Go.Rd
namespace Go.Rd
open Go.RowKit Go.Proofs
section
variable {P : Program} {T : TypeId → Option TI} {st : ASt} {a : Act} {w : World} {ι : Nat → Nat → Nat} {K : TV → ASt → Prop}
theorem run_append_grow_zeros (w : World) (t tx ty e : TypeId) (i : TypeInfo) (z : Value) {k : IntKind} (ht : P.underlying t = some (.slice e)) (hx : P.underlying tx = some (.int k)) (hi : P.info? e = some i) (hz : i.zero = some z) (hsz : 0 < i.size)
    (b : Addr) (sLen sCap : Nat) (olds : List Value) (hlo : olds.length = sLen * i.size) (holds : ∀ j v, olds[j]? = some v → w.cell? (b.add j) = some v) (n : Nat) (hpos : 0 < n)
    (hg : sCap < sLen + n) (h63 : ((sLen + n : Nat) : Int) ≤ 9223372036854775807) (hfit : Builtin.nextslicecap (sLen + n) sCap * i.bytes ≤ 281474976710656) (hby : n * i.bytes ≤ 281474976710656) {kk : IntKind} :
    (Builtin.append_ #[t, tx] ty #[.slice (some b) sLen sCap, .int kk n]).run P w =
      .ok (.slice (some ⟨w.heap.size, 0, none⟩) (sLen + n) (grownCap w (sLen + n) sCap e))
        (w.drew.alloc (.cells (olds.toArray ++ Builtin.zeroCells z.cells n ++ Builtin.zeroCells z.cells (grownCap w (sLen + n) sCap e - (sLen + n))) e)) := by
  have hn : ¬ (sLen + n ≤ sCap) := by omega
  have h63' : ¬ (9223372036854775807 < ((sLen : Int) + (n : Int))) := by omega
  have h48' : ¬ (281474976710656 < Builtin.nextslicecap (sLen + n) sCap * i.bytes) := by omega
  have hw : IntKind.i64.wrap (n : Int) = n := by rw [IntKind.wrap_i64]; omega
  have hneg : ¬ ((n : Int) < 0) := by omega
  have hby' : ¬ (281474976710656 < (n : Int) * (i.bytes : Int)) := by
    rw [← Int.natCast_mul]
    omega
  have hnz : ¬ (n * i.size = 0) := by
    have := Nat.mul_pos hpos hsz
    omega
  have hfo := run_firstCells_some (P := P) w.drew i.size sLen b sLen sCap olds hlo (by simpa using holds)
  simp [Builtin.append_, run_underlying ht, run_underlying hx, sizeOf, typeInfo, zeroValue, hi, hz, hw, hneg, hby', asInt, asIntOf, hn, h63', h48', Question.forced, hfo, newRow, grownCap, hnz]
def eAppendZ (P : Program) (T : TypeId → Option TI) (st : ASt) (d : Nat) (t t' : TypeId) (s x : Operand) (K : TV → ASt → Prop) : Prop :=
  ∃ ti e ei k, T t = some ti ∧ ti.d = .slice e ∧ T e = some ei ∧ 0 < ei.size ∧ P.underlying t' = some (.int k) ∧
    match st.ev s, st.ev x with
    | .a (.s (.slc l b 0 len cap)), .a (.s (.pv (.lit (.int _ n)))) => 0 < n ∧ ∃ es, st.O l b = some (.row e ei.size es) ∧ len ≤ es.length ∧ len + n.toNat ≤ maxLen ∧ cap < len + n.toNat ∧ (len + n.toNat) * ei.bytes ≤ 140737488355328 ∧
        mkRow (st.drop d) d e ei.size (es.take len ++ List.replicate n.toNat (ei.zero.map .lit)) K
    | _, _ => False
theorem news_zeros {i : TI} {e : TypeId} (hi : i.ok P e) {G : Nat → Prop} (n : Nat) : (∀ (k : Nat) (x : List PV), (List.replicate n (i.zero.map PV.lit))[k]? = some x → x.length = i.size) ∧
    ∀ (k j : Nat) (x : List PV) (y : PV), (List.replicate n (i.zero.map PV.lit))[k]? = some x → x[j]? = some y → ∃ u, (Builtin.zeroCells i.zero.toArray n).toList[k * i.size + j]? = some u ∧ RepP w G y u := by
  refine ⟨fun k x hx => ?_, fun k j x y hx hy => ?_⟩
  · rw [List.getElem?_replicate] at hx
    split at hx
    · simp only [Option.some.injEq] at hx
      subst hx
      rw [List.length_map, hi.zero]
    · cases hx
  · rw [List.getElem?_replicate] at hx
    split at hx
    · rename_i hk
      simp only [Option.some.injEq] at hx
      subst hx
      exact zeros_at hi hk hy
    · cases hx
theorem eAppendZ_sound (hT : TOk P T) (h : Good st a w ι) {d : Nat} {t t' ty : TypeId} {s x : Operand} (hk : eAppendZ P T st d t t' s x K) :
    Does P st a w ι K (Builtin.append_ #[t, t'] ty #[a.eval s, a.eval x]) := by
  obtain ⟨ti, e, ei, k, h1, h2, h3, hsz, hint, hk⟩ := hk
  have hd := (hT t ti h1).desc
  rw [h2] at hd
  have hei := hT e ei h3
  obtain ⟨inf, hi, hs, hb, hz⟩ := hei.info
  have hzc := zero_cells hei
  have hsv := h.ev s
  have hxv := h.ev x
  split at hk
  · rename_i l b len cap kk n hq1 hq2
    rw [hq1] at hsv
    rw [hq2] at hxv
    obtain ⟨hxe, _⟩ := RepP.lit_inv hxv
    obtain ⟨hpos, es, ho, hle, hmax, hroom, hby, hk⟩ := hk
    obtain ⟨e1, esz, es1, cur, ho1, hv, q2, q3, q4, q5⟩ := hsv
    rw [ho] at ho1
    simp only [Option.some.injEq, AObj.row.injEq] at ho1
    obtain ⟨rfl, rfl, rfl⟩ := ho1
    obtain ⟨m, rfl⟩ := Int.eq_ofNat_of_zero_le (by omega : 0 ≤ n)
    simp only [Int.toNat_natCast] at hmax hroom hby hk
    rw [hv, Nat.zero_mul, hxe]
    obtain ⟨olds, holds⟩ := own_news h hsz 0 len ho q4
    rw [Nat.zero_mul, List.drop_zero] at holds
    have hlt : (es.take len).length = len := by rw [List.length_take]; omega
    have hbm : m * inf.bytes ≤ 281474976710656 := by
      have : m * ei.bytes ≤ (len + m) * ei.bytes := Nat.mul_le_mul_right _ (by omega)
      rw [hb]; omega
    have hrun := run_append_grow_zeros (P := P) w t t' ty e inf _ hd.1 hint hi hz (by omega) ⟨ι l b, 0, none⟩ len cap olds (by rw [holds.len, hlt, hs]) holds.cell m (by omega) (by omega) (by unfold maxLen at hmax; omega)
      (growslice_fits (by omega) (by rw [hb]; exact hby)) hbm (kk := kk)
    rw [hzc] at hrun
    have hg := h.drop d
    have hge := grownCap_ge w (len + m) cap e
    obtain ⟨hz1, hz2⟩ := news_zeros (w := w) (G := Gd w ι st.O) hei m
    have hzl : (Builtin.zeroCells ei.zero.toArray m).size = m * ei.size := by rw [size_zeroCells]; simp [hei.zero]
    refine Does.drop (mkRow_sound hg (g := w.heap.size) (cap := grownCap w (len + m) cap e) (by rw [ASt.drop_L]; exact ASt.drop_none st d) (below_drew_alloc w _) (Nat.le_refl _)
      (heap_alloc_new w.drew _) ?_ (by rw [List.length_append, List.length_replicate, hlt]; exact hge) (grownCap_le_maxLen w _ _ e (by omega)) (fun i x hx => ?_) (fun i j x y hx hy => ?_) hk (by rw [List.length_append, List.length_replicate, hlt]; exact hrun))
    · simp only [Array.size_append, List.size_toArray, size_zeroCells, holds.len, hlt, hei.zero]
      rw [← Nat.add_mul, ← Nat.add_mul]
      congr 1
      omega
    · rw [List.getElem?_append] at hx
      split at hx
      · exact holds.el _ x hx
      · exact hz1 _ x hx
    · have key : ∃ u, (olds.toArray ++ Builtin.zeroCells ei.zero.toArray m)[i * ei.size + j]? = some u ∧ RepP w (Gd w ι st.O) y u := by
        rw [List.getElem?_append] at hx
        split at hx
        · obtain ⟨u, hu, hr⟩ := holds.rep i j x y hx hy
          exact ⟨u, by rw [Array.getElem?_append_left (by have := (List.getElem?_eq_some_iff.1 hu).1; simpa using this)]; simpa using hu, hr⟩
        · rename_i hi'
          obtain ⟨u, hu, hr⟩ := hz2 _ j x y hx hy
          have hle2 : (es.take len).length * ei.size ≤ i * ei.size := Nat.mul_le_mul_right _ (by omega)
          refine ⟨u, ?_, hr⟩
          rw [Array.getElem?_append_right (by simp only [List.size_toArray, holds.len]; omega)]
          simp only [List.size_toArray, holds.len]
          rw [Array.getElem?_toList] at hu
          rw [← hu]
          congr 1
          rw [Nat.sub_mul]
          omega
      obtain ⟨u, hu, hr⟩ := key
      refine ⟨u, ?_, hr.mono (fun k hk => ⟨drop_Gd st d k hk, rfl⟩)⟩
      have hlt2 : i * ei.size + j < (olds.toArray ++ Builtin.zeroCells ei.zero.toArray m).size := (Array.getElem?_eq_some_iff.1 hu).1
      rw [Array.getElem?_append_left hlt2]
      exact hu
  · exact hk.elim
def Ext (P : Program) (f : FuncId) (avs : List AV) (O : Store) (v : TV) : Prop :=
  ∃ fn e, P.funcs[f]? = some fn ∧ (fn.name == "runtime.NumGoroutine") = false ∧ fn.body.isNone = true ∧ Extern.findNext fn = none ∧ Extern.find fn = some e ∧
    ∀ (w : World) (ι : Nat → Nat → Nat) (vals : List Value), Lies w ι O → vals.length = avs.length → (∀ (i : Nat) (y : AV) (u : Value), avs[i]? = some y → vals[i]? = some u → RepA w (Gd w ι O) ι O y u) →
      ∃ val, (e vals.toArray).run P w = .ok val w ∧ RepT w (Gd w ι O) ι O v val
def acallX (P : Program) (st : ASt) (fop : Operand) (xs : List Operand) (K : TV → ASt → Prop) : Prop :=
  ∃ f avs v, st.ev fop = .a (.s (.clo f [])) ∧ argsOf (xs.map st.ev) = some avs ∧ Ext P f avs st.O v ∧ K v st
theorem acallX_sound (h : Good st a w ι) {fop : Operand} {xs : List Operand} {argTypes : Array TypeId} {dst : Option Tmp} {type : TypeId} {pos : String} {after : Array Edge} {guard : Option (Nat × Bool)} (hk : acallX P st fop xs K) :
    ∃ v val, K v st ∧ RepT w (Gd w ι st.O) ι st.O v val ∧ (execOp a.eval ⟨dst, .call ⟨.value fop, xs.toArray, argTypes⟩, type, pos, after, guard⟩).run P w = .ok (.value val) w := by
  obtain ⟨f, avs, v, hf, hx, ⟨fn, e, h1, h2, h3, h4, h5, h6⟩, hk⟩ := hk
  have hfv := h.ev fop
  rw [hf] at hfv
  obtain ⟨hfv, _⟩ := hfv
  obtain ⟨q1, q2⟩ := argsOf_rep (w := w) (G := Gd w ι st.O) (ι := ι) (O := st.O) (vals := xs.map a.eval) hx (by simp) (fun i y u hy hu => by
    rw [List.getElem?_map] at hy hu
    cases hxi : xs[i]? with
    | none => simp [hxi] at hy
    | some x =>
      simp only [hxi, Option.map_some, Option.some.injEq] at hy hu
      subst hy; subst hu
      exact h.ev x)
  obtain ⟨val, r1, r2⟩ := h6 w ι (xs.map a.eval) h.lies q1.symm q2
  refine ⟨v, val, hk, r2, ?_⟩
  have hc := run_callFunc_extern (P := P) h1 h2 h3 h4 h5 (xs.map a.eval).toArray w
  rw [r1] at hc
  simp only [execOp, resolve, hfv, Deferred.ofValue, Sem.run_bind, Sem.run_pure, Result.andThen_ok, invoke, List.map_toArray]
  simp at hc ⊢
  rw [hc]
end
end Go.Rd
namespace Go.Rd
open Go.RowKit Go.Proofs
def qMinMax (isMax : Bool) (vs : List TV) (K : TV → Prop) : Prop :=
  match vs with
  | [.a (.s (.pv (.lit (.int .i64 x)))), .a (.s (.pv (.lit (.int .i64 y))))] => K (int (if isMax then (if y > x then y else x) else (if y < x then y else x)))
  | _ => False
def qBuiltin (P : Program) (st : ASt) (b : Builtin) (xs : List Operand) (ts : List TypeId) (K : TV → Prop) : Prop :=
  match b, xs, ts with
  | .len, [x], [t] => qLen P t (st.ev x) K
  | .cap, [x], [t] => qCap P t (st.ev x) K
  | .max, [x, y], [_, _] => qMinMax true [st.ev x, st.ev y] K
  | .min, [x, y], [_, _] => qMinMax false [st.ev x, st.ev y] K
  | _, _, _ => False
def xq (P : Program) (T : TypeId → Option TI) (st : ASt) (op : Op) (K : TV → Prop) : Prop :=
  match op with
  | .move x => K (st.ev x)
  | .assign x => K (st.ev x)
  | .pick c x y => qPick (st.ev c) (st.ev x) (st.ev y) K
  | .load t x => qLoad T st.O t (st.ev x) K
  | .binOp op t x y _ => qBin P op t (st.ev x) (st.ev y) K
  | .unOp op _ x => qUn op (st.ev x) K
  | .convert s d x => qConv P s d (st.ev x) K
  | .makeFunc fn first caps => qFunc fn first (caps.toList.map st.ev) K
  | .slice t x lo hi mx => (mx.isNone = true ∧ qSlice T st.O t (st.ev x) (lo.map st.ev) (hi.map st.ev) K) ∨ ∃ l h m, lo = some l ∧ hi = some h ∧ mx = some m ∧ qSlice3 T t (st.ev x) (st.ev l) (st.ev h) (st.ev m) K
  | .fieldAddr s x f => qFieldAddr T s (st.ev x) f K
  | .field t x f => qField T t (st.ev x) f K
  | .indexAddr t x i => qIndexAddr (O := st.O) T t (st.ev x) (st.ev i) K
  | .index t x i => qIndex P t (st.ev x) (st.ev i) K
  | .extract t ix => qExtract ix (st.ev t) K
  | .build t parts => qBuild T t st.ev parts K
  | .call c => (match c.callee with
    | .builtin b => qBuiltin P st b c.args.toList c.argTypes.toList K
    | _ => False)
  | _ => False
section
variable {B : World → Prop} {P : Program} {T : TypeId → Option TI} {st : ASt} {a : Act} {w : World} {ι : Nat → Nat → Nat}
theorem qMinMax_sound {isMax : Bool} {X Y : TV} {vx vy : Value} {O : Store} {K : TV → Prop} (ts : Array TypeId) (t : TypeId) (hX : RepT w (Gd w ι O) ι O X vx) (hY : RepT w (Gd w ι O) ι O Y vy)
    (h : qMinMax isMax [X, Y] K) : Yields B P w ι O K (if isMax then Builtin.max_ ts t #[vx, vy] else Builtin.min_ ts t #[vx, vy]) := by
  unfold qMinMax at h
  split at h
  · rename_i hq
    simp only [List.cons.injEq, and_true] at hq
    obtain ⟨rfl, rfl⟩ := hq
    obtain ⟨rfl, _⟩ := RepP.lit_inv hX
    obtain ⟨rfl, _⟩ := RepP.lit_inv hY
    cases isMax
    · exact .lit h rfl (fun w' => run_min_int2 w' ts t .i64 .i64 _ _)
    · exact .lit h rfl (fun w' => run_max_int2 w' ts t .i64 .i64 _ _)
  · exact h.elim
def isLoad : Op → Bool
  | .load .. => true
  | _ => false
theorem xq_sound (hT : TOk P T) (h : Good st a w ι) {o : Oper} {K : TV → Prop} (hB : isLoad o.op = true → ∀ w', B w' → Below w.heap.size w w') (hk : xq P T st o.op K) :
    ∃ v val, K v ∧ RepT w (Gd w ι st.O) ι st.O v val ∧ ∀ w', B w' → (execOp a.eval o).run P w' = .ok (.value val) w' := by
  have fin : ∀ {s : Sem Value}, Yields B P w ι st.O K s → (∀ w', (execOp a.eval o).run P w' = ((do pure (Next.value (← s))) : Sem Next).run P w') →
      ∃ v val, K v ∧ RepT w (Gd w ι st.O) ι st.O v val ∧ ∀ w', B w' → (execOp a.eval o).run P w' = .ok (.value val) w' := by
    rintro s ⟨v, val, h1, h2, h3⟩ hs
    exact ⟨v, val, h1, h2, fun w' hw => by rw [hs w']; simp [h3 w' hw]⟩
  obtain ⟨dst, op, type, pos, after, guard⟩ := o
  cases op <;> simp only [xq] at hk
  case move x => exact fin (.pure hk (h.ev x)) (fun w' => rfl)
  case assign x => exact fin (.pure hk (h.ev x)) (fun w' => rfl)
  case pick c x y => exact fin (qPick_sound (P := P) (h.ev c) (h.ev x) (h.ev y) hk) (fun w' => by simp [execOp])
  case load t x => exact fin (qLoad_sound hT (hB rfl) h.lies (h.ev x) hk) (fun w' => rfl)
  case binOp op t x y t2 => exact fin (qBin_sound (h.ev x) (h.ev y) hk) (fun w' => rfl)
  case unOp op t x => exact fin (qUn_sound (h.ev x) hk) (fun w' => rfl)
  case convert s d x => exact fin (qConv_sound (h.ev x) hk) (fun w' => rfl)
  case slice t x lo hi mx =>
    rcases hk with ⟨hm, hk⟩ | ⟨l, hh, m, rfl, rfl, rfl, hk⟩
    case inr => exact fin (qSlice3_sound hT (h.ev x) (h.ev l) (h.ev hh) (h.ev m) hk) (fun w' => rfl)
    have hmx : mx = none := Option.isNone_iff_eq_none.1 hm
    subst hmx
    have hopt : ∀ (y : Option Operand), RepOpt w (Gd w ι st.O) ι st.O (y.map st.ev) (y.map a.eval) := by
      intro y; cases y with
      | none => trivial
      | some y => exact h.ev y
    exact fin (qSlice_sound hT (h.ev x) (hopt lo) (hopt hi) hk) (fun w' => rfl)
  case fieldAddr s x f => exact fin (qFieldAddr_sound hT (h.ev x) hk) (fun w' => rfl)
  case field t x f => exact fin (qField_sound hT (h.ev x) hk) (fun w' => rfl)
  case indexAddr t x i => exact fin (qIndexAddr_sound hT (h.ev x) (h.ev i) hk) (fun w' => rfl)
  case index t x i => exact fin (qIndex_sound (h.ev x) (h.ev i) hk) (fun w' => rfl)
  case extract t ix => exact fin (qExtract_sound (h.ev t) hk) (fun w' => rfl)
  case build t parts => exact fin (qBuild_sound hT (fun x => h.ev x) hk) (fun w' => rfl)
  case makeFunc fn first caps =>
    unfold qFunc at hk
    split at hk
    · rename_i f
      obtain ⟨rfl, bs, hb, hk⟩ := hk
      obtain ⟨h1, h2⟩ := boxesOf_rep (w := w) (ι := ι) (O := st.O) (vs := caps.toList.map a.eval) hb (by simp) (fun j y u hy hu => by
        rw [List.getElem?_map] at hy hu
        cases hx : caps.toList[j]? with
        | none => simp [hx] at hy
        | some x =>
          simp only [hx, Option.map_some, Option.some.injEq] at hy hu
          subst hy; subst hu
          exact h.ev x)
      refine ⟨_, .func (.func f) #[] (bs.map fun p => Value.pointer (some ⟨ι p.1 p.2, 0, none⟩)).toArray, hk, ⟨rfl, h2⟩, fun w' _ => ?_⟩
      rw [← h1]
      simp only [execOp, Instr.makeFunc, ← Array.toList_map, Array.toArray_toList]
      simp
    · exact hk.elim
  case call c =>
    obtain ⟨callee, args, argTypes⟩ := c
    split at hk
    · rename_i b hcal
      simp only at hcal
      subst hcal
      obtain ⟨xs⟩ := args
      obtain ⟨ts⟩ := argTypes
      unfold qBuiltin at hk
      split at hk
      · rename_i x t hx ht
        simp only at hx ht
        subst hx; subst ht
        exact fin (qLen_sound (ty := type) (h.ev x) hk) (fun w' => by simp [execOp, resolve, invoke, builtin])
      · rename_i x t hx ht
        simp only at hx ht
        subst hx; subst ht
        exact fin (qCap_sound (ty := type) (h.ev x) hk) (fun w' => by simp [execOp, resolve, invoke, builtin])
      · rename_i x y t t' hx ht
        simp only at hx ht
        subst hx; subst ht
        exact fin (s := Builtin.max_ #[t, t'] type #[a.eval x, a.eval y]) (by simpa using qMinMax_sound (P := P) #[t, t'] type (h.ev x) (h.ev y) hk) (fun w' => by simp [execOp, resolve, invoke, builtin])
      · rename_i x y t t' hx ht
        simp only at hx ht
        subst hx; subst ht
        exact fin (s := Builtin.min_ #[t, t'] type #[a.eval x, a.eval y]) (by simpa using qMinMax_sound (P := P) #[t, t'] type (h.ev x) (h.ev y) hk) (fun w' => by simp [execOp, resolve, invoke, builtin])
      · exact hk.elim
    · exact hk.elim
def xBuiltin (P : Program) (T : TypeId → Option TI) (st : ASt) (d : Nat) (b : Builtin) (xs : List Operand) (ts : List TypeId) (K : TV → ASt → Prop) : Prop :=
  match b, xs, ts with
  | .append, [s, x], [t, t'] => (t = t' ∧ (eAppend T st d t s x (wkK K) ∨ eAppendS T st d t s x (wkK K))) ∨ eAppendZ P T st d t t' s x (wkK K)
  | .copy, [x, y], [t, _] => eCopy T st t x y K
  | .clear, [x], [t] => eClear T st t x K
  | b, xs, ts => qBuiltin P st b xs ts fun v => K v st
def NanB (k : FloatKind) (r : Nat) : Prop := ∃ x y t, r = (Question.nanBits k x y).cut t
def qNan (T : TypeId → Option TI) (op : BinOp) (t : TypeId) (x y : TV) (K : TV → Prop) : Prop :=
  match x, y with
  | .a (.s (.pv (.lit (.float k a)))), .a (.s (.pv (.lit (.float k' b)))) => T t = none ∧ k = k' ∧ (op = .add ∨ op = .sub ∨ op = .mul ∨ op = .quo) ∧ floatBits op k a b = none ∧ ∀ r, NanB k r → K (lit (.float k r))
  | _, _ => False
def x1 (P : Program) (T : TypeId → Option TI) (st : ASt) (d : Nat) (op : Op) (K : TV → ASt → Prop) : Prop :=
  match op with
  | .move x => K (st.ev x) st
  | .assign x => K (st.ev x) st
  | .pick c x y => qPick (st.ev c) (st.ev x) (st.ev y) fun v => K v st
  | .load t x => qLoad T st.O t (st.ev x) fun v => K v st
  | .binOp op t x y _ => (qBin P op t (st.ev x) (st.ev y) fun v => K v st) ∨ qNan T op t (st.ev x) (st.ev y) fun v => K v st
  | .unOp op _ x => qUn op (st.ev x) fun v => K v st
  | .convert s t x => qConv P s t (st.ev x) fun v => K v st
  | .makeFunc fn first caps => qFunc fn first (caps.toList.map st.ev) fun v => K v st
  | .slice t x lo hi mx => (mx.isNone = true ∧ qSlice T st.O t (st.ev x) (lo.map st.ev) (hi.map st.ev) fun v => K v st) ∨ ∃ l h m, lo = some l ∧ hi = some h ∧ mx = some m ∧ qSlice3 T t (st.ev x) (st.ev l) (st.ev h) (st.ev m) fun v => K v st
  | .fieldAddr s x f => qFieldAddr T s (st.ev x) f fun v => K v st
  | .field t x f => qField T t (st.ev x) f fun v => K v st
  | .indexAddr t x i => qIndexAddr (O := st.O) T t (st.ev x) (st.ev i) fun v => K v st
  | .index t x i => qIndex P t (st.ev x) (st.ev i) fun v => K v st
  | .extract t ix => qExtract ix (st.ev t) fun v => K v st
  | .build t parts => qBuild T t st.ev parts fun v => K v st
  | .box e x => eBox st d e x K
  | .alloc e => eAlloc T st d e K
  | .store t ad x => eStore T st t ad x K
  | .makeSlice t l c => eMake T st d t l c K
  | .buildSlice t len parts => eBuildSlice T st d t len parts K
  | .call c => (match c.callee with
    | .builtin b => xBuiltin P T st d b c.args.toList c.argTypes.toList K
    | .value f => acall P st d f c.args.toList (wkK K) ∨ acallX P st f c.args.toList K
    | _ => False)
  | _ => False
def wantK (ops : List Oper) (st : ASt) (o : Oper) (yes no : ASt → Prop) : Prop :=
  match o.guard with
  | none => yes st
  | some (j, want) => match (ops[j]?).bind (·.dst) with
    | some t => (match st.get t with
      | .a (.s (.pv (.lit (.bool b)))) => t < st.n ∧ (b = true → (if want then yes else no) (st.set t (bool true))) ∧ (b = false → (if want then no else yes) (st.set t (bool false)))
      | .tup [] => t < st.n ∧ no st
      | _ => False)
    | none => False
def aops (P : Program) (T : TypeId → Option TI) (ops : List Oper) : List Oper → (ASt → Prop) → ASt → Prop
  | [], Q, st => Q st
  | o :: rest, Q, st => wantK ops st o (fun st => x1 P T st (o.dst.getD st.n) o.op fun v st' => st'.put o.dst v (aops P T ops rest Q)) (fun st => st.put o.dst (.tup []) (aops P T ops rest Q))
def pureS : SV → Bool
  | .pv _ => true
  | _ => false
def pureA : AV → Bool
  | .s x => pureS x
  | .agg xs => xs.all pureS
  | .pel .. => true
def acallQ (P : Program) (st : ASt) (op : Op) (K : TV → Prop) : Prop :=
  match op with
  | .call c => (match c.callee with
    | .value fop => ∃ f avs u, st.ev fop = .a (.s (.clo f [])) ∧ argsOf (c.args.toList.map st.ev) = some avs ∧ avs.all pureA = true ∧ (∃ (L : Nat), AC P L f avs (fun _ _ => none) fun r S' => S' = (fun _ _ => none) ∧ r = .val (lit u)) ∧ u.oneCell' = true ∧ K (lit u)
    | _ => False)
  | _ => False
def isQ : Oper → Bool := fun o => match o.op with
  | .move _ | .assign _ | .pick .. | .load .. | .binOp .. | .unOp .. | .convert .. | .makeFunc .. | .slice .. | .fieldAddr .. | .field .. | .indexAddr .. | .index .. | .extract .. | .build .. => true
  | .call c => match c.callee with
    | .builtin .len => true
    | .builtin .min => true
    | .builtin .max => true
    | _ => false
  | _ => false
def qstep (P : Program) (T : TypeId → Option TI) (o : Oper) (st : ASt) (K : TV → Prop) : Prop :=
  match isQ o with
  | true => xq P T st o.op K
  | false => acallQ P st o.op K
def qops (P : Program) (T : TypeId → Option TI) (ops : List Oper) : List Oper → (ASt → Prop) → ASt → Prop
  | [], Q, st => Q st
  | o :: rest, Q, st => wantK ops st o (fun st => qstep P T o st fun v => st.put o.dst v (qops P T ops rest Q)) (fun st => st.put o.dst (.tup []) (qops P T ops rest Q))
theorem Good.put {st : ASt} {a : Act} (h : Good st a w ι) {dst : Option Tmp} {v : TV} {val : Value} (hr : RepT w (Gd w ι st.O) ι st.O v val) {K : ASt → Prop} (hk : st.put dst v K) :
    ∃ st', K st' ∧ Good st' (a.put dst val) w ι ∧ st'.L = st.L ∧ st'.n = st.n ∧ st'.O = st.O := by
  unfold ASt.put at hk
  cases dst with
  | none => exact ⟨st, hk, h, rfl, rfl, rfl⟩
  | some d => exact ⟨_, hk.2, ⟨h.toFits.set hk.1 hr, h.sup, h.lev⟩, rfl, rfl, rfl⟩
theorem Moves.of_O {s1 s2 s3 : ASt} {w1 w2 : World} {i1 i2 : Nat → Nat → Nat} (h : Moves s1 s2 w1 w2 i1 i2) (hL : s3.L = s2.L) (hn : s3.n = s2.n) (hO : s3.O = s2.O) : Moves s1 s3 w1 w2 i1 i2 :=
  ⟨hL.trans h.L, hn.trans h.n, h.os, h.tape, h.output, h.size, h.keep, fun l b o ho => h.own l b o (by rw [← hO]; exact ho), fun l b o hl ho => by rw [hO]; exact h.low l b o hl ho, h.roomy⟩
theorem Moves.of_O' {s0 s1 s2 : ASt} {w1 w2 : World} {i1 i2 : Nat → Nat → Nat} (h : Moves s1 s2 w1 w2 i1 i2) (hL : s1.L = s0.L) (hn : s1.n = s0.n) (hO : s1.O = s0.O) : Moves s0 s2 w1 w2 i1 i2 := by
  refine ⟨h.L.trans hL, h.n.trans hn, h.os, h.tape, h.output, h.size, ?_, ?_, ?_, ?_⟩
  · rw [← hO]; exact h.keep
  · rw [← hO]; exact h.own
  · rw [← hL, ← hO]; exact h.low
  · rw [← hL, ← hO]; exact h.roomy
theorem setIf_self (xs : Array Value) (t : Nat) (v : Value) (h : t < xs.size) (hv : xs.getD t undef = v) : xs.setIfInBounds t v = xs := by
  subst hv
  apply Array.ext_getElem?
  intro i
  by_cases hi : i = t
  · subst hi
    rw [Array.getElem?_setIfInBounds_self_of_lt h, Array.getD_eq_getD_getElem?, Array.getElem?_eq_getElem h]
    rfl
  · rw [Array.getElem?_setIfInBounds_ne (fun e => hi e.symm)]
theorem wantK_sound {ops : List Oper} {st : ASt} {a : Act} (h : Good st a w ι) {o : Oper} {yes no : ASt → Prop} (hk : wantK ops st o yes no) :
    ∃ st', Good st' a w ι ∧ st'.L = st.L ∧ st'.n = st.n ∧ st'.O = st.O ∧ ((Region.wanted o (yielded ops.toArray a.tmps) = true ∧ yes st') ∨ (Region.wanted o (yielded ops.toArray a.tmps) = false ∧ no st')) := by
  unfold wantK at hk
  split at hk
  · rename_i hg
    exact ⟨st, h, rfl, rfl, rfl, .inl ⟨by simp [Region.wanted, hg], hk⟩⟩
  · rename_i j want hg
    split at hk
    · rename_i t ht
      split at hk
      · rename_i b hq
        obtain ⟨hlt, h1, h2⟩ := hk
        have hr := h.tm t hlt
        rw [hq] at hr
        have hv := (RepP.lit_inv hr).1
        have hset : ∀ c : Bool, b = c → Good (st.set t (bool c)) a w ι := by
          rintro c rfl
          have hs := h.toFits.set hlt (v := bool b) (u := .bool b) (RepP.lit _ rfl)
          have e : a.put (some t) (.bool b) = a := by
            simp only [Act.put]
            rw [setIf_self a.tmps t (.bool b) (by rw [h.size]; exact hlt) hv]
          rw [e] at hs
          exact ⟨hs, h.sup, h.lev⟩
        have hyield : yielded ops.toArray a.tmps j = some b := by
          have ht' : (ops.toArray[j]?).bind (·.dst) = some t := by simpa using ht
          have hsz : t < a.tmps.size := by rw [h.size]; exact hlt
          have hv' : a.tmps[t]? = some (.bool b) := by
            rw [Array.getD_eq_getD_getElem?, Array.getElem?_eq_getElem hsz] at hv
            rw [Array.getElem?_eq_getElem hsz]
            exact congrArg some hv
          unfold yielded
          rw [ht']
          simp [hv']
        cases b
        · have := h2 rfl
          cases want
          · exact ⟨_, hset _ rfl, rfl, rfl, rfl, .inl ⟨by simp [Region.wanted, hg, hyield], this⟩⟩
          · exact ⟨_, hset _ rfl, rfl, rfl, rfl, .inr ⟨by simp [Region.wanted, hg, hyield], this⟩⟩
        · have := h1 rfl
          cases want
          · exact ⟨_, hset _ rfl, rfl, rfl, rfl, .inr ⟨by simp [Region.wanted, hg, hyield], this⟩⟩
          · exact ⟨_, hset _ rfl, rfl, rfl, rfl, .inl ⟨by simp [Region.wanted, hg, hyield], this⟩⟩
      · rename_i hq
        obtain ⟨hlt, hno⟩ := hk
        have hr := h.tm t hlt
        rw [hq] at hr
        obtain ⟨vs, hv, _⟩ := hr
        have hyield : yielded ops.toArray a.tmps j = none := by
          have ht' : (ops.toArray[j]?).bind (·.dst) = some t := by simpa using ht
          have hsz : t < a.tmps.size := by rw [h.size]; exact hlt
          have hv' : a.tmps[t]? = some (.tuple vs) := by
            rw [Array.getD_eq_getD_getElem?, Array.getElem?_eq_getElem hsz] at hv
            rw [Array.getElem?_eq_getElem hsz]
            exact congrArg some hv
          unfold yielded
          rw [ht']
          simp [hv']
        exact ⟨st, h, rfl, rfl, rfl, .inr ⟨by simp [Region.wanted, hg, hyield], hno⟩⟩
      · exact hk.elim
    · exact hk.elim
theorem rep_skip {w : World} {G : Nat → Prop} {ι : Nat → Nat → Nat} {O : Store} : RepT w G ι O (.tup []) Go.undef := ⟨#[], rfl, rfl, fun j y h => by simp at h⟩
end
end Go.Rd
namespace Go.Rd
open Go.RowKit
structure Cel (w w' : World) : Prop where
  size : w.heap.size ≤ w'.heap.size
  same : ∀ (k : Nat) (c : Array Value) (e : TypeId) (m : Nat × Nat), w.heap[k]? = some (.cells c e m) → w'.heap[k]? = some (.cells c e m)
section
variable {w w' : World} {G G' : Nat → Prop} {ι : Nat → Nat → Nat} {O : Store}
theorem Cel.refl (w : World) : Cel w w := ⟨Nat.le_refl _, fun _ _ _ _ h => h⟩
theorem Cel.trans {w1 w2 w3 : World} (h : Cel w1 w2) (k : Cel w2 w3) : Cel w1 w3 := ⟨Nat.le_trans h.size k.size, fun q c e m hh => k.same q c e m (h.same q c e m hh)⟩
theorem Cel.of_grown {row : Option Nat} (h : w.grownBy w' row) (hr : ∀ r, row = some r → ∃ o : Obj, w.heap[r]? = some o ∧ o.isCells = false) : Cel w w' := by
  refine ⟨h.size, fun k c e m hk => ?_⟩
  rw [h.block k (Array.getElem?_eq_some_iff.1 hk).1 (fun q => ?_)]
  · exact hk
  · obtain ⟨o, ho, hc⟩ := hr k q.symm
    rw [hk] at ho
    cases ho
    cases hc
theorem Cel.putObj {l : Nat} {o o' : Obj} (h : w.heap[l]? = some o) (hc : o.isCells = false) : Cel w (w.putObj l o') :=
  .of_grown (grownBy_putObj' w l o') (fun r e => by cases e; exact ⟨o, h, hc⟩)
theorem Cel.cell (h : Cel w w') {a : Addr} {u : Value} (hu : w.cell? a = some u) : w'.cell? a = some u := by
  unfold World.cell? at hu ⊢
  split at hu
  · rename_i c e m hk
    rw [h.same _ _ _ _ hk]
    exact hu
  · cases hu
theorem RepP.cel {p : PV} {v : Value} (h : RepP w G p v) (hc : Cel w w') (hG : ∀ k, G k → G' k) : RepP w' G' p v := by
  induction h with
  | lit v h => exact .lit v h
  | row esz es blk off sp cap hsp u hlen hcap hmax hGb hcl hr ih =>
    exact .row esz es blk off sp cap hsp u hlen hcap hmax (fun hne => hG _ (hGb hne)) (fun i j e x he hx => hc.cell (hcl i j e x he hx)) ih
  | clo f caps vs blk u hvl hv hcl hr ih =>
    exact .clo f caps vs blk u hvl (fun i cs hi => ⟨(hv i cs hi).1, hG _ (hv i cs hi).2⟩) (fun i j cs x hi hx => hc.cell (hcl i j cs x hi hx)) ih
theorem RowAt.cel {esz : Nat} {es : List (List PV)} {blk off : Nat} (h : RowAt w G esz es blk off) (hc : Cel w w') (hG : ∀ k, G k → G' k) : RowAt w' G' esz es blk off :=
  ⟨h.len, fun hne => hG _ (h.good hne), h.max, fun i j e x he hx => by
    obtain ⟨u, hu, hr⟩ := h.cell i j e x he hx
    exact ⟨u, hc.cell hu, hr.cel hc hG⟩⟩
theorem RepS.cel {s : SV} {v : Value} (h : RepS w G ι O s v) (hc : Cel w w') (hG : ∀ k, G k → G' k) : RepS w' G' ι O s v := by
  cases s with
  | undef => exact h
  | pv p => exact RepP.cel h hc hG
  | pb l b j => exact h
  | pr l b i j => exact h
  | sl l b off len =>
    obtain ⟨e, esz, es, cap, c, q1, q2, q3, q4, q5, q6, q7⟩ := h
    exact ⟨e, esz, es, cap, c, q1, q2, q3, q4, q5, hc.same _ _ _ _ q6, q7⟩
  | slc l b off len cap =>
    obtain ⟨e, esz, es, c, q1, q2, q3, q4, q6, q7⟩ := h
    exact ⟨e, esz, es, c, q1, q2, q3, q4, hc.same _ _ _ _ q6, q7⟩
  | clo f caps => exact h
theorem RepA.cel {s : AV} {v : Value} (h : RepA w G ι O s v) (hc : Cel w w') (hG : ∀ k, G k → G' k) : RepA w' G' ι O s v := by
  cases s with
  | s x => exact RepS.cel h hc hG
  | agg xs =>
    obtain ⟨cs, rfl, hl, hcs⟩ := h
    exact ⟨cs, rfl, hl, fun j y hy => by
      obtain ⟨u, hu, hr⟩ := hcs j y hy
      exact ⟨u, hu, RepS.cel hr hc hG⟩⟩
  | pel esz es i j =>
    obtain ⟨blk, off, hr, rfl⟩ := h
    exact ⟨blk, off, hr.cel hc hG, rfl⟩
theorem RepT.cel {s : TV} {v : Value} (h : RepT w G ι O s v) (hc : Cel w w') (hG : ∀ k, G k → G' k) : RepT w' G' ι O s v := by
  cases s with
  | undef => trivial
  | a x => exact RepA.cel h hc hG
  | tup xs =>
    obtain ⟨cs, rfl, hl, hcs⟩ := h
    exact ⟨cs, rfl, hl, fun j y hy => by
      obtain ⟨u, hu, hr⟩ := hcs j y hy
      exact ⟨u, hu, RepA.cel hr hc hG⟩⟩
theorem RepO.cel {k : Nat} {o : AObj} (h : RepO w G ι O k o) (hc : Cel w w') (hG : ∀ k, G k → G' k) : RepO w' G' ι O k o := by
  cases o with
  | row e esz es =>
    obtain ⟨c, q1, q2, q3, q4, q5⟩ := h
    exact ⟨c, hc.same _ _ _ _ q1, q2, q3, q4, fun i j x y hx hy => by
      obtain ⟨u, hu, hr⟩ := q5 i j x y hx hy
      exact ⟨u, hu, hr.cel hc hG⟩⟩
  | box e cs =>
    obtain ⟨c, q1, q2, q3⟩ := h
    exact ⟨c, hc.same _ _ _ _ q1, q2, fun j y hy => by
      obtain ⟨u, hu, hr⟩ := q3 j y hy
      exact ⟨u, hu, RepS.cel hr hc hG⟩⟩
theorem Gd.cel (hc : Cel w w') : ∀ k, Gd w ι O k → Gd w' ι O k := fun _ hk => ⟨Nat.lt_of_lt_of_le hk.1 hc.size, hk.2⟩
theorem Lies.cel (h : Lies w ι O) (hc : Cel w w') : Lies w' ι O := ⟨fun l b o ho => (h.obj l b o ho).cel hc (Gd.cel hc), h.inj⟩
theorem Good.cel {st : ASt} {a : Act} (h : Good st a w ι) (hc : Cel w w') : Good st a w' ι :=
  ⟨⟨h.lies.cel hc, h.size, fun t ht => (h.tm t ht).cel hc (Gd.cel hc), h.out⟩, h.sup, h.lev⟩
theorem own_cells (h : Lies w ι O) {l b : Nat} {o : AObj} (ho : O l b = some o) : ∃ c e, w.heap[ι l b]? = some (.cells c e (0, 0)) := by
  have := h.obj l b o ho
  cases o with
  | row e esz es => obtain ⟨c, hc, _⟩ := this; exact ⟨c, e, hc⟩
  | box e cs => obtain ⟨c, hc, _⟩ := this; exact ⟨c, e, hc⟩
theorem not_own (h : Lies w ι O) {k : Nat} {o : Obj} (hk : w.heap[k]? = some o) (hc : o.isCells = false) : ¬ Own ι O k := by
  rintro ⟨l, b, o1, ho, rfl⟩
  obtain ⟨c, e, h1⟩ := own_cells h ho
  rw [hk] at h1
  cases h1
  cases hc
end
def Marks (base : Nat) (a : Act) (w : World) : Prop := ∃ Ds : List Nat, Ds.Nodup ∧ a.defers = Ds.map (fun D => { target := .collected D, args := #[] }) ∧ ∀ D ∈ Ds, base ≤ D ∧ w.heap[D]? = some (.deferred (some []))
theorem Marks.nil {base : Nat} {a : Act} {w : World} (h : a.defers = []) : Marks base a w := ⟨[], List.nodup_nil, h, fun _ h => by cases h⟩
theorem Marks.moves {base : Nat} {st st' : ASt} {a a' : Act} {w w' : World} {ι ι' : Nat → Nat → Nat} (h : Marks base a w) (hg : Good st a w ι) (hm : Moves st st' w w' ι ι') (hd : a'.defers = a.defers) : Marks base a' w' := by
  obtain ⟨Ds, h1, h2, h3⟩ := h
  refine ⟨Ds, h1, hd.trans h2, fun D hD => ⟨(h3 D hD).1, ?_⟩⟩
  have hk := (h3 D hD).2
  rw [hm.keep D (Array.getElem?_eq_some_iff.1 hk).1 (not_own hg.lies hk rfl)]
  exact hk
def writesOps (ops : List Oper) (t : Nat) : Bool := ops.any fun o => match o.dst with
  | some d => Nat.beq d t
  | none => false
def writesB : Code → Nat → Bool
  | .region _ ops _, t => writesOps ops.toList t
  | .seq x y, t => writesB x t || writesB y t
  | .cond _ x y, t => writesB x t || writesB y t
  | .block _ c, t => writesB c t
  | .loop c, t => writesB c t
  | _, _ => false
def Kept (W : Nat → Bool) (a a' : Act) : Prop := ∀ t, W t = false → a'.tmps.getD t undef = a.tmps.getD t undef
theorem Kept.refl (W : Nat → Bool) (a : Act) : Kept W a a := fun _ _ => rfl
theorem Kept.trans {W : Nat → Bool} {a b c : Act} (h : Kept W a b) (k : Kept W b c) : Kept W a c := fun t ht => (k t ht).trans (h t ht)
theorem Kept.mono {W W' : Nat → Bool} {a b : Act} (h : Kept W a b) (hw : ∀ t, W' t = false → W t = false) : Kept W' a b := fun t ht => h t (hw t ht)
theorem Kept.put {W : Nat → Bool} {a b : Act} (h : Kept W a b) {dst : Option Tmp} (hd : ∀ d, dst = some d → W d = true) (v : Value) : Kept W a (b.put dst v) := by
  intro t ht
  rw [← h t ht]
  cases dst with
  | none => rfl
  | some d =>
    have hne : d ≠ t := by rintro rfl; rw [hd d rfl] at ht; cases ht
    simp only [Act.put]
    rw [Array.getD_eq_getD_getElem?, Array.getElem?_setIfInBounds_ne hne, ← Array.getD_eq_getD_getElem?]
theorem writesOps_mem {ops : List Oper} {o : Oper} (h : o ∈ ops) : ∀ d, o.dst = some d → writesOps ops d = true := by
  intro d hd
  exact List.any_eq_true.2 ⟨o, h, by rw [hd]; exact Nat.beq_refl d⟩
theorem put_defers (a : Act) (dst : Option Tmp) (v : Value) : (a.put dst v).defers = a.defers := by cases dst <;> rfl
end Go.Rd
