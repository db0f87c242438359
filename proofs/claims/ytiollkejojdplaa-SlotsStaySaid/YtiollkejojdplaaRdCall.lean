/- RD, part 12: what a function's contract says, and a call by contract. -/
import Derived.Test.YtiollkejojdplaaRdAppend
import Derived.Shelf.Abstract
namespace Go.Rd
open Go.RowKit Go.Proofs

/-- What a call hands back: a value, or a new row of its own (with plain values behind it). -/
inductive RV where
  | val (r : TV)
  | own (e : TypeId) (esz : Nat) (es : List (List PV))
  | ownT (e : TypeId) (esz : Nat) (es : List (List PV)) (rest : List PV)

def RV.store (L : Nat) (S : Store) : RV → Store
  | .val _ => S
  | .own e esz es => upd S L 0 (some (.row e esz es))
  | .ownT e esz es _ => upd S L 0 (some (.row e esz es))
def RV.tv (L : Nat) : RV → TV
  | .val r => r
  | .own _ _ es => .a (.s (.sl L 0 0 es.length))
  | .ownT _ _ es rest => .tup (.s (.sl L 0 0 es.length) :: rest.map fun p => .s (.pv p))

/-- 'Moves' of stores alone: what lies below level L stays where it lies. -/
structure MovesS (L : Nat) (S S' : Store) (w w' : World) (ι ι' : Nat → Nat → Nat) : Prop where
  os : w'.os = w.os
  tape : w'.tape = w.tape
  output : w'.output = w.output
  size : w.heap.size ≤ w'.heap.size
  keep : ∀ k, k < w.heap.size → ¬ Own ι S k → w'.heap[k]? = w.heap[k]?
  own : ∀ l b o, S' l b = some o → Own ι S (ι' l b) ∨ w.heap.size ≤ ι' l b
  low : ∀ l b o, l < L → S l b = some o → ∃ o', S' l b = some o' ∧ o.fits o' ∧ ι' l b = ι l b
  roomy : ∀ l b o c e, l < L → S l b = some o → w.heap[ι l b]? = some (.cells c e (0, 0)) → ∃ c', w'.heap[ι l b]? = some (.cells c' e (0, 0)) ∧ c'.size = c.size

def Lev (S : Store) : Prop := ∀ l b e cs, S l b = some (.box e cs) → ∀ s ∈ cs, s.lev ≤ l

/-- THE CONTRACT of function 'f' at level L: called with these arguments over these objects it returns what 'R' takes. -/
def AC (P : Program) (L : Nat) (f : FuncId) (args : List AV) (S : Store) (R : RV → Store → Prop) : Prop :=
  Enters P f ∧ ∀ (w : World) (ι : Nat → Nat → Nat) (vals : List Value), Sup S L → Lev S → Lies w ι S → vals.length = args.length →
    (∀ (i : Nat) (y : AV) (u : Value), args[i]? = some y → vals[i]? = some u → RepA w (Gd w ι S) ι S y u) →
    Calls P f vals.toArray w fun e w' => ∃ r S' v ι', R r S' ∧ e = .returned v ∧ Sup S' L ∧ Lev S' ∧ Lies w' ι' (r.store L S') ∧ MovesS L S (r.store L S') w w' ι ι' ∧
      RepT w' (Gd w' ι' (r.store L S')) ι' (r.store L S') (r.tv L) v

theorem AC.mono {P : Program} {L : Nat} {f : FuncId} {args : List AV} {S : Store} {R R' : RV → Store → Prop} (h : AC P L f args S R) (hr : ∀ r S', R r S' → R' r S') : AC P L f args S R' :=
  ⟨h.1, fun w ι vals h1 h2 h3 h4 h5 => (h.2 w ι vals h1 h2 h3 h4 h5).mono fun _ _ ⟨r, S', v, ι', q1, q2⟩ => ⟨r, S', v, ι', hr r S' q1, q2⟩⟩

section
variable {P : Program} {st : ASt} {a : Act} {w : World} {ι : Nat → Nat → Nat} {K : TV → ASt → Prop}

/-- The call's own rows that these values lead to are frozen. -/
def ASt.freezeL (st : ASt) : List SV → ASt
  | [] => st
  | .sl l b _ _ :: r => (if l = st.L then st.drop b else st).freezeL r
  | _ :: r => st.freezeL r
def ASt.freezeA (st : ASt) : List Operand → ASt
  | [] => st
  | x :: r => (match cellsOf (st.ev x) with
    | some xs => st.freezeL xs
    | none => st).freezeA r

def argsOf : List TV → Option (List AV)
  | [] => some []
  | .a x :: r => (argsOf r).map (x :: ·)
  | _ :: _ => none

/-- The call: 'fop' what is called, 'xs' the arguments, 'd' the place of what it hands back. -/
def acallIn (P : Program) (L d : Nat) (st1 : ASt) (f : FuncId) (caps : List (Nat × Nat)) (xs : List Operand) (K : TV → ASt → Prop) : Prop :=
  ∃ avs R, argsOf (xs.map st1.ev) = some avs ∧ AC P (L + 1) f (avs ++ caps.map fun p => .s (.pb p.1 p.2 0)) st1.O R ∧
    ∀ r S', R r S' → match r with
      | .val tv => K tv { st1 with O := S' }
      | .own e esz es => S' L d = none ∧ K (.a (.s (.sl L d 0 es.length))) { st1 with O := upd S' L d (some (.row e esz es)) }
      | .ownT e esz es rest => S' L d = none ∧ K (.tup (.s (.sl L d 0 es.length) :: rest.map fun p => .s (.pv p))) { st1 with O := upd S' L d (some (.row e esz es)) }
def acallAt (P : Program) (L : Nat) (st1 : ASt) (d : Nat) (fop : Operand) (xs : List Operand) (K : TV → ASt → Prop) : Prop :=
  match st1.ev fop with
  | .a (.s (.clo f caps)) => acallIn P L d st1 f caps xs K
  | _ => False
/-- With its own rows among the arguments frozen, or handed as they are. -/
def acall (P : Program) (st : ASt) (d : Nat) (fop : Operand) (xs : List Operand) (K : TV → ASt → Prop) : Prop :=
  acallAt P st.L ((st.drop d).freezeA xs) d fop xs K ∨ acallAt P st.L (st.drop d) d fop xs K

theorem freezeL_L : ∀ (xs : List SV) (st : ASt), (st.freezeL xs).L = st.L
  | [], _ => rfl
  | s :: r, st => by
    cases s with
    | sl l b off len =>
      show (ASt.freezeL _ r).L = _
      rw [freezeL_L r]
      split
      · exact ASt.drop_L _ _
      · rfl
    | _ => exact freezeL_L r st

theorem freezeL_n : ∀ (xs : List SV) (st : ASt), (st.freezeL xs).n = st.n
  | [], _ => rfl
  | s :: r, st => by
    cases s with
    | sl l b off len =>
      show (ASt.freezeL _ r).n = _
      rw [freezeL_n r]
      split
      · exact ASt.drop_n _ _
      · rfl
    | _ => exact freezeL_n r st

theorem Good.freezeL : ∀ (xs : List SV) {st : ASt}, Good st a w ι → Good (st.freezeL xs) a w ι
  | [], _, h => h
  | s :: r, st, h => by
    cases s with
    | sl l b off len =>
      show Good (ASt.freezeL _ r) a w ι
      refine Good.freezeL r ?_
      split
      · exact h.drop b
      · exact h
    | _ => exact Good.freezeL r h

theorem Moves.freezeL : ∀ (xs : List SV) (st : ASt), Moves st (st.freezeL xs) w w ι ι
  | [], _ => Moves.refl _ _ _
  | s :: r, st => by
    cases s with
    | sl l b off len =>
      show Moves st (ASt.freezeL _ r) w w ι ι
      split
      · exact (Moves.drop st w ι b).trans (Moves.freezeL r _)
      · exact Moves.freezeL r _
    | _ => exact Moves.freezeL r st

theorem freezeA_both : ∀ (xs : List Operand) {st : ASt}, Good st a w ι → Good (st.freezeA xs) a w ι ∧ Moves st (st.freezeA xs) w w ι ι
  | [], st, h => ⟨h, Moves.refl _ _ _⟩
  | x :: r, st, h => by
    unfold ASt.freezeA
    split
    · rename_i ys _
      have h1 := Good.freezeL ys h
      obtain ⟨h2, h3⟩ := freezeA_both r h1
      exact ⟨h2, (Moves.freezeL ys st).trans h3⟩
    · exact freezeA_both r h

theorem argsOf_rep {G : Nat → Prop} {O : Store} : ∀ {tvs : List TV} {avs : List AV} {vals : List Value}, argsOf tvs = some avs → vals.length = tvs.length →
    (∀ (i : Nat) (y : TV) (u : Value), tvs[i]? = some y → vals[i]? = some u → RepT w G ι O y u) → avs.length = vals.length ∧ ∀ (i : Nat) (y : AV) (u : Value), avs[i]? = some y → vals[i]? = some u → RepA w G ι O y u
  | [], avs, vals, h, hl, _ => by
    simp only [argsOf, Option.some.injEq] at h
    subst h
    exact ⟨by simpa using hl.symm, by simp⟩
  | t :: r, avs, vals, h, hl, hr => by
    cases t with
    | a x =>
      simp only [argsOf] at h
      cases hq : argsOf r with
      | none => simp [hq] at h
      | some q =>
        simp only [hq, Option.map_some, Option.some.injEq] at h
        subst h
        cases vals with
        | nil => simp at hl
        | cons v vals =>
          obtain ⟨h1, h2⟩ := argsOf_rep hq (vals := vals) (by simpa using hl) (fun i y u hy hu => hr (i + 1) y u (by simpa using hy) (by simpa using hu))
          refine ⟨by simpa using h1, fun i y u hy hu => ?_⟩
          cases i with
          | zero =>
            simp only [List.getElem?_cons_zero, Option.some.injEq] at hy hu
            subst hy; subst hu
            exact hr 0 (.a x) v rfl rfl
          | succ i => exact h2 i y u (by simpa using hy) (by simpa using hu)
    | _ => simp [argsOf] at h

/-- Behind a call: the caller's state over the new objects. -/
theorem Good.behind (h : Good st a w ι) {S' : Store} {w' : World} {ι' : Nat → Nat → Nat} (hm : MovesS (st.L + 1) st.O S' w w' ι ι') (hl : Lies w' ι' S') (hs : Sup S' (st.L + 1)) (hv : Lev S') :
    Good { st with O := S' } a w' ι' ∧ Moves st { st with O := S' } w w' ι ι' := by
  have hlt : ∀ l b o, st.O l b = some o → l < st.L + 1 := fun l b o ho => by have := h.sup l b o ho; omega
  have hst : Stays w w' (Gd w ι st.O) (Gd w' ι' S') ι ι' st.O S' := by
    refine ⟨fun k hk => ⟨⟨Nat.lt_of_lt_of_le hk.1 hm.size, ?_⟩, hm.keep k hk.1 hk.2⟩, fun l b o ho => hm.low l b o (hlt l b o ho) ho, fun l b o c e ho hc => hm.roomy l b o c e (hlt l b o ho) ho hc⟩
    rintro ⟨l, b, o, ho, rfl⟩
    rcases hm.own l b o ho with h1 | h1
    · exact hk.2 h1
    · have := hk.1; omega
  refine ⟨⟨h.toFits.world hst hl, fun l b o ho => ?_, fun l b e cs ho => hv l b e cs ho⟩, ⟨rfl, rfl, hm.os, hm.tape, hm.output, hm.size, hm.keep, hm.own, fun l b o hl ho => hm.low l b o (by omega) ho, fun l b o c e hl ho hc => hm.roomy l b o c e (by omega) ho hc⟩⟩
  rcases Nat.lt_or_ge st.L l with h1 | h1
  · have ho' : S' l b = some o := ho
    rw [hs l b h1] at ho'
    cases ho'
  · exact h1

/-- The exported row becomes the caller's own. -/
theorem adopt {S' : Store} {w' : World} {ι' : Nat → Nat → Nat} {L d : Nat} {e : TypeId} {esz : Nat} {es : List (List PV)} (hs : Sup S' (L + 1)) (hv : Lev S') (hd : S' L d = none)
    (hl : Lies w' ι' (upd S' (L + 1) 0 (some (.row e esz es)))) :
    Lies w' (iupd ι' L d (ι' (L + 1) 0)) (upd S' L d (some (.row e esz es))) ∧
    (∀ k, Gd w' ι' (upd S' (L + 1) 0 (some (.row e esz es))) k → Gd w' (iupd ι' L d (ι' (L + 1) 0)) (upd S' L d (some (.row e esz es))) k) ∧
    (∀ s v, s.lev ≤ L → RepS w' (Gd w' ι' (upd S' (L + 1) 0 (some (.row e esz es)))) ι' (upd S' (L + 1) 0 (some (.row e esz es))) s v →
      RepS w' (Gd w' (iupd ι' L d (ι' (L + 1) 0)) (upd S' L d (some (.row e esz es)))) (iupd ι' L d (ι' (L + 1) 0)) (upd S' L d (some (.row e esz es))) s v) := by
  have hlt : ∀ l b o, S' l b = some o → l ≤ L := by
    intro l b o ho
    rcases Nat.lt_or_ge L l with h1 | h1
    · rw [hs l b h1] at ho; cases ho
    · exact h1
  have hne1 : ∀ l b o, S' l b = some o → ¬ (l = L + 1 ∧ b = 0) := fun l b o ho q => by have := hlt l b o ho; omega
  have hne2 : ∀ l b o, S' l b = some o → ¬ (l = L ∧ b = d) := by rintro l b o ho ⟨rfl, rfl⟩; rw [hd] at ho; cases ho
  have hGd : ∀ k, Gd w' ι' (upd S' (L + 1) 0 (some (.row e esz es))) k → Gd w' (iupd ι' L d (ι' (L + 1) 0)) (upd S' L d (some (.row e esz es))) k := by
    rintro k ⟨h1, h2⟩
    refine ⟨h1, fun ⟨l, b, o, h3, h4⟩ => h2 ?_⟩
    by_cases q : l = L ∧ b = d
    · obtain ⟨rfl, rfl⟩ := q
      rw [iupd_same] at h4
      exact ⟨l + 1, 0, _, upd_same _ _ _ _, h4⟩
    · rw [upd_ne _ _ q] at h3
      rw [iupd_ne _ _ q] at h4
      exact ⟨l, b, o, by rw [upd_ne _ _ (hne1 l b o h3)]; exact h3, h4⟩
  have hrep : ∀ s v, s.lev ≤ L → RepS w' (Gd w' ι' (upd S' (L + 1) 0 (some (.row e esz es)))) ι' (upd S' (L + 1) 0 (some (.row e esz es))) s v →
      RepS w' (Gd w' (iupd ι' L d (ι' (L + 1) 0)) (upd S' L d (some (.row e esz es)))) (iupd ι' L d (ι' (L + 1) 0)) (upd S' L d (some (.row e esz es))) s v := by
    intro s v hlev hr
    have turn : ∀ l b o, l ≤ L → upd S' (L + 1) 0 (some (.row e esz es)) l b = some o → upd S' L d (some (.row e esz es)) l b = some o ∧ iupd ι' L d (ι' (L + 1) 0) l b = ι' l b := by
      intro l b o hl ho
      rw [upd_ne _ _ (by omega)] at ho
      exact ⟨by rw [upd_ne _ _ (hne2 l b o ho)]; exact ho, iupd_ne _ _ (hne2 l b o ho)⟩
    cases s with
    | undef => exact hr
    | pv p => exact RepP.mono hr (fun k hk => ⟨hGd k hk, rfl⟩)
    | pb l b j =>
      obtain ⟨⟨e1, cs, ho⟩, rfl⟩ := hr
      obtain ⟨h1, h2⟩ := turn l b _ hlev ho
      exact ⟨⟨_, _, h1⟩, by rw [h2]⟩
    | pr l b i j =>
      obtain ⟨e1, esz1, es1, ho, rfl⟩ := hr
      obtain ⟨h1, h2⟩ := turn l b _ hlev ho
      exact ⟨_, _, _, h1, by rw [h2]⟩
    | sl l b off len =>
      obtain ⟨e1, esz1, es1, cap, c, ho, rfl, q1, q2, q3, q4, q5⟩ := hr
      obtain ⟨h1, h2⟩ := turn l b _ hlev ho
      exact ⟨_, _, _, cap, c, h1, by rw [h2], q1, q2, q3, by rw [h2]; exact q4, q5⟩
    | slc l b off len cap =>
      obtain ⟨e1, esz1, es1, c, ho, rfl, q2, q3, q4, q5⟩ := hr
      obtain ⟨h1, h2⟩ := turn l b _ hlev ho
      exact ⟨_, _, _, c, h1, by rw [h2], q2, q3, by rw [h2]; exact q4, q5⟩
    | clo f caps =>
      obtain ⟨rfl, hc⟩ := hr
      have hle : ∀ p ∈ caps, p.1 ≤ L := by
        intro p hp
        have : p.1 ≤ (SV.clo f caps).lev := by
          simp only [SV.lev]
          clear hlev hc
          induction caps with
          | nil => cases hp
          | cons q r ih =>
            simp only [List.foldr_cons]
            rcases List.mem_cons.1 hp with rfl | hp
            · omega
            · have := ih hp; omega
        omega
      refine ⟨?_, fun p hp => ?_⟩
      · congr 2
        refine List.map_congr_left fun p hp => ?_
        obtain ⟨e1, cs, ho⟩ := hc p hp
        rw [(turn _ _ _ (hle p hp) ho).2]
      · obtain ⟨e1, cs, ho⟩ := hc p hp
        exact ⟨_, _, (turn _ _ _ (hle p hp) ho).1⟩
  refine ⟨⟨fun l b o ho => ?_, fun l b o l2 b2 o2 h1 h2 q => ?_⟩, hGd, hrep⟩
  · by_cases q : l = L ∧ b = d
    · obtain ⟨rfl, rfl⟩ := q
      rw [upd_same] at ho
      cases ho
      rw [iupd_same]
      obtain ⟨c, q1, q2, q3, q4, q5⟩ := hl.obj (l + 1) 0 _ (upd_same _ _ _ _)
      exact ⟨c, q1, q2, q3, q4, fun i j x y hx hy => by
        obtain ⟨u, hu, hr⟩ := q5 i j x y hx hy
        exact ⟨u, hu, hr.mono (fun k hk => ⟨hGd k hk, rfl⟩)⟩⟩
    · rw [upd_ne _ _ q] at ho
      rw [iupd_ne _ _ q]
      have hr := hl.obj l b o (by rw [upd_ne _ _ (hne1 l b o ho)]; exact ho)
      cases o with
      | row e1 esz1 es1 =>
        obtain ⟨c, q1, q2, q3, q4, q5⟩ := hr
        exact ⟨c, q1, q2, q3, q4, fun i j x y hx hy => by
          obtain ⟨u, hu, hr⟩ := q5 i j x y hx hy
          exact ⟨u, hu, hr.mono (fun k hk => ⟨hGd k hk, rfl⟩)⟩⟩
      | box e1 cs =>
        obtain ⟨c, q1, q2, q3⟩ := hr
        refine ⟨c, q1, q2, fun j y hy => ?_⟩
        obtain ⟨u, hu, hr⟩ := q3 j y hy
        exact ⟨u, hu, hrep y u (by have := hv l b e1 cs ho y (List.mem_of_getElem? hy); have := hlt l b _ ho; omega) hr⟩
  · have back : ∀ l b o, upd S' L d (some (.row e esz es)) l b = some o → ∃ l' b' o', upd S' (L + 1) 0 (some (.row e esz es)) l' b' = some o' ∧ iupd ι' L d (ι' (L + 1) 0) l b = ι' l' b' ∧ ((l' = L + 1 ∧ b' = 0 ∧ l = L ∧ b = d) ∨ (l' ≠ L + 1 ∧ l' = l ∧ b' = b)) := by
      intro l b o ho
      by_cases q : l = L ∧ b = d
      · obtain ⟨rfl, rfl⟩ := q
        exact ⟨l + 1, 0, _, upd_same _ _ _ _, by rw [iupd_same], .inl ⟨rfl, rfl, rfl, rfl⟩⟩
      · rw [upd_ne _ _ q] at ho
        exact ⟨l, b, o, by rw [upd_ne _ _ (hne1 l b o ho)]; exact ho, iupd_ne _ _ q, .inr ⟨by have := hlt l b o ho; omega, rfl, rfl⟩⟩
    obtain ⟨l', b', o', p1, p2, p3⟩ := back l b o h1
    obtain ⟨l2', b2', o2', r1, r2, r3⟩ := back l2 b2 o2 h2
    rw [p2, r2] at q
    obtain ⟨e1, e2⟩ := hl.inj _ _ _ _ _ _ p1 r1 q
    rcases p3 with ⟨a1, a2, a3, a4⟩ | ⟨a1, a2, a3⟩ <;> rcases r3 with ⟨c1, c2, c3, c4⟩ | ⟨c1, c2, c3⟩
    · exact ⟨a3.trans c3.symm, a4.trans c4.symm⟩
    · exact absurd (e1.symm.trans a1) c1
    · exact absurd (e1.trans c1) a1
    · exact ⟨a2.symm.trans (e1.trans c2), a3.symm.trans (e2.trans c3)⟩

theorem freezeA_L : ∀ (xs : List Operand) (st : ASt), (st.freezeA xs).L = st.L
  | [], _ => rfl
  | x :: r, st => by
    unfold ASt.freezeA
    rw [freezeA_L r]
    split
    · exact freezeL_L _ _
    · rfl

/-- A call by contract. -/
theorem acall_sound (h : Good st a w ι) {d : Nat} {fop : Operand} {xs : List Operand} (hk : acall P st d fop xs K) :
    ∃ f capv, a.eval fop = .func (.func f) #[] capv ∧ Enters P f ∧
      Calls P f ((xs.map a.eval).toArray ++ capv) w fun e w' => ∃ v val st' ι', K v st' ∧ e = .returned val ∧ Good st' a w' ι' ∧ Moves st st' w w' ι ι' ∧ RepT w' (Gd w' ι' st'.O) ι' st'.O v val := by
  obtain ⟨st1, hk, hg, hm1, hL⟩ : ∃ st1, acallAt P st.L st1 d fop xs K ∧ Good st1 a w ι ∧ Moves st st1 w w ι ι ∧ st1.L = st.L := by
    rcases hk with hk | hk
    · obtain ⟨hg, hm0⟩ := freezeA_both xs (h.drop d)
      exact ⟨_, hk, hg, (Moves.drop st w ι d).trans hm0, by rw [freezeA_L, ASt.drop_L]⟩
    · exact ⟨_, hk, h.drop d, Moves.drop st w ι d, ASt.drop_L _ _⟩
  unfold acallAt at hk
  split at hk
  · rename_i f caps hq
    have hf := hg.ev fop
    rw [hq] at hf
    obtain ⟨hfv, hcaps⟩ := hf
    obtain ⟨avs, R, h1, ⟨hent, h2⟩, h3⟩ := hk
    refine ⟨f, _, hfv, hent, ?_⟩
    obtain ⟨hal, har⟩ := argsOf_rep (w := w) (G := Gd w ι st1.O) (ι := ι) (O := st1.O) (vals := xs.map a.eval) h1 (by simp) (fun i y u hy hu => by
      rw [List.getElem?_map] at hy hu
      cases hx : xs[i]? with
      | none => simp [hx] at hy
      | some x =>
        simp only [hx, Option.map_some, Option.some.injEq] at hy hu
        subst hy; subst hu
        exact hg.ev x)
    have hsup : Sup st1.O (st.L + 1) := by
      intro l b hl
      cases ho : st1.O l b with
      | none => rfl
      | some o => have := hg.sup l b o ho; omega
    have hc := h2 w ι (xs.map a.eval ++ caps.map fun p => Value.pointer (some ⟨ι p.1 p.2, 0, none⟩)) hsup hg.lev hg.lies (by simp at hal ⊢; omega) (fun i y u hy hu => by
      have hxl : (xs.map a.eval).length = avs.length := hal.symm
      rcases Nat.lt_or_ge i avs.length with hi | hi
      · rw [List.getElem?_append_left hi] at hy
        rw [List.getElem?_append_left (by omega)] at hu
        exact har i y u hy hu
      · rw [List.getElem?_append_right hi] at hy
        rw [List.getElem?_append_right (by omega), hxl] at hu
        rw [List.getElem?_map] at hy hu
        cases hp : caps[i - avs.length]? with
        | none => simp [hp] at hy
        | some p =>
          simp only [hp, Option.map_some, Option.some.injEq] at hy hu
          subst hy; subst hu
          obtain ⟨e, cs, ho⟩ := hcaps p (List.mem_of_getElem? hp)
          exact ⟨⟨e, cs, ho⟩, rfl⟩)
    have hargs : (xs.map a.eval ++ caps.map fun p => Value.pointer (some ⟨ι p.1 p.2, 0, none⟩)).toArray = (xs.map a.eval).toArray ++ (caps.map fun p => Value.pointer (some ⟨ι p.1 p.2, 0, none⟩)).toArray := by simp
    rw [hargs] at hc
    refine hc.mono ?_
    rintro e w' ⟨r, S', v, ι', q1, rfl, q2, q3, q4, q5, q6⟩
    have hr := h3 r S' q1
    cases r with
    | val tv =>
      obtain ⟨g1, g2⟩ := hg.behind (by rw [hL]; exact q5) q4 (by rw [hL]; exact q2) q3
      exact ⟨tv, v, _, ι', hr, rfl, g1, hm1.trans g2, q6⟩
    | own e esz es =>
      obtain ⟨hd, hr⟩ := hr
      obtain ⟨a1, a2, a3⟩ := adopt q2 q3 hd q4
      have hms : MovesS (st1.L + 1) st1.O (upd S' st.L d (some (.row e esz es))) w w' ι (iupd ι' st.L d (ι' (st.L + 1) 0)) := by
        refine ⟨q5.os, q5.tape, q5.output, q5.size, q5.keep, fun l b o ho => ?_, fun l b o hl ho => ?_, fun l b o c e1 hl ho hc1 => ?_⟩
        · by_cases hh : l = st.L ∧ b = d
          · rw [hh.1, hh.2, iupd_same]; exact q5.own _ _ _ (upd_same _ _ _ _)
          · rw [upd_ne _ _ hh] at ho
            rw [iupd_ne _ _ hh]
            exact q5.own l b o (by show upd S' (st.L + 1) 0 _ l b = _; rw [upd_ne _ _ (by rintro ⟨rfl, rfl⟩; rw [q2 _ _ (Nat.le_refl _)] at ho; cases ho)]; exact ho)
        · obtain ⟨o', p1, p2, p3⟩ := q5.low l b o (by rw [← hL]; exact hl) ho
          have hlt : ¬ (l = st.L + 1 ∧ b = 0) := by rw [hL] at hl; omega
          have p1' : S' l b = some o' := by rw [← upd_ne S' (some (.row e esz es)) hlt]; exact p1
          have hh : ¬ (l = st.L ∧ b = d) := by rintro ⟨rfl, rfl⟩; rw [hd] at p1'; cases p1'
          exact ⟨o', by rw [upd_ne _ _ hh]; exact p1', p2, by rw [iupd_ne _ _ hh]; exact p3⟩
        · exact q5.roomy l b o c e1 (by rw [← hL]; exact hl) ho hc1
      obtain ⟨g1, g2⟩ := hg.behind hms a1 (by
          intro l b hl
          rw [hL] at hl
          rw [upd_ne _ _ (by omega)]
          exact q2 l b hl) (by
          intro l b e1 cs ho s hs
          by_cases hh : l = st.L ∧ b = d
          · rw [hh.1, hh.2, upd_same] at ho; cases ho
          · rw [upd_ne _ _ hh] at ho; exact q3 l b e1 cs ho s hs)
      refine ⟨_, v, _, _, hr, rfl, g1, hm1.trans g2, ?_⟩
      obtain ⟨e1, esz1, es1, cap, c, ho1, rfl, p1, p2, p3, p4, p5⟩ := q6
      rw [show (RV.own e esz es).store (st.L + 1) S' = upd S' (st.L + 1) 0 (some (.row e esz es)) from rfl, upd_same] at ho1
      simp only [Option.some.injEq, AObj.row.injEq] at ho1
      obtain ⟨rfl, rfl, rfl⟩ := ho1
      exact ⟨_, _, _, cap, c, upd_same _ _ _ _, by rw [iupd_same], p1, p2, p3, by rw [iupd_same]; exact p4, p5⟩
    | ownT e esz es rest =>
      obtain ⟨hd, hr⟩ := hr
      obtain ⟨a1, a2, a3⟩ := adopt q2 q3 hd q4
      have hms : MovesS (st1.L + 1) st1.O (upd S' st.L d (some (.row e esz es))) w w' ι (iupd ι' st.L d (ι' (st.L + 1) 0)) := by
        refine ⟨q5.os, q5.tape, q5.output, q5.size, q5.keep, fun l b o ho => ?_, fun l b o hl ho => ?_, fun l b o c e1 hl ho hc1 => ?_⟩
        · by_cases hh : l = st.L ∧ b = d
          · rw [hh.1, hh.2, iupd_same]; exact q5.own _ _ _ (upd_same _ _ _ _)
          · rw [upd_ne _ _ hh] at ho
            rw [iupd_ne _ _ hh]
            exact q5.own l b o (by show upd S' (st.L + 1) 0 _ l b = _; rw [upd_ne _ _ (by rintro ⟨rfl, rfl⟩; rw [q2 _ _ (Nat.le_refl _)] at ho; cases ho)]; exact ho)
        · obtain ⟨o', p1, p2, p3⟩ := q5.low l b o (by rw [← hL]; exact hl) ho
          have hlt : ¬ (l = st.L + 1 ∧ b = 0) := by rw [hL] at hl; omega
          have p1' : S' l b = some o' := by rw [← upd_ne S' (some (.row e esz es)) hlt]; exact p1
          have hh : ¬ (l = st.L ∧ b = d) := by rintro ⟨rfl, rfl⟩; rw [hd] at p1'; cases p1'
          exact ⟨o', by rw [upd_ne _ _ hh]; exact p1', p2, by rw [iupd_ne _ _ hh]; exact p3⟩
        · exact q5.roomy l b o c e1 (by rw [← hL]; exact hl) ho hc1
      obtain ⟨g1, g2⟩ := hg.behind hms a1 (by
          intro l b hl
          rw [hL] at hl
          rw [upd_ne _ _ (by omega)]
          exact q2 l b hl) (by
          intro l b e1 cs ho s hs
          by_cases hh : l = st.L ∧ b = d
          · rw [hh.1, hh.2, upd_same] at ho; cases ho
          · rw [upd_ne _ _ hh] at ho; exact q3 l b e1 cs ho s hs)
      refine ⟨_, v, _, _, hr, rfl, g1, hm1.trans g2, ?_⟩
      obtain ⟨vs, rfl, hvl, hvs⟩ := q6
      refine ⟨vs, rfl, by simpa using hvl, fun j y hy => ?_⟩
      cases j with
      | zero =>
        simp only [List.getElem?_cons_zero, Option.some.injEq] at hy
        subst hy
        obtain ⟨u, hu, e1, esz1, es1, cap, c, ho1, rfl, p1, p2, p3, p4, p5⟩ := hvs 0 _ rfl
        rw [show (RV.ownT e esz es rest).store (st.L + 1) S' = upd S' (st.L + 1) 0 (some (.row e esz es)) from rfl, upd_same] at ho1
        simp only [Option.some.injEq, AObj.row.injEq] at ho1
        obtain ⟨rfl, rfl, rfl⟩ := ho1
        exact ⟨_, hu, _, _, _, cap, c, upd_same _ _ _ _, by rw [iupd_same], p1, p2, p3, by rw [iupd_same]; exact p4, p5⟩
      | succ j =>
        obtain ⟨u, hu, hru⟩ := hvs (j + 1) y (by simpa using hy)
        refine ⟨u, hu, ?_⟩
        simp only [List.getElem?_cons_succ, List.getElem?_map] at hy
        cases hp : rest[j]? with
        | none => simp [hp] at hy
        | some p =>
          simp only [hp, Option.map_some, Option.some.injEq] at hy
          subst hy
          exact RepP.mono hru (fun k hk => ⟨a2 k hk, rfl⟩)
  · exact hk.elim
end
end Go.Rd
