/- RD, part 6: an object of the call is given up: what led to it leads to frozen memory, or to nothing. -/
import Derived.Test.YtiollkejojdplaaRdQuiet3
namespace Go.Rd
open Go.RowKit

/-- References to object (L, b) turned: a slice into what 'g' makes of it, all else into nothing. -/
def SV.sub (L b : Nat) (g : Nat → Nat → SV) : SV → SV
  | .sl l c off len => if l = L ∧ c = b then g off len else .sl l c off len
  | .slc l c off len cap => if l = L ∧ c = b then .undef else .slc l c off len cap
  | .pr l c i j => if l = L ∧ c = b then .undef else .pr l c i j
  | .pb l c j => if l = L ∧ c = b then .undef else .pb l c j
  | .clo f caps => if (L, b) ∈ caps then .undef else .clo f caps
  | x => x
def AV.sub (L b : Nat) (g : Nat → Nat → SV) : AV → AV
  | .s x => .s (x.sub L b g)
  | .agg xs => .agg (xs.map (·.sub L b g))
  | x => x
def TV.sub (L b : Nat) (g : Nat → Nat → SV) : TV → TV
  | .undef => .undef
  | .a x => .a (x.sub L b g)
  | .tup xs => .tup (xs.map (·.sub L b g))
def AObj.sub (L b : Nat) (g : Nat → Nat → SV) : AObj → AObj
  | .row e esz es => .row e esz es
  | .box e cs => .box e (cs.map (·.sub L b g))
def mapTm (f : TV → TV) : List (Nat × TV) → List (Nat × TV)
  | [] => []
  | (t, v) :: r => (t, f v) :: mapTm f r
def mapO (L : Nat) (f : AObj → AObj) (O : Store) : Store := fun l b => if l = L then (O l b).map f else O l b

theorem mapO_upd (L : Nat) (f : AObj → AObj) (O : Store) (b : Nat) (o : Option AObj) : mapO L f (upd O L b o) = upd (mapO L f O) L b (o.map f) := by
  funext l c
  simp only [mapO, upd]
  by_cases h : l = L
  · subst h; by_cases hc : c = b <;> simp [hc]
  · simp [h]

/-- No object at this level or above. -/
def Sup (S : Store) (L : Nat) : Prop := ∀ l b, L ≤ l → S l b = none

theorem mapO_sup {L : Nat} {S : Store} (h : Sup S L) (f : AObj → AObj) : mapO L f S = S := by
  funext l c
  simp only [mapO]
  split
  · rename_i e; subst e; rw [h l c (Nat.le_refl _)]; rfl
  · rfl

theorem look_mapTm (f : TV → TV) (hf : f .undef = .undef) : ∀ (l : List (Nat × TV)) (t : Nat), look (mapTm f l) t = f (look l t)
  | [], _ => hf.symm
  | (k, v) :: r, t => by
    simp only [mapTm, look]
    split
    · rfl
    · exact look_mapTm f hf r t

def ASt.sub (st : ASt) (b : Nat) (g : Nat → Nat → SV) : ASt := { st with tm := mapTm (TV.sub st.L b g) st.tm, O := mapO st.L (AObj.sub st.L b g) st.O }

/-- Object (L, b) is given up: slices over it become frozen rows. -/
def ASt.drop (st : ASt) (b : Nat) : ASt :=
  match st.O st.L b with
  | none => st
  | some (.row _ esz es) =>
    let s := st.sub b fun off len => .pv (.row esz ((es.drop off).take len))
    { s with O := upd s.O st.L b none }
  | some (.box _ _) =>
    let s := st.sub b fun _ _ => .undef
    { s with O := upd s.O st.L b none }

/-- The invariant with all that it needs: levels too. -/
structure Good (st : ASt) (a : Act) (w : World) (ι : Nat → Nat → Nat) : Prop extends Fits st a w ι where
  sup : ∀ l b o, st.O l b = some o → l ≤ st.L
  lev : ∀ l b e cs, st.O l b = some (.box e cs) → ∀ s ∈ cs, s.lev ≤ l

section
variable {w : World} {G G' : Nat → Prop} {ι : Nat → Nat → Nat} {O O' : Store}

/-- What 'sub' owes at each slice over the object. -/
def SubOk (w : World) (G G' : Nat → Prop) (ι : Nat → Nat → Nat) (O O' : Store) (L b : Nat) (g : Nat → Nat → SV) : Prop :=
  ∀ off len v, RepS w G ι O (.sl L b off len) v → RepS w G' ι O' (g off len) v

theorem RepS.sub {L b : Nat} {g : Nat → Nat → SV} {s : SV} {v : Value} (h : RepS w G ι O s v) (hg : SubOk w G G' ι O O' L b g)
    (hG : ∀ k, G k → G' k) (hO : ∀ l c o, O l c = some o → ¬ (l = L ∧ c = b) → ∃ o', O' l c = some o' ∧ o.fits o') : RepS w G' ι O' (s.sub L b g) v := by
  have keep : ∀ {s : SV}, RepS w G ι O s v → (∀ l c, ¬ (l = L ∧ c = b) ∨ True) → True := fun _ _ => trivial
  cases s with
  | undef => exact h
  | pv p => exact RepP.mono h (fun k hk => ⟨hG k hk, rfl⟩)
  | sl l c off len =>
    simp only [SV.sub]
    split
    · rename_i e; obtain ⟨rfl, rfl⟩ := e; exact hg off len v h
    · rename_i e
      obtain ⟨e1, esz, es, cap, cc, ho, rfl, q1, q2, q3, q4, q5⟩ := h
      obtain ⟨o', h1, h2⟩ := hO l c _ ho e
      cases o' with
      | box => exact h2.elim
      | row e' esz' es' =>
        obtain ⟨rfl, rfl, hl⟩ := h2
        exact ⟨_, _, _, cap, cc, h1, rfl, by omega, q2, q3, q4, q5⟩
  | slc l c off len cap =>
    simp only [SV.sub]
    obtain ⟨e1, esz, es, cc, ho, rfl, q2, q3, q4, q5⟩ := h
    split
    · rfl
    · rename_i e
      obtain ⟨o', h1, h2⟩ := hO l c _ ho e
      cases o' with
      | box => exact h2.elim
      | row e' esz' es' =>
        obtain ⟨rfl, rfl, hl⟩ := h2
        exact ⟨_, _, _, cc, h1, rfl, q2, q3, q4, q5⟩
  | pr l c i j =>
    simp only [SV.sub]
    obtain ⟨e1, esz, es, ho, rfl⟩ := h
    split
    · rfl
    · rename_i e
      obtain ⟨o', h1, h2⟩ := hO l c _ ho e
      cases o' with
      | box => exact h2.elim
      | row e' esz' es' => obtain ⟨rfl, rfl, hl⟩ := h2; exact ⟨_, _, _, h1, rfl⟩
  | pb l c j =>
    simp only [SV.sub]
    obtain ⟨⟨e1, cs, ho⟩, rfl⟩ := h
    split
    · rfl
    · rename_i e
      obtain ⟨o', h1, h2⟩ := hO l c _ ho e
      cases o' with
      | row => exact h2.elim
      | box e' cs' => exact ⟨⟨_, _, h1⟩, rfl⟩
  | clo f caps =>
    simp only [SV.sub]
    obtain ⟨rfl, hl⟩ := h
    split
    · rfl
    · rename_i e
      refine ⟨rfl, fun p hp => ?_⟩
      obtain ⟨e1, cs, ho⟩ := hl p hp
      obtain ⟨o', h1, h2⟩ := hO _ _ _ ho (fun hh => e (by obtain ⟨h1, h2⟩ := hh; rw [← h1, ← h2]; exact hp))
      cases o' with
      | row => exact h2.elim
      | box e' cs' => exact ⟨_, _, h1⟩

theorem RepA.sub {L b : Nat} {g : Nat → Nat → SV} {s : AV} {v : Value} (h : RepA w G ι O s v) (hg : SubOk w G G' ι O O' L b g)
    (hG : ∀ k, G k → G' k) (hO : ∀ l c o, O l c = some o → ¬ (l = L ∧ c = b) → ∃ o', O' l c = some o' ∧ o.fits o') : RepA w G' ι O' (s.sub L b g) v := by
  cases s with
  | s x => exact RepS.sub h hg hG hO
  | agg xs =>
    obtain ⟨cs, rfl, hl, hc⟩ := h
    refine ⟨cs, rfl, by simpa using hl, fun j y hy => ?_⟩
    rw [List.getElem?_map] at hy
    cases hx : xs[j]? with
    | none => simp [hx] at hy
    | some x =>
      simp only [hx, Option.map_some, Option.some.injEq] at hy
      subst hy
      obtain ⟨u, hu, hr⟩ := hc j x hx
      exact ⟨u, hu, hr.sub hg hG hO⟩
  | pel esz es i j =>
    obtain ⟨blk, off, hr, rfl⟩ := h
    exact ⟨blk, off, hr.mono (fun k hk => ⟨hG k hk, rfl⟩), rfl⟩

theorem RepT.sub {L b : Nat} {g : Nat → Nat → SV} {s : TV} {v : Value} (h : RepT w G ι O s v) (hg : SubOk w G G' ι O O' L b g)
    (hG : ∀ k, G k → G' k) (hO : ∀ l c o, O l c = some o → ¬ (l = L ∧ c = b) → ∃ o', O' l c = some o' ∧ o.fits o') : RepT w G' ι O' (s.sub L b g) v := by
  cases s with
  | undef => trivial
  | a x => exact RepA.sub h hg hG hO
  | tup xs =>
    obtain ⟨cs, rfl, hl, hc⟩ := h
    refine ⟨cs, rfl, by simpa using hl, fun j y hy => ?_⟩
    rw [List.getElem?_map] at hy
    cases hx : xs[j]? with
    | none => simp [hx] at hy
    | some x =>
      simp only [hx, Option.map_some, Option.some.injEq] at hy
      subst hy
      obtain ⟨u, hu, hr⟩ := hc j x hx
      exact ⟨u, hu, RepA.sub hr hg hG hO⟩

theorem SV.lev_sub {L b : Nat} {g : Nat → Nat → SV} {s : SV} (hg : ∀ off len, (g off len).lev = 0 ∨ (g off len).lev ≤ s.lev) : (s.sub L b g).lev ≤ s.lev := by
  cases s with
  | sl l c off len =>
    simp only [SV.sub]
    split
    · rcases hg off len with h | h
      · omega
      · exact h
    · exact Nat.le_refl _
  | slc => simp only [SV.sub]; split <;> simp [SV.lev]
  | pr => simp only [SV.sub]; split <;> simp [SV.lev]
  | pb => simp only [SV.sub]; split <;> simp [SV.lev]
  | clo => simp only [SV.sub]; split <;> simp [SV.lev]
  | undef => exact Nat.le_refl _
  | pv => exact Nat.le_refl _
end

theorem AObj.fits_sub (L b : Nat) (g : Nat → Nat → SV) (o : AObj) : o.fits (o.sub L b g) := by
  cases o <;> simp [AObj.sub, AObj.fits]

/-- Giving an object up is always let. -/
theorem Good.drop {st : ASt} {a : Act} {w : World} {ι : Nat → Nat → Nat} (h : Good st a w ι) (b : Nat) : Good (st.drop b) a w ι := by
  have main : ∀ (o : AObj) (g : Nat → Nat → SV), st.O st.L b = some o → (∀ off len, (g off len).lev = 0) →
      SubOk w (Gd w ι st.O) (Gd w ι (upd (mapO st.L (AObj.sub st.L b g) st.O) st.L b none)) ι st.O (upd (mapO st.L (AObj.sub st.L b g) st.O) st.L b none) st.L b g →
      Good { (st.sub b g) with O := upd (st.sub b g).O st.L b none } a w ι := by
    intro o g ho hg0 hsub
    have hO' : ∀ l c o', (upd (mapO st.L (AObj.sub st.L b g) st.O) st.L b none) l c = some o' → ¬ (l = st.L ∧ c = b) ∧ ∃ o1, st.O l c = some o1 ∧ (o' = o1 ∨ (l = st.L ∧ o' = o1.sub st.L b g)) := by
      intro l c o' h'
      simp only [upd] at h'
      split at h'
      · cases h'
      · rename_i hne
        refine ⟨hne, ?_⟩
        simp only [mapO] at h'
        split at h'
        · rename_i hl
          cases hq : st.O l c with
          | none => simp [hq] at h'
          | some o1 =>
            simp only [hq, Option.map_some, Option.some.injEq] at h'
            exact ⟨o1, rfl, .inr ⟨hl, h'.symm⟩⟩
        · exact ⟨o', h', .inl rfl⟩
    have hGd : ∀ k, Gd w ι st.O k → Gd w ι (upd (mapO st.L (AObj.sub st.L b g) st.O) st.L b none) k := by
      rintro k ⟨h1, h2⟩
      refine ⟨h1, fun ⟨l, c, o', h3, h4⟩ => h2 ?_⟩
      obtain ⟨_, o1, h5, _⟩ := hO' l c o' h3
      exact ⟨l, c, o1, h5, h4⟩
    have hkeep : ∀ l c o1, st.O l c = some o1 → ¬ (l = st.L ∧ c = b) → ∃ o', (upd (mapO st.L (AObj.sub st.L b g) st.O) st.L b none) l c = some o' ∧ o1.fits o' := by
      intro l c o1 h1 hne
      rw [upd_ne _ _ hne]
      simp only [mapO]
      split
      · exact ⟨_, by rw [h1]; rfl, AObj.fits_sub _ _ _ _⟩
      · exact ⟨o1, h1, AObj.fits_refl o1⟩
    refine ⟨⟨⟨fun l c o' h' => ?_, fun l c o' l2 c2 o2 h1 h2 e => ?_⟩, h.size, fun t ht => ?_, fun t ht => ?_⟩, fun l c o' h' => ?_, fun l c e cs h' s hs => ?_⟩
    · obtain ⟨hne, o1, h1, h2⟩ := hO' l c o' h'
      have hr := h.lies.obj l c o1 h1
      rcases h2 with rfl | ⟨hl, rfl⟩
      · cases o' with
        | row e esz es =>
          obtain ⟨cc, q1, q2, q3, q4, q5⟩ := hr
          exact ⟨cc, q1, q2, q3, q4, fun i j x y hx hy => by
            obtain ⟨u, hu, hru⟩ := q5 i j x y hx hy
            exact ⟨u, hu, hru.mono (fun k hk => ⟨hGd k hk, rfl⟩)⟩⟩
        | box e cs =>
          obtain ⟨cc, q1, q2, q3⟩ := hr
          refine ⟨cc, q1, q2, fun j y hy => ?_⟩
          obtain ⟨u, hu, hru⟩ := q3 j y hy
          refine ⟨u, hu, ?_⟩
          -- a box at another level: nothing in it leads to level L, or it is turned
          by_cases hl : l = st.L
          · subst hl
            simp only [ASt.sub] at h'
            rw [upd_ne _ _ hne] at h'
            simp only [mapO, if_true, h1, Option.map_some, AObj.sub, Option.some.injEq, AObj.box.injEq, true_and] at h'
            have hy' : (cs.map (·.sub st.L b g))[j]? = some y := by rw [h']; exact hy
            rw [List.getElem?_map] at hy'
            cases hx : cs[j]? with
            | none => simp [hx] at hy'
            | some x =>
              have hxy : x = y := by rw [hx] at hy; exact Option.some.inj hy
              subst hxy
              simp only [hx, Option.map_some, Option.some.injEq] at hy'
              have := hru.sub hsub hGd hkeep
              rw [hy'] at this
              exact this
          · have hle : y.lev ≤ l := h.lev l c e cs h1 y (List.mem_of_getElem? hy)
            have hlt : y.lev < st.L := by have := h.sup l c _ h1; omega
            have hsame : y.sub st.L b g = y := by
              cases y with
              | sl l2 c2 _ _ => simp only [SV.lev] at hlt; simp only [SV.sub]; rw [if_neg (by omega)]
              | slc l2 c2 _ _ _ => simp only [SV.lev] at hlt; simp only [SV.sub]; rw [if_neg (by omega)]
              | pr l2 c2 _ _ => simp only [SV.lev] at hlt; simp only [SV.sub]; rw [if_neg (by omega)]
              | pb l2 c2 _ => simp only [SV.lev] at hlt; simp only [SV.sub]; rw [if_neg (by omega)]
              | clo f caps =>
                simp only [SV.sub]
                rw [if_neg]
                intro hm
                have : st.L ≤ (SV.clo f caps).lev := by
                  simp only [SV.lev]
                  clear hlt hle hru hu hy
                  induction caps with
                  | nil => cases hm
                  | cons p r ih =>
                    simp only [List.foldr_cons]
                    rcases List.mem_cons.1 hm with rfl | hm
                    · omega
                    · have := ih hm; omega
                omega
              | undef => rfl
              | pv => rfl
            have := hru.sub hsub hGd hkeep
            rw [hsame] at this
            exact this
      · cases o1 with
        | row e esz es =>
          obtain ⟨cc, q1, q2, q3, q4, q5⟩ := hr
          exact ⟨cc, q1, q2, q3, q4, fun i j x y hx hy => by
            obtain ⟨u, hu, hru⟩ := q5 i j x y hx hy
            exact ⟨u, hu, hru.mono (fun k hk => ⟨hGd k hk, rfl⟩)⟩⟩
        | box e cs =>
          obtain ⟨cc, q1, q2, q3⟩ := hr
          refine ⟨cc, q1, by simpa using q2, fun j y hy => ?_⟩
          rw [List.getElem?_map] at hy
          cases hx : cs[j]? with
          | none => simp [hx] at hy
          | some x =>
            simp only [hx, Option.map_some, Option.some.injEq] at hy
            subst hy
            obtain ⟨u, hu, hru⟩ := q3 j x hx
            exact ⟨u, hu, hru.sub hsub hGd hkeep⟩
    · obtain ⟨_, o3, h3, _⟩ := hO' l c o' h1
      obtain ⟨_, o4, h4, _⟩ := hO' l2 c2 o2 h2
      exact h.lies.inj l c o3 l2 c2 o4 h3 h4 e
    · have hl := look_mapTm (TV.sub st.L b g) rfl st.tm t
      show RepT _ _ _ _ (look (mapTm (TV.sub st.L b g) st.tm) t) _
      rw [hl]
      exact (h.tm t ht).sub hsub hGd hkeep
    · have hl := look_mapTm (TV.sub st.L b g) rfl st.tm t
      show look (mapTm (TV.sub st.L b g) st.tm) t = .undef
      rw [hl]
      have : look st.tm t = .undef := h.out t ht
      rw [this]
      rfl
    · obtain ⟨_, o1, h1, _⟩ := hO' l c o' h'
      exact h.sup l c o1 h1
    · obtain ⟨_, o1, h1, h2⟩ := hO' l c _ h'
      rcases h2 with rfl | ⟨hl, h2⟩
      · exact h.lev l c e cs h1 s hs
      · cases o1 with
        | row => simp [AObj.sub] at h2
        | box e1 cs1 =>
          simp only [AObj.sub, AObj.box.injEq] at h2
          obtain ⟨rfl, rfl⟩ := h2
          obtain ⟨x, hx, rfl⟩ := List.mem_map.1 hs
          exact Nat.le_trans (SV.lev_sub (fun off len => .inl (hg0 off len))) (h.lev l c e cs1 h1 x hx)
  unfold ASt.drop
  split
  · exact h
  · rename_i e esz es ho
    refine main _ _ ho (fun _ _ => rfl) ?_
    rintro off len v ⟨e1, esz1, es1, cap, c, ho1, rfl, q1, q2, q3, q4, q5⟩
    rw [ho] at ho1
    simp only [Option.some.injEq, AObj.row.injEq] at ho1
    obtain ⟨rfl, rfl, rfl⟩ := ho1
    obtain ⟨c', p1, p2, p3, p4, p5⟩ := h.lies.obj _ _ _ ho
    rw [q4] at p1
    simp only [Option.some.injEq, Obj.cells.injEq] at p1
    obtain ⟨rfl, _⟩ := p1
    have hlen : ((es.drop off).take len).length = len := by simp; omega
    have hGd : ∀ k, Gd w ι st.O k → Gd w ι (upd (mapO st.L (AObj.sub st.L b fun off len => .pv (.row esz ((es.drop off).take len))) st.O) st.L b none) k := by
      rintro k ⟨h1, h2⟩
      refine ⟨h1, fun ⟨l, c2, o', h3, h4⟩ => h2 ?_⟩
      simp only [upd] at h3
      split at h3
      · cases h3
      · simp only [mapO] at h3
        split at h3
        · cases hq : st.O l c2 with
          | none => simp [hq] at h3
          | some o1 => exact ⟨l, c2, o1, hq, h4⟩
        · exact ⟨l, c2, o', h3, h4⟩
    have hrow : RowAt w (Gd w ι (upd (mapO st.L (AObj.sub st.L b fun off len => .pv (.row esz ((es.drop off).take len))) st.O) st.L b none)) esz ((es.drop off).take len) (ι st.L b) (off * esz) := by
      refine ⟨fun i x hx => ?_, fun _ => ⟨h.lies.lt ho, fun ⟨l, c2, o', h3, h4⟩ => ?_⟩, by omega, fun i j x y hx hy => ?_⟩
      · rw [List.getElem?_take] at hx
        split at hx
        · rw [List.getElem?_drop] at hx; exact p2 _ x hx
        · cases hx
      · simp only [upd] at h3
        split at h3
        · cases h3
        · rename_i hne
          simp only [mapO] at h3
          split at h3
          · cases hq : st.O l c2 with
            | none => simp [hq] at h3
            | some o1 => exact hne (h.lies.inj l c2 o1 _ _ _ hq ho h4)
          · exact hne (h.lies.inj l c2 o' _ _ _ h3 ho h4)
      · rw [List.getElem?_take] at hx
        split at hx
        · rw [List.getElem?_drop] at hx
          obtain ⟨u, hu, hr⟩ := p5 _ j x y hx hy
          refine ⟨u, ?_, hr.mono (fun k hk => ⟨hGd k hk, rfl⟩)⟩
          rw [cell_block q4, ← hu]
          congr 1
          rw [Nat.add_mul]
        · cases hx
    have := RepP.mk_row (cap := cap) (by omega) q3 hrow
    rw [hlen] at this
    exact this
  · rename_i e cs ho
    refine main _ _ ho (fun _ _ => rfl) ?_
    rintro off len v ⟨e1, esz1, es1, cap, c, ho1, _⟩
    rw [ho] at ho1
    cases ho1
end Go.Rd
