/- RD, part 7: the three ways in which the objects of a call change: one is new, one turns where it lies, one is replaced by a longer one. -/
import Derived.Test.YtiollkejojdplaaRdDrop
namespace Go.Rd
open Go.RowKit

/-- The world changed in one block at most (and new ones came). -/
structure But (w w' : World) (x : Option Nat) : Prop where
  os : w'.os = w.os
  tape : w'.tape = w.tape
  output : w'.output = w.output
  size : w.heap.size ≤ w'.heap.size
  block : ∀ k, k < w.heap.size → some k ≠ x → w'.heap[k]? = w.heap[k]?

theorem But.refl (w : World) (x : Option Nat) : But w w x := ⟨rfl, rfl, rfl, Nat.le_refl _, fun _ _ _ => rfl⟩
theorem But.of_grown {w w' : World} {x : Option Nat} (h : w.grownBy w' x) : But w w' x := ⟨h.os, h.tape, h.output, h.size, h.block⟩
theorem But.of_below {w w' : World} (h : Below w.heap.size w w') (x : Option Nat) : But w w' x := ⟨h.os, h.tape, h.output, h.size, fun k hk _ => h.block k hk⟩

def iupd (ι : Nat → Nat → Nat) (l b g : Nat) : Nat → Nat → Nat := fun l' b' => if l' = l ∧ b' = b then g else ι l' b'
theorem iupd_same (ι : Nat → Nat → Nat) (l b g : Nat) : iupd ι l b g l b = g := by simp [iupd]
theorem iupd_ne (ι : Nat → Nat → Nat) {l b l' b' : Nat} (g : Nat) (h : ¬ (l' = l ∧ b' = b)) : iupd ι l b g l' b' = ι l' b' := by simp [iupd, h]

theorem RepO.stays {w w' : World} {G G' : Nat → Prop} {ι ι' : Nat → Nat → Nat} {O O' : Store} {k : Nat} {o : AObj} (h : RepO w G ι O k o) (hs : Stays w w' G G' ι ι' O O')
    (hk : w'.heap[k]? = w.heap[k]?) : RepO w' G' ι' O' k o := by
  cases o with
  | row e esz es =>
    obtain ⟨c, q1, q2, q3, q4, q5⟩ := h
    exact ⟨c, hk.trans q1, q2, q3, q4, fun i j x y hx hy => by
      obtain ⟨u, hu, hr⟩ := q5 i j x y hx hy
      exact ⟨u, hu, hr.mono hs.good⟩⟩
  | box e cs =>
    obtain ⟨c, q1, q2, q3⟩ := h
    exact ⟨c, hk.trans q1, q2, fun j y hy => by
      obtain ⟨u, hu, hr⟩ := q3 j y hy
      exact ⟨u, hu, hr.stays hs⟩⟩

section
variable {st : ASt} {a : Act} {w w' : World} {ι : Nat → Nat → Nat}

/-! ### a new object -/
theorem stays_new (h : Good st a w ι) {d g : Nat} {o : AObj} (hw : Below w.heap.size w w') (hd : st.O st.L d = none) (hg : w.heap.size ≤ g) :
    Stays w w' (Gd w ι st.O) (Gd w' (iupd ι st.L d g) (upd st.O st.L d (some o))) ι (iupd ι st.L d g) st.O (upd st.O st.L d (some o)) := by
  have hne : ∀ l b o1, st.O l b = some o1 → ¬ (l = st.L ∧ b = d) := by
    rintro l b o1 h1 ⟨rfl, rfl⟩; rw [hd] at h1; cases h1
  refine ⟨?_, fun l b o1 h1 => ⟨o1, by rw [upd_ne _ _ (hne l b o1 h1)]; exact h1, AObj.fits_refl _, iupd_ne _ _ (hne l b o1 h1)⟩, fun l b o1 c e h1 h2 => ⟨c, ?_, rfl⟩⟩
  · rintro k ⟨h1, h2⟩
    refine ⟨⟨Nat.lt_of_lt_of_le h1 hw.size, ?_⟩, hw.block k h1⟩
    rintro ⟨l, b, o1, h3, h4⟩
    by_cases e : l = st.L ∧ b = d
    · obtain ⟨rfl, rfl⟩ := e
      rw [iupd_same] at h4
      omega
    · rw [upd_ne _ _ e] at h3
      rw [iupd_ne _ _ e] at h4
      exact h2 ⟨l, b, o1, h3, h4⟩
  · rw [hw.block _ (h.lies.lt h1)]; exact h2

theorem Good.new (h : Good st a w ι) {d g : Nat} {o : AObj} (hw : Below w.heap.size w w') (hd : st.O st.L d = none) (hg : w.heap.size ≤ g)
    (hobj : RepO w' (Gd w' (iupd ι st.L d g) (upd st.O st.L d (some o))) (iupd ι st.L d g) (upd st.O st.L d (some o)) g o)
    (hlev : ∀ e cs, o = .box e cs → ∀ s ∈ cs, s.lev ≤ st.L) :
    Good { st with O := upd st.O st.L d (some o) } a w' (iupd ι st.L d g) := by
  have hs := stays_new h (o := o) hw hd hg
  refine ⟨h.toFits.world hs ⟨fun l b o1 h1 => ?_, fun l b o1 l2 b2 o2 h1 h2 e => ?_⟩, fun l b o1 h1 => ?_, fun l b e cs h1 => ?_⟩
  · by_cases e : l = st.L ∧ b = d
    · obtain ⟨rfl, rfl⟩ := e
      rw [upd_same] at h1
      cases h1
      rw [iupd_same]
      exact hobj
    · rw [upd_ne _ _ e] at h1
      rw [iupd_ne _ _ e]
      exact (h.lies.obj l b o1 h1).stays hs (hw.block _ (h.lies.lt h1))
  · by_cases e1 : l = st.L ∧ b = d <;> by_cases e2 : l2 = st.L ∧ b2 = d
    · exact ⟨e1.1.trans e2.1.symm, e1.2.trans e2.2.symm⟩
    · rw [upd_ne _ _ e2] at h2
      rw [e1.1, e1.2, iupd_same, iupd_ne _ _ e2] at e
      have := h.lies.lt h2
      omega
    · rw [upd_ne _ _ e1] at h1
      rw [e2.1, e2.2, iupd_same, iupd_ne _ _ e1] at e
      have := h.lies.lt h1
      omega
    · rw [upd_ne _ _ e1] at h1
      rw [upd_ne _ _ e2] at h2
      rw [iupd_ne _ _ e1, iupd_ne _ _ e2] at e
      exact h.lies.inj l b o1 l2 b2 o2 h1 h2 e
  · by_cases e : l = st.L ∧ b = d
    · exact Nat.le_of_eq e.1
    · exact h.sup l b o1 (by rw [← upd_ne st.O (some o) e]; exact h1)
  · by_cases e1 : l = st.L ∧ b = d
    · obtain ⟨rfl, rfl⟩ := e1
      have h1' : some o = some (.box e cs) := by rw [← upd_same st.O st.L b (some o)]; exact h1
      exact hlev e cs (Option.some.inj h1')
    · exact h.lev l b e cs (by rw [← upd_ne st.O (some o) e1]; exact h1)

/-! ### an object that turns where it lies -/
theorem stays_turn (h : Good st a w ι) {l b : Nat} {o o' : AObj} (ho : st.O l b = some o) (hf : o.fits o') (hw : But w w' (some (ι l b)))
    (hroom : ∀ c e, w.heap[ι l b]? = some (.cells c e (0, 0)) → ∃ c', w'.heap[ι l b]? = some (.cells c' e (0, 0)) ∧ c'.size = c.size) :
    Stays w w' (Gd w ι st.O) (Gd w' ι (upd st.O l b (some o'))) ι ι st.O (upd st.O l b (some o')) := by
  refine ⟨?_, fun l2 b2 o1 h1 => ?_, fun l2 b2 o1 c e h1 h2 => ?_⟩
  · rintro k ⟨h1, h2⟩
    refine ⟨⟨Nat.lt_of_lt_of_le h1 hw.size, ?_⟩, hw.block k h1 (fun e => h2 ⟨l, b, o, ho, (Option.some.inj e).symm⟩)⟩
    rintro ⟨l2, b2, o1, h3, h4⟩
    by_cases e : l2 = l ∧ b2 = b
    · obtain ⟨rfl, rfl⟩ := e
      exact h2 ⟨_, _, o, ho, h4⟩
    · rw [upd_ne _ _ e] at h3
      exact h2 ⟨l2, b2, o1, h3, h4⟩
  · by_cases e : l2 = l ∧ b2 = b
    · obtain ⟨rfl, rfl⟩ := e
      rw [ho] at h1; cases h1
      exact ⟨o', upd_same _ _ _ _, hf, rfl⟩
    · exact ⟨o1, by rw [upd_ne _ _ e]; exact h1, AObj.fits_refl _, rfl⟩
  · by_cases e1 : ι l2 b2 = ι l b
    · rw [e1] at h2 ⊢
      exact hroom c e h2
    · exact ⟨c, by rw [hw.block _ (h.lies.lt h1) (fun q => e1 (Option.some.inj q))]; exact h2, rfl⟩

theorem Good.turn (h : Good st a w ι) {l b : Nat} {o o' : AObj} (ho : st.O l b = some o) (hf : o.fits o') (hw : But w w' (some (ι l b)))
    (hroom : ∀ c e, w.heap[ι l b]? = some (.cells c e (0, 0)) → ∃ c', w'.heap[ι l b]? = some (.cells c' e (0, 0)) ∧ c'.size = c.size)
    (hobj : RepO w' (Gd w' ι (upd st.O l b (some o'))) ι (upd st.O l b (some o')) (ι l b) o')
    (hlev : ∀ e cs, o' = .box e cs → ∀ s ∈ cs, s.lev ≤ l) :
    Good { st with O := upd st.O l b (some o') } a w' ι := by
  have hs := stays_turn h ho hf hw hroom
  refine ⟨h.toFits.world hs ⟨fun l2 b2 o1 h1 => ?_, fun l1 b1 o1 l2 b2 o2 h1 h2 e => ?_⟩, fun l2 b2 o1 h1 => ?_, fun l2 b2 e cs h1 => ?_⟩
  · by_cases e : l2 = l ∧ b2 = b
    · obtain ⟨rfl, rfl⟩ := e
      rw [upd_same] at h1
      cases h1
      exact hobj
    · rw [upd_ne _ _ e] at h1
      exact (h.lies.obj l2 b2 o1 h1).stays hs (hw.block _ (h.lies.lt h1) (fun q => e (h.lies.inj _ _ _ _ _ _ h1 ho (Option.some.inj q))))
  · have up : ∀ l2 b2 o2, upd st.O l b (some o') l2 b2 = some o2 → ∃ o3, st.O l2 b2 = some o3 := by
      intro l2 b2 o2 h2
      by_cases e : l2 = l ∧ b2 = b
      · obtain ⟨rfl, rfl⟩ := e; exact ⟨o, ho⟩
      · rw [upd_ne _ _ e] at h2; exact ⟨o2, h2⟩
    obtain ⟨o3, h3⟩ := up _ _ _ h1
    obtain ⟨o4, h4⟩ := up _ _ _ h2
    exact h.lies.inj _ _ _ _ _ _ h3 h4 e
  · by_cases e : l2 = l ∧ b2 = b
    · rw [e.1]; exact h.sup l b o ho
    · exact h.sup l2 b2 o1 (by rw [← upd_ne st.O (some o') e]; exact h1)
  · by_cases e1 : l2 = l ∧ b2 = b
    · obtain ⟨rfl, rfl⟩ := e1
      have h1' : some o' = some (.box e cs) := by rw [← upd_same st.O l2 b2 (some o')]; exact h1
      exact hlev e cs (Option.some.inj h1')
    · exact h.lev l2 b2 e cs (by rw [← upd_ne st.O (some o') e1]; exact h1)

/-! ### a row of the call's own that is replaced: what led to it leads to nothing -/
def ASt.kill (st : ASt) (b : Nat) : ASt := st.sub b fun _ _ => .undef

theorem Good.swap (h : Good st a w ι) {b g : Nat} {o : AObj} {e : TypeId} {esz : Nat} {es : List (List PV)} (ho : st.O st.L b = some o) (hw : But w w' (some (ι st.L b))) (hg : g = ι st.L b ∨ w.heap.size ≤ g)
    (hobj : ∀ G' : Nat → Prop, (∀ k, Gd w ι st.O k → G' k) → RepO w' G' (iupd ι st.L b g) (upd (mapO st.L (AObj.sub st.L b fun _ _ => .undef) st.O) st.L b (some (.row e esz es))) g (.row e esz es)) :
    Good { (st.kill b) with O := upd (st.kill b).O st.L b (some (.row e esz es)) } a w' (iupd ι st.L b g) := by
  have hO' : ∀ l c o', (upd (mapO st.L (AObj.sub st.L b fun _ _ => .undef) st.O) st.L b (some (.row e esz es))) l c = some o' →
      (l = st.L ∧ c = b ∧ o' = .row e esz es) ∨ (¬ (l = st.L ∧ c = b) ∧ ∃ o1, st.O l c = some o1 ∧ (o' = o1 ∧ l ≠ st.L ∨ (l = st.L ∧ o' = o1.sub st.L b fun _ _ => .undef))) := by
    intro l c o' h'
    by_cases hq : l = st.L ∧ c = b
    · obtain ⟨rfl, rfl⟩ := hq
      rw [upd_same] at h'
      exact .inl ⟨rfl, rfl, (Option.some.inj h').symm⟩
    · rw [upd_ne _ _ hq] at h'
      refine .inr ⟨hq, ?_⟩
      simp only [mapO] at h'
      split at h'
      · rename_i hl
        cases hqq : st.O l c with
        | none => simp [hqq] at h'
        | some o1 =>
          simp only [hqq, Option.map_some, Option.some.injEq] at h'
          exact ⟨o1, rfl, .inr ⟨hl, h'.symm⟩⟩
      · rename_i hl; exact ⟨o', h', .inl ⟨rfl, hl⟩⟩
  have hgne : ∀ k, Gd w ι st.O k → k ≠ g := by
    rintro k ⟨h1, h2⟩ rfl
    rcases hg with rfl | hg
    · exact h2 ⟨_, _, _, ho, rfl⟩
    · omega
  have hGd : ∀ k, Gd w ι st.O k → Gd w' (iupd ι st.L b g) (upd (mapO st.L (AObj.sub st.L b fun _ _ => .undef) st.O) st.L b (some (.row e esz es))) k := by
    rintro k hk
    refine ⟨Nat.lt_of_lt_of_le hk.1 hw.size, fun ⟨l, c, o', h3, h4⟩ => ?_⟩
    rcases hO' l c o' h3 with ⟨rfl, rfl, _⟩ | ⟨hne, o1, h5, _⟩
    · rw [iupd_same] at h4; exact hgne k hk h4.symm
    · rw [iupd_ne _ _ hne] at h4; exact hk.2 ⟨l, c, o1, h5, h4⟩
  have hheap : ∀ k, Gd w ι st.O k → w'.heap[k]? = w.heap[k]? := fun k hk => hw.block k hk.1 (fun q => hk.2 ⟨_, _, _, ho, (Option.some.inj q).symm⟩)
  -- first the references go, then the world turns
  have hkeep : ∀ l c o1, st.O l c = some o1 → ¬ (l = st.L ∧ c = b) → ∃ o', (upd (mapO st.L (AObj.sub st.L b fun _ _ => .undef) st.O) st.L b none) l c = some o' ∧ o1.fits o' := by
    intro l c o1 h1 hne
    rw [upd_ne _ _ hne]
    simp only [mapO]
    split
    · exact ⟨_, by rw [h1]; rfl, AObj.fits_sub _ _ _ _⟩
    · exact ⟨o1, h1, AObj.fits_refl o1⟩
  have hsub : SubOk w (Gd w ι st.O) (Gd w ι st.O) ι st.O (upd (mapO st.L (AObj.sub st.L b fun _ _ => .undef) st.O) st.L b none) st.L b fun _ _ => .undef := by
    rintro off len v ⟨_, _, _, _, _, _, rfl, _⟩; rfl
  have hst : Stays w w' (Gd w ι st.O) (Gd w' (iupd ι st.L b g) (upd (mapO st.L (AObj.sub st.L b fun _ _ => .undef) st.O) st.L b (some (.row e esz es)))) ι (iupd ι st.L b g)
      (upd (mapO st.L (AObj.sub st.L b fun _ _ => .undef) st.O) st.L b none) (upd (mapO st.L (AObj.sub st.L b fun _ _ => .undef) st.O) st.L b (some (.row e esz es))) := by
    have hne : ∀ l c o1, (upd (mapO st.L (AObj.sub st.L b fun _ _ => .undef) st.O) st.L b none) l c = some o1 → ¬ (l = st.L ∧ c = b) := by
      rintro l c o1 h1 ⟨rfl, rfl⟩; rw [upd_same] at h1; cases h1
    refine ⟨fun k hk => ⟨hGd k hk, hheap k hk⟩, fun l c o1 h1 => ⟨o1, ?_, AObj.fits_refl _, iupd_ne _ _ (hne l c o1 h1)⟩, fun l c o1 cc ee h1 h2 => ⟨cc, ?_, rfl⟩⟩
    · rw [upd_ne _ _ (hne l c o1 h1)]; rw [upd_ne _ _ (hne l c o1 h1)] at h1; exact h1
    · have hn := hne l c o1 h1
      rw [upd_ne _ _ hn] at h1
      obtain ⟨o2, h3⟩ : ∃ o2, st.O l c = some o2 := by
        simp only [mapO] at h1
        split at h1
        · cases hq : st.O l c with
          | none => simp [hq] at h1
          | some o2 => exact ⟨o2, rfl⟩
        · exact ⟨o1, h1⟩
      rw [hw.block _ (h.lies.lt h3) (fun q => hn (h.lies.inj _ _ _ _ _ _ h3 ho (Option.some.inj q)))]
      exact h2
  have hblk : ∀ l c o1, st.O l c = some o1 → ¬ (l = st.L ∧ c = b) → w'.heap[ι l c]? = w.heap[ι l c]? := fun l c o1 h1 hn =>
    hw.block _ (h.lies.lt h1) (fun q => hn (h.lies.inj _ _ _ _ _ _ h1 ho (Option.some.inj q)))
  refine ⟨⟨⟨fun l c o' h' => ?_, fun l c o' l2 c2 o2 h1 h2 e => ?_⟩, h.size, fun t ht => ?_, fun t ht => ?_⟩, fun l c o' h' => ?_, fun l c e' cs h' s hs => ?_⟩
  · rcases hO' l c o' h' with ⟨rfl, rfl, rfl⟩ | ⟨hne, o1, h1, h2⟩
    · rw [iupd_same]; exact hobj _ hGd
    · rw [iupd_ne _ _ hne]
      have hr := h.lies.obj l c o1 h1
      rcases h2 with ⟨rfl, hl⟩ | ⟨hl, rfl⟩
      · cases o' with
        | row e1 esz1 es1 =>
          obtain ⟨cc, q1, q2, q3, q4, q5⟩ := hr
          exact ⟨cc, (hblk l c _ h1 hne).trans q1, q2, q3, q4, fun i j x y hx hy => by
            obtain ⟨u, hu, hru⟩ := q5 i j x y hx hy
            exact ⟨u, hu, hru.mono (fun k hk => ⟨hGd k hk, hheap k hk⟩)⟩⟩
        | box e1 cs =>
          obtain ⟨cc, q1, q2, q3⟩ := hr
          refine ⟨cc, (hblk l c _ h1 hne).trans q1, q2, fun j y hy => ?_⟩
          obtain ⟨u, hu, hru⟩ := q3 j y hy
          have hle : y.lev ≤ l := h.lev l c e1 cs h1 y (List.mem_of_getElem? hy)
          have hlt : y.lev < st.L := by have := h.sup l c _ h1; omega
          have hsame : y.sub st.L b (fun _ _ => .undef) = y := by
            cases y with
            | sl l2 c2 _ _ => simp only [SV.lev] at hlt; simp only [SV.sub]; rw [if_neg (by omega)]
            | slc l2 c2 _ _ _ => simp only [SV.lev] at hlt; simp only [SV.sub]; rw [if_neg (by omega)]
            | pr l2 c2 _ _ => simp only [SV.lev] at hlt; simp only [SV.sub]; rw [if_neg (by omega)]
            | pb l2 c2 _ => simp only [SV.lev] at hlt; simp only [SV.sub]; rw [if_neg (by omega)]
            | clo f caps =>
              simp only [SV.sub]
              rw [if_neg]
              intro hm
              have : st.L ≤ (SV.clo f caps).lev := by
                simp only [SV.lev]
                clear hlt hle hru hu hy
                induction caps with
                | nil => cases hm
                | cons p r ih =>
                  simp only [List.foldr_cons]
                  rcases List.mem_cons.1 hm with rfl | hm
                  · omega
                  · have := ih hm; omega
              omega
            | undef => rfl
            | pv => rfl
          have := hru.sub hsub (fun k hk => hk) hkeep
          rw [hsame] at this
          exact ⟨u, hu, this.stays hst⟩
      · cases o1 with
        | row e1 esz1 es1 =>
          obtain ⟨cc, q1, q2, q3, q4, q5⟩ := hr
          exact ⟨cc, (hblk l c _ h1 hne).trans q1, q2, q3, q4, fun i j x y hx hy => by
            obtain ⟨u, hu, hru⟩ := q5 i j x y hx hy
            exact ⟨u, hu, hru.mono (fun k hk => ⟨hGd k hk, hheap k hk⟩)⟩⟩
        | box e1 cs =>
          obtain ⟨cc, q1, q2, q3⟩ := hr
          refine ⟨cc, (hblk l c _ h1 hne).trans q1, by simpa using q2, fun j y hy => ?_⟩
          rw [List.getElem?_map] at hy
          cases hx : cs[j]? with
          | none => simp [hx] at hy
          | some x =>
            simp only [hx, Option.map_some, Option.some.injEq] at hy
            subst hy
            obtain ⟨u, hu, hru⟩ := q3 j x hx
            exact ⟨u, hu, (hru.sub hsub (fun k hk => hk) hkeep).stays hst⟩
  · rcases hO' l c o' h1 with ⟨rfl, rfl, rfl⟩ | ⟨hne, o3, h3, _⟩ <;> rcases hO' l2 c2 o2 h2 with ⟨rfl, rfl, rfl⟩ | ⟨hne2, o4, h4, _⟩
    · exact ⟨rfl, rfl⟩
    · rw [iupd_same, iupd_ne _ _ hne2] at e
      rcases hg with rfl | hg
      · exact absurd (h.lies.inj _ _ _ _ _ _ h4 ho e.symm) hne2
      · have := h.lies.lt h4; omega
    · rw [iupd_same, iupd_ne _ _ hne] at e
      rcases hg with rfl | hg
      · exact absurd (h.lies.inj _ _ _ _ _ _ h3 ho e) hne
      · have := h.lies.lt h3; omega
    · rw [iupd_ne _ _ hne, iupd_ne _ _ hne2] at e
      exact h.lies.inj _ _ _ _ _ _ h3 h4 e
  · show RepT _ _ _ _ (look (mapTm (TV.sub st.L b fun _ _ => .undef) st.tm) t) _
    rw [look_mapTm (TV.sub st.L b fun _ _ => .undef) rfl st.tm t]
    exact ((h.tm t ht).sub hsub (fun k hk => hk) hkeep).stays hst
  · show look (mapTm (TV.sub st.L b fun _ _ => .undef) st.tm) t = .undef
    rw [look_mapTm (TV.sub st.L b fun _ _ => .undef) rfl st.tm t]
    have : look st.tm t = .undef := h.out t ht
    rw [this]
    rfl
  · rcases hO' l c o' h' with ⟨rfl, rfl, rfl⟩ | ⟨hne, o3, h3, _⟩
    · exact Nat.le_refl _
    · exact h.sup l c o3 h3
  · rcases hO' l c _ h' with ⟨_, _, h2⟩ | ⟨hne, o1, h1, h2⟩
    · cases h2
    · rcases h2 with ⟨rfl, _⟩ | ⟨hl, h2⟩
      · exact h.lev l c e' cs h1 s hs
      · cases o1 with
        | row => simp [AObj.sub] at h2
        | box e1 cs1 =>
          simp only [AObj.sub, AObj.box.injEq] at h2
          obtain ⟨rfl, rfl⟩ := h2
          obtain ⟨x, hx, rfl⟩ := List.mem_map.1 hs
          exact Nat.le_trans (SV.lev_sub (fun _ _ => .inl rfl)) (h.lev l c e' cs1 h1 x hx)
end
end Go.Rd
