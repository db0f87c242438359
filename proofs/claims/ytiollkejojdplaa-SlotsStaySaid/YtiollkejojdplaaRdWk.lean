/- RD, part 13b: to forget what a state knows. -/
import Derived.Test.YtiollkejojdplaaRdCall
namespace Go.Rd
open Go.RowKit Go.Proofs

/-- What it leads to at level L is there. -/
def SV.liveAt (O : Store) (L : Nat) : SV → Prop
  | .pb l b _ | .pr l b _ _ | .sl l b _ _ | .slc l b _ _ _ => l = L → (O l b).isSome = true
  | .clo _ caps => ∀ p ∈ caps, p.1 = L → (O p.1 p.2).isSome = true
  | _ => True
def AV.liveAt (O : Store) (L : Nat) : AV → Prop
  | .s x => x.liveAt O L
  | .agg xs => ∀ x ∈ xs, x.liveAt O L
  | .pel .. => True
def TV.liveAt (O : Store) (L : Nat) : TV → Prop
  | .undef => True
  | .a x => x.liveAt O L
  | .tup xs => ∀ x ∈ xs, x.liveAt O L

structure Wk (s s' : ASt) : Prop where
  L : s'.L = s.L
  n : s'.n = s.n
  tm : ∀ t, s'.get t = .undef ∨ s'.get t = s.get t
  obj : ∀ l b o, s'.O l b = some o → s.O l b = some o
  low : ∀ l b, l < s.L → s'.O l b = s.O l b
  live : ∀ t, (s'.get t).liveAt s'.O s.L
  box : ∀ b e cs, s'.O s.L b = some (.box e cs) → ∀ x ∈ cs, x.liveAt s'.O s.L

section
variable {w : World} {G G' : Nat → Prop} {ι : Nat → Nat → Nat} {O O' : Store} {L : Nat}
theorem forget_obj (hs : ∀ l b o, O l b = some o → l ≤ L) (h1 : ∀ l b o, O' l b = some o → O l b = some o) (h2 : ∀ l b, l < L → O' l b = O l b) {l b : Nat} {o : AObj} (ho : O l b = some o)
    (hl : l = L → (O' l b).isSome = true) : O' l b = some o := by
  rcases Nat.lt_or_ge l L with h | h
  · rw [h2 l b h]; exact ho
  · have : l = L := Nat.le_antisymm (hs l b o ho) h
    obtain ⟨o', ho'⟩ := Option.isSome_iff_exists.1 (hl this)
    have := h1 l b o' ho'
    rw [ho] at this
    rw [ho']
    exact this.symm
theorem RepS.forget {s : SV} {v : Value} (h : RepS w G ι O s v) (hG : ∀ k, G k → G' k) (hs : ∀ l b o, O l b = some o → l ≤ L) (h1 : ∀ l b o, O' l b = some o → O l b = some o) (h2 : ∀ l b, l < L → O' l b = O l b)
    (hl : s.liveAt O' L) : RepS w G' ι O' s v := by
  cases s with
  | undef => exact h
  | pv p => exact RepP.mono h (fun k hk => ⟨hG k hk, rfl⟩)
  | pb l b j =>
    obtain ⟨⟨e, cs, ho⟩, rfl⟩ := h
    exact ⟨⟨e, cs, forget_obj hs h1 h2 ho hl⟩, rfl⟩
  | pr l b i j =>
    obtain ⟨e, esz, es, ho, rfl⟩ := h
    exact ⟨e, esz, es, forget_obj hs h1 h2 ho hl, rfl⟩
  | sl l b off len =>
    obtain ⟨e, esz, es, cap, c, ho, q⟩ := h
    exact ⟨e, esz, es, cap, c, forget_obj hs h1 h2 ho hl, q⟩
  | slc l b off len cap =>
    obtain ⟨e, esz, es, c, ho, q⟩ := h
    exact ⟨e, esz, es, c, forget_obj hs h1 h2 ho hl, q⟩
  | clo f caps =>
    obtain ⟨rfl, q⟩ := h
    refine ⟨rfl, fun p hp => ?_⟩
    obtain ⟨e, cs, ho⟩ := q p hp
    exact ⟨e, cs, forget_obj hs h1 h2 ho (hl p hp)⟩
theorem RepA.forget {s : AV} {v : Value} (h : RepA w G ι O s v) (hG : ∀ k, G k → G' k) (hs : ∀ l b o, O l b = some o → l ≤ L) (h1 : ∀ l b o, O' l b = some o → O l b = some o) (h2 : ∀ l b, l < L → O' l b = O l b)
    (hl : s.liveAt O' L) : RepA w G' ι O' s v := by
  cases s with
  | s x => exact RepS.forget h hG hs h1 h2 hl
  | agg xs =>
    obtain ⟨cs, rfl, hn, hc⟩ := h
    refine ⟨cs, rfl, hn, fun j y hy => ?_⟩
    obtain ⟨u, hu, hr⟩ := hc j y hy
    exact ⟨u, hu, RepS.forget hr hG hs h1 h2 (hl y (List.mem_of_getElem? hy))⟩
  | pel esz es i j =>
    obtain ⟨blk, off, hr, rfl⟩ := h
    exact ⟨blk, off, hr.mono (fun k hk => ⟨hG k hk, rfl⟩), rfl⟩
theorem RepT.forget {s : TV} {v : Value} (h : RepT w G ι O s v) (hG : ∀ k, G k → G' k) (hs : ∀ l b o, O l b = some o → l ≤ L) (h1 : ∀ l b o, O' l b = some o → O l b = some o) (h2 : ∀ l b, l < L → O' l b = O l b)
    (hl : s.liveAt O' L) : RepT w G' ι O' s v := by
  cases s with
  | undef => trivial
  | a x => exact RepA.forget h hG hs h1 h2 hl
  | tup xs =>
    obtain ⟨cs, rfl, hn, hc⟩ := h
    refine ⟨cs, rfl, hn, fun j y hy => ?_⟩
    obtain ⟨u, hu, hr⟩ := hc j y hy
    exact ⟨u, hu, RepA.forget hr hG hs h1 h2 (hl y (List.mem_of_getElem? hy))⟩
end

theorem SV.liveAt_lev {O : Store} {L l : Nat} {s : SV} (hl : s.lev ≤ l) (h : l < L) : s.liveAt O L := by
  cases s with
  | pb a b j => exact fun e => by simp only [SV.lev] at hl; omega
  | pr a b i j => exact fun e => by simp only [SV.lev] at hl; omega
  | sl a b off len => exact fun e => by simp only [SV.lev] at hl; omega
  | slc a b off len cap => exact fun e => by simp only [SV.lev] at hl; omega
  | clo f caps =>
    intro p hp e
    have : p.1 ≤ caps.foldr (fun p m => max p.1 m) 0 := by
      clear hl
      induction caps with
      | nil => cases hp
      | cons q r ih =>
        simp only [List.foldr_cons]
        rcases List.mem_cons.1 hp with rfl | hp
        · exact Nat.le_max_left _ _
        · exact Nat.le_trans (ih hp) (Nat.le_max_right _ _)
    simp only [SV.lev] at hl
    omega
  | undef => trivial
  | pv p => trivial

theorem Good.wk {s s' : ASt} {a : Act} {w : World} {ι : Nat → Nat → Nat} (h : Good s a w ι) (hw : Wk s s') : Good s' a w ι ∧ Moves s s' w w ι ι := by
  have hG : ∀ k, Gd w ι s.O k → Gd w ι s'.O k := fun k hk => ⟨hk.1, fun ⟨l, b, o, ho, e⟩ => hk.2 ⟨l, b, o, hw.obj l b o ho, e⟩⟩
  refine ⟨⟨⟨⟨fun l b o ho => ?_, fun l b o l' b' o' ho ho' e => h.lies.inj l b o l' b' o' (hw.obj _ _ _ ho) (hw.obj _ _ _ ho') e⟩, by rw [hw.n]; exact h.size, fun t ht => ?_, fun t ht => ?_⟩, fun l b o ho => by rw [hw.L]; exact h.sup l b o (hw.obj _ _ _ ho), fun l b e cs ho => h.lev l b e cs (hw.obj _ _ _ ho)⟩, ?_⟩
  · have := h.lies.obj l b o (hw.obj l b o ho)
    cases o with
    | row e esz es =>
      obtain ⟨c, q1, q2, q3, q4, q5⟩ := this
      refine ⟨c, q1, q2, q3, q4, fun i j x y hx hy => ?_⟩
      obtain ⟨u, hu, hr⟩ := q5 i j x y hx hy
      exact ⟨u, hu, hr.mono (fun k hk => ⟨hG k hk, rfl⟩)⟩
    | box e cs =>
      obtain ⟨c, q1, q2, q3⟩ := this
      refine ⟨c, q1, q2, fun j y hy => ?_⟩
      obtain ⟨u, hu, hr⟩ := q3 j y hy
      refine ⟨u, hu, RepS.forget hr hG h.sup hw.obj hw.low ?_⟩
      rcases Nat.lt_or_ge l s.L with hl | hl
      · exact SV.liveAt_lev (h.lev l b e cs (hw.obj _ _ _ ho) y (List.mem_of_getElem? hy)) hl
      · have : l = s.L := Nat.le_antisymm (h.sup l b _ (hw.obj _ _ _ ho)) hl
        subst this
        exact hw.box b e cs ho y (List.mem_of_getElem? hy)
  · rw [hw.n] at ht
    rcases hw.tm t with e | e
    · rw [e]; trivial
    · have hl := hw.live t
      rw [e] at hl ⊢
      exact RepT.forget (h.tm t ht) hG h.sup hw.obj hw.low hl
  · rw [hw.n] at ht
    rcases hw.tm t with e | e
    · exact e
    · rw [e]; exact h.out t ht
  · refine ⟨hw.L, hw.n, rfl, rfl, rfl, Nat.le_refl _, fun k _ _ => rfl, fun l b o ho => .inl ⟨l, b, o, hw.obj _ _ _ ho, rfl⟩, fun l b o hl ho => ⟨o, by rw [hw.low l b hl]; exact ho, AObj.fits_refl o, rfl⟩, fun l b o c e hl ho hc => ⟨c, hc, rfl⟩⟩

theorem Good.wk' {s s' : ASt} {a : Act} {w : World} {ι : Nat → Nat → Nat} (h : Good s a w ι) (hw : s' = s ∨ Wk s s') : Good s' a w ι ∧ Moves s s' w w ι ι := by
  rcases hw with rfl | hw
  · exact ⟨h, Moves.refl _ _ _⟩
  · exact h.wk hw

/-- 'K', or 'K' behind a forgetting. -/
def wkK (K : TV → ASt → Prop) (v : TV) (st : ASt) : Prop := K v st ∨ ∃ s', Wk st s' ∧ v.liveAt s'.O st.L ∧ K v s'

theorem wkK_use {K : TV → ASt → Prop} {s : ASt} {a : Act} {w : World} {ι : Nat → Nat → Nat} {v : TV} {val : Value} (h : Good s a w ι) (hr : RepT w (Gd w ι s.O) ι s.O v val) (hk : wkK K v s) :
    ∃ s', K v s' ∧ Good s' a w ι ∧ Moves s s' w w ι ι ∧ RepT w (Gd w ι s'.O) ι s'.O v val := by
  rcases hk with hk | ⟨s', hw, hl, hk⟩
  · exact ⟨s, hk, h, Moves.refl _ _ _, hr⟩
  · obtain ⟨h1, h2⟩ := h.wk hw
    exact ⟨s', hk, h1, h2, RepT.forget hr (fun k hk => ⟨hk.1, fun ⟨l, b, o, ho, e⟩ => hk.2 ⟨l, b, o, hw.obj l b o ho, e⟩⟩) h.sup hw.obj hw.low hl⟩

theorem Wk.refl' {s : ASt} (hl : ∀ t, (s.get t).liveAt s.O s.L) (hb : ∀ b e cs, s.O s.L b = some (.box e cs) → ∀ x ∈ cs, x.liveAt s.O s.L) : Wk s s :=
  ⟨rfl, rfl, fun _ => .inr rfl, fun _ _ _ h => h, fun _ _ _ => rfl, hl, hb⟩
end Go.Rd
