/- RD, part 11b: elements written in place into a row that the call may write. -/
import Derived.Test.YtiollkejojdplaaRdAppend
import Derived.Laws.IdiomCopy
namespace Go.Rd
open Go.RowKit

section
variable {P : Program} {T : TypeId → Option TI} {st : ASt} {a : Act} {w : World} {ι : Nat → Nat → Nat} {K : TV → ASt → Prop}

/-- The row behind the writing of 'news' from place o on. -/
def over {α : Type} (es : List α) (o : Nat) (news : List α) : List α := es.take o ++ (news ++ es.drop (o + news.length))

theorem over_get {α : Type} {es news : List α} {o : Nat} (ho : o ≤ es.length) (i : Nat) (x : α) (h : (over es o news)[i]? = some x) :
    (i < o ∧ es[i]? = some x) ∨ (o ≤ i ∧ i < o + news.length ∧ news[i - o]? = some x) ∨ (o + news.length ≤ i ∧ es[i]? = some x) := by
  unfold over at h
  have hl : (es.take o).length = o := by rw [List.length_take]; omega
  rw [List.getElem?_append, hl] at h
  split at h
  · rename_i h1
    rw [List.getElem?_take, if_pos h1] at h
    exact .inl ⟨h1, h⟩
  · rename_i h1
    rw [List.getElem?_append] at h
    split at h
    · exact .inr (.inl ⟨by omega, by omega, h⟩)
    · refine .inr (.inr ⟨by omega, ?_⟩)
      rw [List.getElem?_drop] at h
      rw [← h]
      congr 1
      omega
theorem over_length {α : Type} {es news : List α} {o : Nat} (ho : o ≤ es.length) : (over es o news).length = max es.length (o + news.length) := by
  unfold over
  simp only [List.length_append, List.length_take, List.length_drop]
  omega

theorem row_write (h : Good st a w ι) {l b : Nat} {e : TypeId} {esz : Nat} {es news : List (List PV)} {c : Array Value} {vs : List Value} {o : Nat} (ho : st.O l b = some (.row e esz es)) (hc : w.heap[ι l b]? = some (.cells c e (0, 0)))
    (hoe : o ≤ es.length) (hvl : vs.length = news.length * esz) (hfit : o * esz + vs.length ≤ c.size) (hel : ∀ (i : Nat) (x : List PV), news[i]? = some x → x.length = esz)
    (hrep : ∀ (i j : Nat) (x : List PV) (y : PV), news[i]? = some x → x[j]? = some y → ∃ u, vs[i * esz + j]? = some u ∧ RepP w (Gd w ι st.O) y u) (hmax : o + news.length ≤ maxLen) :
    Good { st with O := upd st.O l b (some (.row e esz (over es o news))) } a (w.setRow (ι l b) (c.toList.take (o * esz) ++ vs ++ c.toList.drop (o * esz + vs.length)).toArray) ι ∧
    Moves st { st with O := upd st.O l b (some (.row e esz (over es o news))) } w (w.setRow (ι l b) (c.toList.take (o * esz) ++ vs ++ c.toList.drop (o * esz + vs.length)).toArray) ι ι ∧
    ∃ c', (w.setRow (ι l b) (c.toList.take (o * esz) ++ vs ++ c.toList.drop (o * esz + vs.length)).toArray).heap[ι l b]? = some (.cells c' e (0, 0)) ∧ c'.size = c.size := by
  obtain ⟨c', p1, p2, p3, p4, p5⟩ := h.lies.obj _ _ _ ho
  rw [hc] at p1
  simp only [Option.some.injEq, Obj.cells.injEq, and_true] at p1
  subst p1
  have hsz : (c.toList.take (o * esz) ++ vs ++ c.toList.drop (o * esz + vs.length)).toArray.size = c.size := by
    simp only [List.size_toArray, List.length_append, List.length_take, List.length_drop, Array.length_toList]
    omega
  have hnew := setRow_heap w (ι l b) c (c.toList.take (o * esz) ++ vs ++ c.toList.drop (o * esz + vs.length)).toArray e (0, 0) hc
  have hroom : ∀ c1 e1, w.heap[ι l b]? = some (.cells c1 e1 (0, 0)) → ∃ c', (w.setRow (ι l b) (c.toList.take (o * esz) ++ vs ++ c.toList.drop (o * esz + vs.length)).toArray).heap[ι l b]? = some (.cells c' e1 (0, 0)) ∧ c'.size = c1.size := by
    intro c1 e1 hq
    rw [hc] at hq
    simp only [Option.some.injEq, Obj.cells.injEq, and_true] at hq
    obtain ⟨rfl, rfl⟩ := hq
    exact ⟨_, hnew, hsz⟩
  have hf : (AObj.row e esz es).fits (.row e esz (over es o news)) := ⟨rfl, rfl, by rw [over_length hoe]; omega⟩
  have hst := stays_turn h (o' := .row e esz (over es o news)) ho hf (But.setRow w _ _) hroom
  have hlen : ∀ (i : Nat) (x : List PV), (over es o news)[i]? = some x → x.length = esz := by
    intro i x hx
    rcases over_get hoe i x hx with ⟨_, h1⟩ | ⟨_, _, h1⟩ | ⟨_, h1⟩
    · exact p2 _ x h1
    · exact hel _ x h1
    · exact p2 _ x h1
  refine ⟨h.turn ho hf (But.setRow w _ _) hroom ⟨_, hnew, hlen, ?_, by rw [over_length hoe]; omega, fun i j x y hx hy => ?_⟩ (fun e' cs' he s hs => by cases he), Moves.turn h ho hf (But.setRow w _ _) hroom, ⟨_, hnew, hsz⟩⟩
  · rw [hsz, over_length hoe]
    rcases Nat.le_total es.length (o + news.length) with h1 | h1
    · rw [Nat.max_eq_right h1, Nat.add_mul, ← hvl]; exact hfit
    · rw [Nat.max_eq_left h1]; exact p3
  · have hj : j < esz := by rw [← hlen i x hx]; exact (List.getElem?_eq_some_iff.1 hy).1
    rw [stored_getElem? c vs (o * esz) _ vs.length rfl hfit]
    have mul : ∀ {p q : Nat}, p < q → p * esz + esz ≤ q * esz := fun {p q} hpq => by
      have : (p + 1) * esz ≤ q * esz := Nat.mul_le_mul_right _ hpq
      rw [Nat.add_mul] at this
      omega
    rcases over_get hoe i x hx with ⟨h1, h2⟩ | ⟨h1, h1', h2⟩ | ⟨h1, h2⟩
    · have := mul h1
      rw [if_neg (by omega)]
      obtain ⟨u, hu, hr⟩ := p5 i j x y h2 hy
      exact ⟨u, hu, hr.mono hst.good⟩
    · have h3 := mul h1'
      have h4 : o * esz ≤ i * esz := Nat.mul_le_mul_right _ h1
      rw [Nat.add_mul] at h3
      rw [if_pos (by rw [hvl]; omega)]
      obtain ⟨u, hu, hr⟩ := hrep (i - o) j x y h2 hy
      refine ⟨u, ?_, hr.mono hst.good⟩
      rw [← hu]
      congr 1
      rw [Nat.sub_mul]
      omega
    · have h3 : (o + news.length) * esz ≤ i * esz := Nat.mul_le_mul_right _ h1
      rw [Nat.add_mul] at h3
      rw [if_neg (by rw [hvl]; omega)]
      obtain ⟨u, hu, hr⟩ := p5 i j x y h2 hy
      exact ⟨u, hu, hr.mono hst.good⟩
end
end Go.Rd
