/- Plain laws of all tables: what a turning is. -/
import Derived.Test.YtfdaioinghfjpaaG5
import Derived.Test.YtfdaioinghfjpaaG8
import Derived.Test.YtfdaioinghfjpaaP2
namespace Go.Proofs.Ytfdaioinghfjpaa
open Go.Rd Go.RowKit

theorem turnC_some {o : Option (List Tb)} {x : Rf} {b : Int} {c : List Tb} (h : turnC o x b = some c) :
    mayC o = true ∧ mayR x = true ∧ x.chunk < (o.getD []).length ∧ ∃ t m, (o.getD [])[x.chunk.toNat]? = some t ∧ (t.getD []).any (testR x) = true ∧ turnO t x.pos b = some m ∧ c = (o.getD []).set x.chunk.toNat (some m) := by
  unfold turnC at h
  split at h
  · rename_i h1
    split at h
    · rename_i t ht
      split at h
      · rename_i h2
        obtain ⟨m, hm⟩ := Option.isSome_iff_exists.1 h2.2
        rw [hm] at h
        simp only [Option.some.injEq] at h
        exact ⟨h1.1, h1.2.1, h1.2.2, t, m, ht, h2.1, hm, h.symm⟩
      · cases h
    · cases h
  · cases h
/-- A table with one changed may be, if that one may be. -/
theorem mayC_set {l : List Tb} {i : Nat} {t : Tb} (h : mayC (some l) = true) (ht : may t = true) : mayC (some (l.set i t)) = true := by
  have h1 := mayC_len h
  have h2 := mayC_mem h
  simp only [Option.getD_some] at h1 h2
  unfold mayC
  rw [Bool.and_eq_true, Option.getD_some, List.length_set]
  refine ⟨decide_eq_true h1, List.all_eq_true.2 fun y hy => ?_⟩
  rcases List.mem_or_eq_of_mem_set hy with h3 | rfl
  · exact h2 y h3
  · exact ht
/-- A turned slot lies where it lay (it is gone if nothing has it and it is not old). -/
theorem turnL_any {p b : Int} (q : U → Bool) (hq : ∀ (u : U) (n : Int), q { u with count := n } = q u) : ∀ l : List U, 0 < countOf p l + b → (turnL p b l).any q = l.any q
  | [], _ => rfl
  | u :: r, h => by
    rw [turnL]
    rw [countOf] at h
    split
    · rename_i hp
      rw [if_pos hp] at h
      rw [if_neg (by omega), List.any_cons, List.any_cons, hq]
    · rename_i hp
      rw [if_neg hp] at h
      rw [List.any_cons, List.any_cons, turnL_any q hq r h]
theorem testR_count (x : Rf) (u : U) (n : Int) : testR x { u with count := n } = testR x u := rfl
/-- What was referred to once more, and is given back, is as it was. -/
theorem turnC_back {l c : List Tb} {x : Rf} (h : turnC (some l) x 1 = some c) :
    ∃ t m, l[x.chunk.toNat]? = some t ∧ 0 ≤ x.chunk ∧ x.chunk < l.length ∧ c = l.set x.chunk.toNat (some m) ∧ turnO t x.pos 1 = some m ∧ may t = true ∧ turnC (some c) x (-1) = some (l.set x.chunk.toNat (some (t.getD []))) := by
  obtain ⟨h1, h2, h3, t, m, ht, h4, h5, rfl⟩ := turnC_some h
  simp only [Option.getD_some] at h3 ht
  have hch : 0 ≤ x.chunk := by
    unfold mayR at h2
    simp only [Bool.and_eq_true, decide_eq_true_eq] at h2
    omega
  have hmt : may t = true := mayC_mem h1 t (List.mem_of_getElem? ht)
  have hm := turnO_may (by omega) h5
  refine ⟨t, m, ht, hch, h3, rfl, h5, hmt, ?_⟩
  have hany : (Option.getD (some m) []).any (testR x) = true := by
    obtain ⟨q1, q2, q3, rfl⟩ := turnO_some h5
    have hr := countOf_range _ 0 x.pos q1
    rw [Option.getD_some, turnL_any _ (testR_count x) _ (by omega)]
    exact h4
  have hb := turnO_back h5
  have hi : x.chunk.toNat < l.length := by omega
  rw [turnC, if_pos ⟨mayC_set h1 hm, h2, by simp only [Option.getD_some, List.length_set]; exact h3⟩]
  rw [Option.getD_some, Option.getD_some, List.getElem?_set_self hi]
  show (if _ then _ else _) = _
  rw [if_pos ⟨hany, by rw [hb]; rfl⟩, hb, List.set_set]
theorem sameC_set {l : List Tb} {i : Nat} {t : Tb} (ht : l[i]? = some t) : sameC (some (l.set i (some (t.getD [])))) (some l) = true := by
  unfold sameC
  rw [decide_eq_true]
  simp only [Option.getD_some]
  apply List.ext_getElem?
  intro j
  rw [List.getElem?_map, List.getElem?_map, List.getElem?_set]
  split
  · rename_i h
    subst h
    have := (List.getElem?_eq_some_iff.1 ht).1
    rw [if_pos this, ht]
    rfl
  · rfl
end Go.Proofs.Ytfdaioinghfjpaa
