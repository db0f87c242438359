/- Plain laws of all tables: what a taking is. -/
import Derived.Test.YtfdaioinghfjpaaP4
import Derived.Test.YtfdaioinghfjpaaG7
import Derived.Test.YtfdaioinghfjpaaG14
namespace Go.Proofs.Ytfdaioinghfjpaa
open Go.Rd Go.RowKit

theorem takeC1_none {n no : Int} : ∀ (l : List Tb) (k : Nat), takeC1 n no k l = none → ∀ (i : Nat) (t : Tb), l[i]? = some t → ((k + i : Nat) : Int) ≠ no → take t n = none
  | [], k, _, i, t, ht, _ => by simp at ht
  | u :: r, k, h, i, t, ht, hi => by
    rw [takeC1] at h
    split at h
    · rename_i hk
      cases i with
      | zero => exact absurd hk hi
      | succ i =>
        exact takeC1_none r (k + 1) h i t (by simpa using ht) (by rw [show k + 1 + i = k + (i + 1) by omega]; exact hi)
    · split at h
      · cases h
      · rename_i hk
        cases i with
        | zero =>
          simp at ht
          subst ht
          cases hq : take u n with
          | none => rfl
          | some p => rw [hq] at hk; simp at hk
        | succ i =>
          exact takeC1_none r (k + 1) h i t (by simpa using ht) (by rw [show k + 1 + i = k + (i + 1) by omega]; exact hi)
theorem takeC1_some {n no : Int} : ∀ (l : List Tb) (k : Nat) (p : Nat × Option (List U × Int)), takeC1 n no k l = some p →
    ∃ (i : Nat) (t : Tb) (m : List U) (a : Int), p = (k + i, some (m, a)) ∧ l[i]? = some t ∧ ((k + i : Nat) : Int) ≠ no ∧ take t n = some (m, a)
  | [], k, p, h => by cases h
  | u :: r, k, p, h => by
    rw [takeC1] at h
    split at h
    · obtain ⟨i, t, m, a, h1, h2, h3, h4⟩ := takeC1_some r (k + 1) p h
      exact ⟨i + 1, t, m, a, by rw [h1, show k + 1 + i = k + (i + 1) by omega], by simpa using h2, by rw [← show k + 1 + i = k + (i + 1) by omega]; exact h3, h4⟩
    · split at h
      · rename_i hk hq
        obtain ⟨⟨m, a⟩, hm⟩ := Option.isSome_iff_exists.1 hq
        simp only [Option.some.injEq] at h
        exact ⟨0, u, m, a, by rw [← h, hm]; rfl, rfl, hk, hm⟩
      · obtain ⟨i, t, m, a, h1, h2, h3, h4⟩ := takeC1_some r (k + 1) p h
        exact ⟨i + 1, t, m, a, by rw [h1, show k + 1 + i = k + (i + 1) by omega], by simpa using h2, by rw [← show k + 1 + i = k + (i + 1) by omega]; exact h3, h4⟩
theorem takeC_some {l d : List Tb} {n no i a : Int} (h : takeC (some l) n no = some (d, i, a)) :
    ∃ (k : Nat) (t : Tb) (m : List U), mayC (some l) = true ∧ i = k ∧ i ≠ no ∧ l[k]? = some t ∧ take t n = some (m, a) ∧ d = l.set k (some m) := by
  unfold takeC at h
  split at h
  · rename_i hm
    cases hq : takeC1 n no 0 l with
    | none => rw [Option.getD_some, hq] at h; cases h
    | some p =>
      obtain ⟨k, t, m, b, rfl, h2, h3, h4⟩ := takeC1_some l 0 p hq
      rw [Option.getD_some, hq] at h
      simp only [Option.map_some, Option.some.injEq, Prod.mk.injEq, Option.getD_some] at h
      obtain ⟨rfl, rfl, rfl⟩ := h
      refine ⟨k, t, m, hm, by omega, h3, h2, h4, by rw [Nat.zero_add]⟩
  · cases h
theorem takeC_none {l : List Tb} {n no : Int} (h : takeC (some l) n no = none) (hm : mayC (some l) = true) (h1 : 1 ≤ n) (h8 : n ≤ 8) (i : Nat) (t : Tb) (ht : l[i]? = some t) (hi : (i : Int) ≠ no) : t.getD [] ≠ [] := by
  have hq : takeC1 n no 0 l = none := by
    cases hq : takeC1 n no 0 l with
    | none => rfl
    | some p =>
      rw [takeC, if_pos hm, Option.getD_some, hq] at h
      cases h
  have := takeC1_none l 0 hq i t ht (by rwa [Nat.zero_add])
  exact (take_none this (mayC_mem hm t (List.mem_of_getElem? ht)) h1 h8).2
theorem sumOf_set (f : Tb → Nat) {t : Tb} (u : Tb) : ∀ {l : List Tb} {k : Nat}, l[k]? = some t → sumOf f (l.set k u) + f t = sumOf f l + f u
  | [], k, h => by simp at h
  | v :: r, 0, h => by
    simp at h
    subst h
    rw [List.set_cons_zero, sumOf, sumOf]
    omega
  | v :: r, k + 1, h => by
    have := sumOf_set f (t := t) u (l := r) (k := k) (by simpa using h)
    rw [List.set_cons_succ, sumOf, sumOf]
    omega
def roomR (k : Nat) (a n : Int) : Rf := ⟨k, a, 32 * n, true⟩
theorem roomR_len {k : Nat} {a n : Int} (h : 1 ≤ n ∧ n ≤ 8) : lenR (roomR k a n) = n := by
  unfold lenR secs roomR
  dsimp only
  rw [if_neg (by omega)]
  omega
/-- What is taken, and given back. -/
theorem takeC_laws {l d : List Tb} {n no i a : Int} (h : takeC (some l) n no = some (d, i, a)) :
    ∃ (k : Nat) (b : List Tb), i = k ∧ i ≠ no ∧ 0 ≤ a ∧ a ≤ 16 ∧ mayC (some d) = true ∧ d.length = l.length ∧ (sumOf fr d : Int) = sumOf fr l - n ∧ turnC (some d) (roomR k a n) (-1) = some b ∧ sameC (some b) (some l) = true ∧ hasC (some l) (roomR k a n) = false ∧ k < l.length := by
  obtain ⟨k, t, m, hm, hi, hno, ht, h4, rfl⟩ := takeC_some h
  have hk : k < l.length := (List.getElem?_eq_some_iff.1 ht).1
  obtain ⟨g1, g2, g3, g4, g5, g6, g7, g8⟩ := take_some h4
  have hmm := take_may h4
  have hmd := mayC_set (i := k) hm hmm
  have hln := mayC_len hm
  simp only [Option.getD_some] at hln
  have hR : mayR (roomR k a n) = true := by
    have e1 : decide (0 ≤ (k : Int) ∧ (k : Int) < 1000 ∧ 1 ≤ 32 * n ∧ 32 * n ≤ 256 ∧ 0 ≤ a) = true := decide_eq_true (by omega)
    have e2 : decide (a + n ≤ 16) = true := decide_eq_true (by omega)
    unfold mayR
    rw [roomR_len ⟨g2, g3⟩]
    show (decide (0 ≤ (k : Int) ∧ (k : Int) < 1000 ∧ 1 ≤ 32 * n ∧ 32 * n ≤ 256 ∧ 0 ≤ a) && (true || decide (32 * n = 256)) && decide (a + n ≤ 16)) = true
    rw [e1, e2]
    rfl
  have hkt : (roomR k a n).chunk.toNat = k := by unfold roomR; dsimp only; omega
  have hpos : (roomR k a n).pos = a := rfl
  refine ⟨k, _, hi, hno, g4, by omega, hmd, List.length_set, ?_, ?_, sameC_set ht, ?_, hk⟩
  · have e := sumOf_set fr (some m) ht
    have e2 : (fr (some m) : Int) = fr t - n := take_free h4
    omega
  · rw [turnC, if_pos ⟨hmd, hR, by simp only [Option.getD_some, List.length_set]; unfold roomR; dsimp only; omega⟩]
    rw [Option.getD_some, hkt, List.getElem?_set_self hk]
    show (if _ then _ else _) = _
    rw [hpos, take_back h4]
    have hany : (Option.getD (some m) []).any (testR (roomR k a n)) = true := by
      rw [Option.getD_some, g7, ins1_any]
      have : testR (roomR k a n) (takeU a n) = true := by
        unfold testR
        rw [roomR_len ⟨g2, g3⟩, hpos]
        rw [decide_eq_true (show (takeU a n).pos = a from rfl), decide_eq_true (show (takeU a n).len = n from rfl)]
        rfl
      rw [this, Bool.or_true]
    rw [if_pos ⟨hany, rfl⟩, List.set_set]
  · rw [hasC, hkt, Option.getD_some, List.getD_eq_getElem?_getD, ht]
    have : (Option.getD t []).any (testR (roomR k a n)) = false := by
      rw [List.any_eq_false]
      intro u hu hq
      have h1 := g6 u hu
      have h2 := may1_len (show may1 0 (Option.getD t []) = true from g1) u hu
      unfold testR at hq
      rw [hpos] at hq
      simp only [Bool.and_eq_true, decide_eq_true_eq] at hq
      omega
    rw [Option.getD_some, this, Bool.and_false]
/-- Is there, but one, a chunk without slots among the first? -/
def roomOf (no : Int) (l : List Tb) (k : Nat) : Bool := (List.range k).any fun i => decide (((l.getD i none).getD []).length = 0) && decide ((i : Int) ≠ no)
theorem getD_of {l : List Tb} {k : Nat} {u : Tb} (hu : l[k]? = some u) : l.getD k none = u := by rw [List.getD_eq_getElem?_getD, hu]; rfl
theorem roomOf_succ {no : Int} {l : List Tb} {k : Nat} {u : Tb} (hu : l[k]? = some u) : roomOf no l (k + 1) = (roomOf no l k || (decide ((u.getD []).length = 0) && decide ((k : Int) ≠ no))) := by
  unfold roomOf
  rw [List.range_succ, List.any_append, List.any_cons, List.any_nil, Bool.or_false, getD_of hu]
theorem roomOf_none {l : List Tb} {n no : Int} (h : takeC (some l) n no = none) (hm : mayC (some l) = true) (h1 : 1 ≤ n) (h8 : n ≤ 8) {k : Nat} (hk : k ≤ l.length) : roomOf no l k = false := by
  unfold roomOf
  rw [List.any_eq_false]
  intro i hi hq
  rw [List.mem_range] at hi
  simp only [Bool.and_eq_true, decide_eq_true_eq] at hq
  have ht : l[i]? = some l[i] := List.getElem?_eq_getElem (by omega)
  rw [getD_of ht] at hq
  exact takeC_none h hm h1 h8 i _ ht hq.2 (List.eq_nil_of_length_eq_zero hq.1)
end Go.Proofs.Ytfdaioinghfjpaa
