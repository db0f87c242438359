/- Plain laws of tables: what a commit keeps. -/
import Derived.Test.YtfdaioinghfjpaaF17
namespace Go.Proofs.Ytfdaioinghfjpaa
open Go.Rd Go.RowKit

def covers (i : Nat) (u : U) : Bool := decide (u.pos ≤ i ∧ (i : Int) < u.pos + u.len)
theorem mark_get (bs : List Bool) (p i : Nat) : ∀ n, (mark bs p n)[i]? = (bs[i]?).map (· || decide (p ≤ i ∧ i < p + n))
  | 0 => by
    have : decide (p ≤ i ∧ i < p + 0) = false := decide_eq_false (by omega)
    rw [this, mark]; cases bs[i]? <;> simp
  | n + 1 => by
    rw [mark, List.getElem?_set, mark_length, mark_get bs p i n]
    by_cases h : p + n = i
    · rw [if_pos h]
      subst h
      split
      · rename_i hl
        rw [List.getElem?_eq_getElem hl]
        simp
      · rw [List.getElem?_eq_none (by omega)]; rfl
    · rw [if_neg h]
      have : decide (p ≤ i ∧ i < p + (n + 1)) = decide (p ≤ i ∧ i < p + n) := by
        apply decide_eq_decide.2
        omega
      rw [this]
theorem used1_get (i : Nat) : ∀ (l : List U) (bs : List Bool) (e : Int), 0 ≤ e → may1 e l = true → (used1 bs l)[i]? = (bs[i]?).map (· || l.any (covers i))
  | [], bs, e, _, _ => by rw [used1]; cases bs[i]? <;> simp
  | u :: r, bs, e, he, h => by
    obtain ⟨h1, h2, h3, h4, h5, h6, h7, h8⟩ := may1_cons h
    rw [used1, used1_get i r _ _ (by omega) h8, mark_get, Option.map_map]
    have : decide (u.pos.toNat ≤ i ∧ i < u.pos.toNat + u.len.toNat) = covers i u := by
      unfold covers
      apply decide_eq_decide.2
      omega
    rw [this]
    congr 1
    funext b
    simp [Bool.or_assoc]
theorem free_mono : ∀ (a b : List Bool), a.length = b.length → (∀ i : Nat, a[i]? = some false → b[i]? = some false) → free a ≤ free b
  | [], b, _, _ => by simp [free]
  | x :: a, [], h, _ => by simp at h
  | x :: a, y :: b, h, hi => by
    have h1 := free_mono a b (by simpa using h) fun i hx => by simpa using hi (i + 1) (by simpa using hx)
    have h2 := hi 0
    cases x <;> cases y <;> simp_all [free] <;> omega
theorem free_eq (a b : List Bool) (hl : a.length = b.length) (h : ∀ i : Nat, a[i]? = some false ↔ b[i]? = some false) : free a = free b :=
  Nat.le_antisymm (free_mono a b hl fun i => (h i).1) (free_mono b a hl.symm fun i => (h i).2)

theorem may1_mono : ∀ (l : List U) (e e' : Int), e' ≤ e → may1 e l = true → may1 e' l = true
  | [], _, _, _, _ => rfl
  | u :: r, e, e', he, h => by
    obtain ⟨h1, h2, h3, h4, h5, h6, h7, h8⟩ := may1_cons h
    rw [may1, if_neg (by omega), if_neg (by rcases h7 with h7 | h7 <;> simp [h7] <;> omega)]
    exact h8
theorem may1_mk {e : Int} {u : U} {r : List U} (h1 : 1 ≤ u.len) (h2 : u.len ≤ 8) (h3 : e ≤ u.pos) (h4 : u.pos ≤ 16 - u.len) (h5 : 0 ≤ u.count) (h6 : u.count ≤ 1000000) (h7 : u.old = true ∨ u.count ≠ 0) (h8 : may1 (u.pos + u.len) r = true) : may1 e (u :: r) = true := by
  rw [may1, if_neg (by omega), if_neg (by rcases h7 with h7 | h7 <;> simp [h7] <;> omega)]
  exact h8
theorem commit1_may : ∀ (l : List U) (e : Int), may1 e l = true → may1 e (commit1 l) = true
  | [], _, _ => rfl
  | u :: r, e, h => by
    obtain ⟨h1, h2, h3, h4, h5, h6, h7, h8⟩ := may1_cons h
    rw [commit1]
    split
    · exact may1_mk h1 h2 h3 h4 h5 h6 (.inl rfl) (commit1_may r _ h8)
    · exact commit1_may r e (may1_mono r _ _ (by omega) h8)
theorem commit1_twice : ∀ (l : List U), commit1 (commit1 l) = commit1 l
  | [] => rfl
  | u :: r => by
    rw [commit1]
    split
    · rw [commit1, if_pos (by assumption), commit1_twice r]
    · exact commit1_twice r
theorem commit1_any (p : U → Bool) (hp : ∀ u : U, p u = p { u with old := true }) : ∀ (l : List U), (commit1 l).any p = true → l.any p = true
  | [], h => h
  | u :: r, h => by
    rw [commit1] at h
    split at h
    · rw [List.any_cons, ← hp] at h
      rw [List.any_cons]
      cases hu : p u
      · rw [hu] at h
        rw [commit1_any p hp r (by simpa using h)]; rfl
      · rfl
    · rw [List.any_cons, commit1_any p hp r h]; simp
theorem orNil_getD {α : Type} (l : List α) : (orNil l).getD [] = l := by cases l <;> rfl
theorem commit_getD {o : Option (List U)} (h : may o = true) : (commit o).getD [] = commit1 (o.getD []) := by rw [commit, if_pos h, orNil_getD]
theorem commit_may {o : Option (List U)} (h : may o = true) : may (commit o) = true := by
  rw [may, commit_getD h]
  exact commit1_may _ _ h
theorem commit_twice {o : Option (List U)} (h : may o = true) : same (commit (commit o)) (commit o) = true := by
  rw [same, commit_getD (commit_may h), commit_getD h, commit1_twice]
  simp
theorem used_some {o : Option (List U)} (h : may o = true) : used o = some (used1 none16 (o.getD [])) := if_pos h
theorem commit_free {o : Option (List U)} (h : may o = true) : free (used1 none16 (o.getD [])) ≤ free (used1 none16 ((commit o).getD [])) := by
  refine free_mono _ _ (by rw [used1_length, used1_length]) fun i hi => ?_
  rw [used1_get i _ _ 0 (by omega) h] at hi
  rw [used1_get i _ _ 0 (by omega) (commit_may h), commit_getD h]
  cases hn : none16[i]? with
  | none => rw [hn] at hi; cases hi
  | some b =>
    rw [hn] at hi
    simp only [Option.map_some, Option.some.injEq, Bool.or_eq_false_iff] at hi ⊢
    refine ⟨hi.1, ?_⟩
    cases hc : (commit1 (o.getD [])).any (covers i) with
    | false => rfl
    | true =>
      have := commit1_any (covers i) (fun u => rfl) _ hc
      rw [hi.2] at this
      cases this
/-- Slots of a table that may be lie apart. -/
theorem may1_ge : ∀ (l : List U) (e : Int), may1 e l = true → ∀ u ∈ l, e ≤ u.pos
  | [], _, _, u, hu => by cases hu
  | v :: r, e, h, u, hu => by
    obtain ⟨h1, h2, h3, h4, h5, h6, h7, h8⟩ := may1_cons h
    rcases List.mem_cons.1 hu with rfl | hu
    · exact h3
    · have := may1_ge r _ h8 u hu
      omega
theorem countOf_mem : ∀ (l : List U) (e : Int), may1 e l = true → ∀ u ∈ l, countOf u.pos l = u.count
  | [], _, _, u, hu => by cases hu
  | v :: r, e, h, u, hu => by
    obtain ⟨h1, h2, h3, h4, h5, h6, h7, h8⟩ := may1_cons h
    rw [countOf]
    rcases List.mem_cons.1 hu with rfl | hu
    · rw [if_pos rfl]
    · have := may1_ge r _ h8 u hu
      rw [if_neg (by omega)]
      exact countOf_mem r _ h8 u hu
theorem commit1_mem : ∀ (l : List U) (u : U), u ∈ l → 0 < u.count → { u with old := true } ∈ commit1 l
  | [], u, hu, _ => by cases hu
  | v :: r, u, hu, hc => by
    rw [commit1]
    rcases List.mem_cons.1 hu with rfl | hu
    · rw [if_pos hc]; simp
    · have := commit1_mem r u hu hc
      split
      · exact List.mem_cons_of_mem _ this
      · exact this
theorem commit_has {o : Option (List U)} (h : may o = true) {u : U} (hu : u ∈ o.getD []) (hc : 0 < u.count) : has (commit o) u = true := by
  rw [has, commit_getD h, has1]
  exact List.any_eq_true.2 ⟨_, commit1_mem _ u hu hc, by simp⟩
theorem commit_count {o : Option (List U)} (h : may o = true) {u : U} (hu : u ∈ o.getD []) (hc : 0 < u.count) : count (commit o) u.pos = u.count := by
  rw [count, commit_getD h]
  have h2 := countOf_mem _ 0 (commit1_may _ _ h) _ (commit1_mem _ u hu hc)
  exact h2
def liveOf : List U → Nat
  | [] => 0
  | u :: r => if 0 < u.count then liveOf r + 1 else liveOf r
theorem commit1_live : ∀ l, (commit1 l).length = liveOf l
  | [] => rfl
  | u :: r => by
    rw [commit1, liveOf]
    split
    · rw [List.length_cons, commit1_live r]
    · exact commit1_live r
theorem liveOf_le : ∀ l, liveOf l ≤ l.length
  | l => by rw [← commit1_live]; exact commit1_length l
end Go.Proofs.Ytfdaioinghfjpaa
