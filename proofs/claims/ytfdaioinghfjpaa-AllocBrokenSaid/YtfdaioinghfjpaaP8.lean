/- Plain laws of all tables: how what is free stands together. -/
import Derived.Test.YtfdaioinghfjpaaG11
import Derived.Test.YtfdaioinghfjpaaP5
namespace Go.Proofs.Ytfdaioinghfjpaa
open Go.Rd Go.RowKit

theorem free_some : ∀ bs : List Bool, 1 ≤ free bs → ∃ i : Nat, bs[i]? = some false
  | [], h => by simp [free] at h
  | b :: r, h => by
    cases b with
    | false => exact ⟨0, rfl⟩
    | true =>
      rw [free] at h
      obtain ⟨i, hi⟩ := free_some r (by simpa using h)
      exact ⟨i + 1, by simpa using hi⟩
theorem long_free (bs : List Bool) : longF 0 (runs1 0 0 bs) ≤ free bs := by
  rcases (show longF 0 (runs1 0 0 bs) < 1 ∨ 1 ≤ longF 0 (runs1 0 0 bs) by omega) with h | h
  · omega
  · have h1 := (first_long bs (longF 0 (runs1 0 0 bs))).2 ⟨h, Int.le_refl _⟩
    obtain ⟨g1, g2, g3, g4⟩ := (fits_iff _ _ _).1 (first_fits h1)
    have := free_mark bs _ _ g4
    omega
theorem long_pos (bs : List Bool) (h : 1 ≤ free bs) : 1 ≤ longF 0 (runs1 0 0 bs) := by
  obtain ⟨i, hi⟩ := free_some bs h
  have hl := (List.getElem?_eq_some_iff.1 hi).1
  have hf : fits bs i 1 = true := by
    rw [fits_iff]
    refine ⟨by omega, by omega, by omega, fun j hj => ?_⟩
    have : j = 0 := by omega
    subst this
    simpa using hi
  have h1 : 0 ≤ firstOf 1 (runs1 0 0 bs) := by
    rcases firstOf_FF bs 1 with ⟨_, h2⟩ | ⟨a, _, h3, _⟩
    · rw [h2 i (Nat.zero_le _)] at hf; cases hf
    · omega
  exact ((first_long bs 1).1 h1).2
theorem lng_fr (t : Tb) : lng t ≤ fr t := by
  have := long_free (bitsOf t)
  unfold lng fr
  omega
theorem lng_pos (t : Tb) (h : 1 ≤ fr t) : 1 ≤ lng t := by
  have := long_pos (bitsOf t) h
  unfold lng
  omega
theorem sumOf_mono (f g : Tb → Nat) (h : ∀ t, f t ≤ g t) : ∀ l, sumOf f l ≤ sumOf g l
  | [] => Nat.le_refl _
  | t :: r => by
    have h1 := sumOf_mono f g h r
    have h2 := h t
    rw [sumOf, sumOf]
    omega
theorem sumOf_eq (f g : Tb → Nat) (h : ∀ t, f t ≤ g t) : ∀ l, decide (sumOf f l = sumOf g l) = l.all fun t => decide (f t = g t)
  | [] => rfl
  | t :: r => by
    have h0 := sumOf_mono f g h r
    have h2 := h t
    rw [List.all_cons, ← sumOf_eq f g h r, sumOf, sumOf, ← Bool.decide_and]
    apply decide_eq_decide.2
    omega
theorem sumOf_pos (f g : Tb → Nat) (h : ∀ t, 1 ≤ g t → 1 ≤ f t) : ∀ l, 1 ≤ sumOf g l → 1 ≤ sumOf f l
  | [], h1 => by simp [sumOf] at h1
  | t :: r, h1 => by
    rw [sumOf] at h1 ⊢
    by_cases h2 : 1 ≤ g t
    · have := h t h2; omega
    · have := sumOf_pos f g h r (by omega); omega
theorem all_take {α : Type} (p : α → Bool) {u : α} : ∀ {l : List α} {k : Nat}, l[k]? = some u → (l.take (k + 1)).all p = ((l.take k).all p && p u)
  | [], k, h => by simp at h
  | v :: r, 0, h => by simp at h; subst h; simp
  | v :: r, k + 1, h => by
    have := all_take p (l := r) (k := k) (by simpa using h)
    rw [List.take_succ_cons, List.all_cons, this, List.take_succ_cons, List.all_cons, Bool.and_assoc]
end Go.Proofs.Ytfdaioinghfjpaa
