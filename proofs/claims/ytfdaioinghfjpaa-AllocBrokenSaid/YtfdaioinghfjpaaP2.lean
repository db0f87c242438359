/- Plain laws: the first room; what is taken; what is referred to. -/
import Derived.Test.YtfdaioinghfjpaaP1
namespace Go.Proofs.Ytfdaioinghfjpaa
open Go.Rd Go.RowKit

/-! ### the first room -/
def FFrom (bs : List Bool) (n : Int) (s : Nat) (v : Int) : Prop :=
  (v = -1 ∧ ∀ a : Nat, s ≤ a → fits bs a n = false) ∨ ∃ a : Nat, s ≤ a ∧ v = a ∧ fits bs a n = true ∧ ∀ b : Nat, s ≤ b → b < a → fits bs b n = false
theorem fits_false (bs : List Bool) (a : Nat) (n : Int) (h : n < 1 ∨ (bs.length : Int) < a + n ∨ ∃ i : Nat, i < n.toNat ∧ bs[a + i]? ≠ some false) : fits bs a n = false := by
  rw [Bool.eq_false_iff]
  intro hf
  obtain ⟨h1, h2, h3, h4⟩ := (fits_iff bs a n).1 hf
  rcases h with h | h | ⟨i, hi, h⟩
  · omega
  · omega
  · exact h (by simpa using h4 i hi)
theorem firstOf_from (B : List Bool) (n : Int) : ∀ (bs : List Bool) (k m : Nat), bs = B.drop k → k ≤ B.length → m ≤ k → (∀ i : Nat, k - m ≤ i → i < k → B[i]? = some false) → FFrom B n (k - m) (firstOf n (runs1 k m bs))
  | [], k, m, hb, hk, hm, hf => by
    have hkl : k = B.length := by
      have := congrArg List.length hb
      rw [List.length_drop] at this
      simp at this
      omega
    unfold runs1
    have hno : n < 1 ∨ (m : Int) < n → ∀ a : Nat, k - m ≤ a → fits B a n = false := by
      intro h a ha
      apply fits_false
      omega
    split
    · unfold firstOf
      split
      · rename_i h1
        right
        refine ⟨k - m, Nat.le_refl _, by dsimp only; omega, ?_, fun b _ _ => by omega⟩
        rw [fits_iff]
        refine ⟨h1.1, by omega, by dsimp only at h1; omega, fun i hi => ?_⟩
        rw [Int.toNat_natCast]
        exact hf _ (by omega) (by dsimp only at h1; omega)
      · rename_i h1
        left
        exact ⟨rfl, hno (by dsimp only at h1; omega)⟩
    · left
      exact ⟨rfl, hno (by omega)⟩
  | b :: r, k, m, hb, hk, hm, hf => by
    have hlt : k < B.length := by
      have := congrArg List.length hb
      rw [List.length_drop] at this
      simp at this
      omega
    have hbk : B[k]? = some b := by
      have := congrArg (fun l => l[0]?) hb
      simpa using this.symm
    have hr : r = B.drop (k + 1) := by
      have := congrArg List.tail hb
      simpa using this
    unfold runs1
    split
    · rename_i hb0
      subst hb0
      have := firstOf_from B n r (k + 1) (m + 1) hr (by omega) (by omega) fun i h1 h2 => by
        by_cases h : i = k
        · subst h; exact hbk
        · exact hf i (by omega) (by omega)
      rwa [show k + 1 - (m + 1) = k - m by omega] at this
    · rename_i hb0
      have hb1 : b = true := by simpa using hb0
      subst hb1
      have ih := firstOf_from B n r (k + 1) 0 hr (by omega) (by omega) fun i h1 h2 => by omega
      have hno : n < 1 ∨ (m : Int) < n → ∀ a : Nat, k - m ≤ a → a < k + 1 → fits B a n = false := by
        intro h a ha ha2
        by_cases h1 : n < 1
        · exact fits_false _ _ _ (.inl h1)
        · refine fits_false _ _ _ (.inr (.inr ⟨k - a, by omega, ?_⟩))
          rw [show a + (k - a) = k by omega, hbk]
          simp
      have hup : n < 1 ∨ (m : Int) < n → FFrom B n (k - m) (firstOf n (runs1 (k + 1) 0 r)) := by
        intro h
        rcases ih with ⟨e, h1⟩ | ⟨a, h1, h2, h3, h4⟩
        · left
          refine ⟨e, fun a ha => ?_⟩
          by_cases h2 : a < k + 1
          · exact hno h a ha h2
          · exact h1 a (by omega)
        · right
          refine ⟨a, by omega, h2, h3, fun b hb1 hb2 => ?_⟩
          by_cases h5 : b < k + 1
          · exact hno h b hb1 h5
          · exact h4 b (by omega) hb2
      split
      · unfold firstOf
        split
        · rename_i h1
          right
          refine ⟨k - m, Nat.le_refl _, by dsimp only; omega, ?_, fun b _ _ => by omega⟩
          rw [fits_iff]
          refine ⟨h1.1, by omega, by dsimp only at h1; omega, fun i hi => ?_⟩
          rw [Int.toNat_natCast]
          exact hf _ (by omega) (by dsimp only at h1; omega)
        · rename_i h1
          exact hup (by dsimp only at h1; omega)
      · exact hup (by omega)
theorem firstOf_FF (B : List Bool) (n : Int) : FFrom B n 0 (firstOf n (runs1 0 0 B)) := firstOf_from B n B 0 0 rfl (Nat.zero_le _) (Nat.le_refl _) fun i h1 h2 => by omega
theorem FF_unique {B : List Bool} {n : Int} {s : Nat} {v w : Int} (hv : FFrom B n s v) (hw : FFrom B n s w) : v = w := by
  rcases hv with ⟨h1, h2⟩ | ⟨a, h1, h2, h3, h4⟩ <;> rcases hw with ⟨g1, g2⟩ | ⟨b, g1, g2, g3, g4⟩
  · rw [h1, g1]
  · rw [h2 b g1] at g3; cases g3
  · rw [g2 a h1] at h3; cases h3
  · have : a = b := by
      rcases Nat.lt_trichotomy a b with h | h | h
      · rw [g4 a h1 h] at h3; cases h3
      · exact h
      · rw [h4 b g1 h] at g3; cases g3
    rw [h2, g2, this]
theorem first_fits {B : List Bool} {n : Int} (h : 0 ≤ firstOf n (runs1 0 0 B)) : fits B (firstOf n (runs1 0 0 B)) n = true := by
  rcases firstOf_FF B n with ⟨h1, _⟩ | ⟨a, _, h2, h3, _⟩
  · omega
  · rw [h2]; exact h3

/-! ### the longest -/
theorem longF_ge : ∀ (xs : List (Int × Int)) (m : Int), m ≤ longF m xs ∧ ∀ p ∈ xs, p.2 ≤ longF m xs
  | [], m => ⟨Int.le_refl _, by simp⟩
  | p :: r, m => by
    rw [longF]
    obtain ⟨h1, h2⟩ := longF_ge r (if p.2 > m then p.2 else m)
    have h3 : m ≤ (if p.2 > m then p.2 else m) ∧ p.2 ≤ (if p.2 > m then p.2 else m) := by split <;> omega
    refine ⟨by omega, fun q hq => ?_⟩
    rcases List.mem_cons.1 hq with rfl | hq
    · omega
    · exact h2 q hq
theorem longF_of : ∀ (xs : List (Int × Int)) (m : Int), longF m xs = m ∨ ∃ p ∈ xs, longF m xs = p.2
  | [], m => .inl rfl
  | p :: r, m => by
    rw [longF]
    rcases longF_of r (if p.2 > m then p.2 else m) with h | ⟨q, hq, h⟩
    · rw [h]
      split
      · exact .inr ⟨p, by simp, rfl⟩
      · exact .inl rfl
    · exact .inr ⟨q, List.mem_cons_of_mem _ hq, h⟩
theorem firstOf_ge : ∀ (xs : List (Int × Int)) (n : Int), (∀ p ∈ xs, 0 ≤ p.1) → (0 ≤ firstOf n xs ↔ 1 ≤ n ∧ ∃ p ∈ xs, n ≤ p.2)
  | [], n, _ => by simp [firstOf]
  | p :: r, n, h => by
    rw [firstOf]
    split
    · rename_i h1
      exact ⟨fun _ => ⟨h1.1, p, by simp, h1.2⟩, fun _ => h p (by simp)⟩
    · rename_i h1
      rw [firstOf_ge r n fun q hq => h q (by simp [hq])]
      constructor
      · rintro ⟨h2, q, hq, h3⟩
        exact ⟨h2, q, by simp [hq], h3⟩
      · rintro ⟨h2, q, hq, h3⟩
        rcases List.mem_cons.1 hq with rfl | hq
        · exact absurd ⟨h2, h3⟩ h1
        · exact ⟨h2, q, hq, h3⟩
theorem runs_at : ∀ (bs : List Bool) (k m : Nat) (p : Int × Int), m ≤ k → p ∈ runs1 k m bs → 0 ≤ p.1
  | [], k, m, p, hm, h => by
    unfold runs1 at h
    split at h
    · simp at h; subst h; dsimp only; omega
    · cases h
  | b :: r, k, m, p, hm, h => by
    unfold runs1 at h
    split at h
    · exact runs_at r _ _ p (by omega) h
    · split at h
      · rcases List.mem_cons.1 h with rfl | h
        · dsimp only; omega
        · exact runs_at r _ _ p (by omega) h
      · exact runs_at r _ _ p (by omega) h
theorem first_long (bs : List Bool) (n : Int) : 0 ≤ firstOf n (runs1 0 0 bs) ↔ 1 ≤ n ∧ n ≤ longF 0 (runs1 0 0 bs) := by
  rw [firstOf_ge _ _ fun p hp => runs_at bs 0 0 p (Nat.le_refl _) hp]
  constructor
  · rintro ⟨h1, p, hp, h2⟩
    have := (longF_ge (runs1 0 0 bs) 0).2 p hp
    exact ⟨h1, by omega⟩
  · rintro ⟨h1, h2⟩
    refine ⟨h1, ?_⟩
    rcases longF_of (runs1 0 0 bs) 0 with h | ⟨p, hp, h⟩
    · omega
    · exact ⟨p, hp, by omega⟩
theorem long_nonneg (bs : List Bool) : 0 ≤ longF 0 (runs1 0 0 bs) := (longF_ge _ _).1

/-! ### what is taken -/
theorem free_set : ∀ (bs : List Bool) (i : Nat), bs[i]? = some false → free (bs.set i true) + 1 = free bs
  | [], i, h => by simp at h
  | b :: r, 0, h => by simp at h; subst h; simp [free]; omega
  | b :: r, i + 1, h => by
    have := free_set r i (by simpa using h)
    rw [List.set_cons_succ, free, free]
    split <;> omega
theorem free_mark (bs : List Bool) (p : Nat) : ∀ n : Nat, (∀ i, i < n → bs[p + i]? = some false) → free (mark bs p n) + n = free bs
  | 0, _ => rfl
  | n + 1, h => by
    have h1 := free_mark bs p n fun i hi => h i (by omega)
    have h2 := free_set (mark bs p n) (p + n) (by
      rw [mark_get, h n (by omega)]
      simp)
    rw [mark]
    omega
/-- Nothing of a table lies where some lie. -/
def Apart (l : List U) (a n : Int) : Prop := ∀ u ∈ l, u.pos + u.len ≤ a ∨ a + n ≤ u.pos
theorem fits_apart {l : List U} {a n : Int} (hm : may1 0 l = true) (h : fits (used1 none16 l) a n = true) : 1 ≤ n ∧ 0 ≤ a ∧ a + n ≤ 16 ∧ Apart l a n := by
  obtain ⟨h1, h2, h3, h4⟩ := (fits_iff _ _ _).1 h
  rw [used1_length] at h3
  have h3' : a + n ≤ 16 := h3
  refine ⟨h1, h2, h3', fun u hu => ?_⟩
  obtain ⟨g1, g2, g3, g4, _⟩ := may1_mem l 0 hm u hu
  have bit : ∀ i : Nat, a ≤ i → (i : Int) < a + n → covers i u = false := by
    intro i hi1 hi2
    have := h4 (i - a.toNat) (by omega)
    rw [show a.toNat + (i - a.toNat) = i by omega, used1_get i l none16 0 (by omega) hm] at this
    cases hn : none16[i]? with
    | none => rw [hn] at this; cases this
    | some b =>
      rw [hn] at this
      simp only [Option.map_some, Option.some.injEq, Bool.or_eq_false_iff] at this
      exact Bool.eq_false_iff.2 (List.any_eq_false.1 this.2 u hu)
  by_cases h5 : u.pos + u.len ≤ a
  · exact .inl h5
  · by_cases h6 : a + n ≤ u.pos
    · exact .inr h6
    · exfalso
      by_cases h7 : a ≤ u.pos
      · have := bit u.pos.toNat (by omega) (by omega)
        unfold covers at this
        have := of_decide_eq_false this
        omega
      · have := bit a.toNat (by omega) (by omega)
        unfold covers at this
        have := of_decide_eq_false this
        omega
def ins1 (a n : Int) : List U → List U
  | [] => [takeU a n]
  | u :: r => if a < u.pos then takeU a n :: u :: r else u :: ins1 a n r
theorem insOf_ins1 (a n : Int) : ∀ l : List U, insOf l (posOf a l) (takeU a n) = ins1 a n l
  | [] => rfl
  | u :: r => by
    have := insOf_ins1 a n r
    unfold insOf at this
    unfold insOf posOf ins1
    split
    · rfl
    · rw [List.take_succ_cons, List.drop_succ_cons, List.cons_append, this]
theorem ins1_may {a n : Int} (h1 : 1 ≤ n) (h2 : n ≤ 8) (h3 : a + n ≤ 16) : ∀ (l : List U) (e : Int), may1 e l = true → e ≤ a → Apart l a n → may1 e (ins1 a n l) = true
  | [], e, _, he, _ => may1_mk h1 h2 he (by show a ≤ 16 - n; omega) (by show (0 : Int) ≤ 1; omega) (by show (1 : Int) ≤ 1000000; omega) (.inr (by show (1 : Int) ≠ 0; omega)) rfl
  | u :: r, e, h, he, ha => by
    obtain ⟨g1, g2, g3, g4, g5, g6, g7, g8⟩ := may1_cons h
    have hu := ha u (by simp)
    rw [ins1]
    split
    · refine may1_mk h1 h2 he (by show a ≤ 16 - n; omega) (by show (0 : Int) ≤ 1; omega) (by show (1 : Int) ≤ 1000000; omega) (.inr (by show (1 : Int) ≠ 0; omega)) ?_
      exact may1_mk g1 g2 (by show a + n ≤ u.pos; omega) g4 g5 g6 g7 g8
    · exact may1_mk g1 g2 g3 g4 g5 g6 g7 (ins1_may h1 h2 h3 r _ g8 (by omega) fun x hx => ha x (by simp [hx]))
theorem ins1_any (p : U → Bool) (a n : Int) : ∀ l : List U, (ins1 a n l).any p = (l.any p || p (takeU a n))
  | [] => by simp [ins1]
  | u :: r => by
    rw [ins1]
    split
    · rw [List.any_cons]; exact Bool.or_comm _ _
    · rw [List.any_cons, ins1_any p a n r, List.any_cons, Bool.or_assoc]
theorem ins1_count {a n : Int} (hn : 1 ≤ n) : ∀ l : List U, Apart l a n → (∀ u ∈ l, 1 ≤ u.len) → countOf a (ins1 a n l) = 1
  | [], _, _ => by rw [ins1, countOf, if_pos (show (takeU a n).pos = a from rfl)]; rfl
  | u :: r, h, hl => by
    have h1 := h u (by simp)
    have h2 := hl u (by simp)
    rw [ins1]
    split
    · rw [countOf, if_pos (show (takeU a n).pos = a from rfl)]; rfl
    · rw [countOf, if_neg (by omega)]
      exact ins1_count hn r (fun x hx => h x (by simp [hx])) fun x hx => hl x (by simp [hx])
theorem ins1_length (a n : Int) : ∀ l : List U, (ins1 a n l).length = l.length + 1
  | [] => rfl
  | u :: r => by
    rw [ins1]
    split
    · rfl
    · rw [List.length_cons, ins1_length a n r]; rfl
theorem ins1_back {a n : Int} (hn : 1 ≤ n) : ∀ l : List U, Apart l a n → (∀ u ∈ l, 1 ≤ u.len) → turnL a (-1) (ins1 a n l) = l
  | [], _, _ => by rw [ins1, turnL, if_pos (show (takeU a n).pos = a from rfl), if_pos (show (takeU a n).count + -1 = 0 ∧ (takeU a n).old = false from ⟨rfl, rfl⟩)]
  | u :: r, h, hl => by
    have h1 := h u (by simp)
    have h2 := hl u (by simp)
    rw [ins1]
    split
    · rw [turnL, if_pos (show (takeU a n).pos = a from rfl), if_pos (show (takeU a n).count + -1 = 0 ∧ (takeU a n).old = false from ⟨rfl, rfl⟩)]
    · rw [turnL, if_neg (by omega), ins1_back hn r (fun x hx => h x (by simp [hx])) fun x hx => hl x (by simp [hx])]
/-- What a taking is. -/
theorem take_some {o : Option (List U)} {n a : Int} {m : List U} (h : take o n = some (m, a)) :
    may o = true ∧ 1 ≤ n ∧ n ≤ 8 ∧ 0 ≤ a ∧ a + n ≤ 16 ∧ Apart (o.getD []) a n ∧ m = ins1 a n (o.getD []) ∧ fits (used1 none16 (o.getD [])) a n = true := by
  unfold take at h
  split at h
  · rename_i h1
    simp only [Option.some.injEq, Prod.mk.injEq] at h
    obtain ⟨h2, h3⟩ := h
    have hf := first_fits h1.2.2
    rw [h3] at hf h2
    obtain ⟨g1, g2, g3, g4⟩ := fits_apart h1.1 hf
    exact ⟨h1.1, g1, h1.2.1, g2, g3, g4, by rw [← h2, insOf_ins1], hf⟩
  · cases h
theorem take_may {o : Option (List U)} {n a : Int} {m : List U} (h : take o n = some (m, a)) : may (some m) = true := by
  obtain ⟨h1, h2, h3, h4, h5, h6, rfl, _⟩ := take_some h
  exact ins1_may h2 h3 h5 _ 0 h1 h4 h6
theorem may1_len {l : List U} {e : Int} (h : may1 e l = true) : ∀ u ∈ l, 1 ≤ u.len := fun u hu => (may1_mem l e h u hu).1
theorem take_count {o : Option (List U)} {n a : Int} {m : List U} (h : take o n = some (m, a)) : count (some m) a = 1 := by
  obtain ⟨h1, h2, h3, h4, h5, h6, rfl, _⟩ := take_some h
  exact ins1_count h2 _ h6 (may1_len h1)
theorem take_back {o : Option (List U)} {n a : Int} {m : List U} (h : take o n = some (m, a)) : turnO (some m) a (-1) = some (o.getD []) := by
  have hc := take_count h
  have hm := take_may h
  obtain ⟨h1, h2, h3, h4, h5, h6, rfl, _⟩ := take_some h
  rw [turnO, if_pos ⟨hm, by rw [count] at hc; rw [hc]; omega, by rw [count] at hc; rw [hc]; omega⟩]
  rw [Option.getD_some, ins1_back h2 _ h6 (may1_len h1)]
theorem take_free {o : Option (List U)} {n a : Int} {m : List U} (h : take o n = some (m, a)) : (free (used1 none16 m) : Int) = free (used1 none16 (o.getD [])) - n := by
  have hm := take_may h
  obtain ⟨h1, h2, h3, h4, h5, h6, rfl, hf⟩ := take_some h
  obtain ⟨_, _, h7, h8⟩ := (fits_iff _ _ _).1 hf
  have e := free_mark (used1 none16 (o.getD [])) a.toNat n.toNat h8
  have : free (used1 none16 (ins1 a n (o.getD []))) = free (mark (used1 none16 (o.getD [])) a.toNat n.toNat) := by
    congr 1
    apply List.ext_getElem?
    intro i
    rw [used1_get i (ins1 a n (o.getD [])) _ 0 (by omega) hm, mark_get, used1_get i _ _ 0 (by omega) h1, ins1_any, Option.map_map]
    congr 1
    funext b
    show (b || (_ || covers i (takeU a n))) = (b || _ || _)
    rw [Bool.or_assoc]
    congr 2
    unfold covers
    apply decide_eq_decide.2
    show a ≤ i ∧ (i : Int) < a + n ↔ _
    omega
  omega
theorem take_none {o : Option (List U)} {n : Int} (h : take o n = none) (hm : may o = true) (h1 : 1 ≤ n) (h8 : n ≤ 8) : longF 0 (runs1 0 0 (used1 none16 (o.getD []))) < n ∧ o.getD [] ≠ [] := by
  unfold take at h
  split at h
  · cases h
  · rename_i h2
    have h3 : ¬ 0 ≤ firstOf n (runs1 0 0 (used1 none16 (o.getD []))) := fun h4 => h2 ⟨hm, h8, h4⟩
    refine ⟨?_, fun he => ?_⟩
    · rw [first_long] at h3
      omega
    · rw [he] at h3
      apply h3
      rw [show runs1 0 0 (used1 none16 []) = [(0, 16)] from by decide, firstOf, if_pos ⟨h1, by dsimp only; omega⟩]
      exact Int.le_refl _

/-! ### what is referred to -/
theorem turnL_may {at' by' : Int} : ∀ (l : List U) (e : Int), may1 e l = true → 0 ≤ countOf at' l + by' → countOf at' l + by' ≤ 1000000 → may1 e (turnL at' by' l) = true
  | [], e, _, _, _ => rfl
  | u :: r, e, h, h0, h1 => by
    obtain ⟨g1, g2, g3, g4, g5, g6, g7, g8⟩ := may1_cons h
    rw [turnL]
    rw [countOf] at h0 h1
    split
    · rename_i hp
      rw [if_pos hp] at h0 h1
      split
      · exact may1_mono r _ _ (by omega) g8
      · rename_i hq
        refine may1_mk g1 g2 g3 g4 h0 h1 ?_ g8
        by_cases hz : u.count + by' = 0
        · left
          show u.old = true
          cases ho : u.old with
          | true => rfl
          | false => exact absurd ⟨hz, ho⟩ hq
        · exact .inr hz
    · rename_i hp
      rw [if_neg hp] at h0 h1
      exact may1_mk g1 g2 g3 g4 g5 g6 g7 (turnL_may r _ g8 h0 h1)
theorem countOf_none (at' : Int) : ∀ l : List U, (∀ u ∈ l, u.pos ≠ at') → countOf at' l = 0
  | [], _ => rfl
  | u :: r, h => by
    rw [countOf, if_neg (h u (by simp))]
    exact countOf_none at' r fun x hx => h x (by simp [hx])
theorem turnL_count {at' by' : Int} : ∀ (l : List U) (e : Int), may1 e l = true → countOf at' l ≠ 0 → countOf at' (turnL at' by' l) = countOf at' l + by'
  | [], e, _, h => absurd rfl h
  | u :: r, e, hm, h => by
    obtain ⟨g1, g2, g3, g4, g5, g6, g7, g8⟩ := may1_cons hm
    rw [turnL]
    rw [countOf] at h
    split
    · rename_i hp
      split
      · rename_i hq
        rw [countOf_none at' r fun x hx => by have := may1_ge r _ g8 x hx; omega, countOf, if_pos hp]
        omega
      · rw [countOf, if_pos (show u.pos = at' from hp), countOf, if_pos hp]
    · rename_i hp
      rw [if_neg hp] at h
      rw [countOf, if_neg hp, countOf, if_neg hp]
      exact turnL_count r _ g8 h
theorem turnL_other {at' by' x : Int} (hx : x ≠ at') : ∀ (l : List U), countOf x (turnL at' by' l) = countOf x l
  | [] => rfl
  | u :: r => by
    rw [turnL]
    split
    · rename_i hp
      split
      · rw [countOf, if_neg (by omega)]
      · rw [countOf, if_neg (show u.pos ≠ x by omega), countOf, if_neg (by omega)]
    · rw [countOf, countOf]
      split
      · rfl
      · exact turnL_other hx r
theorem turnL_back {at' : Int} : ∀ (l : List U) (e : Int), may1 e l = true → countOf at' l ≠ 0 → turnL at' (-1) (turnL at' 1 l) = l
  | [], e, _, h => absurd rfl h
  | u :: r, e, hm, h => by
    obtain ⟨g1, g2, g3, g4, g5, g6, g7, g8⟩ := may1_cons hm
    rw [countOf] at h
    rw [turnL]
    split
    · rename_i hp
      rw [if_pos hp] at h
      rw [if_neg (by omega), turnL, if_pos (show u.pos = at' from hp), if_neg (by show ¬ (u.count + 1 + -1 = 0 ∧ _); omega)]
      show { u with count := u.count + 1 + -1 } :: r = _
      rw [show u.count + 1 + -1 = u.count by omega]
    · rename_i hp
      rw [if_neg hp] at h
      rw [turnL, if_neg hp, turnL_back r _ g8 h]
theorem countOf_range : ∀ (l : List U) (e at' : Int), may1 e l = true → 0 ≤ countOf at' l ∧ countOf at' l ≤ 1000000
  | [], e, at', _ => by simp [countOf]
  | u :: r, e, at', h => by
    obtain ⟨g1, g2, g3, g4, g5, g6, g7, g8⟩ := may1_cons h
    rw [countOf]
    split
    · omega
    · exact countOf_range r _ at' g8
theorem turnO_some {o : Option (List U)} {at' by' : Int} {m : List U} (h : turnO o at' by' = some m) : may o = true ∧ countOf at' (o.getD []) ≠ 0 ∧ countOf at' (o.getD []) + by' ≤ 1000000 ∧ m = turnL at' by' (o.getD []) := by
  unfold turnO at h
  split at h
  · rename_i h1
    simp only [Option.some.injEq] at h
    exact ⟨h1.1, h1.2.1, h1.2.2, h.symm⟩
  · cases h
theorem turnO_may {o : Option (List U)} {at' by' : Int} {m : List U} (hb : -1 ≤ by') (h : turnO o at' by' = some m) : may (some m) = true := by
  obtain ⟨h1, h2, h3, rfl⟩ := turnO_some h
  have := countOf_range _ _ at' h1
  exact turnL_may _ 0 h1 (by omega) h3
theorem turnO_count {o : Option (List U)} {at' by' : Int} {m : List U} (h : turnO o at' by' = some m) : count (some m) at' = count o at' + by' := by
  obtain ⟨h1, h2, h3, rfl⟩ := turnO_some h
  exact turnL_count _ 0 h1 h2
theorem turnO_other {o : Option (List U)} {at' by' x : Int} {m : List U} (hx : x ≠ at') (h : turnO o at' by' = some m) : count (some m) x = count o x := by
  obtain ⟨h1, h2, h3, rfl⟩ := turnO_some h
  exact turnL_other hx _
theorem turnO_back {o : Option (List U)} {at' : Int} {m : List U} (h : turnO o at' 1 = some m) : turnO (some m) at' (-1) = some (o.getD []) := by
  have hm := turnO_may (by omega) h
  have hc := turnO_count h
  obtain ⟨h1, h2, h3, rfl⟩ := turnO_some h
  have hr := countOf_range _ _ at' h1
  simp only [count, Option.getD_some] at hc
  rw [turnO, Option.getD_some, if_pos ⟨hm, by omega, by omega⟩, turnL_back _ 0 h1 h2]
theorem count_range {o : Option (List U)} {at' : Int} (h : may o = true) : 0 ≤ count o at' ∧ count o at' ≤ 1000000 := countOf_range _ 0 at' h
theorem turnO_inc_iff {o : Option (List U)} {at' : Int} (h : may o = true) : (turnO o at' 1).isSome = decide (0 < count o at' ∧ count o at' < 1000000) := by
  have := count_range (at' := at') h
  unfold turnO
  split
  · rename_i h1
    rw [Option.isSome_some, decide_eq_true]
    unfold count at this ⊢
    omega
  · rename_i h1
    rw [Option.isSome_none, decide_eq_false]
    rintro ⟨h2, h3⟩
    unfold count at this h2 h3
    exact h1 ⟨h, by omega, by omega⟩
theorem turnO_dec_iff {o : Option (List U)} {at' : Int} (h : may o = true) : (turnO o at' (-1)).isSome = decide (0 < count o at') := by
  have := count_range (at' := at') h
  unfold turnO
  split
  · rename_i h1
    rw [Option.isSome_some, decide_eq_true]
    unfold count at this ⊢
    omega
  · rename_i h1
    rw [Option.isSome_none, decide_eq_false]
    intro h2
    unfold count at this h2
    exact h1 ⟨h, by omega, by omega⟩
/-- What has a slot, and keeps it. -/
theorem ins1_has {a n : Int} {l : List U} {u : U} (h : has1 l u = true) : has1 (ins1 a n l) u = true := by
  rw [has1, ins1_any]
  rw [has1] at h
  rw [h]; rfl
theorem turnL_has {at' by' : Int} {u : U} : ∀ l : List U, has1 l u = true → has1 (turnL at' by' l) u = true
  | [], h => h
  | v :: r, h => by
    rw [has1, List.any_cons, Bool.or_eq_true] at h
    rw [turnL]
    split
    · rename_i hp
      split
      · rename_i hq
        rcases h with h | h
        · rw [hq.2] at h
          simp at h
        · exact h
      · rw [has1, List.any_cons, Bool.or_eq_true]
        exact h
    · rw [has1, List.any_cons, Bool.or_eq_true]
      rcases h with h | h
      · exact .inl h
      · exact .inr (turnL_has r h)
theorem has_self {l : List U} {u : U} (hu : u ∈ l) (ho : u.old = true) : has1 l u = true := by
  rw [has1, List.any_eq_true]
  exact ⟨u, hu, by simp [ho]⟩
end Go.Proofs.Ytfdaioinghfjpaa
