/- Plain laws of floats: 1 less a part of at most 640. -/
import Derived.Test.YtfdaioinghfjpaaG10
namespace Go.Proofs.Ytfdaioinghfjpaa
open Go.Rd Go.RowKit

set_option maxRecDepth 20000
namespace Fl
theorem lp : Ieee.double.leastPlace = -1074 := by decide
theorem bi : Ieee.double.binade = 4503599627370496 := by decide
theorem ir : Ieee.double.infRung = 9218868437227405312 := by decide
theorem sw : Ieee.double.signWeight = 9223372036854775808 := by decide
theorem fb : Ieee.double.fractionBits = 52 := rfl
theorem p52 : (2 : Nat) ^ 52 = 4503599627370496 := by decide
theorem p53 : (2 : Nat) ^ 53 = 9007199254740992 := by decide
theorem bool_le (b : Bool) : b.toNat ≤ 1 := by cases b <;> decide
theorem cut_big {mag e : Nat} (h : 52 < e) (hee : mag.log2 = e) (hlo : 2 ^ e ≤ mag) (hhi : mag < 2 ^ (e + 1)) :
    2 ^ 52 ≤ Ieee.Toward.even.cut false mag (e - 52) ∧ Ieee.Toward.even.cut false mag (e - 52) ≤ 2 ^ 53 ∧ Ieee.Toward.even.cut false mag (e - 52) ≤ mag / 2 ^ (e - 52) + 1 := by
  unfold Ieee.Toward.cut
  rw [hee, show min (e - 52) (e + 2) = e - 52 by omega, Nat.shiftLeft_eq, Nat.one_mul]
  have hg : 0 < 2 ^ (e - 52) := Nat.two_pow_pos _
  have h1 : 2 ^ 52 ≤ mag / 2 ^ (e - 52) := by
    rw [Nat.le_div_iff_mul_le hg, ← Nat.pow_add, show 52 + (e - 52) = e by omega]
    exact hlo
  have h2 : mag / 2 ^ (e - 52) < 2 ^ 53 := by
    rw [Nat.div_lt_iff_lt_mul hg, ← Nat.pow_add, show 53 + (e - 52) = e + 1 by omega]
    exact hhi
  exact ⟨Nat.le_trans h1 (Nat.le_add_right _ _), Nat.le_trans (Nat.add_le_add_left (bool_le _) _) h2, Nat.add_le_add_left (bool_le _) _⟩
theorem cut_zero (n : Nat) : Ieee.Toward.even.cut false n 0 = n := by
  unfold Ieee.Toward.cut
  rw [Nat.zero_min, Nat.shiftLeft_zero]
  simp [Nat.mod_one]
theorem up_small {mag e : Nat} (h : e ≤ 52) (hlo : 2 ^ e ≤ mag) (hhi : mag < 2 ^ (e + 1)) : 2 ^ 52 ≤ mag * 2 ^ (52 - e) ∧ mag * 2 ^ (52 - e) < 2 ^ 53 := by
  have h1 := Nat.mul_le_mul_right (2 ^ (52 - e)) hlo
  rw [← Nat.pow_add, show e + (52 - e) = 52 by omega] at h1
  have h2 := Nat.mul_lt_mul_of_pos_right hhi (Nat.two_pow_pos (52 - e))
  rw [← Nat.pow_add, show e + 1 + (52 - e) = 53 by omega] at h2
  exact ⟨h1, h2⟩
def keptOf (mag e : Nat) : Nat := if 52 < e then Ieee.Toward.even.cut false mag (e - 52) else mag * 2 ^ (52 - e)
theorem kept_bounds {mag : Nat} (h0 : 0 < mag) : 4503599627370496 ≤ keptOf mag mag.log2 ∧ keptOf mag mag.log2 ≤ 9007199254740992 ∧ (mag.log2 ≤ 52 → keptOf mag mag.log2 < 9007199254740992) ∧ (52 < mag.log2 → keptOf mag mag.log2 ≤ mag / 2 ^ (mag.log2 - 52) + 1) := by
  have hlo := Nat.log2_self_le (n := mag) (by omega)
  have hhi : mag < 2 ^ (mag.log2 + 1) := (Nat.log2_lt (by omega)).1 (Nat.lt_succ_self _)
  rw [← p52, ← p53]
  unfold keptOf
  split
  · rename_i h
    obtain ⟨h1, h2, h3⟩ := cut_big h rfl hlo hhi
    exact ⟨h1, h2, fun h4 => absurd h (by omega), fun _ => h3⟩
  · rename_i h
    obtain ⟨h1, h2⟩ := up_small (by omega) hlo hhi
    exact ⟨h1, Nat.le_of_lt h2, fun _ => h2, fun h4 => absurd h4 h⟩
theorem kept_eq (mag e k : Nat) : Ieee.Toward.even.cut false (mag <<< ((-(k : Int)) - (-(k : Int) + e - 52)).toNat) ((-(k : Int) + e - 52) - (-(k : Int))).toNat = keptOf mag e := by
  rw [show ((-(k : Int)) - (-(k : Int) + e - 52)).toNat = 52 - e by omega, show ((-(k : Int) + e - 52) - (-(k : Int))).toNat = e - 52 by omega, Nat.shiftLeft_eq]
  unfold keptOf
  split
  · rename_i h
    rw [show 52 - e = 0 by omega, Nat.pow_zero, Nat.mul_one]
  · rename_i h
    rw [show e - 52 = 0 by omega, cut_zero]
theorem word_false (f : Ieee.Format) (r : Nat) : f.word false r = r := rfl
theorem near_def (f : Ieee.Format) (mag : Nat) (place : Int) (h : mag ≠ 0) : f.nearest false mag place = min ((max (place + mag.log2 - f.fractionBits) f.leastPlace - f.leastPlace).toNat * f.binade + Ieee.Toward.even.cut false (mag <<< (place - max (place + mag.log2 - f.fractionBits) f.leastPlace).toNat) (max (place + mag.log2 - f.fractionBits) f.leastPlace - place).toNat) f.infRung := by
  unfold Ieee.Format.nearest
  rw [if_neg h]
  rfl
theorem near_ar {q e k : Nat} (b1 : 4503599627370496 ≤ q) (b2 : q ≤ 9007199254740992) (hk : k ≤ 1000) (he : e + 1 ≤ k ∨ k = 0 ∧ e ≤ 52) : min ((e + 1022 - k) * 4503599627370496 + q) 9218868437227405312 = (e + 1022 - k) * 4503599627370496 + q := by
  omega
theorem near_hl {e k : Nat} (hk : k ≤ 1000) : max (-(k : Int) + ((e : Nat) : Int) - (Ieee.double.fractionBits : Int)) Ieee.double.leastPlace = -(k : Int) + e - 52 := by
  rw [lp, show ((Ieee.double.fractionBits : Nat) : Int) = 52 from rfl]
  omega
/-- The word of a number that is not too small, nor too great: its rung. -/
theorem nearest_eq {mag k : Nat} (h0 : 0 < mag) (hk : k ≤ 1000) (he : mag.log2 + 1 ≤ k ∨ k = 0 ∧ mag.log2 ≤ 52) :
    Ieee.double.nearest false mag (-(k : Int)) = (mag.log2 + 1022 - k) * 4503599627370496 + keptOf mag mag.log2 := by
  obtain ⟨b1, b2, _, _⟩ := kept_bounds h0
  rw [near_def _ _ _ (by omega), near_hl hk, kept_eq, ir, bi, lp, show (-(k : Int) + mag.log2 - 52 - (-1074)).toNat = mag.log2 + 1022 - k by omega]
  exact near_ar b1 b2 hk he
/-- What a word of a usual number stands for. -/
theorem read_eq {E r : Nat} (hE : 1 ≤ E) (hE2 : E ≤ 2046) (hr : r < 2 ^ 52) : Ieee.double.read (E * 2 ^ 52 + r) = .number false (2 ^ 52 + r) (E - 1075) := by
  rw [p52] at hr ⊢
  unfold Ieee.Format.read
  rw [sw, bi, ir, lp]
  have h1 : (E * 4503599627370496 + r) / 9223372036854775808 = 0 := by omega
  have h2 : (E * 4503599627370496 + r) % 9223372036854775808 = E * 4503599627370496 + r := by omega
  rw [h1, h2]
  simp only []
  rw [if_neg (by omega), if_pos (by omega)]
  have h3 : (E * 4503599627370496 + r) % 4503599627370496 = r := by omega
  have h4 : (E * 4503599627370496 + r) / 4503599627370496 = E := by omega
  rw [h3, h4]
  congr 1
  omega
theorem nearest_lt {mag k : Nat} (h0 : 0 < mag) (hk : k ≤ 1000) (h : mag * 2 ^ 10 ≤ 1023 * 2 ^ k) :
    0 < Ieee.double.nearest false mag (-(k : Int)) ∧ Ieee.double.nearest false mag (-(k : Int)) < 1023 * 2 ^ 52 ∧ (2 ^ k ≤ mag * 2 ^ 10 → 1013 * 2 ^ 52 ≤ Ieee.double.nearest false mag (-(k : Int))) := by
  have hlo := Nat.log2_self_le (n := mag) (by omega)
  have hhi : mag < 2 ^ (mag.log2 + 1) := (Nat.log2_lt (by omega)).1 (Nat.lt_succ_self _)
  have hmk : mag < 2 ^ k := by have := Nat.two_pow_pos k; omega
  have hek : mag.log2 + 1 ≤ k := by
    rcases Nat.lt_or_ge mag.log2 k with h | h
    · exact h
    · have := Nat.pow_le_pow_right (n := 2) (by omega) h
      omega
  have h1 := nearest_eq h0 hk (.inl hek)
  obtain ⟨h2, h3, h4, h5⟩ := kept_bounds h0
  rw [h1]
  generalize keptOf mag mag.log2 = kept at *
  generalize mag.log2 = e at *
  have hp : e + 1 = k → 52 < e → kept < 9007199254740992 := by
    intro he1 he2
    have h6 := h5 he2
    have hg : 0 < 2 ^ (e - 52) := Nat.two_pow_pos _
    have h7 : mag / 2 ^ (e - 52) * 2 ^ 10 ≤ 1023 * 2 ^ 53 := by
      have h8 : mag / 2 ^ (e - 52) * 2 ^ (e - 52) ≤ mag := Nat.div_mul_le_self _ _
      have h9 : mag / 2 ^ (e - 52) * 2 ^ 10 * 2 ^ (e - 52) ≤ 1023 * 2 ^ 53 * 2 ^ (e - 52) := by
        calc _ = mag / 2 ^ (e - 52) * 2 ^ (e - 52) * 2 ^ 10 := by rw [Nat.mul_right_comm]
          _ ≤ mag * 2 ^ 10 := Nat.mul_le_mul_right _ h8
          _ ≤ 1023 * 2 ^ k := h
          _ = 1023 * 2 ^ 53 * 2 ^ (e - 52) := by rw [Nat.mul_assoc, ← Nat.pow_add, show 53 + (e - 52) = k by omega]
      exact Nat.le_of_mul_le_mul_right h9 hg
    rw [p53, show (2 : Nat) ^ 10 = 1024 from rfl] at h7
    omega
  refine ⟨by omega, ?_, fun h6 => ?_⟩
  · rw [p52]
    rcases Nat.lt_or_ge 52 e with h7 | h7
    · rcases Nat.lt_or_ge (e + 1) k with h8 | h8
      · omega
      · have := hp (by omega) h7
        omega
    · have := h4 h7
      omega
  · have h7 : 2 ^ k < 2 ^ (e + 11) := by
      rw [show e + 11 = e + 1 + 10 by omega, Nat.pow_add]
      omega
    have h8 : k < e + 11 := (Nat.pow_lt_pow_iff_right (by omega)).1 h7
    rw [p52]
    omega
end Fl
end Go.Proofs.Ytfdaioinghfjpaa
