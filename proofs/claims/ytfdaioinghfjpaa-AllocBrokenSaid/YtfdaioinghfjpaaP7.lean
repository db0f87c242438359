/- Plain laws of floats: 1 less a part of at most 640: the words. -/
import Derived.Test.YtfdaioinghfjpaaP6
namespace Go.Proofs.Ytfdaioinghfjpaa
open Go.Rd Go.RowKit
set_option maxRecDepth 20000
namespace Fl
theorem p62 : (2 : Nat) ^ 62 = 4611686018427387904 := by decide
theorem nearest_ge {mag k : Nat} (h0 : 0 < mag) (hk : k ≤ 1000) (he : mag.log2 + 1 ≤ k ∨ k = 0 ∧ mag.log2 ≤ 52) : 4503599627370496 ≤ Ieee.double.nearest false mag (-(k : Int)) := by
  obtain ⟨b1, _, _, _⟩ := kept_bounds h0
  rw [nearest_eq h0 hk he]
  omega
theorem log2_of {m e : Nat} (h1 : 2 ^ e ≤ m) (h2 : m < 2 ^ (e + 1)) : m.log2 = e :=
  (Nat.log2_eq_iff (by have := Nat.two_pow_pos e; omega)).2 ⟨h1, h2⟩
theorem of_kept {q e : Nat} (u1 : 2 ^ 52 ≤ q) (u2 : q < 2 ^ 53) (he : e ≤ 9) : Ieee.double.read ((e + 1022 - 0) * 4503599627370496 + q) = .number false q ((e : Int) - 52) := by
  have h1 : q - 2 ^ 52 < 2 ^ 52 := by rw [p53] at u2; rw [p52] at *; omega
  have h2 := read_eq (E := e + 1023) (r := q - 2 ^ 52) (by omega) (by omega) h1
  have h3 : (e + 1022 - 0) * 4503599627370496 + q = (e + 1023) * 2 ^ 52 + (q - 2 ^ 52) := by rw [p52] at *; omega
  have h4 : 2 ^ 52 + (q - 2 ^ 52) = q := by omega
  have h5 : ((e + 1023 : Nat) : Int) - 1075 = (e : Int) - 52 := by omega
  rw [h3, h2, h4, h5]
theorem ofNat_read {a : Nat} (h1 : 1 ≤ a) (h2 : a ≤ 1000) : Ieee.double.read (floatOfInt .f64 (a : Int)) = .number false (a * 2 ^ (52 - a.log2)) ((a.log2 : Int) - 52) := by
  have hlo := Nat.log2_self_le (n := a) (by omega)
  have hhi : a < 2 ^ (a.log2 + 1) := (Nat.log2_lt (by omega)).1 (Nat.lt_succ_self _)
  have he : a.log2 ≤ 9 := by
    have : a.log2 < 10 := (Nat.log2_lt (by omega)).2 (by omega)
    omega
  have e1 : floatOfInt .f64 (a : Int) = Ieee.double.nearest false a (-((0 : Nat) : Int)) := by
    show Ieee.double.nearest (decide ((a : Int) < 0)) (a : Int).natAbs 0 = _
    rw [decide_eq_false (by omega), Int.natAbs_natCast]
    rfl
  rw [e1, nearest_eq (by omega) (by omega) (.inr ⟨rfl, by omega⟩)]
  obtain ⟨u1, u2⟩ := up_small (mag := a) (e := a.log2) (by omega) hlo hhi
  unfold keptOf
  rw [if_neg (by omega)]
  exact of_kept u1 u2 he
theorem quo_words {x y A B : Nat} {i j : Int} (hx : Ieee.double.read x = .number false A i) (hy : Ieee.double.read y = .number false B j) (hA : A.log2 = 52) (hB : B.log2 = 52) (h0 : B ≠ 0) :
    floatBits .quo .f64 x y = some (Ieee.double.nearest false (2 * (A * 2 ^ 54 / B) + (A * 2 ^ 54 % B != 0).toNat) (i - j - 54 - 1)) := by
  show (((Ieee.double.read x).quotient (Ieee.double.fractionBits + 2) (Ieee.double.read y)).map Ieee.double.write) = _
  rw [hx, hy]
  unfold Ieee.Datum.quotient
  simp only [if_neg h0, hA, hB, fb, Nat.shiftLeft_eq]
  rfl
/-- The bounds of a part. -/
theorem part_bounds {a b X : Nat} (h1 : 1 ≤ a) (h2 : a < b) (h3 : b ≤ 640) (hX : 1000000 ≤ X) {q : Nat} (hq : q * b ≤ a * X) (hq2 : a * X < (q + 1) * b) :
    (2 * q + 1) * 1024 ≤ 1023 * (2 * X) ∧ 2 * X ≤ 2 * q * 1024 := by
  have hb : 0 < b := by omega
  have e1 : 640 * q ≤ 639 * X := by
    have k1 : 640 * (a * X) ≤ 639 * X * b := by
      calc 640 * (a * X) = (640 * a) * X := by rw [Nat.mul_assoc]
        _ ≤ (639 * b) * X := Nat.mul_le_mul_right _ (by omega)
        _ = 639 * X * b := by rw [Nat.mul_right_comm]
    have k2 : 640 * q * b ≤ 639 * X * b := by
      rw [Nat.mul_assoc]
      exact Nat.le_trans (Nat.mul_le_mul_left _ hq) k1
    exact Nat.le_of_mul_le_mul_right k2 hb
  have e2 : X < (q + 1) * 640 := by
    have k1 : X ≤ a * X := Nat.le_mul_of_pos_left _ (by omega)
    have k2 : (q + 1) * b ≤ (q + 1) * 640 := Nat.mul_le_mul_left _ h3
    omega
  omega
theorem part_word {a b : Nat} (h1 : 1 ≤ a) (h2 : a < b) (h3 : b ≤ 640) : ∃ p, floatBits .quo .f64 (floatOfInt .f64 (a : Int)) (floatOfInt .f64 (b : Int)) = some p ∧ 1013 * 2 ^ 52 ≤ p ∧ p < 1023 * 2 ^ 52 := by
  have hlo := Nat.log2_self_le (n := a) (by omega)
  have hhi : a < 2 ^ (a.log2 + 1) := (Nat.log2_lt (by omega)).1 (Nat.lt_succ_self _)
  have hlo' := Nat.log2_self_le (n := b) (by omega)
  have hhi' : b < 2 ^ (b.log2 + 1) := (Nat.log2_lt (by omega)).1 (Nat.lt_succ_self _)
  have hea : a.log2 < 10 := (Nat.log2_lt (by omega)).2 (by omega)
  have heb : b.log2 < 10 := (Nat.log2_lt (by omega)).2 (by omega)
  have hab : a.log2 ≤ b.log2 := by
    have : 2 ^ a.log2 < 2 ^ (b.log2 + 1) := by omega
    have := (Nat.pow_lt_pow_iff_right (a := 2) (by omega)).1 this
    omega
  have hx := ofNat_read h1 (by omega : a ≤ 1000)
  have hy := ofNat_read (by omega : 1 ≤ b) (by omega : b ≤ 1000)
  obtain ⟨u1, u2⟩ := up_small (mag := a) (e := a.log2) (by omega) hlo hhi
  obtain ⟨v1, v2⟩ := up_small (mag := b) (e := b.log2) (by omega) hlo' hhi'
  have hB : b * 2 ^ (52 - b.log2) ≠ 0 := by have := Nat.two_pow_pos 52; omega
  refine ⟨_, quo_words hx hy (log2_of u1 u2) (log2_of v1 v2) hB, ?_⟩
  generalize a.log2 = ea at *
  generalize b.log2 = eb at *
  obtain ⟨q, hq⟩ : ∃ q, a * 2 ^ (52 - ea) * 2 ^ 54 / (b * 2 ^ (52 - eb)) = q := ⟨_, rfl⟩
  obtain ⟨s, hs⟩ : ∃ s : Nat, (a * 2 ^ (52 - ea) * 2 ^ 54 % (b * 2 ^ (52 - eb)) != 0).toNat = s := ⟨_, rfl⟩
  have hs1 : s ≤ 1 := hs ▸ bool_le _
  rw [hq, hs]
  have hC : 0 < 2 ^ (52 - eb) := Nat.two_pow_pos _
  -- the quotient over b alone
  have hsh : a * 2 ^ (52 - ea) * 2 ^ 54 = a * 2 ^ (54 + eb - ea) * 2 ^ (52 - eb) := by
    rw [Nat.mul_assoc, ← Nat.pow_add, Nat.mul_assoc, ← Nat.pow_add]
    congr 2
    omega
  have hbq : a * 2 ^ (54 + eb - ea) / b = q := by
    rw [← hq, hsh]
    exact (Nat.mul_div_mul_right _ _ hC).symm
  have hb0 : 0 < b := by omega
  have k1 : q * b ≤ a * 2 ^ (54 + eb - ea) := by rw [← hbq]; exact Nat.div_mul_le_self _ _
  have k2 : a * 2 ^ (54 + eb - ea) < (q + 1) * b := by
    rw [← hbq]
    rw [Nat.mul_comm (_ + 1)]
    exact Nat.lt_mul_div_succ _ hb0
  have hX : 1000000 ≤ 2 ^ (54 + eb - ea) := Nat.le_trans (by decide) (Nat.pow_le_pow_right (by omega) (by omega : 20 ≤ 54 + eb - ea))
  obtain ⟨w1, w2⟩ := part_bounds h1 h2 h3 hX k1 k2
  have hk : (2 : Nat) ^ (55 + eb - ea) = 2 * 2 ^ (54 + eb - ea) := by
    rw [show 55 + eb - ea = (54 + eb - ea) + 1 by omega, Nat.pow_succ, Nat.mul_comm]
  have hpl : (ea : Int) - 52 - ((eb : Int) - 52) - 54 - 1 = -((55 + eb - ea : Nat) : Int) := by omega
  rw [hpl]
  have hq0 : 0 < q := by omega
  have := nearest_lt (mag := 2 * q + s) (k := 55 + eb - ea) (by omega) (by omega) (by rw [hk]; rw [show (2 : Nat) ^ 10 = 1024 from rfl]; omega)
  exact ⟨this.2.2 (by rw [hk, show (2 : Nat) ^ 10 = 1024 from rfl]; omega), this.2.1⟩
theorem sub_word {p : Nat} (h1 : 1013 * 2 ^ 52 ≤ p) (h2 : p < 1023 * 2 ^ 52) : ∃ r, floatBits .sub .f64 4607182418800017408 p = some r ∧ 4503599627370496 ≤ r ∧ r < 1023 * 2 ^ 52 := by
  rw [p52] at h1 h2
  obtain ⟨E, hE⟩ : ∃ E, p / 4503599627370496 = E := ⟨_, rfl⟩
  obtain ⟨f, hf⟩ : ∃ f, p % 4503599627370496 = f := ⟨_, rfl⟩
  have hp : p = E * 4503599627370496 + f := by omega
  have hfl : f < 2 ^ 52 := by rw [p52]; omega
  have r1 := read_eq (E := 1023) (r := 0) (by omega) (by omega) (by decide)
  have r2 := read_eq (E := E) (r := f) (by omega) (by omega) hfl
  obtain ⟨k, hk⟩ : ∃ k, 1075 - E = k := ⟨_, rfl⟩
  have hkl : 53 ≤ k ∧ k ≤ 62 := by omega
  have q1 : 2 ^ 53 ≤ 2 ^ k := Nat.pow_le_pow_right (by omega) hkl.1
  have q2 : 2 ^ k ≤ 2 ^ 62 := Nat.pow_le_pow_right (by omega) hkl.2
  have hone : (1023 : Nat) * 2 ^ 52 + 0 = 4607182418800017408 := by decide
  rw [hone] at r1
  rw [p52, ← hp] at r2
  have hE2 : (E : Int) - 1075 = -(k : Int) := by omega
  rw [hE2] at r2
  rw [p53] at q1
  rw [p62] at q2
  rw [p52] at hfl
  have hsum : floatBits .sub .f64 4607182418800017408 p = some (Ieee.double.nearest false (2 ^ k - (4503599627370496 + f)) (-(k : Int))) := by
    show (((Ieee.double.read 4607182418800017408).sum (Ieee.double.read p).opposite).map Ieee.double.write) = _
    rw [r1, r2]
    have hb : min (((1023 : Nat) : Int) - 1075) (-(k : Int)) = -(k : Int) := by omega
    have hs1 : ((((1023 : Nat) : Int) - 1075) - -(k : Int)).toNat = k - 52 := by omega
    have hs2 : (-(k : Int) - -(k : Int)).toNat = 0 := by omega
    unfold Ieee.Datum.opposite
    unfold Ieee.Datum.sum
    simp only [hb, hs1, hs2, Ieee.signed, Bool.not_false, if_true, if_neg (Bool.false_ne_true), Nat.shiftLeft_eq, Nat.pow_zero, Nat.mul_one, Nat.add_zero]
    have hpk : 2 ^ 52 * 2 ^ (k - 52) = 2 ^ k := by rw [← Nat.pow_add]; congr 1; omega
    rw [hpk]
    generalize 2 ^ k = K at *
    have ht : ((K : Nat) : Int) + -((4503599627370496 + f : Nat) : Int) = ((K - (4503599627370496 + f) : Nat) : Int) := by omega
    rw [ht]
    have hpos : 0 < K - (4503599627370496 + f) := by omega
    rw [if_neg (by omega), Int.natAbs_natCast, decide_eq_false (by omega)]
    rfl
  refine ⟨_, hsum, ?_⟩
  have hpos : 0 < 2 ^ k - (4503599627370496 + f) := by omega
  have := nearest_lt (mag := 2 ^ k - (4503599627370496 + f)) (k := k) hpos (by omega) (by rw [show (2 : Nat) ^ 10 = 1024 from rfl]; omega)
  refine ⟨nearest_ge hpos (by omega) (.inl ?_), this.2.1⟩
  have : (2 ^ k - (4503599627370496 + f)).log2 < k := (Nat.log2_lt (by omega)).2 (by omega)
  omega
theorem cmp_lt {a b : Int} (h : a < b) : compare a b = .lt := by simp [compare, compareOfLessAndEq, h]
theorem cmp_gt {a b : Int} (h : b < a) : compare a b = .gt := by
  have h1 : ¬ a < b := by omega
  have h2 : a ≠ b := by omega
  simp [compare, compareOfLessAndEq, h1, h2]
theorem order_word {r : Nat} (h1 : 4503599627370496 ≤ r) (h2 : r < 1023 * 2 ^ 52) : Ieee.double.order r 0 = some .gt ∧ Ieee.double.order r 4607182418800017408 = some .lt := by
  rw [p52] at h2
  obtain ⟨E, hE⟩ : ∃ E, r / 4503599627370496 = E := ⟨_, rfl⟩
  obtain ⟨f, hf⟩ : ∃ f, r % 4503599627370496 = f := ⟨_, rfl⟩
  have hp : r = E * 4503599627370496 + f := by omega
  have hfl : f < 2 ^ 52 := by rw [p52]; omega
  have r2 := read_eq (E := E) (r := f) (by omega) (by omega) hfl
  have r1 := read_eq (E := 1023) (r := 0) (by omega) (by omega) (by decide)
  have hone : (1023 : Nat) * 2 ^ 52 + 0 = 4607182418800017408 := by decide
  rw [hone] at r1
  rw [p52, ← hp] at r2
  rw [p52] at r1 hfl
  have r0 : Ieee.double.read 0 = .number false 0 (-1074) := by decide
  unfold Ieee.Format.order
  rw [r0, r1, r2]
  constructor
  · unfold Ieee.Datum.order
    simp only [Ieee.signed, if_neg (Bool.false_ne_true), Nat.shiftLeft_eq, Nat.zero_mul]
    congr 1
    apply cmp_gt
    have := Nat.mul_pos (show 0 < 4503599627370496 + f by omega) (Nat.two_pow_pos ((E : Int) - 1075 - min ((E : Int) - 1075) (-1074)).toNat)
    omega
  · unfold Ieee.Datum.order
    have hb : min ((E : Int) - 1075) (((1023 : Nat) : Int) - 1075) = (E : Int) - 1075 := by omega
    have hs1 : ((E : Int) - 1075 - ((E : Int) - 1075)).toNat = 0 := by omega
    have hs2 : (((1023 : Nat) : Int) - 1075 - ((E : Int) - 1075)).toNat = 1023 - E := by omega
    simp only [hb, hs1, hs2, Ieee.signed, if_neg (Bool.false_ne_true), Nat.shiftLeft_eq, Nat.pow_zero, Nat.mul_one, Nat.add_zero]
    congr 1
    apply cmp_lt
    have : 2 ^ 1 ≤ 2 ^ (1023 - E) := Nat.pow_le_pow_right (by omega) (by omega)
    have := Nat.mul_le_mul_left 4503599627370496 this
    omega
theorem same_word : ∀ a : Nat, 1 ≤ a → a ≤ 640 → floatBits .quo .f64 (floatOfInt .f64 (a : Int)) (floatOfInt .f64 (a : Int)) = some 4607182418800017408 := by
  have h : ((List.range 641).all fun a => a == 0 || floatBits .quo .f64 (floatOfInt .f64 (a : Int)) (floatOfInt .f64 (a : Int)) == some 4607182418800017408) = true := by decide +kernel
  intro a h1 h2
  have := List.all_eq_true.1 h a (List.mem_range.2 (by omega))
  simp only [Bool.or_eq_true, beq_iff_eq] at this
  exact this.resolve_left (by omega)
/-- How broken: the word, and how it stands to 0 and to 1. -/
theorem broken_word {a b : Nat} (h1 : 1 ≤ a) (h2 : a ≤ b) (h3 : b ≤ 640) :
    ∃ p r, floatBits .quo .f64 (floatOfInt .f64 (a : Int)) (floatOfInt .f64 (b : Int)) = some p ∧ floatBits .sub .f64 4607182418800017408 p = some r ∧ Ieee.double.order r 0 = some (if a = b then .eq else .gt) ∧ Ieee.double.order r 4607182418800017408 = some .lt := by
  by_cases hab : a = b
  · subst hab
    refine ⟨_, 0, same_word a h1 h3, by decide +kernel, ?_, by decide +kernel⟩
    rw [if_pos rfl]
    decide +kernel
  · obtain ⟨p, e1, e2, e3⟩ := part_word h1 (by omega) h3
    obtain ⟨r, f1, f2, f3⟩ := sub_word e2 e3
    obtain ⟨g1, g2⟩ := order_word f2 f3
    exact ⟨p, r, e1, f1, by rw [g1, if_neg hab], g2⟩
/-- A number that is none. -/
theorem nan_read {r : Nat} (h : NanB .f64 r) : ∃ s f, Ieee.double.read r = .nan s f := by
  obtain ⟨x, y, t, rfl⟩ := h
  show ∃ s f, Ieee.double.read ((t % 2) * 2 ^ 63 + 0x7ff0000000000000 + 1 + (t / 2) % (2 ^ 52 - 1)) = .nan s f
  have e63 : (2 : Nat) ^ 63 = 9223372036854775808 := by decide
  rw [e63, p52]
  obtain ⟨m, hm⟩ : ∃ m, (t / 2) % (4503599627370496 - 1) = m := ⟨_, rfl⟩
  have hml : m < 4503599627370495 := by omega
  obtain ⟨w, hw⟩ : ∃ w, t % 2 = w := ⟨_, rfl⟩
  have hwl : w ≤ 1 := by omega
  rw [hm, hw]
  clear hm hw
  unfold Ieee.Format.read
  rw [sw, bi, ir]
  obtain ⟨z, hz⟩ : ∃ z, (w * 9223372036854775808 + 9218868437227405312 + 1 + m) % 9223372036854775808 = z := ⟨_, rfl⟩
  simp only [hz]
  rw [if_neg (by omega), if_neg (by omega), if_neg (by omega)]
  exact ⟨_, _, rfl⟩
theorem nan_order {r s : Nat} (h : NanB .f64 r) : Ieee.double.order r s = none := by
  obtain ⟨a, b, e⟩ := nan_read h
  unfold Ieee.Format.order
  rw [e]
  rfl
theorem nan_sub {r s : Nat} (h : NanB .f64 r) : floatBits .sub .f64 s r = none := by
  obtain ⟨a, b, e⟩ := nan_read h
  show (((Ieee.double.read s).sum (Ieee.double.read r).opposite).map Ieee.double.write) = none
  rw [e]
  cases Ieee.double.read s <;> rfl
theorem nan_quo0 : floatBits .quo .f64 (floatOfInt .f64 0) (floatOfInt .f64 0) = none := by decide +kernel
end Fl
end Go.Proofs.Ytfdaioinghfjpaa
