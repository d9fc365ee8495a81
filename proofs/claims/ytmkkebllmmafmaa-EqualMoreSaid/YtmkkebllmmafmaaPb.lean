/- Bits of made pairs. -/
import Derived.Test.YtmkkebllmmafmaaPq
namespace Go.Proofs.Ytmkkebllmmafmaa.Pq
open Go.Proofs.Ytmkkebllmmafmaa.Pz Go.Proofs.Ytmkkebllmmafmaa.Ps
set_option linter.unusedVariables false
set_option linter.unusedSimpArgs false
theorem bits_and_nat {a b : Nat} (ha : a < 18446744073709551616) (hb : b < 18446744073709551616) : Go.bits .and .u64 (a : Int) (b : Int) = ((a &&& b : Nat) : Int) := by
  show IntKind.u64.wrap ((BitVec.ofInt 64 (a : Int) &&& BitVec.ofInt 64 (b : Int)).toNat : Int) = _
  have h1 : (BitVec.ofInt 64 (a : Int)).toNat = a := by rw [BitVec.toNat_ofInt]; omega
  have h2 : (BitVec.ofInt 64 (b : Int)).toNat = b := by rw [BitVec.toNat_ofInt]; omega
  rw [BitVec.toNat_and, h1, h2]
  have h3 : a &&& b ≤ a := Nat.and_le_left
  exact wraps_u64 _ (by omega) (by rw [two64]; omega)
theorem and_bounds (p q : Int) (hp0 : 0 ≤ p) (hp1 : p < 18446744073709551616) (hq0 : 0 ≤ q) (hq1 : q < 18446744073709551616) : 0 ≤ Go.bits .and .u64 p q ∧ Go.bits .and .u64 p q < 18446744073709551616 := by
  obtain ⟨a, rfl⟩ := Int.eq_ofNat_of_zero_le hp0
  obtain ⟨b, rfl⟩ := Int.eq_ofNat_of_zero_le hq0
  rw [bits_and_nat (by omega) (by omega)]
  have h3 : a &&& b ≤ a := Nat.and_le_left
  omega
theorem bit_nat {n : Nat} (hn : n < 18446744073709551616) (i : Nat) : bit (n : Int) i = n.testBit i := by
  rw [bit_eq _ (by omega) (by omega), Nat.testBit_eq_decide_div_mod_eq]
  have e : ((2 : Int) ^ i) = ((2 ^ i : Nat) : Int) := by simp
  rw [e, ← Int.natCast_ediv]
  congr 1
  apply propext
  omega
theorem bitF_and (p q : Int) (hp0 : 0 ≤ p) (hp1 : p < 18446744073709551616) (hq0 : 0 ≤ q) (hq1 : q < 18446744073709551616) (v l : Nat) : bitF (Go.bits .and .u64 p q) v l = (bitF p v l && bitF q v l) := by
  obtain ⟨a, rfl⟩ := Int.eq_ofNat_of_zero_le hp0
  obtain ⟨b, rfl⟩ := Int.eq_ofNat_of_zero_le hq0
  have h3 : a &&& b ≤ a := Nat.and_le_left
  rw [bits_and_nat (by omega) (by omega)]
  unfold bitF
  rw [bit_nat (by omega), bit_nat (by omega), bit_nat (by omega), Nat.testBit_and]
/-- p &^ q. -/
def anot (a b : Nat) : Nat := (BitVec.ofNat 64 a &&& ~~~(BitVec.ofNat 64 b)).toNat
theorem anot_lt (a b : Nat) : anot a b < 18446744073709551616 := (BitVec.ofNat 64 a &&& ~~~(BitVec.ofNat 64 b)).isLt
theorem anot_bit {a b i : Nat} (hi : i < 64) : (anot a b).testBit i = (a.testBit i && !b.testBit i) := by
  unfold anot
  rw [BitVec.testBit_toNat, BitVec.getLsbD_and, BitVec.getLsbD_not, BitVec.getLsbD_ofNat, BitVec.getLsbD_ofNat]
  simp [hi]
theorem bits_anot {a b : Nat} (ha : a < 18446744073709551616) (hb : b < 18446744073709551616) : Go.bits .andNot .u64 (a : Int) (b : Int) = (anot a b : Int) := by
  have h1 : BitVec.ofInt 64 (a : Int) = BitVec.ofNat 64 a := by rw [BitVec.ofInt_natCast]
  have h2 : BitVec.ofInt 64 (b : Int) = BitVec.ofNat 64 b := by rw [BitVec.ofInt_natCast]
  show IntKind.u64.wrap ((BitVec.ofInt 64 (a : Int) &&& ~~~(BitVec.ofInt 64 (b : Int))).toNat : Int) = _
  rw [h1, h2]
  exact wraps_u64 _ (by omega) (by rw [two64]; have := anot_lt a b; unfold anot at this; omega)
theorem low_zero (y : Nat) : y % 281474976710656 = 0 ↔ ∀ i, i < 48 → y.testBit i = false := by
  have e : (281474976710656 : Nat) = 2 ^ 48 := by decide
  rw [e]
  constructor
  · intro h i hi
    have h2 := Nat.testBit_mod_two_pow y 48 i
    rw [h] at h2
    simp [hi] at h2
    exact h2
  · intro h
    apply Nat.eq_of_testBit_eq
    intro i
    rw [Nat.testBit_mod_two_pow]
    by_cases hi : i < 48
    · simp [h i hi]
    · simp [hi]
theorem within_bits (p q : Int) (hp0 : 0 ≤ p) (hp1 : p < 18446744073709551616) (hq0 : 0 ≤ q) (hq1 : q < 18446744073709551616) (wb : Bool) (h : wb = true ↔ ∀ v l, v < 6 → l < 8 → bitF p v l = true → bitF q v l = true) :
    (IntKind.u64.wrap (Go.bits .andNot .u64 p q * 65536) == 0) = wb := by
  obtain ⟨a, rfl⟩ := Int.eq_ofNat_of_zero_le hp0
  obtain ⟨b, rfl⟩ := Int.eq_ofNat_of_zero_le hq0
  rw [bits_anot (by omega) (by omega), Bool.eq_iff_iff, h]
  have hw : IntKind.u64.wrap ((anot a b : Int) * 65536) = ((anot a b : Int) * 65536) % 18446744073709551616 := by
    simp [IntKind.wrap, IntKind.bits, IntKind.signed]
  rw [hw, beq_iff_eq]
  have h1 : ((anot a b : Int) * 65536) % 18446744073709551616 = 0 ↔ anot a b % 281474976710656 = 0 := by omega
  rw [h1, low_zero]
  constructor
  · intro h2 v l hv hl hf
    unfold bitF at hf ⊢
    rw [bit_nat (by omega)] at hf ⊢
    have h3 := h2 (v * 8 + l) (by omega)
    rw [anot_bit (by omega), hf] at h3
    simpa using h3
  · intro h2 i hi
    have h3 := h2 (i / 8) (i % 8) (by omega) (by omega)
    unfold bitF at h3
    have e : i / 8 * 8 + i % 8 = i := by omega
    rw [e, bit_nat (by omega), bit_nat (by omega)] at h3
    rw [anot_bit (by omega)]
    cases ha : a.testBit i with
    | true => rw [h3 ha]; rfl
    | false => rfl
end Go.Proofs.Ytmkkebllmmafmaa.Pq
