/- Bits of made pairs. -/
import Derived.Test.YtmkkebllmmafmaaPq
namespace Go.Proofs.Ytmkkebllmmafmaa.Pq
open Go.Proofs.Ytmkkebllmmafmaa.Pz Go.Proofs.Ytmkkebllmmafmaa.Ps
set_option linter.unusedVariables false
set_option linter.unusedSimpArgs false
theorem bits_and_nat {a b : Nat} (ha : a < 18446744073709551616) (hb : b < 18446744073709551616) : Go.bits .and .u64 (a : Int) (b : Int) = ((a &&& b : Nat) : Int) := by
  show IntKind.u64.wrap ((BitVec.ofInt 64 (a : Int) &&& BitVec.ofInt 64 (b : Int)).toNat : Int) = _
  have h1 : (BitVec.ofInt 64 (a : Int)).toNat = a := by rw [BitVec.toNat_ofInt]; omega
  have h2 : (BitVec.ofInt 64 (b : Int)).toNat = b := by rw [BitVec.toNat_ofInt]; omega
  rw [BitVec.toNat_and, h1, h2]
  have h3 : a &&& b ≤ a := Nat.and_le_left
  exact wraps_u64 _ (by omega) (by rw [two64]; omega)
theorem and_bounds (p q : Int) (hp0 : 0 ≤ p) (hp1 : p < 18446744073709551616) (hq0 : 0 ≤ q) (hq1 : q < 18446744073709551616) : 0 ≤ Go.bits .and .u64 p q ∧ Go.bits .and .u64 p q < 18446744073709551616 := by
  obtain ⟨a, rfl⟩ := Int.eq_ofNat_of_zero_le hp0
  obtain ⟨b, rfl⟩ := Int.eq_ofNat_of_zero_le hq0
  rw [bits_and_nat (by omega) (by omega)]
  have h3 : a &&& b ≤ a := Nat.and_le_left
  omega
theorem bit_nat {n : Nat} (hn : n < 18446744073709551616) (i : Nat) : bit (n : Int) i = n.testBit i := by
  rw [bit_eq _ (by omega) (by omega), Nat.testBit_eq_decide_div_mod_eq]
  have e : ((2 : Int) ^ i) = ((2 ^ i : Nat) : Int) := by simp
  rw [e, ← Int.natCast_ediv]
  congr 1
  apply propext
  omega
theorem bitF_and (p q : Int) (hp0 : 0 ≤ p) (hp1 : p < 18446744073709551616) (hq0 : 0 ≤ q) (hq1 : q < 18446744073709551616) (v l : Nat) : bitF (Go.bits .and .u64 p q) v l = (bitF p v l && bitF q v l) := by
  obtain ⟨a, rfl⟩ := Int.eq_ofNat_of_zero_le hp0
  obtain ⟨b, rfl⟩ := Int.eq_ofNat_of_zero_le hq0
  have h3 : a &&& b ≤ a := Nat.and_le_left
  rw [bits_and_nat (by omega) (by omega)]
  unfold bitF
  rw [bit_nat (by omega), bit_nat (by omega), bit_nat (by omega), Nat.testBit_and]
end Go.Proofs.Ytmkkebllmmafmaa.Pq
