/- The plain words of numbers as bytes: what a reader takes; what is put. No program in it. -/
import Derived.Test.YtfcpnjoiloahcaaB
import Derived.Laws.BitsLemmas
namespace Go.Proofs.Ytfcpnjoiloahcaa.Ls
open Go.Proofs.Ytfcpnjoiloahcaa.B
set_option linter.unusedVariables false
set_option linter.unusedSimpArgs false

/-- A number off the bytes r, i of them are taken, their value is n; l0: all. Value, what is left, the fault. -/
def numGo (l0 : List Int) : List Int → Nat → Int → Int × List Int × Int
  | [], _, _ => (0, l0, 3)
  | x :: r, i, n => if (i = 9 ∧ 1 < x) ∨ (0 < i ∧ x = 0) then (0, l0, 8) else if x < 128 then (n + x * 128 ^ i, r, 0) else numGo l0 r (i + 1) (n + (x - 128) * 128 ^ i)
def num (l : List Int) (c : Int) : Int × List Int × Int := if c = 0 then numGo l l 0 0 else (0, l, c)
def zag (n : Int) : Int := if n % 2 = 1 then - (n / 2) - 1 else n / 2
def below (limit : Int) (l : List Int) (c : Int) : Int × List Int × Int :=
  if (num l c).2.2 = 0 then (if limit < 1 ∨ limit ≤ (num l c).1 then (0, (num l c).2.1, 2) else num l c) else (0, (num l c).2)
def takes (n : Int) (l : List Int) (c : Int) : List Int × List Int × Int :=
  if c = 0 then (if n < 0 ∨ (l.length : Int) < n then ([], l, 3) else (l.take n.toNat, l.drop n.toNat, 0)) else ([], l, c)
def failed (n c : Int) : Int := if c = 0 then n else c
def ended (l : List Int) (c : Int) : Int := if 0 < l.length then failed 5 c else c

theorem pow_pos (i : Nat) : (0 : Int) < 128 ^ i := Int.pow_pos (by decide)
theorem pow_le (i j : Nat) (h : i ≤ j) : (128 : Int) ^ i ≤ 128 ^ j := by exact_mod_cast Nat.pow_le_pow_right (by decide : 0 < 128) h
theorem pow_two (i : Nat) : (2 : Int) ^ (7 * i) = 128 ^ i := by rw [Int.pow_mul]; rfl

/-- The number so far fits. -/
theorem wraps_u64 (n : Int) (h₀ : 0 ≤ n) (h₁ : n < 2 ^ 64) : IntKind.u64.wrap n = n := by
  simp only [IntKind.wrap, IntKind.bits, IntKind.signed]
  simp
  omega
theorem wraps_u32 (n : Int) (h₀ : 0 ≤ n) (h₁ : n < 2 ^ 32) : IntKind.u32.wrap n = n := by
  simp only [IntKind.wrap, IntKind.bits, IntKind.signed]
  simp
  omega
theorem bits_or_comm (k : IntKind) (x y : Int) : Go.bits .or k x y = Go.bits .or k y x := by
  unfold Go.bits
  simp only [BitVec.or_comm]
theorem two64 : (2 : Int) ^ 64 = 18446744073709551616 := by decide
theorem or_add (i : Nat) (N y : Int) (hN0 : 0 ≤ N) (hN : N < 128 ^ i) (hN1 : N < 18446744073709551616) (hy0 : 0 ≤ y) (hy : y * 128 ^ i < 18446744073709551616) :
    Go.bits .or .u64 N (IntKind.u64.wrap (y * 2 ^ (7 * i))) = N + y * 128 ^ i := by
  rw [pow_two]
  have h0 : 0 ≤ y * 128 ^ i := Int.mul_nonneg hy0 (Int.le_of_lt (pow_pos i))
  rw [wraps_u64 _ h0 (by rw [two64]; exact hy), bits_or_comm, Int.add_comm]
  exact bits_join .u64 64 (by decide) wraps_u64 (7 * i) (y * 128 ^ i) N h0 (by rw [pow_two]; exact Int.mul_emod_left _ _) (by rw [two64]; exact hy) hN0 (by rw [pow_two]; exact hN) (by rw [two64]; exact hN1)
theorem and127 (x : Int) (h0 : 128 ≤ x) (h1 : x < 256) : Go.bits .and .u8 x 127 = x - 128 := by
  have := bits_mask .u8 8 (by decide) wraps_u8 7 (by decide) x (by omega) (by simpa using h1)
  have e : ((2 : Int) ^ 7 - 1) = 127 := by decide
  rw [e] at this
  rw [this]
  have : (2 : Int) ^ 7 = 128 := by decide
  omega
theorem pow9 : (128 : Int) ^ 9 = 9223372036854775808 := by decide
/-- What a round adds, and what is left beneath the next unit. -/
theorem go_lt (i : Nat) (N y : Int) (hN : N < 128 ^ i) (hy : y < 128) : N + y * 128 ^ i < 128 ^ (i + 1) := by
  have h := Int.mul_le_mul_of_nonneg_right (show y ≤ 127 by omega) (Int.le_of_lt (pow_pos i))
  rw [Int.pow_succ]
  omega
theorem go_max (i : Nat) (hi : i ≤ 9) (y : Int) (h0 : 0 ≤ y) (h : y < 128) (h9 : i = 9 → y ≤ 1) : y * 128 ^ i < 18446744073709551616 := by
  rcases Nat.lt_or_eq_of_le hi with h8 | rfl
  · have h1 := pow_le (i + 1) 9 h8
    rw [pow9, Int.pow_succ] at h1
    have h2 := Int.mul_le_mul_of_nonneg_right (show y ≤ 127 by omega) (Int.le_of_lt (pow_pos i))
    have := pow_pos i
    omega
  · rw [pow9]; have := h9 rfl; omega
/-! What a number is, and its sign. -/
theorem numGo_range (l0 : List Int) : ∀ (l : List Int) (i : Nat) (n : Int), By l → i ≤ 9 → 0 ≤ n → n < 128 ^ i → 0 ≤ (numGo l0 l i n).1 ∧ (numGo l0 l i n).1 < 18446744073709551616
  | [], _, _, _, _, _, _ => by simp [numGo]
  | x :: r, i, n, hl, hi, h0, h1 => by
    have hx := hl x List.mem_cons_self
    rw [numGo]
    split
    · simp
    · rename_i hb
      split
      · rename_i h128
        have hm := go_max i hi x hx.1 h128 (by omega)
        have := Int.mul_nonneg hx.1 (Int.le_of_lt (pow_pos i))
        have h9 := pow_le i 9 hi
        rw [pow9] at h9
        have hlt := go_lt i n x h1 h128
        refine ⟨by show 0 ≤ n + x * 128 ^ i; omega, ?_⟩
        show n + x * 128 ^ i < _
        rcases Nat.lt_or_eq_of_le hi with h8 | rfl
        · have := pow_le (i + 1) 9 h8
          rw [pow9] at this
          omega
        · have hx1 : x ≤ 1 := by omega
          have := Int.mul_le_mul_of_nonneg_right hx1 (Int.le_of_lt (pow_pos 9))
          rw [pow9] at *
          omega
      · rename_i h128
        have := Int.mul_nonneg (show 0 ≤ x - 128 by omega) (Int.le_of_lt (pow_pos i))
        exact numGo_range l0 r (i + 1) _ (fun y hy => hl y (List.mem_cons_of_mem _ hy)) (by omega) (by omega) (go_lt i n (x - 128) h1 (by omega))
theorem num_range (l : List Int) (c : Int) (h : By l) : 0 ≤ (num l c).1 ∧ (num l c).1 < 18446744073709551616 := by
  unfold num
  split
  · exact numGo_range l l 0 0 h (by omega) (by decide) (by decide)
  · simp
theorem numGo_by (l0 : List Int) (h0 : By l0) : ∀ (l : List Int) (i : Nat) (n : Int), By l → By (numGo l0 l i n).2.1
  | [], _, _, _ => by simpa [numGo] using h0
  | x :: r, i, n, hl => by
    have hr : By r := fun y hy => hl y (List.mem_cons_of_mem _ hy)
    rw [numGo]
    split
    · exact h0
    · split
      · exact hr
      · exact numGo_by l0 h0 r _ _ hr
theorem num_by (l : List Int) (c : Int) (h : By l) : By (num l c).2.1 := by
  unfold num
  split
  · exact numGo_by l h l 0 0 h
  · exact h
theorem below_by (m : Int) (l : List Int) (c : Int) (h : By l) : By (below m l c).2.1 := by
  unfold below
  split
  · split <;> exact num_by l c h
  · exact num_by l c h
theorem takes_by (m : Int) (l : List Int) (c : Int) (h : By l) : By (takes m l c).1 ∧ By (takes m l c).2.1 := by
  have hn : By [] := fun x hx => by simp at hx
  unfold takes
  split
  · split
    · exact ⟨hn, h⟩
    · exact ⟨h.take _, h.drop _⟩
  · exact ⟨hn, h⟩

theorem and1 (n : Int) (h0 : 0 ≤ n) (h1 : n < 18446744073709551616) : Go.bits .and .u64 n 1 = n % 2 := by
  have := bits_mask .u64 64 (by decide) wraps_u64 1 (by decide) n h0 (by rw [two64]; exact h1)
  simpa using this
theorem wrap_i64 (n : Int) (h0 : -9223372036854775808 ≤ n) (h1 : n ≤ 9223372036854775807) : IntKind.i64.wrap n = n := by
  rw [IntKind.wrap_i64]; omega
theorem xor_i64_0 (x : Int) (h0 : -9223372036854775808 ≤ x) (h1 : x ≤ 9223372036854775807) : Go.bits .xor .i64 x 0 = x := by
  show IntKind.i64.wrap ((BitVec.ofInt 64 x ^^^ BitVec.ofInt 64 0).toNat : Int) = x
  have e : BitVec.ofInt 64 0 = 0#64 := by decide
  rw [e, BitVec.xor_zero, IntKind.wrap_i64, BitVec.toNat_ofInt]
  omega
theorem xor_i64_m1 (x : Int) (h0 : -9223372036854775808 ≤ x) (h1 : x ≤ 9223372036854775807) : Go.bits .xor .i64 x (-1) = -x - 1 := by
  show IntKind.i64.wrap ((BitVec.ofInt 64 x ^^^ BitVec.ofInt 64 (-1)).toNat : Int) = -x - 1
  have e : BitVec.ofInt 64 (-1) = BitVec.allOnes 64 := by decide
  rw [e, BitVec.xor_allOnes, IntKind.wrap_i64, BitVec.toNat_not, BitVec.toNat_ofInt]
  omega
theorem zag_bits (n : Int) (h0 : 0 ≤ n) (h1 : n < 18446744073709551616) : Go.bits .xor .i64 (n / 2) (-(Go.bits .and .u64 n 1)) = zag n := by
  rw [and1 n h0 h1]
  unfold zag
  split
  · rename_i h
    rw [h, xor_i64_m1 _ (by omega) (by omega)]
  · rename_i h
    have h2 : n % 2 = 0 := by omega
    rw [h2]
    exact xor_i64_0 _ (by omega) (by omega)
theorem zag_range (n : Int) (h0 : 0 ≤ n) (h1 : n < 18446744073709551616) : -9223372036854775808 ≤ zag n ∧ zag n ≤ 9223372036854775807 := by
  unfold zag
  split <;> omega
def zig (n : Int) : Int := if n < 0 then -2 * n - 1 else 2 * n
theorem xor_u64_0 (x : Int) (h0 : 0 ≤ x) (h1 : x < 18446744073709551616) : Go.bits .xor .u64 x 0 = x := by
  show IntKind.u64.wrap ((BitVec.ofInt 64 x ^^^ BitVec.ofInt 64 0).toNat : Int) = x
  have e : BitVec.ofInt 64 0 = 0#64 := by decide
  rw [e, BitVec.xor_zero, BitVec.toNat_ofInt, wraps_u64 _ (by omega) (by omega)]
  omega
theorem xor_u64_m1 (x : Int) (h0 : 0 ≤ x) (h1 : x < 18446744073709551616) : Go.bits .xor .u64 x 18446744073709551615 = 18446744073709551615 - x := by
  show IntKind.u64.wrap ((BitVec.ofInt 64 x ^^^ BitVec.ofInt 64 18446744073709551615).toNat : Int) = _
  have e : BitVec.ofInt 64 18446744073709551615 = BitVec.allOnes 64 := by decide
  rw [e, BitVec.xor_allOnes, BitVec.toNat_not, BitVec.toNat_ofInt, wraps_u64 _ (by omega) (by omega)]
  omega
theorem wrap_u64 (n : Int) : IntKind.u64.wrap n = n % 18446744073709551616 := by
  simp [IntKind.wrap, IntKind.bits, IntKind.signed]
theorem zig_bits (n : Int) (h0 : -9223372036854775808 ≤ n) (h1 : n ≤ 9223372036854775807) :
    Go.bits .xor .u64 (IntKind.u64.wrap (IntKind.u64.wrap n * 2)) (IntKind.u64.wrap (n / 9223372036854775808)) = zig n := by
  unfold zig
  simp only [wrap_u64]
  split
  · rename_i h
    rw [show n / 9223372036854775808 % 18446744073709551616 = 18446744073709551615 by omega, xor_u64_m1 _ (by omega) (by omega)]
    omega
  · rename_i h
    rw [show n / 9223372036854775808 % 18446744073709551616 = 0 by omega, xor_u64_0 _ (by omega) (by omega)]
    omega
theorem zig_range (n : Int) (h0 : -9223372036854775808 ≤ n) (h1 : n ≤ 9223372036854775807) : 0 ≤ zig n ∧ zig n < 18446744073709551616 := by
  unfold zig
  split <;> omega
/-- A number's bytes. -/
def putl (n : Nat) : List Int := if n < 128 then [(n : Int)] else ((n % 128 + 128 : Nat) : Int) :: putl (n / 128)
termination_by n
decreasing_by omega
theorem or128 (n : Int) (h0 : 0 ≤ n) : Go.bits .or .u8 (n % 256) 128 = n % 128 + 128 := by
  have key : ∀ m : Fin 256, Go.bits .or .u8 ((m.val : Nat) : Int) 128 = ((m.val % 128 + 128 : Nat) : Int) := by decide +kernel
  have h := key ⟨(n % 256).toNat, by omega⟩
  simp only at h
  rw [show (((n % 256).toNat : Nat) : Int) = n % 256 by omega] at h
  rw [h]
  omega
theorem putl_lt {n : Nat} (h : n < 128) : putl n = [(n : Int)] := by rw [putl, if_pos h]
theorem putl_ge {n : Nat} (h : ¬ n < 128) : putl n = ((n % 128 + 128 : Nat) : Int) :: putl (n / 128) := by rw [putl, if_neg h]
theorem putl_by (n : Nat) : By (putl n) := by
  induction n using Nat.strongRecOn with
  | ind n ih =>
    rw [putl]
    split
    · intro x hx
      rw [List.mem_singleton] at hx
      omega
    · intro x hx
      rcases List.mem_cons.1 hx with rfl | hx
      · omega
      · exact ih (n / 128) (by omega) x hx
theorem putl_len (n : Nat) : 0 < (putl n).length ∧ ∀ k, n < 128 ^ k → 0 < k → (putl n).length ≤ k := by
  induction n using Nat.strongRecOn with
  | ind n ih =>
    rw [putl]
    split
    · exact ⟨by simp, fun k _ hk => hk⟩
    · rename_i h
      refine ⟨by simp, fun k hn hk => ?_⟩
      rw [List.length_cons]
      obtain ⟨j, rfl⟩ : ∃ j, k = j + 1 := ⟨k - 1, by omega⟩
      rcases Nat.eq_zero_or_pos j with rfl | hj
      · simp at hn; omega
      · have := (ih (n / 128) (by omega)).2 j (by rw [Nat.pow_succ] at hn; omega) hj
        omega
theorem putl_ten (n : Nat) (h : n < 18446744073709551616) : (putl n).length ≤ 10 := by
  have h10 : 128 ^ 10 = 1180591620717411303424 := by decide
  exact (putl_len n).2 10 (by omega) (by decide)
end Go.Proofs.Ytfcpnjoiloahcaa.Ls
