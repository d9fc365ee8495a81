/- Plain facts on numbers as bytes: how many bytes; unlike numbers, unlike bytes; what is put is taken; what is taken was put so. -/
import Derived.Test.YtfcpnjoiloahcaaLs
namespace Go.Proofs.Ytfcpnjoiloahcaa.Lt
open Go Go.Proofs.Ytfcpnjoiloahcaa.B Go.Proofs.Ytfcpnjoiloahcaa.Ls
set_option linter.unusedVariables false
set_option linter.unusedSimpArgs false

theorem xor_m1 (x : Int) (h0 : -9223372036854775808 ≤ x) (h1 : x ≤ 9223372036854775807) : Go.bits .xor .i64 (-1) x = -x - 1 := by
  rw [← xor_i64_m1 x h0 h1]
  unfold Go.bits
  simp only [BitVec.xor_comm]
theorem putl_mono (m n : Nat) (h : m ≤ n) : (putl m).length ≤ (putl n).length := by
  induction n using Nat.strongRecOn generalizing m with
  | ind n ih =>
    by_cases hn : n < 128
    · rw [putl_lt hn, putl_lt (show m < 128 by omega)]
      exact Nat.le_refl _
    · rw [putl_ge hn, List.length_cons]
      by_cases hm : m < 128
      · rw [putl_lt hm]
        simp
      · rw [putl_ge hm, List.length_cons]
        have := ih (n / 128) (by omega) (m / 128) (by omega)
        omega
theorem putl_pair (m : Nat) : (putl (2 * m)).length = (putl (2 * m + 1)).length := by
  by_cases h : m < 64
  · rw [putl_lt (show 2 * m < 128 by omega), putl_lt (show 2 * m + 1 < 128 by omega)]; rfl
  · rw [putl_ge (show ¬ 2 * m < 128 by omega), putl_ge (show ¬ 2 * m + 1 < 128 by omega), show (2 * m + 1) / 128 = 2 * m / 128 by omega]; rfl
theorem zig_flip (n : Int) (h0 : -9223372036854775808 ≤ n) (h1 : n ≤ 9223372036854775807) : (putl (zig n).toNat).length = (putl (zig (-n - 1)).toNat).length := by
  unfold zig
  by_cases h : n < 0
  · rw [if_pos h, if_neg (by omega)]
    have := putl_pair (-n - 1).toNat
    rw [show (2 * (-n - 1)).toNat = 2 * (-n - 1).toNat by omega, show (-2 * n - 1).toNat = 2 * (-n - 1).toNat + 1 by omega]
    exact this.symm
  · rw [if_neg h, if_pos (by omega)]
    have := putl_pair n.toNat
    rw [show (2 * n).toNat = 2 * n.toNat by omega, show (-2 * (-n - 1) - 1).toNat = 2 * n.toNat + 1 by omega]
    exact this
theorem putl_inj (m n : Nat) (h : putl m = putl n) : m = n := by
  induction n using Nat.strongRecOn generalizing m with
  | ind n ih =>
    by_cases hn : n < 128
    · by_cases hm : m < 128
      · rw [putl_lt hn, putl_lt hm] at h
        simp at h
        omega
      · rw [putl_lt hn, putl_ge hm] at h
        have := (putl_len (m / 128)).1
        have h2 := congrArg List.length h
        simp at h2
        rw [h2] at this
        simp at this
    · by_cases hm : m < 128
      · rw [putl_lt hm, putl_ge hn] at h
        have := (putl_len (n / 128)).1
        have h2 := congrArg List.length h
        simp at h2
        rw [h2] at this
        simp at this
      · rw [putl_ge hn, putl_ge hm] at h
        injection h with h1 h2
        have := ih (n / 128) (by omega) (m / 128) h2
        omega
theorem zig_inj (m n : Int) (h : zig m = zig n) : m = n := by
  unfold zig at h
  split at h <;> split at h <;> omega
theorem str_inj : ∀ (a b : List Int), By a → By b → strOfNums a = strOfNums b → a = b := by
  intro a b ha hb h
  have h1 : a.map (fun n => UInt8.ofNat n.toNat) = b.map (fun n => UInt8.ofNat n.toNat) := by
    unfold strOfNums at h
    injection h with h
    have := congrArg Array.toList h
    simpa using this
  clear h
  induction a generalizing b with
  | nil => cases b with
    | nil => rfl
    | cons y b => simp at h1
  | cons x a ih => cases b with
    | nil => simp at h1
    | cons y b =>
      simp only [List.map_cons, List.cons.injEq] at h1
      have hx := ha x List.mem_cons_self
      have hy := hb y List.mem_cons_self
      have e : x = y := by
        have := congrArg UInt8.toNat h1.1
        simp only [UInt8.toNat_ofNat'] at this
        omega
      rw [e, ih b (fun z hz => ha z (List.mem_cons_of_mem _ hz)) (fun z hz => hb z (List.mem_cons_of_mem _ hz)) h1.2]

theorem str_beq (a b : List Int) (ha : By a) (hb : By b) : ((strOfNums a).toList == (strOfNums b).toList) = (a == b) := by
  rw [Bool.eq_iff_iff, beq_iff_eq, beq_iff_eq, ByteArray.toList_eq, ByteArray.toList_eq]
  exact ⟨fun h => str_inj a b ha hb (by cases hx : strOfNums a; cases hy : strOfNums b; rw [hx, hy] at h; congr 1; exact Array.toList_inj.1 h), fun h => by rw [h]⟩
theorem numGo_putl (l0 rest : List Int) (m : Nat) : ∀ (i : Nat) (n : Int), i ≤ 9 → (m : Int) * 128 ^ i < 18446744073709551616 → (i = 0 ∨ 0 < m) → numGo l0 (putl m ++ rest) i n = (n + (m : Int) * 128 ^ i, rest, 0) := by
  induction m using Nat.strongRecOn with
  | ind m ih =>
    intro i n hi hm h0
    by_cases h : m < 128
    · rw [putl_lt h, List.singleton_append, numGo, if_neg, if_pos (by omega)]
      rintro (⟨rfl, h9⟩ | ⟨hp, hz⟩)
      · rw [pow9] at hm; omega
      · omega
    · have hi9 : i ≠ 9 := by
        rintro rfl
        rw [pow9] at hm
        omega
      have hdm : (m : Int) = (m % 128 : Nat) + 128 * ((m / 128 : Nat) : Int) := by omega
      have hsp : (m : Int) * 128 ^ i = ((m % 128 : Nat) : Int) * 128 ^ i + ((m / 128 : Nat) : Int) * 128 ^ (i + 1) := by
        rw [Int.pow_succ]
        conv => lhs; rw [hdm]
        rw [Int.add_mul, Int.mul_comm 128 ((m / 128 : Nat) : Int), Int.mul_assoc, Int.mul_comm 128]
      have hnn : 0 ≤ ((m % 128 : Nat) : Int) * 128 ^ i := Int.mul_nonneg (by omega) (Int.le_of_lt (pow_pos i))
      rw [putl_ge h, List.cons_append, numGo, if_neg (by omega), if_neg (by omega), ih (m / 128) (by omega) (i + 1) _ (by omega) (by omega) (.inr (by omega))]
      rw [show ((m % 128 + 128 : Nat) : Int) - 128 = (m % 128 : Nat) by omega, hsp, Int.add_assoc]
theorem num_putl (rest : List Int) (m : Nat) (h : m < 18446744073709551616) : num (putl m ++ rest) 0 = ((m : Int), rest, 0) := by
  unfold num
  rw [if_pos rfl, numGo_putl _ _ m 0 0 (by omega) (by rw [Int.pow_zero]; omega) (.inl rfl)]
  simp
theorem zag_zig (n : Int) (h0 : -9223372036854775808 ≤ n) (h1 : n ≤ 9223372036854775807) : zag (zig n) = n := by
  unfold zag zig
  by_cases h : n < 0
  · rw [if_pos h, if_pos (by omega)]; omega
  · rw [if_neg h, if_neg (by omega)]; omega

theorem numGo_one (l0 : List Int) : ∀ (l : List Int) (i : Nat) (n v : Int), By l → numGo l0 l i n = (v, [], 0) → ∃ m : Nat, v = n + (m : Int) * 128 ^ i ∧ l = putl m ∧ (0 < i → 0 < m)
  | [], _, _, _, _, h => by simp [numGo] at h
  | x :: r, i, n, v, hl, h => by
    have hx := hl x List.mem_cons_self
    rw [numGo] at h
    split at h
    · simp at h
    · rename_i hb
      split at h
      · rename_i h128
        simp only [Prod.mk.injEq, and_true] at h
        obtain ⟨rfl, rfl⟩ := h
        refine ⟨x.toNat, ?_, ?_, fun hi => by omega⟩
        · rw [Int.toNat_of_nonneg hx.1]
        · rw [putl_lt (by omega), Int.toNat_of_nonneg hx.1]
      · rename_i h128
        obtain ⟨m, h1, h2, h3⟩ := numGo_one l0 r (i + 1) _ v (fun y hy => hl y (List.mem_cons_of_mem _ hy)) h
        have hm := h3 (by omega)
        refine ⟨(x - 128).toNat + 128 * m, ?_, ?_, fun _ => by omega⟩
        · rw [h1, Int.pow_succ, show (((x - 128).toNat + 128 * m : Nat) : Int) = (x - 128) + 128 * (m : Int) by omega, Int.add_mul, Int.mul_comm 128 (m : Int), Int.mul_assoc, Int.mul_comm 128, Int.add_assoc]
        · rw [putl_ge (by omega), show ((x - 128).toNat + 128 * m) / 128 = m by omega, ← h2]
          congr 1
          omega
theorem num_one (l : List Int) (v : Int) (hl : By l) (h : num l 0 = (v, [], 0)) : l = putl v.toNat := by
  unfold num at h
  rw [if_pos rfl] at h
  obtain ⟨m, h1, h2, -⟩ := numGo_one l l 0 0 v hl h
  rw [h2]
  congr 1
  rw [Int.pow_zero] at h1
  omega
/-- A number is read off without a fault, or the fault is there. -/
theorem numGo_code (l0 : List Int) : ∀ (l : List Int) (i : Nat) (n : Int), (numGo l0 l i n).2.2 = 0 ∨ (numGo l0 l i n).2.2 = 3 ∨ (numGo l0 l i n).2.2 = 8
  | [], _, _ => by simp [numGo]
  | x :: r, i, n => by
    rw [numGo]
    split
    · simp
    · split
      · simp
      · exact numGo_code l0 r _ _
end Go.Proofs.Ytfcpnjoiloahcaa.Lt
