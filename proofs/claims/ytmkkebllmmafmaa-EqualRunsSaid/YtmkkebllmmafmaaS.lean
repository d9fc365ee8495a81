/- Strings of bytes. -/
import Derived.Test.YtmkkebllmmafmaaB
namespace Go.Proofs.Ytmkkebllmmafmaa.S
open Go.RowKit Go.Proofs.YtmkkebllmmafmaaW.PrintWords Go.Proofs.Ytmkkebllmmafmaa.B
set_option linter.unusedVariables false
set_option linter.unusedSimpArgs false
theorem str_inj : ∀ (a b : List Int), By a → By b → strOfNums a = strOfNums b → a = b := by
  intro a b ha hb h
  have h1 : a.map (fun n => UInt8.ofNat n.toNat) = b.map (fun n => UInt8.ofNat n.toNat) := by
    unfold strOfNums at h
    injection h with h
    have := congrArg Array.toList h
    simpa using this
  clear h
  induction a generalizing b with
  | nil => cases b with
    | nil => rfl
    | cons y b => simp at h1
  | cons x a ih => cases b with
    | nil => simp at h1
    | cons y b =>
      simp only [List.map_cons, List.cons.injEq] at h1
      have hx := ha x List.mem_cons_self
      have hy := hb y List.mem_cons_self
      have e : x = y := by
        have := congrArg UInt8.toNat h1.1
        simp only [UInt8.toNat_ofNat'] at this
        omega
      rw [e, ih b (fun z hz => ha z (List.mem_cons_of_mem _ hz)) (fun z hz => hb z (List.mem_cons_of_mem _ hz)) h1.2]

theorem str_beq (a b : List Int) (ha : By a) (hb : By b) : ((strOfNums a).toList == (strOfNums b).toList) = (a == b) := by
  rw [Bool.eq_iff_iff, beq_iff_eq, beq_iff_eq, ByteArray.toList_eq, ByteArray.toList_eq]
  exact ⟨fun h => str_inj a b ha hb (by cases hx : strOfNums a; cases hy : strOfNums b; rw [hx, hy] at h; congr 1; exact Array.toList_inj.1 h), fun h => by rw [h]⟩
theorem str_append (a b : List Int) : strOfNums a ++ strOfNums b = strOfNums (a ++ b) := by
  apply ByteArray.ext
  rw [ByteArray.data_append]
  simp [strOfNums]
theorem str_fits (a b : List Int) (h : a.length + b.length ≤ 9223372036854775807) : ¬ (9223372036854775807 < (strOfNums a).size + (strOfNums b).size) := by
  rw [strOfNums_size, strOfNums_size]; omega
theorem wrI64 (n : Int) (h0 : -9223372036854775808 ≤ n) (h1 : n ≤ 9223372036854775807) : IntKind.i64.wrap n = n := by
  rw [IntKind.wrap_i64]; omega
theorem wrU64 (n : Int) (h0 : 0 ≤ n) (h1 : n < 18446744073709551616) : IntKind.u64.wrap n = n := by
  rw [IntKind.wrap_u64]; omega
theorem wrU64_range (n : Int) : 0 ≤ IntKind.u64.wrap n ∧ IntKind.u64.wrap n < 18446744073709551616 := by
  rw [IntKind.wrap_u64]; omega
theorem tmod_range {a b : Int} (h0 : 0 ≤ a) (hb : 0 < b) : 0 ≤ a.tmod b ∧ a.tmod b < b := by
  rw [Int.tmod_eq_emod_of_nonneg h0]
  exact ⟨Int.emod_nonneg _ (by omega), Int.emod_lt_of_pos _ hb⟩
end Go.Proofs.Ytmkkebllmmafmaa.S
