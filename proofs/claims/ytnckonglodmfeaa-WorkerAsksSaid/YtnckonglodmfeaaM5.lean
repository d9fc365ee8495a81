/- Contracts and plain facts that the statements' proofs use (part 5). -/
import Derived.Test.YtnckonglodmfeaaM2
import Derived.Test.YtnckonglodmfeaaM3
import Derived.Test.YtnckonglodmfeaaM4
import Derived.Handy
namespace Go.Proofs.Ytnckonglodmfeaa.Ik
open Go.RowKit Go.Proofs.YtnckonglodmfeaaW.PrintWords Go.Proofs.YtnckonglodmfeaaW.PrintLast Go.Proofs.YtnckonglodmfeaaW.PrintMore Go.Proofs.Ytnckonglodmfeaa.B Go.Proofs.Ytnckonglodmfeaa.R Go.Proofs.Ytnckonglodmfeaa.S Go.Proofs.Ytnckonglodmfeaa.Is
set_option linter.unusedVariables false
set_option linter.unusedSimpArgs false
set_option maxRecDepth 100000 in
theorem rtakes_calls (k a t e : Int) (w : World) : Calls Try.prog 116 #[.agg #[.int .u8 k, .int .i64 a, .int .i64 t, .int .i64 e]] w fun r w' => r = .returned (.bool (takesB k)) ∧ Below w.heap.size w w' := by
  have mixed : Try.prog.follows .mixedOrders = true := by kernel_rfl
  have hk : k = 2 ∨ k = 3 ∨ ((k == 2) = false ∧ (k == 3) = false) := by simp only [beq_eq_false_iff_ne]; omega
  rcases hk with rfl | rfl | ⟨h1, h2⟩
  all_goals
    go_enter Try.func116, Try.ntmps116
    go_wp2
    go_ret
    refine ⟨?_, (Below.refl _ _).alloc (Nat.le_refl _) _⟩
    first | rfl | (simp at h1 h2; simp [takesB, h1, h2])
set_option maxRecDepth 100000 in
theorem rgives_calls (k : Int) (w : World) : Calls Try.prog 114 #[.int .u8 k] w fun r w' => r = .returned (.bool (givesB k)) ∧ w' = w := by
  have mixed : Try.prog.follows .mixedOrders = true := by kernel_rfl
  rcases kinds k with rfl | rfl | rfl | rfl | rfl | rfl | rfl | rfl | ⟨h1, h2, h3, h4, h5, h6, h7, h8⟩
  all_goals
    go_enter Try.func114, Try.ntmps114
    go_wp2
    go_ret
    refine ⟨?_, rfl⟩
    first | rfl | (simp at h1 h2 h3 h4 h5 h6 h7 h8; simp [givesB, h1, h2, h3, h4, h6, h8])
set_option maxHeartbeats 4000000 in
set_option maxRecDepth 100000 in
theorem rend_calls (k a t e v m x : Int) (w : World) : Calls Try.prog 123 #[.agg #[.int .u8 k, .int .i64 a, .int .i64 t, .int .i64 e], .int .i64 v, .int .i64 m, .int .i64 x] w fun r w' => r = .returned (.int .i64 (endErr v m x (k, a, t, e))) ∧ Below w.heap.size w w' := by
  have mixed : Try.prog.follows .mixedOrders = true := by kernel_rfl
  have hk : k = 1 ∨ k = 2 ∨ k = 3 ∨ (k < 1) ∨ (¬ k < 1 ∧ 3 < k) := by omega
  rcases hk with rfl | rfl | rfl | h1 | ⟨h1, h2⟩
  all_goals
    go_enter Try.func123, Try.ntmps123
    go_wp2_with (go_at_call 116; refine (rtakes_calls _ _ _ _ _).mono ?_; rintro _ w1 ⟨rfl, hb⟩; (first | rw [show takesB 1 = false from rfl] | rw [show takesB 2 = true from rfl] | rw [show takesB 3 = true from rfl] | skip); have hc0 := cell_at (below_cells hb) 0 _ rfl; have hc1 := cell_at (below_cells hb) 1 _ rfl; have hc2 := cell_at (below_cells hb) 2 _ rfl; have hc3 := cell_at (below_cells hb) 3 _ rfl; have HB := Aside0.mk (((Below.refl w.heap.size w).alloc (Nat.le_refl _) _).trans (hb.mono (by rw [World.size_alloc]; omega))); clear hb)
    all_goals
      go_ret
      refine ⟨?_, by first | exact HB.out | exact (Below.refl _ _).alloc (Nat.le_refl _) _⟩
      have HE : ∀ x y : Int, x = y → Ending.returned (Value.int .i64 x) = .returned (.int .i64 y) := fun x y h => by rw [h]
      refine HE _ _ ?_
      simp only [endErr]
      repeat' split
      all_goals first | rfl | omega | (clear HE; (try clear HB hc0 hc1 hc2 hc3); simp only [true_and, and_true, false_or, or_false, false_and, and_false, or_true, true_or, not_true_eq_false, not_false_eq_true, bne_iff_ne, ne_eq, bne_eq_false_iff_eq, beq_iff_eq, takesB, decide_eq_true_eq, decide_eq_false_iff_not, Bool.not_eq_true'] at *; omega)
set_option maxHeartbeats 1000000 in
set_option maxRecDepth 100000 in
theorem ruses_calls (k op d a b n : Int) (args : List Int) (A : Option Addr) (c : Nat) (w : World) (hC : kI.C w A args.length args) (hc : args.length ≤ c) :
    Calls Try.prog 112 #[.agg #[.int .u8 k, .int .u8 op, .int .i64 d, .int .i64 a, .int .i64 b, .int .i64 n, .slice A args.length c]] w fun r w' => ∃ (A' : Option Addr) (c' : Nat), r = .returned (.slice A' (usesL (k, op, d, a, b, n, args)).length c') ∧ (usesL (k, op, d, a, b, n, args)).length ≤ c' ∧ kI.C w' A' (usesL (k, op, d, a, b, n, args)).length (usesL (k, op, d, a, b, n, args)) ∧ Below w.heap.size w w' := by
  rcases kinds k with rfl | rfl | rfl | rfl | rfl | rfl | rfl | rfl | ⟨h1, h2, h3, h4, h5, h6, h7, h8⟩
  rotate_right
  rw [show usesL (k, op, d, a, b, n, args) = [] from by
    simp at h1 h2 h3 h4 h5 h6 h7 h8
    simp only [usesL]
    rw [if_neg (by omega), if_neg (by omega), if_neg (by omega)]]
  all_goals
    have HC := Aside0.mk hC
    clear hC
    go_enter Try.func112, Try.ntmps112
    go_wp2
    go_ret
    first
      | exact ⟨A, c, rfl, hc, Kd.C_below HC.out ((Below.refl _ _).alloc (Nat.le_refl _) _), (Below.refl _ _).alloc (Nat.le_refl _) _⟩
      | exact ⟨none, 0, rfl, Nat.le_refl _, C_nil .i64 _, (Below.refl _ _).alloc (Nat.le_refl _) _⟩
      | exact ⟨some ⟨w.heap.size + 1, 0, none⟩, 1, rfl, Nat.le_refl _, by rw [← World.size_alloc w _]; exact C_lit .i64 _ _ [a] 1 rfl (by decide), ((Below.refl _ _).alloc (Nat.le_refl _) _).alloc (by simp) _⟩
      | exact ⟨some ⟨w.heap.size + 1, 0, none⟩, 2, rfl, Nat.le_refl _, by rw [← World.size_alloc w _]; exact C_lit .i64 _ _ [a, b] 2 rfl (by decide), ((Below.refl _ _).alloc (Nat.le_refl _) _).alloc (by simp) _⟩
end Go.Proofs.Ytnckonglodmfeaa.Ik

namespace Go.Proofs.Ytnckonglodmfeaa.Ik
open Go.RowKit Go.Proofs.YtnckonglodmfeaaW.PrintWords Go.Proofs.YtnckonglodmfeaaW.PrintLast Go.Proofs.YtnckonglodmfeaaW.PrintMore Go.Proofs.Ytnckonglodmfeaa.B Go.Proofs.Ytnckonglodmfeaa.R Go.Proofs.Ytnckonglodmfeaa.S Go.Proofs.Ytnckonglodmfeaa.Is
set_option linter.unusedVariables false
set_option linter.unusedSimpArgs false
/-- The fields that a kind has: by their letters. -/
def namesA (k : Int) : ByteArray := if k = 1 then ⟨#[68, 78]⟩ else if k = 3 then ⟨#[79, 68, 65, 66]⟩ else if k = 5 then ⟨#[65, 66]⟩ else if k = 6 then ⟨#[68, 78, 82]⟩ else ⟨#[68, 65]⟩
set_option maxHeartbeats 1000000 in
set_option maxRecDepth 100000 in
theorem names_calls (k : Int) (w : World) (hk : 1 ≤ k ∧ k ≤ 8) : Calls Try.prog 124 #[.int .u8 k] w fun r w' => r = .returned (.string (namesA k)) ∧ Below w.heap.size w w' := by
  have mixed : Try.prog.follows .mixedOrders = true := by kernel_rfl
  rcases (by omega : k = 1 ∨ k = 2 ∨ k = 3 ∨ k = 4 ∨ k = 5 ∨ k = 6 ∨ k = 7 ∨ k = 8) with rfl | rfl | rfl | rfl | rfl | rfl | rfl | rfl
  all_goals
    go_enter Try.func124, Try.ntmps124
    go_wp2
    go_ret
    exact ⟨rfl, (Below.refl _ _).alloc (Nat.le_refl _) _⟩
/-- Is a field set? -/
def setB : Ins → Nat → Bool
  | (k, op, d, a, b, n, args), j => if j = 0 then op != 0 else if j = 1 then d != 0 else if j = 2 then a != 0 else if j = 3 then b != 0 else if j = 4 then n != 0 else decide (0 < args.length)
def letter (j : Nat) : UInt8 := if j = 0 then 79 else if j = 1 then 68 else if j = 2 then 65 else if j = 3 then 66 else if j = 4 then 78 else 82
def zeroB (i : Ins) (s : ByteArray) : Bool := (List.range 6).all fun j => !setB i j || s.data.toList.contains (letter j)
theorem zero_plain (k op d a b n : Int) (args : List Int) (hk : 1 ≤ k ∧ k ≤ 8) : zeroB (k, op, d, a, b, n, args) (namesA k) = plainB (k, op, d, a, b, n, args) := by
  have hl : ∀ l : List Int, decide (0 < l.length) = !decide (l.length = 0) := fun l => by cases l <;> simp
  rcases (by omega : k = 1 ∨ k = 2 ∨ k = 3 ∨ k = 4 ∨ k = 5 ∨ k = 6 ∨ k = 7 ∨ k = 8) with rfl | rfl | rfl | rfl | rfl | rfl | rfl | rfl
  all_goals
    simp [zeroB, plainB, namesA, setB, letter, List.range, List.range.loop, Bool.decide_and, hl, bne] <;> rfl
end Go.Proofs.Ytnckonglodmfeaa.Ik

namespace Go.Proofs.Ytnckonglodmfeaa.Ik
open Go.RowKit Go.Proofs.YtnckonglodmfeaaW.PrintWords Go.Proofs.YtnckonglodmfeaaW.PrintLast Go.Proofs.YtnckonglodmfeaaW.PrintMore Go.Proofs.Ytnckonglodmfeaa.B Go.Proofs.Ytnckonglodmfeaa.R Go.Proofs.Ytnckonglodmfeaa.S Go.Proofs.Ytnckonglodmfeaa.Is
set_option linter.unusedVariables false
set_option linter.unusedSimpArgs false
theorem u8_beq (a b : UInt8) : (((a.toNat : Nat) : Int) == ((b.toNat : Nat) : Int)) = (a == b) := by
  by_cases h : a = b
  · subst h; simp
  · have h2 : ((a.toNat : Nat) : Int) ≠ ((b.toNat : Nat) : Int) := fun e => h (UInt8.toNat_inj.1 (by omega))
    rw [beq_eq_false_iff_ne.2 h2, beq_eq_false_iff_ne.2 h]
theorem has_step (s : ByteArray) (j : Nat) (hj : j < s.size) (c : UInt8) : (s.data.toList.take (j + 1)).contains c = ((s.data.toList.take j).contains c || (s[j] == c)) := by
  have h : s.data.toList[j]? = some s[j] := by
    rw [List.getElem?_eq_getElem (by simpa using hj)]
    rfl
  rw [List.take_add_one, h, Bool.eq_iff_iff]
  simp only [Option.toList_some, List.contains_iff_mem, List.mem_append, Bool.or_eq_true, beq_iff_eq, List.mem_singleton]
  exact or_congr Iff.rfl eq_comm
theorem has_all (s : ByteArray) (c : UInt8) : (s.data.toList.take s.size).contains c = s.data.toList.contains c := by
  rw [List.take_of_length_le (by rw [Array.length_toList]; exact Nat.le_refl _)]
set_option maxHeartbeats 4000000 in
set_option maxRecDepth 100000 in
theorem zero_calls (k op d a b n : Int) (args : List Int) (A : Option Addr) (c : Nat) (s : ByteArray) (hs : s.size ≤ 100) (w : World) : Calls Try.prog 143 #[.agg #[.int .u8 k, .int .u8 op, .int .i64 d, .int .i64 a, .int .i64 b, .int .i64 n, .slice A args.length c], .string s] w fun r w' => r = .returned (.bool (zeroB (k, op, d, a, b, n, args) s)) ∧ Below w.heap.size w w' := by
  have mixed : Try.prog.follows .mixedOrders = true := by kernel_rfl
  have HX := Aside0.mk (fun W' h => box_cells (w := w) (W' := W') (k := k) (op := op) (d := d) (a := a) (b := b) (n := n) (s := .slice A args.length c) (e := 92) h)
  go_enter Try.func143, Try.ntmps143
  go_wp2_with fail
  go_loopw [5] (fun vi wr => ∃ q : Nat, q ≤ 6 ∧ vi = .int .i64 q ∧ Aside0 (∀ p, p < q → (!setB (k, op, d, a, b, n, args) p || s.data.toList.contains (letter p)) = true) ∧ Aside0 (Below (w.heap.size + 1) (w.alloc (.cells #[.int .u8 k, .int .u8 op, .int .i64 d, .int .i64 a, .int .i64 b, .int .i64 n, .slice A args.length c] 92)) wr)) (fun vi _ => 6 - (intOf vi).toNat)
  case atStart => exact ⟨0, by omega, rfl, ⟨fun p h => by omega⟩, ⟨Below.refl _ _⟩⟩
  case round =>
    obtain ⟨q, hq, rfl, HP, HB⟩ := hrel
    obtain ⟨c0, c1, c2, c3, c4, c5, c6⟩ := HX.out wr HB.out
    rcases (by omega : q = 6 ∨ q = 0 ∨ q = 1 ∨ q = 2 ∨ q = 3 ∨ q = 4 ∨ q = 5) with rfl | rfl | rfl | rfl | rfl | rfl | rfl
    · go_wp2
      go_ret
      refine ⟨?_, ((Below.refl _ _).alloc (Nat.le_refl _) _).trans (HB.out.mono (by omega))⟩
      have hz : zeroB (k, op, d, a, b, n, args) s = true := by
        unfold zeroB
        rw [List.all_eq_true]
        exact fun p hp => HP.out p (by simpa using hp)
      rw [hz]
      rfl
    · go_wp2_with fail
      obtain ⟨wo, hwo⟩ : ∃ wo, wo = wr := ⟨_, rfl⟩
      subst hwo
      go_loopw [7, 8] (fun vx vj wr => wr = wo ∧ ∃ (x : Bool) (j : Nat), j ≤ s.size ∧ vx = .bool x ∧ vj = .int .i64 j ∧ Aside0 (x = (s.data.toList.take j).contains (letter 0))) (fun _ vj _ => s.size - (intOf vj).toNat)
      case atStart => exact ⟨rfl, false, 0, by omega, rfl, rfl, ⟨rfl⟩⟩
      case round =>
        obtain ⟨rfl, x, j, hj, rfl, rfl, HJ⟩ := hrel
        by_cases hjs : j < s.size
        · have HT := Aside0.mk (has_step s j hjs (letter 0))
          cases x
          · have HT2 := Aside0.mk (HT.out.trans (by rw [← HJ.out]; rfl : _ = (s[j] == letter 0)))
            have HT3 := Aside0.mk (u8_beq s[j] (letter 0))
            go_wp2_with fail
            go_roundw
            case rel => exact ⟨by first | rfl | trivial, _, j + 1, by omega, rfl, by go_num, ⟨HT3.out.trans HT2.out.symm⟩⟩
            case measure => simp [intOf]; omega
          · have HT2 := Aside0.mk (HT.out.trans (by rw [← HJ.out]; rfl : _ = true))
            go_wp2_with fail
            go_roundw
            case rel => exact ⟨by first | rfl | trivial, true, j + 1, by omega, rfl, by go_num, ⟨HT2.out.symm⟩⟩
            case measure => simp [intOf]; omega
        · obtain rfl : j = s.size := by omega
          have HJ2 := Aside0.mk (HJ.out.trans (has_all s (letter 0)))
          have HS := Aside0.mk (show w.heap.size + 1 ≤ wr.heap.size by have := HB.out.size; rw [World.size_alloc] at this; exact this)
          rcases (by simp only [beq_eq_false_iff_ne]; omega : (op = 0) ∨ ((op == 0) = false)) with rfl | hv
          · have HF := Aside0.mk (show setB (k, 0, d, a, b, n, args) 0 = false from by simp [setB])
            cases x
            all_goals
              go_wp2_with fail
              go_roundw
              case rel => exact ⟨0 + 1, by omega, by go_num, ⟨fun p hp => by rcases Nat.lt_succ_iff_lt_or_eq.1 hp with h | rfl; exact HP.out p h; rw [HF.out]; rfl⟩, ⟨HB.out.alloc HS.out _⟩⟩
              case measure => simp [intOf]
          · have HF := Aside0.mk (show setB (k, op, d, a, b, n, args) 0 = true from by simp only [beq_eq_false_iff_ne] at hv; simp [setB, hv])
            have hv2 : (op != 0) = true := by simp only [bne, hv]; rfl
            cases x
            · go_wp2_with fail
              go_ret
              refine ⟨?_, ((Below.refl _ _).alloc (Nat.le_refl _) _).trans ((HB.out.alloc HS.out _).mono (by omega))⟩
              have hz : zeroB (k, op, d, a, b, n, args) s = false := by
                unfold zeroB
                rw [List.all_eq_false]
                exact ⟨0, by simp, by rw [HF.out, ← HJ2.out]; simp⟩
              rw [hz]
              rfl
            · go_wp2_with fail
              go_roundw
              case rel => exact ⟨0 + 1, by omega, by go_num, ⟨fun p hp => by rcases Nat.lt_succ_iff_lt_or_eq.1 hp with h | rfl; exact HP.out p h; rw [← HJ2.out]; simp⟩, ⟨HB.out.alloc HS.out _⟩⟩
              case measure => simp [intOf]
    · go_wp2_with fail
      obtain ⟨wo, hwo⟩ : ∃ wo, wo = wr := ⟨_, rfl⟩
      subst hwo
      go_loopw [7, 8] (fun vx vj wr => wr = wo ∧ ∃ (x : Bool) (j : Nat), j ≤ s.size ∧ vx = .bool x ∧ vj = .int .i64 j ∧ Aside0 (x = (s.data.toList.take j).contains (letter 1))) (fun _ vj _ => s.size - (intOf vj).toNat)
      case atStart => exact ⟨rfl, false, 0, by omega, rfl, rfl, ⟨rfl⟩⟩
      case round =>
        obtain ⟨rfl, x, j, hj, rfl, rfl, HJ⟩ := hrel
        by_cases hjs : j < s.size
        · have HT := Aside0.mk (has_step s j hjs (letter 1))
          cases x
          · have HT2 := Aside0.mk (HT.out.trans (by rw [← HJ.out]; rfl : _ = (s[j] == letter 1)))
            have HT3 := Aside0.mk (u8_beq s[j] (letter 1))
            go_wp2_with fail
            go_roundw
            case rel => exact ⟨by first | rfl | trivial, _, j + 1, by omega, rfl, by go_num, ⟨HT3.out.trans HT2.out.symm⟩⟩
            case measure => simp [intOf]; omega
          · have HT2 := Aside0.mk (HT.out.trans (by rw [← HJ.out]; rfl : _ = true))
            go_wp2_with fail
            go_roundw
            case rel => exact ⟨by first | rfl | trivial, true, j + 1, by omega, rfl, by go_num, ⟨HT2.out.symm⟩⟩
            case measure => simp [intOf]; omega
        · obtain rfl : j = s.size := by omega
          have HJ2 := Aside0.mk (HJ.out.trans (has_all s (letter 1)))
          have HS := Aside0.mk (show w.heap.size + 1 ≤ wr.heap.size by have := HB.out.size; rw [World.size_alloc] at this; exact this)
          rcases (by simp only [beq_eq_false_iff_ne]; omega : (d = 0) ∨ ((d == 0) = false)) with rfl | hv
          · have HF := Aside0.mk (show setB (k, op, 0, a, b, n, args) 1 = false from by simp [setB])
            cases x
            all_goals
              go_wp2_with fail
              go_roundw
              case rel => exact ⟨1 + 1, by omega, by go_num, ⟨fun p hp => by rcases Nat.lt_succ_iff_lt_or_eq.1 hp with h | rfl; exact HP.out p h; rw [HF.out]; rfl⟩, ⟨HB.out.alloc HS.out _⟩⟩
              case measure => simp [intOf]
          · have HF := Aside0.mk (show setB (k, op, d, a, b, n, args) 1 = true from by simp only [beq_eq_false_iff_ne] at hv; simp [setB, hv])
            have hv2 : (d != 0) = true := by simp only [bne, hv]; rfl
            cases x
            · go_wp2_with fail
              go_ret
              refine ⟨?_, ((Below.refl _ _).alloc (Nat.le_refl _) _).trans ((HB.out.alloc HS.out _).mono (by omega))⟩
              have hz : zeroB (k, op, d, a, b, n, args) s = false := by
                unfold zeroB
                rw [List.all_eq_false]
                exact ⟨1, by simp, by rw [HF.out, ← HJ2.out]; simp⟩
              rw [hz]
              rfl
            · go_wp2_with fail
              go_roundw
              case rel => exact ⟨1 + 1, by omega, by go_num, ⟨fun p hp => by rcases Nat.lt_succ_iff_lt_or_eq.1 hp with h | rfl; exact HP.out p h; rw [← HJ2.out]; simp⟩, ⟨HB.out.alloc HS.out _⟩⟩
              case measure => simp [intOf]
    · go_wp2_with fail
      obtain ⟨wo, hwo⟩ : ∃ wo, wo = wr := ⟨_, rfl⟩
      subst hwo
      go_loopw [7, 8] (fun vx vj wr => wr = wo ∧ ∃ (x : Bool) (j : Nat), j ≤ s.size ∧ vx = .bool x ∧ vj = .int .i64 j ∧ Aside0 (x = (s.data.toList.take j).contains (letter 2))) (fun _ vj _ => s.size - (intOf vj).toNat)
      case atStart => exact ⟨rfl, false, 0, by omega, rfl, rfl, ⟨rfl⟩⟩
      case round =>
        obtain ⟨rfl, x, j, hj, rfl, rfl, HJ⟩ := hrel
        by_cases hjs : j < s.size
        · have HT := Aside0.mk (has_step s j hjs (letter 2))
          cases x
          · have HT2 := Aside0.mk (HT.out.trans (by rw [← HJ.out]; rfl : _ = (s[j] == letter 2)))
            have HT3 := Aside0.mk (u8_beq s[j] (letter 2))
            go_wp2_with fail
            go_roundw
            case rel => exact ⟨by first | rfl | trivial, _, j + 1, by omega, rfl, by go_num, ⟨HT3.out.trans HT2.out.symm⟩⟩
            case measure => simp [intOf]; omega
          · have HT2 := Aside0.mk (HT.out.trans (by rw [← HJ.out]; rfl : _ = true))
            go_wp2_with fail
            go_roundw
            case rel => exact ⟨by first | rfl | trivial, true, j + 1, by omega, rfl, by go_num, ⟨HT2.out.symm⟩⟩
            case measure => simp [intOf]; omega
        · obtain rfl : j = s.size := by omega
          have HJ2 := Aside0.mk (HJ.out.trans (has_all s (letter 2)))
          have HS := Aside0.mk (show w.heap.size + 1 ≤ wr.heap.size by have := HB.out.size; rw [World.size_alloc] at this; exact this)
          rcases (by simp only [beq_eq_false_iff_ne]; omega : (a = 0) ∨ ((a == 0) = false)) with rfl | hv
          · have HF := Aside0.mk (show setB (k, op, d, 0, b, n, args) 2 = false from by simp [setB])
            cases x
            all_goals
              go_wp2_with fail
              go_roundw
              case rel => exact ⟨2 + 1, by omega, by go_num, ⟨fun p hp => by rcases Nat.lt_succ_iff_lt_or_eq.1 hp with h | rfl; exact HP.out p h; rw [HF.out]; rfl⟩, ⟨HB.out.alloc HS.out _⟩⟩
              case measure => simp [intOf]
          · have HF := Aside0.mk (show setB (k, op, d, a, b, n, args) 2 = true from by simp only [beq_eq_false_iff_ne] at hv; simp [setB, hv])
            have hv2 : (a != 0) = true := by simp only [bne, hv]; rfl
            cases x
            · go_wp2_with fail
              go_ret
              refine ⟨?_, ((Below.refl _ _).alloc (Nat.le_refl _) _).trans ((HB.out.alloc HS.out _).mono (by omega))⟩
              have hz : zeroB (k, op, d, a, b, n, args) s = false := by
                unfold zeroB
                rw [List.all_eq_false]
                exact ⟨2, by simp, by rw [HF.out, ← HJ2.out]; simp⟩
              rw [hz]
              rfl
            · go_wp2_with fail
              go_roundw
              case rel => exact ⟨2 + 1, by omega, by go_num, ⟨fun p hp => by rcases Nat.lt_succ_iff_lt_or_eq.1 hp with h | rfl; exact HP.out p h; rw [← HJ2.out]; simp⟩, ⟨HB.out.alloc HS.out _⟩⟩
              case measure => simp [intOf]
    · go_wp2_with fail
      obtain ⟨wo, hwo⟩ : ∃ wo, wo = wr := ⟨_, rfl⟩
      subst hwo
      go_loopw [7, 8] (fun vx vj wr => wr = wo ∧ ∃ (x : Bool) (j : Nat), j ≤ s.size ∧ vx = .bool x ∧ vj = .int .i64 j ∧ Aside0 (x = (s.data.toList.take j).contains (letter 3))) (fun _ vj _ => s.size - (intOf vj).toNat)
      case atStart => exact ⟨rfl, false, 0, by omega, rfl, rfl, ⟨rfl⟩⟩
      case round =>
        obtain ⟨rfl, x, j, hj, rfl, rfl, HJ⟩ := hrel
        by_cases hjs : j < s.size
        · have HT := Aside0.mk (has_step s j hjs (letter 3))
          cases x
          · have HT2 := Aside0.mk (HT.out.trans (by rw [← HJ.out]; rfl : _ = (s[j] == letter 3)))
            have HT3 := Aside0.mk (u8_beq s[j] (letter 3))
            go_wp2_with fail
            go_roundw
            case rel => exact ⟨by first | rfl | trivial, _, j + 1, by omega, rfl, by go_num, ⟨HT3.out.trans HT2.out.symm⟩⟩
            case measure => simp [intOf]; omega
          · have HT2 := Aside0.mk (HT.out.trans (by rw [← HJ.out]; rfl : _ = true))
            go_wp2_with fail
            go_roundw
            case rel => exact ⟨by first | rfl | trivial, true, j + 1, by omega, rfl, by go_num, ⟨HT2.out.symm⟩⟩
            case measure => simp [intOf]; omega
        · obtain rfl : j = s.size := by omega
          have HJ2 := Aside0.mk (HJ.out.trans (has_all s (letter 3)))
          have HS := Aside0.mk (show w.heap.size + 1 ≤ wr.heap.size by have := HB.out.size; rw [World.size_alloc] at this; exact this)
          rcases (by simp only [beq_eq_false_iff_ne]; omega : (b = 0) ∨ ((b == 0) = false)) with rfl | hv
          · have HF := Aside0.mk (show setB (k, op, d, a, 0, n, args) 3 = false from by simp [setB])
            cases x
            all_goals
              go_wp2_with fail
              go_roundw
              case rel => exact ⟨3 + 1, by omega, by go_num, ⟨fun p hp => by rcases Nat.lt_succ_iff_lt_or_eq.1 hp with h | rfl; exact HP.out p h; rw [HF.out]; rfl⟩, ⟨HB.out.alloc HS.out _⟩⟩
              case measure => simp [intOf]
          · have HF := Aside0.mk (show setB (k, op, d, a, b, n, args) 3 = true from by simp only [beq_eq_false_iff_ne] at hv; simp [setB, hv])
            have hv2 : (b != 0) = true := by simp only [bne, hv]; rfl
            cases x
            · go_wp2_with fail
              go_ret
              refine ⟨?_, ((Below.refl _ _).alloc (Nat.le_refl _) _).trans ((HB.out.alloc HS.out _).mono (by omega))⟩
              have hz : zeroB (k, op, d, a, b, n, args) s = false := by
                unfold zeroB
                rw [List.all_eq_false]
                exact ⟨3, by simp, by rw [HF.out, ← HJ2.out]; simp⟩
              rw [hz]
              rfl
            · go_wp2_with fail
              go_roundw
              case rel => exact ⟨3 + 1, by omega, by go_num, ⟨fun p hp => by rcases Nat.lt_succ_iff_lt_or_eq.1 hp with h | rfl; exact HP.out p h; rw [← HJ2.out]; simp⟩, ⟨HB.out.alloc HS.out _⟩⟩
              case measure => simp [intOf]
    · go_wp2_with fail
      obtain ⟨wo, hwo⟩ : ∃ wo, wo = wr := ⟨_, rfl⟩
      subst hwo
      go_loopw [7, 8] (fun vx vj wr => wr = wo ∧ ∃ (x : Bool) (j : Nat), j ≤ s.size ∧ vx = .bool x ∧ vj = .int .i64 j ∧ Aside0 (x = (s.data.toList.take j).contains (letter 4))) (fun _ vj _ => s.size - (intOf vj).toNat)
      case atStart => exact ⟨rfl, false, 0, by omega, rfl, rfl, ⟨rfl⟩⟩
      case round =>
        obtain ⟨rfl, x, j, hj, rfl, rfl, HJ⟩ := hrel
        by_cases hjs : j < s.size
        · have HT := Aside0.mk (has_step s j hjs (letter 4))
          cases x
          · have HT2 := Aside0.mk (HT.out.trans (by rw [← HJ.out]; rfl : _ = (s[j] == letter 4)))
            have HT3 := Aside0.mk (u8_beq s[j] (letter 4))
            go_wp2_with fail
            go_roundw
            case rel => exact ⟨by first | rfl | trivial, _, j + 1, by omega, rfl, by go_num, ⟨HT3.out.trans HT2.out.symm⟩⟩
            case measure => simp [intOf]; omega
          · have HT2 := Aside0.mk (HT.out.trans (by rw [← HJ.out]; rfl : _ = true))
            go_wp2_with fail
            go_roundw
            case rel => exact ⟨by first | rfl | trivial, true, j + 1, by omega, rfl, by go_num, ⟨HT2.out.symm⟩⟩
            case measure => simp [intOf]; omega
        · obtain rfl : j = s.size := by omega
          have HJ2 := Aside0.mk (HJ.out.trans (has_all s (letter 4)))
          have HS := Aside0.mk (show w.heap.size + 1 ≤ wr.heap.size by have := HB.out.size; rw [World.size_alloc] at this; exact this)
          rcases (by simp only [beq_eq_false_iff_ne]; omega : (n = 0) ∨ ((n == 0) = false)) with rfl | hv
          · have HF := Aside0.mk (show setB (k, op, d, a, b, 0, args) 4 = false from by simp [setB])
            cases x
            all_goals
              go_wp2_with fail
              go_roundw
              case rel => exact ⟨4 + 1, by omega, by go_num, ⟨fun p hp => by rcases Nat.lt_succ_iff_lt_or_eq.1 hp with h | rfl; exact HP.out p h; rw [HF.out]; rfl⟩, ⟨HB.out.alloc HS.out _⟩⟩
              case measure => simp [intOf]
          · have HF := Aside0.mk (show setB (k, op, d, a, b, n, args) 4 = true from by simp only [beq_eq_false_iff_ne] at hv; simp [setB, hv])
            have hv2 : (n != 0) = true := by simp only [bne, hv]; rfl
            cases x
            · go_wp2_with fail
              go_ret
              refine ⟨?_, ((Below.refl _ _).alloc (Nat.le_refl _) _).trans ((HB.out.alloc HS.out _).mono (by omega))⟩
              have hz : zeroB (k, op, d, a, b, n, args) s = false := by
                unfold zeroB
                rw [List.all_eq_false]
                exact ⟨4, by simp, by rw [HF.out, ← HJ2.out]; simp⟩
              rw [hz]
              rfl
            · go_wp2_with fail
              go_roundw
              case rel => exact ⟨4 + 1, by omega, by go_num, ⟨fun p hp => by rcases Nat.lt_succ_iff_lt_or_eq.1 hp with h | rfl; exact HP.out p h; rw [← HJ2.out]; simp⟩, ⟨HB.out.alloc HS.out _⟩⟩
              case measure => simp [intOf]
    · go_wp2_with fail
      obtain ⟨wo, hwo⟩ : ∃ wo, wo = wr := ⟨_, rfl⟩
      subst hwo
      go_loopw [7, 8] (fun vx vj wr => wr = wo ∧ ∃ (x : Bool) (j : Nat), j ≤ s.size ∧ vx = .bool x ∧ vj = .int .i64 j ∧ Aside0 (x = (s.data.toList.take j).contains (letter 5))) (fun _ vj _ => s.size - (intOf vj).toNat)
      case atStart => exact ⟨rfl, false, 0, by omega, rfl, rfl, ⟨rfl⟩⟩
      case round =>
        obtain ⟨rfl, x, j, hj, rfl, rfl, HJ⟩ := hrel
        by_cases hjs : j < s.size
        · have HT := Aside0.mk (has_step s j hjs (letter 5))
          cases x
          · have HT2 := Aside0.mk (HT.out.trans (by rw [← HJ.out]; rfl : _ = (s[j] == letter 5)))
            have HT3 := Aside0.mk (u8_beq s[j] (letter 5))
            go_wp2_with fail
            go_roundw
            case rel => exact ⟨by first | rfl | trivial, _, j + 1, by omega, rfl, by go_num, ⟨HT3.out.trans HT2.out.symm⟩⟩
            case measure => simp [intOf]; omega
          · have HT2 := Aside0.mk (HT.out.trans (by rw [← HJ.out]; rfl : _ = true))
            go_wp2_with fail
            go_roundw
            case rel => exact ⟨by first | rfl | trivial, true, j + 1, by omega, rfl, by go_num, ⟨HT2.out.symm⟩⟩
            case measure => simp [intOf]; omega
        · obtain rfl : j = s.size := by omega
          have HJ2 := Aside0.mk (HJ.out.trans (has_all s (letter 5)))
          have HS := Aside0.mk (show w.heap.size + 1 ≤ wr.heap.size by have := HB.out.size; rw [World.size_alloc] at this; exact this)
          rcases (by cases args <;> simp : (args = []) ∨ (0 < args.length)) with rfl | hv
          · have HF := Aside0.mk (show setB (k, op, d, a, b, n, []) 5 = false from by simp [setB])
            cases x
            all_goals
              go_wp2_with fail
              go_roundw
              case rel => exact ⟨5 + 1, by omega, by go_num, ⟨fun p hp => by rcases Nat.lt_succ_iff_lt_or_eq.1 hp with h | rfl; exact HP.out p h; rw [HF.out]; rfl⟩, ⟨HB.out.alloc HS.out _⟩⟩
              case measure => simp [intOf]
          · have HF := Aside0.mk (show setB (k, op, d, a, b, n, args) 5 = true from by simpa [setB] using hv)
            have hv2 : 0 < args.length := hv
            cases x
            · go_wp2_with fail
              go_ret
              refine ⟨?_, ((Below.refl _ _).alloc (Nat.le_refl _) _).trans ((HB.out.alloc HS.out _).mono (by omega))⟩
              have hz : zeroB (k, op, d, a, b, n, args) s = false := by
                unfold zeroB
                rw [List.all_eq_false]
                exact ⟨5, by simp, by rw [HF.out, ← HJ2.out]; simp⟩
              rw [hz]
              rfl
            · go_wp2_with fail
              go_roundw
              case rel => exact ⟨5 + 1, by omega, by go_num, ⟨fun p hp => by rcases Nat.lt_succ_iff_lt_or_eq.1 hp with h | rfl; exact HP.out p h; rw [← HJ2.out]; simp⟩, ⟨HB.out.alloc HS.out _⟩⟩
              case measure => simp [intOf]
end Go.Proofs.Ytnckonglodmfeaa.Ik

namespace Go.Proofs.Ytnckonglodmfeaa.Ik
open Go.Proofs.Ytnckonglodmfeaa.Ls Go.RowKit Go.Proofs.YtnckonglodmfeaaW.PrintWords Go.Proofs.YtnckonglodmfeaaW.PrintLast Go.Proofs.YtnckonglodmfeaaW.PrintMore Go.Proofs.Ytnckonglodmfeaa.B Go.Proofs.Ytnckonglodmfeaa.R Go.Proofs.Ytnckonglodmfeaa.S Go.Proofs.Ytnckonglodmfeaa.Is Go.Proofs.Ytnckonglodmfeaa.Js
set_option linter.unusedVariables false
set_option linter.unusedSimpArgs false
/-- The reference's reader in the state s. -/
def Rq (w : World) (g b : Nat) (s : St) : Prop := Rdr 107 w g b s.1 s.2 ∧ By s.1 ∧ b < w.heap.size
theorem Rq.keep {w w' : World} {g b : Nat} {s : St} {S : Nat → Prop} (h : Rq w g b s) (hk : Keep S w w') (hg : ¬ S g) (hb : ¬ S b) : Rq w' g b s := ⟨h.1.keep hk hg hb h.2.2, h.2.1, Nat.lt_of_lt_of_le h.2.2 hk.size⟩
theorem Rq.below {w w' : World} {g b : Nat} {s : St} (h : Rq w g b s) (hk : Below w.heap.size w w') : Rq w' g b s := h.keep (S := fun _ => False) (Keep.of_below hk) id id
theorem Rq.code {w : World} {g b : Nat} {s : St} (h : Rq w g b s) : w.cell? ⟨g, 1, none⟩ = some (.int .i64 s.2) := h.1.code.1
theorem rq_below (g b : Nat) (s : St) (m : Int) (w : World) (h : Rq w g b s) (hm0 : -9223372036854775808 ≤ m) (hm1 : m ≤ 9223372036854775807) :
    Calls Try.prog 53 #[.pointer (some ⟨g, 0, none⟩), .int .i64 m] w fun e w' => e = .returned (.int .i64 (sBelow m s).1) ∧ Rq w' g b (sBelow m s).2 ∧ Keep (· = g) w w' ∧ w'.heap.size = w.heap.size := by
  refine (Lr.below_calls g b s.1 s.2 m w h.1 h.2.1 hm0 hm1).mono ?_
  rintro e w' ⟨h1, h2, h3, h4⟩
  exact ⟨h1, ⟨h2, sbelow_by h.2.1, by rw [h4]; exact h.2.2⟩, h3, h4⟩
theorem rq_num (g b : Nat) (s : St) (w : World) (h : Rq w g b s) :
    Calls Try.prog 43 #[.pointer (some ⟨g, 0, none⟩)] w fun e w' => e = .returned (.int .u64 (num s.1 s.2).1) ∧ Rq w' g b (sInt s).2 ∧ Keep (· = g) w w' ∧ w'.heap.size = w.heap.size := by
  refine (Lr.num_calls g b s.1 s.2 w h.1 h.2.1).mono ?_
  rintro e w' ⟨h1, h2, h3, h4⟩
  exact ⟨h1, ⟨h2, sint_by h.2.1, by rw [h4]; exact h.2.2⟩, h3, h4⟩
theorem rq_zag (s : St) (w : World) (h : By s.1) :
    Calls Try.prog 129 #[.int .u64 (num s.1 s.2).1] w fun e w' => e = .returned (.int .i64 (sInt s).1) ∧ w = w' := by
  have hr := num_range s.1 s.2 h
  exact Lr.zag_calls _ w hr.1 hr.2
theorem rq_fail (g b : Nat) (s : St) (n : Int) (w : World) (h : Rq w g b s) :
    Calls Try.prog 128 #[.pointer (some ⟨g, 0, none⟩), .int .i64 n] w fun e w' => e = .returned (.tuple #[]) ∧ Rq w' g b (sFail n s) ∧ Keep (· = g) w w' ∧ w'.heap.size = w.heap.size := by
  refine (Lr.fail_calls g b s.1 s.2 n w h.1).mono ?_
  rintro e w' ⟨h1, h2, h3, h4⟩
  exact ⟨h1, ⟨h2, h.2.1, by rw [h4]; exact h.2.2⟩, h3, h4⟩
theorem rq_end (g b : Nat) (s : St) (w : World) (h : Rq w g b s) :
    Calls Try.prog 97 #[.pointer (some ⟨g, 0, none⟩)] w fun e w' => e = .returned (.int .i64 (ended s.1 s.2)) ∧ Keep (· = g) w w' ∧ w'.heap.size = w.heap.size := by
  refine (Lr.end_calls g b s.1 s.2 w h.1).mono ?_
  rintro e w' ⟨h1, h2, h3, h4⟩
  exact ⟨h1, h3, h4⟩
/-- A box of type T at gb beside the reader; it lies in what is new since wo. -/
structure QS (T : Nat) (wo W : World) (g b gb : Nat) (s : St) (F : Array Value) : Prop where
  rd : Rq W g b s
  bx : W.heap[gb]? = some (.cells F T (0, 0))
  keep : Keep (· = g) wo W
  base : wo.heap.size ≤ gb
  hg : g < wo.heap.size
  hb : b < wo.heap.size
section
variable {T : Nat} {wo W W' : World} {g b gb : Nat} {s s' : St} {F : Array Value}
theorem QS.move (h : QS T wo W g b gb s F) (hk : Keep (fun i => i = g ∨ gb < i) W W') (hr : Rq W' g b s') : QS T wo W' g b gb s' F := by
  have h1 := h.hg
  have h2 := h.base
  exact ⟨hr, (hk.block gb (blk_lt h.bx) (fun e => by omega)).trans h.bx, h.keep.then hk (fun i hi e => by omega), h2, h1, h.hb⟩
theorem QS.step (h : QS T wo W g b gb s F) (hk : Keep (· = g) W W') (hr : Rq W' g b s') : QS T wo W' g b gb s' F := h.move (hk.mono (fun i _ e => .inl e)) hr
theorem QS.set (h : QS T wo W g b gb s F) (j : Nat) (x : Value) : QS T wo (W.setCell ⟨gb, j, none⟩ x) g b gb s (F.setIfInBounds j x) := by
  have h1 := h.hg
  have h2 := h.base
  have h3 := h.hb
  have hk : Keep (· = gb) W (W.setCell ⟨gb, j, none⟩ x) := (Keep.refl _ _).setCell ⟨gb, j, none⟩ x (fun _ => rfl)
  exact ⟨h.rd.keep hk (by omega) (by omega), heap_setCell_same W gb j F _ _ h.bx, h.keep.setCell _ _ (fun hh => by have hh : gb < wo.heap.size := hh; omega), h2, h1, h3⟩
theorem QS.drew (h : QS T wo W g b gb s F) : QS T wo W.drew g b gb s F := ⟨⟨h.rd.1, h.rd.2⟩, h.bx, h.keep.drew, h.base, h.hg, h.hb⟩
theorem QS.cell (h : QS T wo W g b gb s F) (j : Nat) (x : Value) (hx : F[j]? = some x) : W.cell? ⟨gb, j, none⟩ = some x ∧ W.frozen? ⟨gb, j, none⟩ = false := ⟨cell_at h.bx j x hx, blk_frozen h.bx j⟩
theorem qs_below (h : QS T wo W g b gb s F) (m : Int) (hm0 : -9223372036854775808 ≤ m) (hm1 : m ≤ 9223372036854775807) :
    Calls Try.prog 53 #[.pointer (some ⟨g, 0, none⟩), .int .i64 m] W fun e w' => e = .returned (.int .i64 (sBelow m s).1) ∧ QS T wo w' g b gb (sBelow m s).2 F ∧ Keep (· = g) W w' := by
  refine (rq_below g b s m W h.rd hm0 hm1).mono ?_
  rintro e w' ⟨h1, h2, h3, -⟩
  exact ⟨h1, h.step h3 h2, h3⟩
theorem qs_num (h : QS T wo W g b gb s F) : Calls Try.prog 43 #[.pointer (some ⟨g, 0, none⟩)] W fun e w' => e = .returned (.int .u64 (num s.1 s.2).1) ∧ QS T wo w' g b gb (sInt s).2 F ∧ Keep (· = g) W w' := by
  refine (rq_num g b s W h.rd).mono ?_
  rintro e w' ⟨h1, h2, h3, -⟩
  exact ⟨h1, h.step h3 h2, h3⟩
theorem qs_fail (h : QS T wo W g b gb s F) (n : Int) :
    Calls Try.prog 128 #[.pointer (some ⟨g, 0, none⟩), .int .i64 n] W fun e w' => e = .returned (.tuple #[]) ∧ QS T wo w' g b gb (sFail n s) F ∧ Keep (· = g) W w' := by
  refine (rq_fail g b s n W h.rd).mono ?_
  rintro e w' ⟨h1, h2, h3, -⟩
  exact ⟨h1, h.step h3 h2, h3⟩
end
/-- A block in the making: its instructions' row too. -/
structure QB (wo W : World) (g b gb : Nat) (s : St) (F : Array Value) (vv : Value) (is : List Ins) : Prop where
  q : QS 84 wo W g b gb s F
  row : kIns.R 92 W (gb + 1) (fun k => gb < k) vv is
section
variable {wo W W' : World} {g b gb : Nat} {s s' : St} {F : Array Value} {vv : Value} {is : List Ins}
theorem QB.step (h : QB wo W g b gb s F vv is) (hk : Keep (· = g) W W') (hr : Rq W' g b s') : QB wo W' g b gb s' F vv is :=
  ⟨h.q.step hk hr, Kd.R_step h.row (fun k hk' hl => hk.block k hl (fun e => by have e : k = g := e; have := h.q.hg; have := h.q.base; omega))⟩
theorem QB.set (h : QB wo W g b gb s F vv is) (j : Nat) (x : Value) : QB wo (W.setCell ⟨gb, j, none⟩ x) g b gb s (F.setIfInBounds j x) vv is :=
  ⟨h.q.set j x, Kd.R_step h.row (fun k hk hl => Below.heap_setCell _ _ _ _ (show k ≠ gb by omega))⟩
theorem qb_below (h : QB wo W g b gb s F vv is) (m : Int) (hm0 : -9223372036854775808 ≤ m) (hm1 : m ≤ 9223372036854775807) :
    Calls Try.prog 53 #[.pointer (some ⟨g, 0, none⟩), .int .i64 m] W fun e w' => e = .returned (.int .i64 (sBelow m s).1) ∧ QB wo w' g b gb (sBelow m s).2 F vv is := by
  refine (rq_below g b s m W h.q.rd hm0 hm1).mono ?_
  rintro e w' ⟨h1, h2, h3, -⟩
  exact ⟨h1, h.step h3 h2⟩
theorem qb_fail (h : QB wo W g b gb s F vv is) (n : Int) :
    Calls Try.prog 128 #[.pointer (some ⟨g, 0, none⟩), .int .i64 n] W fun e w' => e = .returned (.tuple #[]) ∧ QB wo w' g b gb (sFail n s) F vv is := by
  refine (rq_fail g b s n W h.q.rd).mono ?_
  rintro e w' ⟨h1, h2, h3, -⟩
  exact ⟨h1, h.step h3 h2⟩
theorem qb_takes (h : QB wo W g b gb s F vv is) (k a t e : Int) :
    Calls Try.prog 116 #[.agg #[.int .u8 k, .int .i64 a, .int .i64 t, .int .i64 e]] W fun r w' => r = .returned (.bool (takesB k)) ∧ QB wo w' g b gb s F vv is := by
  refine (rtakes_calls k a t e W).mono ?_
  rintro r w' ⟨h1, h2⟩
  exact ⟨h1, h.step (Keep.of_below h2) (h.q.rd.below h2)⟩
theorem QB.cells {x0 x1 x2 x3 x4 : Value} (h : QB wo W g b gb s F vv is) (hF : F = #[x0, x1, x2, x3, x4]) :
    W.cell? ⟨gb, 0, none⟩ = some x0 ∧ W.cell? ⟨gb, 1, none⟩ = some x1 ∧ W.cell? ⟨gb, 2, none⟩ = some x2 ∧ W.cell? ⟨gb, 3, none⟩ = some x3 ∧ W.cell? ⟨gb, 4, none⟩ = some x4 ∧ W.frozen? ⟨gb, 1, none⟩ = false ∧ W.frozen? ⟨gb, 2, none⟩ = false ∧ W.frozen? ⟨gb, 3, none⟩ = false ∧ W.frozen? ⟨gb, 4, none⟩ = false ∧ W.cell? ⟨g, 1, none⟩ = some (.int .i64 s.2) ∧ ∀ j x, (W.setCell ⟨gb, j, none⟩ x).cell? ⟨g, 1, none⟩ = some (.int .i64 s.2) := by
  subst hF
  exact ⟨cell_at h.q.bx 0 _ rfl, cell_at h.q.bx 1 _ rfl, cell_at h.q.bx 2 _ rfl, cell_at h.q.bx 3 _ rfl, cell_at h.q.bx 4 _ rfl, blk_frozen h.q.bx 1, blk_frozen h.q.bx 2, blk_frozen h.q.bx 3, blk_frozen h.q.bx 4, h.q.rd.code, fun j x => (h.set j x).q.rd.code⟩
end
theorem names_at (k : Int) (hk : 1 ≤ k ∧ k ≤ 8) (j : Nat) (hj : j < (namesA k).size) : (letters k)[j]? = some (((namesA k)[j].toNat : Nat) : Int) ∧ ((namesA k)[j].toNat = 79 ∨ (namesA k)[j].toNat = 68 ∨ (namesA k)[j].toNat = 65 ∨ (namesA k)[j].toNat = 66 ∨ (namesA k)[j].toNat = 78 ∨ (namesA k)[j].toNat = 82) := by
  have key : ∀ k : Fin 9, 1 ≤ k.val → ∀ j : Fin 4, ∀ hj : j.val < (namesA (k.val : Int)).size, (letters (k.val : Int))[j.val]? = some (((namesA (k.val : Int))[j.val].toNat : Nat) : Int) ∧ ((namesA (k.val : Int))[j.val].toNat = 79 ∨ (namesA (k.val : Int))[j.val].toNat = 68 ∨ (namesA (k.val : Int))[j.val].toNat = 65 ∨ (namesA (k.val : Int))[j.val].toNat = 66 ∨ (namesA (k.val : Int))[j.val].toNat = 78 ∨ (namesA (k.val : Int))[j.val].toNat = 82) := by decide +kernel
  have h4 : (namesA k).size ≤ 4 := by
    simp only [namesA]
    repeat' split
    all_goals decide
  obtain ⟨n, rfl⟩ : ∃ n : Nat, k = (n : Int) := ⟨k.toNat, by omega⟩
  exact key ⟨n, by omega⟩ (by show 1 ≤ n; omega) ⟨j, by omega⟩ hj
theorem names_sz (k : Int) : (namesA k).size ≤ 4 := by
  simp only [namesA]
  repeat' split
  all_goals decide
theorem names_len (k : Int) (hk : 1 ≤ k ∧ k ≤ 8) : (letters k).length = (namesA k).size := by
  have key : ∀ k : Fin 9, 1 ≤ k.val → (letters (k.val : Int)).length = (namesA (k.val : Int)).size := by decide +kernel
  obtain ⟨n, rfl⟩ : ∃ n : Nat, k = (n : Int) := ⟨k.toNat, by omega⟩
  exact key ⟨n, by omega⟩ (by show 1 ≤ n; omega)
end Go.Proofs.Ytnckonglodmfeaa.Ik

namespace Go.Proofs.Ytnckonglodmfeaa.Ik
open Go.Proofs.Ytnckonglodmfeaa.Ls Go.RowKit Go.Proofs.YtnckonglodmfeaaW.PrintWords Go.Proofs.YtnckonglodmfeaaW.PrintLast Go.Proofs.YtnckonglodmfeaaW.PrintMore Go.Proofs.Ytnckonglodmfeaa.B Go.Proofs.Ytnckonglodmfeaa.R Go.Proofs.Ytnckonglodmfeaa.S Go.Proofs.Ytnckonglodmfeaa.Is Go.Proofs.Ytnckonglodmfeaa.Js
set_option linter.unusedVariables false
set_option linter.unusedSimpArgs false
/-- A field's bytes, by its letter. -/
def fldL : Ins → Int → List Int
  | (k, op, d, a, b, n, args), c => if c = 79 then fieldL op else if c = 68 then fieldL d else if c = 65 then fieldL a else if c = 66 then fieldL b else if c = 78 then putl (zig n).toNat else fieldL args.length ++ fieldsL args
theorem ins_letters (i : Ins) (hk : 1 ≤ i.1 ∧ i.1 ≤ 8) : insL i = fieldL i.1 ++ ((letters i.1).map (fldL i)).flatten := by
  obtain ⟨k, op, d, a, b, n, args⟩ := i
  simp only at hk
  rcases (by omega : k = 1 ∨ k = 2 ∨ k = 3 ∨ k = 4 ∨ k = 5 ∨ k = 6 ∨ k = 7 ∨ k = 8) with rfl | rfl | rfl | rfl | rfl | rfl | rfl | rfl
  all_goals simp [insL, letters, fldL, fieldsL]
/-- What is read: bytes, somewhere. -/
def Rb (w : World) (v : Value) (l : List Int) : Prop := ∃ (A : Option Addr) (c : Nat), v = .slice A l.length c ∧ l.length ≤ c ∧ kU8.C w A l.length l
theorem Rb.below {w w' : World} {v : Value} {l : List Int} (h : Rb w v l) (hb : Below w.heap.size w w') : Rb w' v l := by
  obtain ⟨A, c, h1, h2, h3⟩ := h
  exact ⟨A, c, h1, h2, Kd.C_below h3 hb⟩
/-- A number behind bytes. -/
theorem rput_field (l : List Int) (n : Nat) (hn : l.length = n) (A : Option Addr) (c : Nat) (x : Int) (w : World) (hC : kU8.C w A n l) (hll : n ≤ 100000000) :
    Calls Try.prog 41 #[.slice A n c, .int .u64 (IntKind.u64.wrap x)] w fun e w' => ∃ m A' n' c', e = .returned (.slice A' n' c') ∧ m = l ++ fieldL x ∧ m.length = n' ∧ n' ≤ n + 10 ∧ n' ≤ c' ∧ kU8.C w' A' n' m ∧ Below w.heap.size w w' := by
  subst hn
  have hw := wrap_u64 x
  refine (Lr.put_calls A c l (IntKind.u64.wrap x) w hC (by omega) hw.1 hw.2).mono ?_
  rintro e w' ⟨v, rfl, hr, hb⟩
  obtain ⟨A', c', rfl, h1, h2⟩ := Kd.R_reads hr
  have h10 := field_len x
  exact ⟨_, A', _, c', rfl, rfl, rfl, by rw [List.length_append]; exact Nat.add_le_add_left h10 _, h1, h2, hb⟩
theorem rput_zig (l : List Int) (n : Nat) (hn : l.length = n) (A : Option Addr) (c : Nat) (x : Int) (hx : I64 x) (w : World) (hC : kU8.C w A n l) (hll : n ≤ 100000000) :
    Calls Try.prog 41 #[.slice A n c, .int .u64 (zig x)] w fun e w' => ∃ m A' n' c', e = .returned (.slice A' n' c') ∧ m = l ++ putl (zig x).toNat ∧ m.length = n' ∧ n' ≤ n + 10 ∧ n' ≤ c' ∧ kU8.C w' A' n' m ∧ Below w.heap.size w w' := by
  subst hn
  have hw := zig_range x hx.1 hx.2
  refine (Lr.put_calls A c l (zig x) w hC (by omega) hw.1 hw.2).mono ?_
  rintro e w' ⟨v, rfl, hr, hb⟩
  obtain ⟨A', c', rfl, h1, h2⟩ := Kd.R_reads hr
  have h10 := putl_ten (zig x).toNat (by omega)
  exact ⟨_, A', _, c', rfl, rfl, rfl, by rw [List.length_append]; exact Nat.add_le_add_left h10 _, h1, h2, hb⟩
set_option maxHeartbeats 4000000 in
set_option maxRecDepth 100000 in
/-- put: a field's number behind bytes. -/
theorem rput_calls (l : List Int) (nl : Nat) (hnl : l.length = nl) (Al : Option Addr) (cl : Nat) (k op d a b n : Int) (args : List Int) (A : Option Addr) (c : Nat) (L : Nat) (hL : L = 79 ∨ L = 68 ∨ L = 65 ∨ L = 66 ∨ L = 78 ∨ L = 82) (w : World) (hl : kU8.C w Al nl l) (hlc : nl ≤ cl) (hC : kI.C w A args.length args) (ha : args.length ≤ 3) (hn : I64 n) (hll : nl ≤ 10000000) :
    Calls Try.prog 125 #[.slice Al nl cl, .agg #[.int .u8 k, .int .u8 op, .int .i64 d, .int .i64 a, .int .i64 b, .int .i64 n, .slice A args.length c], .int .u8 L] w fun e w' => ∃ m A' n' c', e = .returned (.slice A' n' c') ∧ m = l ++ fldL (k, op, d, a, b, n, args) L ∧ m.length = n' ∧ n' ≤ nl + 40 ∧ n' ≤ c' ∧ kU8.C w' A' n' m ∧ Below w.heap.size w w' := by
  have mixed : Try.prog.follows .mixedOrders = true := by kernel_rfl
  have HL := Aside0.mk hl
  have HNL := Aside0.mk hnl
  have HC := Aside0.mk hC
  have HX := Aside0.mk (fun W' h => box_cells (w := w) (W' := W') (k := k) (op := op) (d := d) (a := a) (b := b) (n := n) (s := .slice A args.length c) (e := 92) h)
  have HA := Aside0.mk (show Below w.heap.size w (w.alloc (.cells #[.int .u8 k, .int .u8 op, .int .i64 d, .int .i64 a, .int .i64 b, .int .i64 n, .slice A args.length c] 92)) from (Below.refl _ _).alloc (Nat.le_refl _) _)
  have HSZ := Aside0.mk (World.size_alloc w (.cells #[.int .u8 k, .int .u8 op, .int .i64 d, .int .i64 a, .int .i64 b, .int .i64 n, .slice A args.length c] 92))
  have HN := Aside0.mk hn
  clear hl hnl hC hn
  rcases hL with rfl | rfl | rfl | rfl | rfl | rfl
  · go_enter Try.func125, Try.ntmps125
    go_wp2_with (go_at_call 41; refine (rput_field l nl HNL.out Al cl op _ (Kd.C_below HL.out HA.out) (by omega)).mono ?_; rintro _ w2 ⟨m, A', n', c', rfl, hm, hmn, hn', hc', hCm, hb⟩; have HM := Aside0.mk hm; have HMN := Aside0.mk hmn; have HCM := Aside0.mk hCm; have HB := Aside0.mk hb; clear hm hmn hCm hb)
    go_ret
    exact ⟨_, A', _, c', rfl, HM.out, HMN.out, by omega, hc', HCM.out, HA.out.trans (HB.out.mono HA.out.size)⟩
  · go_enter Try.func125, Try.ntmps125
    go_wp2_with (go_at_call 41; refine (rput_field l nl HNL.out Al cl d _ (Kd.C_below HL.out HA.out) (by omega)).mono ?_; rintro _ w2 ⟨m, A', n', c', rfl, hm, hmn, hn', hc', hCm, hb⟩; have HM := Aside0.mk hm; have HMN := Aside0.mk hmn; have HCM := Aside0.mk hCm; have HB := Aside0.mk hb; clear hm hmn hCm hb)
    go_ret
    exact ⟨_, A', _, c', rfl, HM.out, HMN.out, by omega, hc', HCM.out, HA.out.trans (HB.out.mono HA.out.size)⟩
  · go_enter Try.func125, Try.ntmps125
    go_wp2_with (go_at_call 41; refine (rput_field l nl HNL.out Al cl a _ (Kd.C_below HL.out HA.out) (by omega)).mono ?_; rintro _ w2 ⟨m, A', n', c', rfl, hm, hmn, hn', hc', hCm, hb⟩; have HM := Aside0.mk hm; have HMN := Aside0.mk hmn; have HCM := Aside0.mk hCm; have HB := Aside0.mk hb; clear hm hmn hCm hb)
    go_ret
    exact ⟨_, A', _, c', rfl, HM.out, HMN.out, by omega, hc', HCM.out, HA.out.trans (HB.out.mono HA.out.size)⟩
  · go_enter Try.func125, Try.ntmps125
    go_wp2_with (go_at_call 41; refine (rput_field l nl HNL.out Al cl b _ (Kd.C_below HL.out HA.out) (by omega)).mono ?_; rintro _ w2 ⟨m, A', n', c', rfl, hm, hmn, hn', hc', hCm, hb⟩; have HM := Aside0.mk hm; have HMN := Aside0.mk hmn; have HCM := Aside0.mk hCm; have HB := Aside0.mk hb; clear hm hmn hCm hb)
    go_ret
    exact ⟨_, A', _, c', rfl, HM.out, HMN.out, by omega, hc', HCM.out, HA.out.trans (HB.out.mono HA.out.size)⟩
  · have HNR := HN.out
    go_enter Try.func125, Try.ntmps125
    go_wp2_with (first | (go_at_call 144; refine (Lr.zig_calls n _ HNR.1 HNR.2).mono ?_; rintro _ w1 ⟨rfl, hw1⟩; rw [← hw1]; clear hw1) | (go_at_call 41; refine (rput_zig l nl HNL.out Al cl n HNR _ (Kd.C_below HL.out HA.out) (by omega)).mono ?_; rintro _ w2 ⟨m, A', n', c', rfl, hm, hmn, hn', hc', hCm, hb⟩; have HM := Aside0.mk hm; have HMN := Aside0.mk hmn; have HCM := Aside0.mk hCm; have HB := Aside0.mk hb; clear hm hmn hCm hb))
    go_ret
    exact ⟨_, A', _, c', rfl, HM.out, HMN.out, by omega, hc', HCM.out, HA.out.trans (HB.out.mono HA.out.size)⟩
  · have HW := Aside0.mk (show IntKind.u64.wrap (args.length : Int) = args.length from wrU64 _ (by omega) (by omega))
    have HP0 := Aside0.mk (show ∀ W, Below w.heap.size w W → Calls Try.prog 41 #[.slice Al nl cl, .int .u64 args.length] W fun e w' => ∃ m A' n' c', e = .returned (.slice A' n' c') ∧ m = l ++ fieldL args.length ∧ m.length = n' ∧ n' ≤ nl + 10 ∧ n' ≤ c' ∧ kU8.C w' A' n' m ∧ Below W.heap.size W w' from fun W hW => by
      have h := rput_field l nl HNL.out Al cl args.length W (Kd.C_below HL.out hW) (by omega)
      rw [HW.out] at h
      exact h)
    go_enter Try.func125, Try.ntmps125
    go_wp2_with (go_at_call 41; refine (HP0.out _ HA.out).mono ?_; rintro _ w2 ⟨m, A', n', c', rfl, hm, hmn, hn', hc', hCm, hb⟩; have HM := Aside0.mk hm; have HMN := Aside0.mk hmn; have HCM := Aside0.mk hCm; have HB := Aside0.mk (show Below (w.heap.size + 1) _ w2 from hb.mono (by rw [HSZ.out]; exact Nat.le_refl _)); clear hm hmn hCm hb)
    go_loopw [0, 7] (fun vb vi wr => ∃ (j : Nat) (m' : List Int) (A' : Option Addr) (n' c' : Nat), j ≤ args.length ∧ vi = .int .i64 j ∧ vb = .slice A' n' c' ∧ n' ≤ nl + 10 + 10 * j ∧ n' ≤ c' ∧ Aside0 (m'.length = n') ∧ Aside0 (m' = m ++ fieldsL (args.take j)) ∧ Aside0 (kU8.C wr A' n' m') ∧ Aside0 (Below (w.heap.size + 1) (w.alloc (.cells #[.int .u8 k, .int .u8 op, .int .i64 d, .int .i64 a, .int .i64 b, .int .i64 n, .slice A args.length c] 92)) wr)) (fun _ vi _ => args.length - (intOf vi).toNat)
    case atStart => exact ⟨0, m, A', n', c', by omega, rfl, rfl, by omega, hc', HMN, ⟨by simp [fieldsL]⟩, HCM, HB⟩
    case round =>
      clear HMN HCM HB
      obtain ⟨j, m', A1, n1, c1, hj, rfl, rfl, hn1, hc1, HMN, HME, HCM, HB⟩ := hrel
      obtain ⟨q0, q1, q2, q3, q4, q5, q6⟩ := HX.out wr HB.out
      by_cases hjl : j < args.length
      · obtain ⟨x, hx⟩ : ∃ x, args[j]? = some x := ⟨_, List.getElem?_eq_getElem hjl⟩
        obtain ⟨ad, rfl⟩ : ∃ ad, A = some ad := by obtain ⟨ad, e, _⟩ := HC.out.2.2 (by omega); exact ⟨ad, e⟩
        have hcx := C_cell (Kd.C_below HC.out (HA.out.trans (HB.out.mono (by omega)))) hx
        have HT := Aside0.mk (fields_take hx)
        clear hx
        go_wp2_with (go_at_call 41; refine (rput_field m' n1 HMN.out A1 c1 x _ HCM.out (by omega)).mono ?_; rintro _ w3 ⟨m3, A3, n3, c3, rfl, hm3, hmn3, hn3, hc3, hCm3, hb3⟩; have HM3 := Aside0.mk hm3; have HMN3 := Aside0.mk hmn3; have HCM3 := Aside0.mk hCm3; have HB3 := Aside0.mk (HB.out.trans (hb3.mono (by have := HB.out.size; have := HSZ.out; omega))); clear hm3 hmn3 hCm3 hb3 hcx q0 q1 q2 q3 q4 q5 q6)
        go_roundw
        case rel => exact ⟨j + 1, m3, A3, n3, c3, by omega, by go_num, rfl, by omega, hc3, HMN3, ⟨by rw [HM3.out, HME.out, HT.out, List.append_assoc]⟩, HCM3, HB3⟩
        case measure => simp [intOf]; omega
      · obtain rfl : j = args.length := by omega
        go_wp2
        go_ret
        exact ⟨m', A1, n1, c1, rfl, by rw [HME.out, HM.out, List.take_length]; simp [fldL], HMN.out, by omega, hc1, HCM.out, HA.out.trans (HB.out.mono (by omega))⟩
end Go.Proofs.Ytnckonglodmfeaa.Ik

namespace Go.Proofs.Ytnckonglodmfeaa.Ik
open Go.Proofs.Ytnckonglodmfeaa.Ls Go.Proofs.Ytnckonglodmfeaa.Lc Go.RowKit Go.Proofs.YtnckonglodmfeaaW.PrintWords Go.Proofs.YtnckonglodmfeaaW.PrintLast Go.Proofs.YtnckonglodmfeaaW.PrintMore Go.Proofs.Ytnckonglodmfeaa.B Go.Proofs.Ytnckonglodmfeaa.R Go.Proofs.Ytnckonglodmfeaa.S Go.Proofs.Ytnckonglodmfeaa.Is
set_option linter.unusedVariables false
set_option linter.unusedSimpArgs false
theorem fault_field (W : World) (e x y : Int) : Sem.run Try.prog (Instr.field 75 (.agg #[.int .i64 e, .int .i64 x, .int .i64 y]) 0) W = .ok (.int .i64 e) W := by
  simp [Instr.field, asAgg, go_sem]
theorem firstN_zero {l : List Int} (h : firstN l = 0) : ∀ x ∈ l, x = 0 := by
  induction l with
  | nil => intro x hx; cases hx
  | cons y l ih =>
    rw [firstN] at h
    by_cases hy : y = 0
    · rw [if_pos hy] at h
      intro x hx
      rcases List.mem_cons.1 hx with rfl | hx
      · exact hy
      · exact ih h x hx
    · rw [if_neg hy] at h
      exact absurd h hy
theorem ins_args {m s : Int} {i : Ins} (h : insErr m s i = 0) : i.2.2.2.2.2.2.length ≤ 3 := by
  refine Nat.le_of_not_lt (fun h3 => ?_)
  have h20 : ∀ (c : Prop) [Decidable c], (if c then (20 : Int) else 25) ≠ 0 := fun c _ => by split <;> decide
  unfold insErr at h
  rw [if_pos h3] at h
  exact h20 _ h
theorem blks_ok {m s : Int} {most : Nat} {l : List Blk} (hm : most ≤ 400) (h : blocksErr m s most l = 0) (hR : ∀ b ∈ l, BlkR b) : ∀ b ∈ l, OkB b := by
  intro b hb
  have h1 := firstN_zero h _ (List.mem_map_of_mem hb)
  unfold blkErr at h1
  split at h1
  · cases h1
  · refine ⟨by omega, (hR b hb).2, fun i hi => ⟨(hR b hb).1 i hi, ?_⟩⟩
    exact ins_args (m := m) (s := s) (firstN_zero h1 _ (List.mem_append_left _ (List.mem_map_of_mem hi)))
theorem fun_ok {p v : Int} {l : List Blk} (h : funcErr (p, v, l) = 0) (hR : ∀ b ∈ l, BlkR b) : l.length ≤ 16 ∧ ∀ b ∈ l, OkB b := by
  unfold funcErr at h
  split at h
  · cases h
  · rename_i h1
    simp only [not_or, Nat.not_lt] at h1
    exact ⟨h1.2.2.2.2.2, blks_ok (by decide) h hR⟩
/-- What is answered: bytes, or a fault. -/
def BytesOr (E : Int) (bad : Int) (l : List Int) (w' : World) (r : Ending) : Prop :=
  (E ≠ 0 → r = .returned (.tuple #[.slice none 0 0, .int .i64 bad])) ∧ (E = 0 → ∃ (A : Option Addr) (c : Nat), r = .returned (.tuple #[.slice A l.length c, .int .i64 0]) ∧ l.length ≤ c ∧ kU8.C w' A l.length l)
set_option maxHeartbeats 4000000 in
set_option maxRecDepth 100000 in
theorem wfunc_calls (p v : Int) (l : List Blk) (A : Option Addr) (c : Nat) (w : World) (hC : kBlk.C w A l.length l) (hR : ∀ b ∈ l, BlkR b) (hll : l.length ≤ 100000) :
    Calls Try.prog 37 #[.agg #[.int .i64 p, .int .i64 v, .slice A l.length c]] w fun r w' => BytesOr (funcErr (p, v, l)) 30 (funcL (p, v, l)) w' r ∧ Below w.heap.size w w' := by
  have mixed : Try.prog.follows .mixedOrders = true := by kernel_rfl
  have HC := Aside0.mk hC
  have hff := fault_field
  have HOK := Aside0.mk (fun h => fun_ok (p := p) (v := v) h hR)
  obtain ⟨E, hE⟩ : ∃ E, funcErr (p, v, l) = E := ⟨_, rfl⟩
  rw [hE] at HOK ⊢
  have HE := Aside0.mk hE
  have HA := Aside0.mk (show Below w.heap.size w (w.alloc (.cells #[.int .i64 p, .int .i64 v, .slice A l.length c] 25)) from (Below.refl _ _).alloc (Nat.le_refl _) _)
  have HSZ := Aside0.mk (World.size_alloc w (.cells #[.int .i64 p, .int .i64 v, .slice A l.length c] 25))
  have HX := Aside0.mk (show ∀ W', Below (w.heap.size + 1) (w.alloc (.cells #[.int .i64 p, .int .i64 v, .slice A l.length c] 25)) W' → W'.cell? ⟨w.heap.size, 0, none⟩ = some (.int .i64 p) ∧ W'.cell? ⟨w.heap.size, 1, none⟩ = some (.int .i64 v) ∧ W'.cell? ⟨w.heap.size, 2, none⟩ = some (.slice A l.length c) from fun W' h => by
    have g := below_cells (h.mono (by rw [World.size_alloc]; omega))
    exact ⟨cell_at g 0 _ rfl, cell_at g 1 _ rfl, cell_at g 2 _ rfl⟩)
  clear hC hR hE
  by_cases hE0 : E = 0
  · subst hE0
    have hl16 := (HOK.out rfl).1
    have HOKB := Aside0.mk (HOK.out rfl).2
    go_enter Try.func37, Try.ntmps37
    go_upto_region 4 with (first | (go_at_call 85; refine (check_calls p v l A c _ (Kd.C_below HC.out HA.out) hll).mono ?_; rintro _ w1 ⟨⟨x1, y1, rfl⟩, hb⟩; rw [HE.out]; have HZ1 := Aside0.mk (hb.mono (by rw [HSZ.out]; exact Nat.le_refl _)); obtain ⟨f0, f1, f2⟩ := HX.out w1 HZ1.out; clear hb))
    obtain ⟨WV, hWV⟩ : ∃ WV, WV = w1.alloc (.cells #[.slice none 0 0] 157) := ⟨_, rfl⟩
    rw [← hWV]
    have HG := Aside0.mk (show w.heap.size + 1 ≤ w1.heap.size by have := HZ1.out.size; rw [HSZ.out] at this; exact this)
    have HWV := Aside0.mk (show Wtr WV w1.heap.size [] by rw [hWV]; exact ⟨none, 0, heap_alloc_new _ _, Nat.le_refl _, fun a e => (by cases e), C_nil .u8 _⟩)
    have HZV := Aside0.mk (HZ1.out.trans (show Below (w.heap.size + 1) w1 WV by rw [hWV]; exact (Below.refl _ _).alloc HG.out _))
    have HSV := Aside0.mk (show WV.heap.size = w1.heap.size + 1 by rw [hWV, World.size_alloc])
    clear hWV f0 f1 f2
    obtain ⟨f0, f1, f2⟩ := HX.out WV HZV.out
    go_wp2_with (first | (have HWc := HWV; clear HWV; go_at_call 86; refine (nums_lit w1.heap.size [] [p, v] 2 rfl WV _ HWc.out rfl (by simp)).mono ?_; rintro _ w2 ⟨rfl, m1, hm, hml1, hw, hk⟩; have HE_1 := Aside0.mk hm; have HZ2 := Aside0.mk (Keep.below_then HZV.out hk (by rw [HSV.out]; have := HG.out; omega) (fun i hi e => by have e : i = w1.heap.size := e; have := HG.out; omega)); clear f0 f1 f2; obtain ⟨f0, f1, f2⟩ := HX.out w2 HZ2.out; have HW2 := Aside0.mk hw; clear hm hw hk HWc) | (go_at_call 87; refine (wblocks_calls w1.heap.size m1 l A c w w2 HC.out (HA.out.trans (HZ2.out.mono (by omega))) (by have := HG.out; omega) HW2.out (by simp at hml1; omega) hl16 HOKB.out).mono ?_; rintro _ w3 ⟨rfl, hw, hk⟩; have HZ3 := Aside0.mk (Keep.below_then HZ2.out hk (by have := HZ2.out.size; rw [HSZ.out] at this; exact this) (fun i hi e => by have e : i = w1.heap.size := e; have := HG.out; omega)); obtain ⟨m2, hm2⟩ : ∃ m2, m2 = m1 ++ blksL l := ⟨_, rfl⟩; rw [← hm2] at hw; have HM2 := Aside0.mk hm2; obtain ⟨A9, c9, hh9, hlc9, -, hC9⟩ := hw; have hc9 := cell_at hh9 0 _ rfl; have HC9 := Aside0.mk hC9; clear hk hm2 hh9 hC9 f0 f1 f2))
    go_returns
    refine ⟨⟨fun h => absurd rfl h, fun _ => ?_⟩, HA.out.trans (HZ3.out.mono (by omega))⟩
    have hm : m2 = funcL (p, v, l) := by rw [HM2.out, HE_1.out]; simp [funcL, fieldsL]
    subst hm
    exact ⟨_, _, rfl, hlc9, HC9.out⟩
  · have hEb : (E == 0) = false := beq_eq_false_iff_ne.mpr hE0
    have HEN := Aside0.mk hE0
    clear hE0
    go_enter Try.func37, Try.ntmps37
    go_wp2_with (first | (go_at_call 85; refine (check_calls p v l A c _ (Kd.C_below HC.out HA.out) hll).mono ?_; rintro _ w1 ⟨⟨x1, y1, rfl⟩, hb⟩; rw [HE.out]; have HZ1 := Aside0.mk (hb.mono (by rw [HSZ.out]; exact Nat.le_refl _)); obtain ⟨f0, f1, f2⟩ := HX.out w1 HZ1.out; clear hb))
    go_returns
    exact ⟨⟨fun _ => rfl, fun h => absurd h HEN.out⟩, HA.out.trans (HZ1.out.mono (by omega))⟩
end Go.Proofs.Ytnckonglodmfeaa.Ik

namespace Go.Proofs.Ytnckonglodmfeaa.Ik
open Go.Proofs.Ytnckonglodmfeaa.Ls Go.RowKit Go.Proofs.YtnckonglodmfeaaW.PrintWords Go.Proofs.YtnckonglodmfeaaW.PrintLast Go.Proofs.YtnckonglodmfeaaW.PrintMore Go.Proofs.Ytnckonglodmfeaa.B Go.Proofs.Ytnckonglodmfeaa.R Go.Proofs.Ytnckonglodmfeaa.S Go.Proofs.Ytnckonglodmfeaa.Is Go.Proofs.Ytnckonglodmfeaa.Js
set_option linter.unusedVariables false
set_option linter.unusedSimpArgs false
theorem rput_num (l : List Int) (n : Nat) (hn : l.length = n) (A : Option Addr) (c : Nat) (x : Int) (h0 : 0 ≤ x) (h1 : x < 18446744073709551616) (w : World) (hC : kU8.C w A n l) (hll : n ≤ 100000000) :
    Calls Try.prog 41 #[.slice A n c, .int .u64 x] w fun e w' => ∃ m A' n' c', e = .returned (.slice A' n' c') ∧ m = l ++ fieldL x ∧ m.length = n' ∧ n' ≤ n + 10 ∧ n' ≤ c' ∧ kU8.C w' A' n' m ∧ Below w.heap.size w w' := by
  have h := rput_field l n hn A c x w hC hll
  rw [wrU64 x h0 h1] at h
  exact h
/-- What blocks have that are written: kinds too. -/
def OkK (b : Blk) : Prop := OkB b ∧ (1 ≤ b.2.1 ∧ b.2.1 ≤ 3) ∧ ∀ i ∈ b.1, 1 ≤ i.1 ∧ i.1 ≤ 8
set_option maxHeartbeats 40000000 in
set_option maxRecDepth 100000 in
theorem rbytes_calls (l : List Int) (nl : Nat) (hnl : l.length = nl) (Al : Option Addr) (cl : Nat) (bs : List Blk) (A : Option Addr) (c : Nat) (w : World) (hl : kU8.C w Al nl l) (hlc : nl ≤ cl) (hC : kBlk.C w A bs.length bs) (hll : nl ≤ 100) (hb16 : bs.length ≤ 16) (hok : ∀ b ∈ bs, OkK b) :
    Calls Try.prog 90 #[.slice Al nl cl, .slice A bs.length c] w fun e w' => ∃ m A' n' c', e = .returned (.slice A' n' c') ∧ m = l ++ blksL bs ∧ m.length = n' ∧ n' ≤ c' ∧ kU8.C w' A' n' m ∧ Below w.heap.size w w' := by
  have mixed : Try.prog.follows .mixedOrders = true := by kernel_rfl
  have HMN := Aside0.mk hnl
  have HCM := Aside0.mk hl
  have HME := Aside0.mk (rfl : l = l)
  have HB := Aside0.mk (Below.refl w.heap.size w)
  have HC := Aside0.mk hC
  have HOK := Aside0.mk hok
  clear hnl hl hC hok
  go_enter Try.func90, Try.ntmps90
  go_wp2_with (go_at_call 41; (first | refine (rput_num _ _ HMN.out _ _ _ (by omega) (by omega) _ (by first | exact HCM.out | exact Kd.C_alloc HCM.out _) (by omega)).mono ?_ | refine (rput_field _ _ HMN.out _ _ _ _ (by first | exact HCM.out | exact Kd.C_alloc HCM.out _) (by omega)).mono ?_); rintro _ w3 ⟨m3, A3, n3, c3, rfl, hm3, hmn3, hn3, hc3, hCm3, hb3⟩; rw [HME.out] at hm3; have HB3 := Aside0.mk (show Below w.heap.size w w3 from by first | exact HB.out.trans (hb3.mono HB.out.size) | exact (HB.out.alloc HB.out.size _).trans (hb3.mono (HB.out.alloc HB.out.size _).size)); clear HME HMN HCM HB; have HME := Aside0.mk hm3; have HMN := Aside0.mk hmn3; have HCM := Aside0.mk hCm3; have HB := HB3; have HB3x := Aside0.mk hb3; clear HB3 hm3 hmn3 hCm3 hb3)
  clear HB3x
  go_loopw [0, 5] (fun vb vi wr => ∃ (j : Nat) (m : List Int) (A' : Option Addr) (n' c' : Nat), j ≤ bs.length ∧ vi = .int .i64 j ∧ vb = .slice A' n' c' ∧ n' ≤ 200 + 50000 * j ∧ n' ≤ c' ∧ Aside0 (m.length = n') ∧ Aside0 (m = l ++ fieldL bs.length ++ ((bs.take j).map blkL).flatten) ∧ Aside0 (kU8.C wr A' n' m) ∧ Aside0 (Below w.heap.size w wr)) (fun _ vi _ => bs.length - (intOf vi).toNat)
  case atStart => exact ⟨0, m3, A3, n3, c3, by omega, rfl, rfl, by omega, hc3, HMN, ⟨by simpa using HME.out⟩, HCM, HB⟩
  case round =>
    clear HMN HCM HME HB
    obtain ⟨wo, hwo⟩ : ∃ wo, wo = wr := ⟨_, rfl⟩
    subst hwo
    obtain ⟨j, m, A0, n0, c0, hj, rfl, rfl, hn0, hc0, HMN, HME, HCM, HB⟩ := hrel
    by_cases hjl : j < bs.length
    · obtain ⟨⟨is, k, a, t, e⟩, hx⟩ : ∃ x, bs[j]? = some x := ⟨_, List.getElem?_eq_getElem hjl⟩
      obtain ⟨⟨hi4, hre, hri⟩, hk3, hkk⟩ := HOK.out _ (List.mem_of_getElem? hx)
      simp only at hi4 hk3
      have HK3 := Aside0.mk hk3
      clear hk3
      have HRI := Aside0.mk hri
      have HKK := Aside0.mk hkk
      have HMT := Aside0.mk (map_take blkL hx)
      obtain ⟨ad, A1, n1, rfl, b0, b1, b2, b3, b4, hn1, hC1⟩ := blk_cells HC.out hx
      have HC1 := Aside0.mk hC1
      have HBX := Aside0.mk (show ∀ W', Below w.heap.size w W' → W'.cell? (ad.add (j * 5)) = some (.slice A1 is.length n1) ∧ W'.cell? ⟨(ad.add (j * 5)).block, (ad.add (j * 5)).off + 1, none⟩ = some (.int .u8 k) ∧ W'.cell? ⟨(ad.add (j * 5)).block, (ad.add (j * 5)).off + 2, none⟩ = some (.int .i64 a) ∧ W'.cell? ⟨(ad.add (j * 5)).block, (ad.add (j * 5)).off + 3, none⟩ = some (.int .i64 t) ∧ W'.cell? ⟨(ad.add (j * 5)).block, (ad.add (j * 5)).off + 4, none⟩ = some (.int .i64 e) from fun W' h => ⟨pw_cell_below h b0, pw_cell_below h b1, pw_cell_below h b2, pw_cell_below h b3, pw_cell_below h b4⟩)
      clear hx hC1 b0 b1 b2 b3 b4 hri hkk hre
      obtain ⟨b0, b1, b2, b3, b4⟩ := HBX.out wo HB.out
      go_wp2_with ((go_at_call 41; (first | refine (rput_num _ _ HMN.out _ _ _ (by omega) (by omega) _ (by first | exact HCM.out | exact Kd.C_alloc HCM.out _) (by omega)).mono ?_ | refine (rput_field _ _ HMN.out _ _ _ _ (by first | exact HCM.out | exact Kd.C_alloc HCM.out _) (by omega)).mono ?_); rintro _ w3 ⟨m3, A3, n3, c3, rfl, hm3, hmn3, hn3, hc3, hCm3, hb3⟩; rw [HME.out] at hm3; have HB3 := Aside0.mk (show Below w.heap.size w w3 from by first | exact HB.out.trans (hb3.mono HB.out.size) | exact (HB.out.alloc HB.out.size _).trans (hb3.mono (HB.out.alloc HB.out.size _).size)); clear HME HMN HCM HB; have HME := Aside0.mk hm3; have HMN := Aside0.mk hmn3; have HCM := Aside0.mk hCm3; have HB := HB3; have HB3x := Aside0.mk hb3; clear HB3 hm3 hmn3 hCm3 hb3); clear b0 b1 b2 b3 b4; obtain ⟨b0, b1, b2, b3, b4⟩ := HBX.out w3 HB.out)
      obtain ⟨E1, hE1⟩ : ∃ E1, l ++ fieldL bs.length ++ ((bs.take j).map blkL).flatten ++ fieldL is.length = E1 := ⟨_, rfl⟩
      rw [hE1] at HME
      have HE1 := Aside0.mk hE1
      have HE1L := Aside0.mk (show E1.length ≤ 200 + 50000 * j + 10 from by rw [← HME.out, HMN.out]; omega)
      clear HB3x hE1
      go_loopw [0, 6] (fun vb vi wi => ∃ (i : Nat) (m : List Int) (A' : Option Addr) (n' c' : Nat), i ≤ is.length ∧ vi = .int .i64 i ∧ vb = .slice A' n' c' ∧ n' ≤ 200 + 50000 * j + 10 + 100 * i ∧ n' ≤ c' ∧ Aside0 (m.length = n') ∧ Aside0 (m = E1 ++ ((is.take i).map insL).flatten) ∧ Aside0 (kU8.C wi A' n' m) ∧ Aside0 (Below w.heap.size w wi)) (fun _ vi _ => is.length - (intOf vi).toNat)
      case atStart => exact ⟨0, m3, A3, n3, c3, by omega, rfl, rfl, by omega, hc3, HMN, ⟨by simpa using HME.out⟩, HCM, HB⟩
      case round =>
        clear HMN HCM HME HB b0 b1 b2 b3 b4 hc3 hn3
        obtain ⟨wi, hwi⟩ : ∃ wi, wi = wr := ⟨_, rfl⟩
        subst hwi
        obtain ⟨i, m, A0, n0, c0, hi, rfl, rfl, hn0, hc0, HMN, HME, HCM, HB⟩ := hrel
        obtain ⟨b0, b1, b2, b3, b4⟩ := HBX.out wi HB.out
        by_cases hil : i < is.length
        · obtain ⟨⟨k1, op, d, a1, bb, nn, args⟩, hq⟩ : ∃ q, is[i]? = some q := ⟨_, List.getElem?_eq_getElem hil⟩
          obtain ⟨hq1, hq2⟩ := HRI.out _ (List.mem_of_getElem? hq)
          have hk8 := HKK.out _ (List.mem_of_getElem? hq)
          simp only at hq2 hk8
          have HQ8 := Aside0.mk hk8
          have HNN := Aside0.mk hq1.2.2.2.2.2.1
          have HAL := Aside0.mk hq2
          have HMT1 := Aside0.mk (map_take insL hq)
          have HQL := Aside0.mk (ins_letters (k1, op, d, a1, bb, nn, args) hk8)
          have HQN := Aside0.mk (ins_len (k1, op, d, a1, bb, nn, args) hq2 hq1.2.2.2.2.2.1)
          obtain ⟨ad2, A2, n2, rfl, i0, i1, i2, i3, i4, i5, i6, hn2, hC2⟩ := ins_cells (Kd.C_below HC1.out HB.out) hq
          have HC2 := Aside0.mk hC2
          clear hq hq1 hq2 hk8 hC2
          have HIX := Aside0.mk (fun W' h => box_cells (w := wi) (W' := W') (k := k1) (op := op) (d := d) (a := a1) (b := bb) (n := nn) (s := .slice A2 args.length n2) (e := 92) h)
          have HSZ := Aside0.mk (World.size_alloc wi (.cells #[.int .u8 k1, .int .u8 op, .int .i64 d, .int .i64 a1, .int .i64 bb, .int .i64 nn, .slice A2 args.length n2] 92))
          have HBI := Aside0.mk (Below.refl (wi.heap.size + 1) (wi.alloc (.cells #[.int .u8 k1, .int .u8 op, .int .i64 d, .int .i64 a1, .int .i64 bb, .int .i64 nn, .slice A2 args.length n2] 92)))
          have HBI0 := Aside0.mk (show Below wi.heap.size wi (wi.alloc (.cells #[.int .u8 k1, .int .u8 op, .int .i64 d, .int .i64 a1, .int .i64 bb, .int .i64 nn, .slice A2 args.length n2] 92)) from (Below.refl _ _).alloc (Nat.le_refl _) _)
          have HNS := Aside0.mk (names_at k1 HQ8.out)
          have HNL := Aside0.mk (names_len k1 HQ8.out)
          have hns := names_sz k1
          go_wp2_with (first | ((go_at_call 41; (first | refine (rput_num _ _ HMN.out _ _ _ (by omega) (by omega) _ (by first | exact HCM.out | exact Kd.C_alloc HCM.out _) (by omega)).mono ?_ | refine (rput_field _ _ HMN.out _ _ _ _ (by first | exact HCM.out | exact Kd.C_alloc HCM.out _) (by omega)).mono ?_); rintro _ w3 ⟨m3, A3, n3, c3, rfl, hm3, hmn3, hn3, hc3, hCm3, hb3⟩; rw [HME.out] at hm3; have HB3 := Aside0.mk (show Below w.heap.size w w3 from by first | exact HB.out.trans (hb3.mono HB.out.size) | exact (HB.out.alloc HB.out.size _).trans (hb3.mono (HB.out.alloc HB.out.size _).size)); clear HME HMN HCM HB; have HME := Aside0.mk hm3; have HMN := Aside0.mk hmn3; have HCM := Aside0.mk hCm3; have HB := HB3; have HB3x := Aside0.mk hb3; clear HB3 hm3 hmn3 hCm3 hb3); have HBI2 := Aside0.mk (HBI.out.trans (HB3x.out.mono (by have h1 := HBI.out.size; have h2 := HSZ.out; omega))); clear HBI HB3x; have HBI := HBI2; clear HBI2 i0 i1 i2 i3 i4 i5 i6 b0 b1 b2 b3 b4; obtain ⟨c0', c1', c2', c3', c4', c5', c6'⟩ := HIX.out w3 HBI.out) | (go_at_call 124; refine (names_calls k1 _ HQ8.out).mono ?_; rintro _ w4 ⟨rfl, hb⟩; have HB4 := Aside0.mk (HB.out.trans (hb.mono HB.out.size)); have HCM4 := Aside0.mk (Kd.C_below HCM.out hb); have HBI4 := Aside0.mk (HBI.out.trans (hb.mono (by have h1 := HBI.out.size; have h2 := HSZ.out; omega))); clear HB HCM HBI hb c0' c1' c2' c3' c4' c5' c6'))
          obtain ⟨E2, hE2⟩ : ∃ E2, E1 ++ ((is.take i).map insL).flatten ++ fieldL k1 = E2 := ⟨_, rfl⟩
          rw [hE2] at HME
          have HE2 := Aside0.mk hE2
          clear hE2
          go_loopw [0, 9] (fun vb vi wj => ∃ (q : Nat) (m : List Int) (A' : Option Addr) (n' c' : Nat), q ≤ (namesA k1).size ∧ vi = .int .i64 q ∧ vb = .slice A' n' c' ∧ n' ≤ 900000 + 40 * q ∧ n' ≤ c' ∧ Aside0 (m.length = n') ∧ Aside0 (m = E2 ++ (((letters k1).take q).map (fldL (k1, op, d, a1, bb, nn, args))).flatten) ∧ Aside0 (kU8.C wj A' n' m) ∧ Aside0 (Below w.heap.size w wj) ∧ Aside0 (Below (wi.heap.size + 1) (wi.alloc (.cells #[.int .u8 k1, .int .u8 op, .int .i64 d, .int .i64 a1, .int .i64 bb, .int .i64 nn, .slice A2 args.length n2] 92)) wj)) (fun _ vi _ => (namesA k1).size - (intOf vi).toNat)
          case atStart => exact ⟨0, m3, A3, n3, c3, by omega, rfl, rfl, by omega, hc3, HMN, ⟨by simpa using HME.out⟩, HCM4, HB4, HBI4⟩
          case round =>
            clear HMN HCM4 HME HB4 HBI4 hc3 hn3
            obtain ⟨wj, hwj⟩ : ∃ wj, wj = wr := ⟨_, rfl⟩
            subst hwj
            obtain ⟨q, m, A0, n0, c0, hq, rfl, rfl, hn0, hc0, HMN, HME, HCM, HB, HBI⟩ := hrel
            by_cases hqn : q < (namesA k1).size
            · obtain ⟨hL1, hL2⟩ := HNS.out q hqn
              obtain ⟨L, hLL⟩ : ∃ L, (namesA k1)[q].toNat = L := ⟨_, rfl⟩
              rw [hLL] at hL1 hL2
              have HLL := Aside0.mk hLL
              have HL2 := Aside0.mk hL2
              have HT := Aside0.mk (map_take (fldL (k1, op, d, a1, bb, nn, args)) hL1)
              have HXJ := Aside0.mk (show ∀ W', Keep (fun _ => False) wj.drew W' → BoxC W' wi.heap.size k1 op d a1 bb nn (.slice A2 args.length n2) from fun W' h => HIX.out W' (Keep.below_then HBI.out.drew h (by have h1 := HBI.out.size; have h2 := HSZ.out; have h3 : wj.drew.heap.size = wj.heap.size := rfl; omega) (fun _ _ => id)))
              clear hLL hL1 hL2
              go_wp2_with fail
              refine rk_start (fun _ => False) (by kernel_rfl) (n := 7) (l := #[false, false, false, false, false, false, false]) (by kernel_rfl) (by kernel_rfl) ?_
              refine rk_take (fuel := 6) 0 rfl (by kernel_rfl) (listed' := #[true, false, false, false, false, false, false]) (by kernel_rfl) (fun _ _ _ h => h) (by kernel_rfl) (fun w' hR => by go_simp; first | done | with_reducible rfl) rfl ?_
              try simp only [Act.put, List.setIfInBounds_toArray, List.set_cons_zero, List.set_cons_succ]
              refine rk_take (fuel := 5) 1 rfl (by kernel_rfl) (listed' := #[true, true, false, false, false, false, false]) (by kernel_rfl) (fun _ _ _ h => h) (by kernel_rfl) (fun w' hR => by obtain ⟨x0, x1, x2, x3, x4, x5, x6⟩ := HXJ.out w' hR; go_simp; first | done | with_reducible rfl) rfl ?_
              try simp only [Act.put, List.setIfInBounds_toArray, List.set_cons_zero, List.set_cons_succ]
              refine rk_take (fuel := 4) 2 rfl (by kernel_rfl) (listed' := #[true, true, true, false, false, false, false]) (by kernel_rfl) (fun _ _ _ h => h) (by kernel_rfl) (fun w' hR => by go_simp; first | done | with_reducible rfl) rfl ?_
              try simp only [Act.put, List.setIfInBounds_toArray, List.set_cons_zero, List.set_cons_succ]
              refine rk_take (fuel := 3) 3 rfl (by kernel_rfl) (listed' := #[true, true, true, true, false, false, false]) (by kernel_rfl) (fun _ _ _ h => h) (by kernel_rfl) (fun w' hR => by go_simp; first | done | with_reducible rfl) rfl ?_
              try simp only [Act.put, List.setIfInBounds_toArray, List.set_cons_zero, List.set_cons_succ]
              refine rk_take (fuel := 2) 4 rfl (by kernel_rfl) (listed' := #[true, true, true, true, true, false, false]) (by kernel_rfl) (fun _ _ _ h => h) (by kernel_rfl) (fun w' hR => by go_simp; first | done | with_reducible rfl) rfl ?_
              try simp only [Act.put, List.setIfInBounds_toArray, List.set_cons_zero, List.set_cons_succ]
              refine rk_step (fuel := 1) 5 rfl (by kernel_rfl) (listed' := #[true, true, true, true, true, true, false]) (by kernel_rfl) (by kernel_rfl) (fun K' hK => ?_)
              go_wp2_with (go_at_call 125; rw [HLL.out]; refine (rput_calls m n0 HMN.out A0 c0 k1 op d a1 bb nn args A2 n2 L HL2.out _ (Kd.C_drew HCM.out) hc0 (Kd.C_below HC2.out (Below.drew (HBI0.out.trans (HBI.out.mono (by omega))))) HAL.out HNN.out (by omega)).mono ?_; rintro _ w3 ⟨m3, A3, n3, c3, rfl, hm3, hmn3, hn3, hc3, hCm3, hb3⟩; rw [HME.out] at hm3; have HME3 := Aside0.mk hm3; have HMN3 := Aside0.mk hmn3; have HCM3 := Aside0.mk hCm3; have HB3 := Aside0.mk hb3; clear hm3 hmn3 hCm3 hb3)
              refine hK.out _ _ (Keep.of_below HB3.out) ?_
              clear hK K'
              try simp only [Act.put, List.setIfInBounds_toArray, List.set_cons_zero, List.set_cons_succ]
              refine rk_take (fuel := 0) 6 rfl (by kernel_rfl) (listed' := #[true, true, true, true, true, true, true]) (by kernel_rfl) (fun _ _ _ h => h) (by kernel_rfl) (fun w' hR => by go_simp; first | done | with_reducible rfl) rfl ?_
              try simp only [Act.put, List.setIfInBounds_toArray, List.set_cons_zero, List.set_cons_succ]
              refine rk_done (by kernel_rfl) ?_
              go_wp2
              go_roundw
              case rel => exact ⟨q + 1, m3, A3, n3, c3, by omega, by go_num, rfl, by omega, hc3, HMN3, ⟨by rw [HME3.out, HT.out, List.append_assoc]⟩, HCM3, ⟨HB.out.drew.trans (HB3.out.mono HB.out.size)⟩, ⟨HBI.out.drew.trans (HB3.out.mono (by have h1 := HBI.out.size; have h2 := HSZ.out; have h3 : wj.drew.heap.size = wj.heap.size := rfl; omega))⟩⟩
              case measure => simp [intOf]; omega
            · obtain rfl : q = (namesA k1).size := by omega
              have HMI := Aside0.mk (show m = E1 ++ ((is.take (i + 1)).map insL).flatten from by
                rw [HME.out, ← HNL.out, List.take_length, HMT1.out, HQL.out, ← HE2.out]
                simp [List.append_assoc])
              have hn9 : n0 ≤ 200 + 50000 * j + 10 + 100 * (i + 1) := by
                have h1 := HMN.out
                rw [HMI.out, List.length_append] at h1
                have h2 := insl_len (is.take (i + 1)) (fun z hz => HRI.out z (List.mem_of_mem_take hz))
                rw [List.length_take] at h2
                have h3 := HE1L.out
                omega
              go_wp2
              go_roundw
              case rel => exact ⟨i + 1, m, A0, n0, c0, by omega, by go_num, rfl, hn9, hc0, HMN, HMI, HCM, HB⟩
              case measure => simp [intOf]; omega
        · obtain rfl : i = is.length := by omega
          have HSZ := Aside0.mk (World.size_alloc wi (.cells #[.int .u8 k, .int .i64 a, .int .i64 t, .int .i64 e] 82))
          have HEX := Aside0.mk (show ∀ W', Below (wi.heap.size + 1) (wi.alloc (.cells #[.int .u8 k, .int .i64 a, .int .i64 t, .int .i64 e] 82)) W' → W'.cell? ⟨wi.heap.size, 0, none⟩ = some (.int .u8 k) ∧ W'.cell? ⟨wi.heap.size, 1, none⟩ = some (.int .i64 a) ∧ W'.cell? ⟨wi.heap.size, 2, none⟩ = some (.int .i64 t) ∧ W'.cell? ⟨wi.heap.size, 3, none⟩ = some (.int .i64 e) from fun W' h => by
            have g := below_cells (h.mono (by rw [HSZ.out]; exact Nat.le_refl _))
            exact ⟨cell_at g 0 _ rfl, cell_at g 1 _ rfl, cell_at g 2 _ rfl, cell_at g 3 _ rfl⟩)
          have HBI := Aside0.mk (Below.refl (wi.heap.size + 1) (wi.alloc (.cells #[.int .u8 k, .int .i64 a, .int .i64 t, .int .i64 e] 82)))
          have HK3' := HK3.out
          rcases (by omega : k = 1 ∨ k = 2 ∨ k = 3) with rfl | rfl | rfl
          all_goals
            clear HK3'
            go_wp2_with (first | ((go_at_call 41; (first | refine (rput_num _ _ HMN.out _ _ _ (by omega) (by omega) _ (by first | exact HCM.out | exact Kd.C_alloc HCM.out _) (by omega)).mono ?_ | refine (rput_field _ _ HMN.out _ _ _ _ (by first | exact HCM.out | exact Kd.C_alloc HCM.out _) (by omega)).mono ?_); rintro _ w3 ⟨m3, A3, n3, c3, rfl, hm3, hmn3, hn3, hc3, hCm3, hb3⟩; rw [HME.out] at hm3; have HB3 := Aside0.mk (show Below w.heap.size w w3 from by first | exact HB.out.trans (hb3.mono HB.out.size) | exact (HB.out.alloc HB.out.size _).trans (hb3.mono (HB.out.alloc HB.out.size _).size)); clear HME HMN HCM HB; have HME := Aside0.mk hm3; have HMN := Aside0.mk hmn3; have HCM := Aside0.mk hCm3; have HB := HB3; have HB3x := Aside0.mk hb3; clear HB3 hm3 hmn3 hCm3 hb3); have HBI2 := Aside0.mk (HBI.out.trans (HB3x.out.mono (by have h1 := HBI.out.size; have h2 := HSZ.out; omega))); clear HBI HB3x; have HBI := HBI2; clear HBI2; (try clear b0 b1 b2 b3 b4); (try clear c0' c1' c2' c3'); obtain ⟨c0', c1', c2', c3'⟩ := HEX.out w3 HBI.out) | (go_at_call 116; refine (rtakes_calls _ _ _ _ _).mono ?_; rintro _ w4 ⟨rfl, hb⟩; (first | rw [show takesB 1 = false from rfl] | rw [show takesB 2 = true from rfl] | rw [show takesB 3 = true from rfl]); have HB4 := Aside0.mk (HB.out.trans (hb.mono HB.out.size)); have HCM4 := Aside0.mk (Kd.C_below HCM.out hb); have HBI4 := Aside0.mk (HBI.out.trans (hb.mono (by have h1 := HBI.out.size; have h2 := HSZ.out; omega))); clear HB HCM HBI hb c0' c1' c2' c3'; have HB := HB4; have HCM := HCM4; have HBI := HBI4; clear HB4 HCM4 HBI4; obtain ⟨c0', c1', c2', c3'⟩ := HEX.out w4 HBI.out))
            go_roundw
            case rel => exact ⟨j + 1, _, _, _, _, by omega, by go_num, rfl, by omega, by assumption, HMN, ⟨by rw [HME.out, HMT.out, List.take_length, ← HE1.out]; simp [blkL, endL, fieldsL, List.append_assoc]⟩, HCM, HB⟩
            case measure => simp [intOf]; omega
    · obtain rfl : j = bs.length := by omega
      go_wp2
      go_ret
      exact ⟨m, A0, n0, c0, rfl, by rw [HME.out, List.take_length]; simp [blksL], HMN.out, hc0, HCM.out, HB.out⟩
end Go.Proofs.Ytnckonglodmfeaa.Ik

namespace Go.Proofs.Ytnckonglodmfeaa.Ik
open Go.Proofs.Ytnckonglodmfeaa.Ls Go.RowKit Go.Proofs.YtnckonglodmfeaaW.PrintWords Go.Proofs.YtnckonglodmfeaaW.PrintLast Go.Proofs.YtnckonglodmfeaaW.PrintMore Go.Proofs.Ytnckonglodmfeaa.B Go.Proofs.Ytnckonglodmfeaa.R Go.Proofs.Ytnckonglodmfeaa.S Go.Proofs.Ytnckonglodmfeaa.Is Go.Proofs.Ytnckonglodmfeaa.Js
set_option linter.unusedVariables false
set_option linter.unusedSimpArgs false
theorem ins_kind {v t : Int} {i : Ins} (h : insErr v t i = 0) : 1 ≤ i.1 ∧ i.1 ≤ 8 := by
  unfold insErr at h
  have hm : (if t < 0 then (6 : Int) else 8) ≤ 8 := by split <;> decide
  by_cases hb : i.1 < 1 ∨ (if t < 0 then (6 : Int) else 8) < i.1 ∨ plainB i = false ∨ (i.1 = 3 ∧ (i.2.1 < 1 ∨ 7 < i.2.1))
  · rw [if_pos hb] at h; cases h
  · simp only [not_or] at hb
    omega
theorem end_kind {v m x : Int} {e : IEnd} (h : endErr v m x e = 0) : 1 ≤ e.1 ∧ e.1 ≤ 3 := by
  obtain ⟨k, a, t, e⟩ := e
  unfold endErr at h
  simp only at h ⊢
  by_cases hb : k < 1 ∨ 3 < k ∨ (k = 1 ∧ (a ≠ 0 ∨ e ≠ 0)) ∨ (k = 3 ∧ (t ≠ 0 ∨ e ≠ 0))
  · rw [if_pos hb] at h; cases h
  · omega
theorem blks_okk {m s : Int} {most : Nat} {l : List Blk} (hm : most ≤ 400) (h : blocksErr m s most l = 0) (hR : ∀ b ∈ l, BlkR b) : ∀ b ∈ l, OkK b := by
  intro b hb
  have h0 := blks_ok hm h hR b hb
  have h1 := firstN_zero h _ (List.mem_map_of_mem hb)
  unfold blkErr at h1
  split at h1
  · cases h1
  · exact ⟨h0, end_kind (firstN_zero h1 _ (List.mem_append_right _ List.mem_cons_self)), fun i hi => ins_kind (firstN_zero h1 _ (List.mem_append_left _ (List.mem_map_of_mem hi)))⟩
theorem fun_okk {p v : Int} {l : List Blk} (h : funcErr (p, v, l) = 0) (hR : ∀ b ∈ l, BlkR b) : l.length ≤ 16 ∧ ∀ b ∈ l, OkK b := by
  unfold funcErr at h
  split at h
  · cases h
  · rename_i h1
    simp only [not_or, Nat.not_lt] at h1
    exact ⟨h1.2.2.2.2.2, blks_okk (by decide) h hR⟩
set_option maxHeartbeats 4000000 in
set_option maxRecDepth 100000 in
theorem rfbytes_calls (p v : Int) (l : List Blk) (A : Option Addr) (c : Nat) (w : World) (hC : kBlk.C w A l.length l) (hR : ∀ b ∈ l, BlkR b) (h0 : funcErr (p, v, l) = 0) :
    Calls Try.prog 42 #[.agg #[.int .i64 p, .int .i64 v, .slice A l.length c]] w fun e w' => ∃ m A' n' c', e = .returned (.slice A' n' c') ∧ m = funcL (p, v, l) ∧ m.length = n' ∧ n' ≤ c' ∧ kU8.C w' A' n' m ∧ Below w.heap.size w w' := by
  have mixed : Try.prog.follows .mixedOrders = true := by kernel_rfl
  obtain ⟨h16, hok⟩ := fun_okk h0 hR
  have HC := Aside0.mk hC
  have HOK := Aside0.mk hok
  have HSZ := Aside0.mk (World.size_alloc w (.cells #[.int .i64 p, .int .i64 v, .slice A l.length c] 25))
  have HX := Aside0.mk (show ∀ W', Keep (fun _ => False) (w.alloc (.cells #[.int .i64 p, .int .i64 v, .slice A l.length c] 25)).drew W' → W'.cell? ⟨w.heap.size, 0, none⟩ = some (.int .i64 p) ∧ W'.cell? ⟨w.heap.size, 1, none⟩ = some (.int .i64 v) ∧ W'.cell? ⟨w.heap.size, 2, none⟩ = some (.slice A l.length c) from fun W' h => by
    have g := new_cells h
    exact ⟨cell_at g 0 _ rfl, cell_at g 1 _ rfl, cell_at g 2 _ rfl⟩)
  have HA := Aside0.mk (show Below w.heap.size w (w.alloc (.cells #[.int .i64 p, .int .i64 v, .slice A l.length c] 25)).drew from ((Below.refl _ _).alloc (Nat.le_refl _) _).drew)
  clear hC hR h0 hok
  go_enter Try.func42, Try.ntmps42
  go_wp2_with fail
  refine rk_start (fun _ => False) (by kernel_rfl) (n := 12) (l := #[false, false, false, false, false, false, false, false, false, false, false, false]) (by kernel_rfl) (by kernel_rfl) ?_
  refine rk_take (fuel := 11) 0 rfl (by kernel_rfl) (listed' := #[true, false, false, false, false, false, false, false, false, false, false, false]) (by kernel_rfl) (fun _ _ _ h => h) (by kernel_rfl) (fun w' hR => by go_simp; first | done | with_reducible rfl) rfl ?_
  try simp only [Act.put, List.setIfInBounds_toArray, List.set_cons_zero, List.set_cons_succ]
  refine rk_take (fuel := 10) 1 rfl (by kernel_rfl) (listed' := #[true, true, false, false, false, false, false, false, false, false, false, false]) (by kernel_rfl) (fun _ _ _ h => h) (by kernel_rfl) (fun w' hR => by obtain ⟨x0, x1, x2⟩ := HX.out w' hR; go_simp; first | done | with_reducible rfl) rfl ?_
  try simp only [Act.put, List.setIfInBounds_toArray, List.set_cons_zero, List.set_cons_succ]
  refine rk_take (fuel := 9) 2 rfl (by kernel_rfl) (listed' := #[true, true, true, false, false, false, false, false, false, false, false, false]) (by kernel_rfl) (fun _ _ _ h => h) (by kernel_rfl) (fun w' hR => by go_simp; first | done | with_reducible rfl) rfl ?_
  try simp only [Act.put, List.setIfInBounds_toArray, List.set_cons_zero, List.set_cons_succ]
  refine rk_take (fuel := 8) 4 rfl (by kernel_rfl) (listed' := #[true, true, true, false, true, false, false, false, false, false, false, false]) (by kernel_rfl) (fun _ _ _ h => h) (by kernel_rfl) (fun w' hR => by go_simp; first | done | with_reducible rfl) rfl ?_
  try simp only [Act.put, List.setIfInBounds_toArray, List.set_cons_zero, List.set_cons_succ]
  refine rk_take (fuel := 7) 5 rfl (by kernel_rfl) (listed' := #[true, true, true, false, true, true, false, false, false, false, false, false]) (by kernel_rfl) (fun _ _ _ h => h) (by kernel_rfl) (fun w' hR => by obtain ⟨x0, x1, x2⟩ := HX.out w' hR; go_simp; first | done | with_reducible rfl) rfl ?_
  try simp only [Act.put, List.setIfInBounds_toArray, List.set_cons_zero, List.set_cons_succ]
  refine rk_take (fuel := 6) 6 rfl (by kernel_rfl) (listed' := #[true, true, true, false, true, true, true, false, false, false, false, false]) (by kernel_rfl) (fun _ _ _ h => h) (by kernel_rfl) (fun w' hR => by go_simp; first | done | with_reducible rfl) rfl ?_
  try simp only [Act.put, List.setIfInBounds_toArray, List.set_cons_zero, List.set_cons_succ]
  refine rk_take (fuel := 5) 8 rfl (by kernel_rfl) (listed' := #[true, true, true, false, true, true, true, false, true, false, false, false]) (by kernel_rfl) (fun _ _ _ h => h) (by kernel_rfl) (fun w' hR => by go_simp; first | done | with_reducible rfl) rfl ?_
  try simp only [Act.put, List.setIfInBounds_toArray, List.set_cons_zero, List.set_cons_succ]
  refine rk_take (fuel := 4) 9 rfl (by kernel_rfl) (listed' := #[true, true, true, false, true, true, true, false, true, true, false, false]) (by kernel_rfl) (fun _ _ _ h => h) (by kernel_rfl) (fun w' hR => by obtain ⟨x0, x1, x2⟩ := HX.out w' hR; go_simp; first | done | with_reducible rfl) rfl ?_
  try simp only [Act.put, List.setIfInBounds_toArray, List.set_cons_zero, List.set_cons_succ]
  refine rk_step (fuel := 3) 3 rfl (by kernel_rfl) (listed' := #[true, true, true, true, true, true, true, false, true, true, false, false]) (by kernel_rfl) (by kernel_rfl) (fun K' hK => ?_)
  go_wp2_with (go_at_call 41; refine (rput_field [] 0 rfl none 0 p _ (C_nil .u8 _) (by omega)).mono ?_; rintro _ w1 ⟨m1, A1, n1, c1, rfl, hm1, hmn1, hn1, hc1, hCm1, hb1⟩; have HM1 := Aside0.mk hm1; have HMN1 := Aside0.mk hmn1; have HCM1 := Aside0.mk hCm1; have HB1 := Aside0.mk hb1; clear hm1 hmn1 hCm1 hb1)
  refine hK.out _ _ (Keep.of_below HB1.out) ?_
  clear hK K'
  try simp only [Act.put, List.setIfInBounds_toArray, List.set_cons_zero, List.set_cons_succ]
  refine rk_step (fuel := 2) 7 rfl (by kernel_rfl) (listed' := #[true, true, true, true, true, true, true, true, true, true, false, false]) (by kernel_rfl) (by kernel_rfl) (fun K' hK => ?_)
  go_wp2_with (go_at_call 41; refine (rput_field m1 n1 HMN1.out A1 c1 v _ HCM1.out (by omega)).mono ?_; rintro _ w2 ⟨m2, A2, n2, c2, rfl, hm2, hmn2, hn2, hc2, hCm2, hb2⟩; have HM2 := Aside0.mk hm2; have HMN2 := Aside0.mk hmn2; have HCM2 := Aside0.mk hCm2; have HB2 := Aside0.mk hb2; clear hm2 hmn2 hCm2 hb2)
  refine hK.out _ _ (Keep.of_below HB2.out) ?_
  clear hK K'
  try simp only [Act.put, List.setIfInBounds_toArray, List.set_cons_zero, List.set_cons_succ]
  refine rk_step (fuel := 1) 10 rfl (by kernel_rfl) (listed' := #[true, true, true, true, true, true, true, true, true, true, true, false]) (by kernel_rfl) (by kernel_rfl) (fun K' hK => ?_)
  go_wp2_with (go_at_call 90; refine (rbytes_calls m2 n2 HMN2.out A2 c2 l A c _ HCM2.out hc2 (Kd.C_below HC.out ((HA.out.trans (HB1.out.mono HA.out.size)).trans (HB2.out.mono (HA.out.trans (HB1.out.mono HA.out.size)).size))) (by omega) h16 HOK.out).mono ?_; rintro _ w3 ⟨m3, A3, n3, c3, rfl, hm3, hmn3, hc3, hCm3, hb3⟩; have HM3 := Aside0.mk hm3; have HMN3 := Aside0.mk hmn3; have HCM3 := Aside0.mk hCm3; have HB3 := Aside0.mk hb3; clear hm3 hmn3 hCm3 hb3)
  refine hK.out _ _ (Keep.of_below HB3.out) ?_
  clear hK K'
  try simp only [Act.put, List.setIfInBounds_toArray, List.set_cons_zero, List.set_cons_succ]
  refine rk_take (fuel := 0) 11 rfl (by kernel_rfl) (listed' := #[true, true, true, true, true, true, true, true, true, true, true, true]) (by kernel_rfl) (fun _ _ _ h => h) (by kernel_rfl) (fun w' hR => by go_simp; first | done | with_reducible rfl) rfl ?_
  try simp only [Act.put, List.setIfInBounds_toArray, List.set_cons_zero, List.set_cons_succ]
  refine rk_done (by kernel_rfl) ?_
  go_wp2
  go_ret
  have b1 := HA.out.trans (HB1.out.mono HA.out.size)
  have b2 := b1.trans (HB2.out.mono b1.size)
  exact ⟨m3, A3, n3, c3, rfl, by rw [HM3.out, HM2.out, HM1.out]; simp [funcL, fieldsL], HMN3.out, hc3, HCM3.out, b2.trans (HB3.out.mono b2.size)⟩
end Go.Proofs.Ytnckonglodmfeaa.Ik

namespace Go.Proofs.Ytnckonglodmfeaa.Ik
open Go.Proofs.Ytnckonglodmfeaa.B Go.Proofs.Ytnckonglodmfeaa.Ls Go.Proofs.Ytnckonglodmfeaa.Is Go.Proofs.Ytnckonglodmfeaa.Js Go.Proofs.Ytnckonglodmfeaa.Gs
set_option linter.unusedVariables false
set_option linter.unusedSimpArgs false
/-- Job, lease, registers, function. -/
abbrev Ask := Int × Int × Int × Fun
def zeroAsk : Ask := (0, 0, 0, (0, 0, []))
/-- A frame of a kind, alone: its body, or a fault. -/
def openL (kind : Int) (b : List Int) : List Int × Int :=
  if (takeL b).2.2.2 ≠ 0 then ([], (takeL b).2.2.2) else if (takeL b).2.2.1 ≠ b.length then ([], 5) else if (takeL b).1 ≠ kind then ([], 20) else ((takeL b).2.1, 0)
/-- The head of an ask: job, lease, registers; what is left. -/
def sHead (s : St) : (Int × Int × Int) × St :=
  match sBelow 16 s with
  | (j, s1) => match num s1.1 s1.2 with
    | (n, s2) => match sBelow 9 s2 with
      | (r, s3) => ((j, n, r), s3)
def readAsk (b : List Int) : Ask × Int :=
  if (openL 2 b).2 ≠ 0 then (zeroAsk, (openL 2 b).2)
  else if (sHead ((openL 2 b).1, 0)).2.2 ≠ 0 then (zeroAsk, (sHead ((openL 2 b).1, 0)).2.2)
  else if (sFun (sHead ((openL 2 b).1, 0)).2.1).2 ≠ 0 then (zeroAsk, (sFun (sHead ((openL 2 b).1, 0)).2.1).2)
  else (((sHead ((openL 2 b).1, 0)).1.1, (sHead ((openL 2 b).1, 0)).1.2.1, (sHead ((openL 2 b).1, 0)).1.2.2, (sFun (sHead ((openL 2 b).1, 0)).2.1).1), 0)
/-- What is at fault with an ask, and its bytes. -/
def askErr (a : Ask) : Int := if funcErr a.2.2.2 ≠ 0 then 30 else if a.1 < 0 ∨ 16 ≤ a.1 ∨ a.2.2.1 < 0 ∨ 8 < a.2.2.1 then 2 else 0
def askB (a : Ask) : List Int := fieldL a.1 ++ (putl a.2.1.toNat ++ (fieldL a.2.2.1 ++ funcL a.2.2.2))
def askL (a : Ask) : List Int := layL 2 (askB a)
theorem wblk_len (b : Blk) (h : OkB b) (h32 : b.1.length ≤ 32) : (blkL b).length ≤ 3250 := by
  have h1 := insl_len b.1 h.2.2
  have h2 := end_len b.2
  have h3 := field_len b.1.length
  simp only [blkL, List.length_append]
  omega
theorem flat_len {α : Type} (f : α → List Int) (m : Nat) (l : List α) (h : ∀ x ∈ l, (f x).length ≤ m) : ((l.map f).flatten).length ≤ m * l.length := by
  induction l with
  | nil => simp
  | cons x l ih =>
    rw [List.map_cons, List.flatten_cons, List.length_append, List.length_cons, Nat.mul_succ]
    have h1 := h x (by simp)
    have h2 := ih (fun y hy => h y (by simp [hy]))
    omega
theorem func_len (p v : Int) (l : List Blk) (h0 : funcErr (p, v, l) = 0) (hR : ∀ b ∈ l, BlkR b) : (funcL (p, v, l)).length ≤ 60000 := by
  obtain ⟨h16, hok⟩ := fun_okk h0 hR
  have h32 : ∀ b ∈ l, b.1.length ≤ 32 := fun b hb => by
    unfold funcErr at h0
    split at h0
    · cases h0
    · have h1 := firstN_zero h0 _ (List.mem_map_of_mem hb)
      unfold blkErr at h1
      split at h1
      · cases h1
      · rename_i h2
        exact Nat.le_of_not_lt h2
  have h1 := flat_len blkL 3250 l (fun b hb => wblk_len b (hok b hb).1 (h32 b hb))
  have h2 := field_len l.length
  have h3 := fields_len [p, v]
  simp only [funcL, blksL, List.length_append, List.length_cons, List.length_nil] at *
  omega
theorem field_by' (x : Int) : By (fieldL x) := putl_by _
theorem fields_byL (l : List Int) : By (fieldsL l) := by
  intro x hx
  simp only [fieldsL, List.mem_flatten, List.mem_map] at hx
  obtain ⟨m, ⟨y, _, rfl⟩, hx⟩ := hx
  exact field_by' y x hx
theorem ins_byL (i : Ins) : By (insL i) := by
  obtain ⟨k, op, d, a, b, n, args⟩ := i
  unfold insL
  refine By.append (field_by' _) ?_
  repeat' split
  · exact By.append (field_by' _) (putl_by _)
  · exact fields_byL _
  · exact fields_byL _
  · exact fields_byL _
  · exact By.append (field_by' _) (By.append (putl_by _) (By.append (field_by' _) (fields_byL _)))
  · intro x hx; cases hx
theorem end_byL (e : IEnd) : By (endL e) := by
  obtain ⟨k, a, t, e⟩ := e
  unfold endL
  refine By.append (field_by' _) ?_
  repeat' split
  all_goals exact fields_byL _
theorem flat_by {α : Type} (f : α → List Int) (l : List α) (h : ∀ x, By (f x)) : By ((l.map f).flatten) := by
  intro x hx
  simp only [List.mem_flatten, List.mem_map] at hx
  obtain ⟨m, ⟨y, _, rfl⟩, hx⟩ := hx
  exact h y x hx
theorem blk_byL (b : Blk) : By (blkL b) := By.append (field_by' _) (By.append (flat_by _ _ ins_byL) (end_byL _))
theorem blks_byL (l : List Blk) : By (blksL l) := By.append (field_by' _) (flat_by _ _ blk_byL)
theorem func_byL (f : Fun) : By (funcL f) := By.append (fields_byL _) (blks_byL _)
theorem ask_byB (a : Ask) : By (askB a) := By.append (field_by' _) (By.append (putl_by _) (By.append (field_by' _) (func_byL _)))
end Go.Proofs.Ytnckonglodmfeaa.Ik
