/- Contracts and plain facts that the statements' proofs use (part 4). -/
import Derived.Test.YtnckonglodmfeaaN2
import Derived.Test.YtnckonglodmfeaaN3
import Derived.Handy
set_option linter.unusedVariables false
set_option linter.unusedSimpArgs false
namespace Go.Proofs.Ytnckonglodmfeaa.Ik
open Go.RowKit Go.Proofs.YtnckonglodmfeaaW.PrintWords Go.Proofs.YtnckonglodmfeaaW.PrintLast Go.Proofs.YtnckonglodmfeaaW.PrintMore B R S Is
theorem bad4 (x y z u : Int) : (x = 0 ∧ y = 0 ∧ z = 0 ∧ u = 0) ∨ ((x == 0) = false) ∨ (x = 0 ∧ (y == 0) = false) ∨ (x = 0 ∧ y = 0 ∧ (z == 0) = false) ∨ (x = 0 ∧ y = 0 ∧ z = 0 ∧ (u == 0) = false) := by
 simp only [beq_eq_false_iff_ne]
 omega
theorem bad2 (x y : Int) : (x = 0 ∧ y = 0) ∨ ((x == 0) = false) ∨ (x = 0 ∧ (y == 0) = false) := by
 simp only [beq_eq_false_iff_ne]
 omega
set_option maxHeartbeats 1000000 in
set_option maxRecDepth 100000 in
theorem plain1 (op d a b n : Int) (args : List Int) (A : Option Addr) (c : Nat) (w : World) : Calls Try.prog 141 #[.agg #[.int .u8 1, .int .u8 op, .int .i64 d, .int .i64 a, .int .i64 b, .int .i64 n, .slice A args.length c]] w fun r w' => r = .returned (.bool (plainB (1, op, d, a, b, n, args))) ∧ Below w.heap.size w w' := by
 have mixed : Try.prog.follows .mixedOrders = true := by kernel_rfl
 rcases bad4 op a b args.length with ⟨rfl, rfl, rfl, hl⟩ | bz | ⟨rfl, bz⟩ | ⟨rfl, rfl, bz⟩ | ⟨rfl, rfl, rfl, bz⟩
 any_goals try (obtain rfl : args = [] := List.eq_nil_of_length_eq_zero (by omega); clear hl)
 all_goals
  go_enter Try.func141, Try.ntmps141
  go_wp2
  refine rk_start (fun g => g = w.heap.size + 1) (by kernel_rfl) (n := 8) (l := (bl 8 0)) (by kernel_rfl) (by kernel_rfl) ?_
  refine kt 0 (bl 8 1) rfl (fun w' hR => by go_simp; first | done | with_reducible rfl) rfl ?_
  try simp only [Act.put, pB, pC, pD]
  refine kt 1 (bl 8 3) rfl (fun w' hR => by have x0 := cell_at (old_cells hR) 2 _ rfl; go_simp; first | done | with_reducible rfl) rfl ?_
  try simp only [Act.put, pB, pC, pD]
  refine kt 2 (bl 8 7) rfl (fun w' hR => by go_simp; first | done | with_reducible rfl) rfl ?_
  try simp only [Act.put, pB, pC, pD]
  refine kt 3 (bl 8 15) rfl (fun w' hR => by have x0 := cell_at (old_cells hR) 5 _ rfl; go_simp; first | done | with_reducible rfl) rfl ?_
  try simp only [Act.put, pB, pC, pD]
  refine kt 4 (bl 8 31) rfl (fun w' hR => by go_simp; first | done | with_reducible rfl) rfl ?_
  try simp only [Act.put, pB, pC, pD]
  refine rk_step (fuel := 2) 5 rfl (by kernel_rfl) (listed' := (bl 8 63)) (by kernel_rfl) (by kernel_rfl) (fun K' hK => ?_)
  go_wp2_with fail
  refine hK.out _ _ (keep_last _ _ (by rw [World.size_alloc]) _ _) ?_
  clear hK K'
  try simp only [Act.put, pB, pC, pD]
  refine kt 6 (bl 8 127) rfl (fun w' hR => by go_simp; first | done | with_reducible rfl) rfl ?_
  try simp only [Act.put, pB, pC, pD]
  refine rk_step (fuel := 0) 7 rfl (by kernel_rfl) (listed' := (bl 8 255)) (by kernel_rfl) (by kernel_rfl) (fun K' hK => ?_)
  go_wp2_with fail
  refine hK.out _ _ (keep_last _ _ (by rw [World.size_alloc]) _ _) ?_
  clear hK K'
  try simp only [Act.put, pB, pC, pD]
  refine rk_done (by kernel_rfl) ?_
  go_wp2
  go_ret
  refine ⟨?_, (((Below.refl _ _).alloc (Nat.le_refl _) _).alloc (by simp only [World.size_alloc]; omega) _).drew⟩
  first | rfl | (simp at bz; simp [plainB, bz]) | simp [plainB] | (simp [plainB]; done)
set_option maxHeartbeats 1000000 in
set_option maxRecDepth 100000 in
theorem plain2 (op d a b n : Int) (args : List Int) (A : Option Addr) (c : Nat) (w : World) : Calls Try.prog 141 #[.agg #[.int .u8 2, .int .u8 op, .int .i64 d, .int .i64 a, .int .i64 b, .int .i64 n, .slice A args.length c]] w fun r w' => r = .returned (.bool (plainB (2, op, d, a, b, n, args))) ∧ Below w.heap.size w w' := by
 have mixed : Try.prog.follows .mixedOrders = true := by kernel_rfl
 rcases bad4 op b n args.length with ⟨rfl, rfl, rfl, hl⟩ | bz | ⟨rfl, bz⟩ | ⟨rfl, rfl, bz⟩ | ⟨rfl, rfl, rfl, bz⟩
 any_goals try (obtain rfl : args = [] := List.eq_nil_of_length_eq_zero (by omega); clear hl)
 all_goals
  go_enter Try.func141, Try.ntmps141
  go_wp2
  refine rk_start (fun g => g = w.heap.size + 1) (by kernel_rfl) (n := 8) (l := (bl 8 0)) (by kernel_rfl) (by kernel_rfl) ?_
  refine kt 0 (bl 8 1) rfl (fun w' hR => by go_simp; first | done | with_reducible rfl) rfl ?_
  try simp only [Act.put, pB, pC, pD]
  refine kt 1 (bl 8 3) rfl (fun w' hR => by have x0 := cell_at (old_cells hR) 2 _ rfl; go_simp; first | done | with_reducible rfl) rfl ?_
  try simp only [Act.put, pB, pC, pD]
  refine kt 2 (bl 8 7) rfl (fun w' hR => by go_simp; first | done | with_reducible rfl) rfl ?_
  try simp only [Act.put, pB, pC, pD]
  refine kt 3 (bl 8 15) rfl (fun w' hR => by have x0 := cell_at (old_cells hR) 3 _ rfl; go_simp; first | done | with_reducible rfl) rfl ?_
  try simp only [Act.put, pB, pC, pD]
  refine kt 4 (bl 8 31) rfl (fun w' hR => by go_simp; first | done | with_reducible rfl) rfl ?_
  try simp only [Act.put, pB, pC, pD]
  refine rk_step (fuel := 2) 5 rfl (by kernel_rfl) (listed' := (bl 8 63)) (by kernel_rfl) (by kernel_rfl) (fun K' hK => ?_)
  go_wp2_with fail
  refine hK.out _ _ (keep_last _ _ (by rw [World.size_alloc]) _ _) ?_
  clear hK K'
  try simp only [Act.put, pB, pC, pD]
  refine kt 6 (bl 8 127) rfl (fun w' hR => by go_simp; first | done | with_reducible rfl) rfl ?_
  try simp only [Act.put, pB, pC, pD]
  refine rk_step (fuel := 0) 7 rfl (by kernel_rfl) (listed' := (bl 8 255)) (by kernel_rfl) (by kernel_rfl) (fun K' hK => ?_)
  go_wp2_with fail
  refine hK.out _ _ (keep_last _ _ (by rw [World.size_alloc]) _ _) ?_
  clear hK K'
  try simp only [Act.put, pB, pC, pD]
  refine rk_done (by kernel_rfl) ?_
  go_wp2
  go_ret
  refine ⟨?_, (((Below.refl _ _).alloc (Nat.le_refl _) _).alloc (by simp only [World.size_alloc]; omega) _).drew⟩
  first | rfl | (simp at bz; simp [plainB, bz]) | simp [plainB] | (simp [plainB]; done)
set_option maxHeartbeats 1000000 in
set_option maxRecDepth 100000 in
theorem plain3 (op d a b n : Int) (args : List Int) (A : Option Addr) (c : Nat) (w : World) : Calls Try.prog 141 #[.agg #[.int .u8 3, .int .u8 op, .int .i64 d, .int .i64 a, .int .i64 b, .int .i64 n, .slice A args.length c]] w fun r w' => r = .returned (.bool (plainB (3, op, d, a, b, n, args))) ∧ Below w.heap.size w w' := by
 have mixed : Try.prog.follows .mixedOrders = true := by kernel_rfl
 rcases bad2 n args.length with ⟨rfl, hl⟩ | bz | ⟨rfl, bz⟩
 any_goals try (obtain rfl : args = [] := List.eq_nil_of_length_eq_zero (by omega); clear hl)
 all_goals
  go_enter Try.func141, Try.ntmps141
  go_wp2
  refine rk_start (fun g => g = w.heap.size + 1) (by kernel_rfl) (n := 16) (l := (bl 16 0)) (by kernel_rfl) (by kernel_rfl) ?_
  refine kt 0 (bl 16 1) rfl (fun w' hR => by go_simp; first | done | with_reducible rfl) rfl ?_
  try simp only [Act.put, pB, pC, pD]
  refine kt 1 (bl 16 3) rfl (fun w' hR => by have x0 := cell_at (old_cells hR) 1 _ rfl; go_simp; first | done | with_reducible rfl) rfl ?_
  try simp only [Act.put, pB, pC, pD]
  refine kt 2 (bl 16 7) rfl (fun w' hR => by go_simp; first | done | with_reducible rfl) rfl ?_
  try simp only [Act.put, pB, pC, pD]
  refine kt 3 (bl 16 15) rfl (fun w' hR => by have x0 := cell_at (old_cells hR) 2 _ rfl; go_simp; first | done | with_reducible rfl) rfl ?_
  try simp only [Act.put, pB, pC, pD]
  refine kt 4 (bl 16 31) rfl (fun w' hR => by go_simp; first | done | with_reducible rfl) rfl ?_
  try simp only [Act.put, pB, pC, pD]
  refine kt 5 (bl 16 63) rfl (fun w' hR => by have x0 := cell_at (old_cells hR) 3 _ rfl; go_simp; first | done | with_reducible rfl) rfl ?_
  try simp only [Act.put, pB, pC, pD]
  refine kt 6 (bl 16 127) rfl (fun w' hR => by go_simp; first | done | with_reducible rfl) rfl ?_
  try simp only [Act.put, pB, pC, pD]
  refine kt 7 (bl 16 255) rfl (fun w' hR => by have x0 := cell_at (old_cells hR) 4 _ rfl; go_simp; first | done | with_reducible rfl) rfl ?_
  try simp only [Act.put, pB, pC, pD]
  refine kt 8 (bl 16 511) rfl (fun w' hR => by go_simp; first | done | with_reducible rfl) rfl ?_
  try simp only [Act.put, pB, pC, pD]
  refine rk_step (fuel := 6) 9 rfl (by kernel_rfl) (listed' := (bl 16 1023)) (by kernel_rfl) (by kernel_rfl) (fun K' hK => ?_)
  go_wp2_with fail
  refine hK.out _ _ (keep_last _ _ (by rw [World.size_alloc]) _ _) ?_
  clear hK K'
  try simp only [Act.put, pB, pC, pD]
  refine kt 10 (bl 16 2047) rfl (fun w' hR => by go_simp; first | done | with_reducible rfl) rfl ?_
  try simp only [Act.put, pB, pC, pD]
  refine rk_step (fuel := 4) 11 rfl (by kernel_rfl) (listed' := (bl 16 4095)) (by kernel_rfl) (by kernel_rfl) (fun K' hK => ?_)
  go_wp2_with fail
  refine hK.out _ _ (keep_last _ _ (by rw [World.size_alloc]) _ _) ?_
  clear hK K'
  try simp only [Act.put, pB, pC, pD]
  refine kt 12 (bl 16 8191) rfl (fun w' hR => by go_simp; first | done | with_reducible rfl) rfl ?_
  try simp only [Act.put, pB, pC, pD]
  refine rk_step (fuel := 2) 13 rfl (by kernel_rfl) (listed' := (bl 16 16383)) (by kernel_rfl) (by kernel_rfl) (fun K' hK => ?_)
  go_wp2_with fail
  refine hK.out _ _ (keep_last _ _ (by rw [World.size_alloc]) _ _) ?_
  clear hK K'
  try simp only [Act.put, pB, pC, pD]
  refine kt 14 (bl 16 32767) rfl (fun w' hR => by go_simp; first | done | with_reducible rfl) rfl ?_
  try simp only [Act.put, pB, pC, pD]
  refine rk_step (fuel := 0) 15 rfl (by kernel_rfl) (listed' := (bl 16 65535)) (by kernel_rfl) (by kernel_rfl) (fun K' hK => ?_)
  go_wp2_with fail
  refine hK.out _ _ (keep_last _ _ (by rw [World.size_alloc]) _ _) ?_
  clear hK K'
  try simp only [Act.put, pB, pC, pD]
  refine rk_done (by kernel_rfl) ?_
  go_wp2
  go_ret
  refine ⟨?_, (((Below.refl _ _).alloc (Nat.le_refl _) _).alloc (by simp only [World.size_alloc]; omega) _).drew⟩
  first | rfl | (simp at bz; simp [plainB, bz]) | simp [plainB] | (simp [plainB]; done)
set_option maxHeartbeats 1000000 in
set_option maxRecDepth 100000 in
theorem plain4 (op d a b n : Int) (args : List Int) (A : Option Addr) (c : Nat) (w : World) : Calls Try.prog 141 #[.agg #[.int .u8 4, .int .u8 op, .int .i64 d, .int .i64 a, .int .i64 b, .int .i64 n, .slice A args.length c]] w fun r w' => r = .returned (.bool (plainB (4, op, d, a, b, n, args))) ∧ Below w.heap.size w w' := by
 have mixed : Try.prog.follows .mixedOrders = true := by kernel_rfl
 rcases bad4 op b n args.length with ⟨rfl, rfl, rfl, hl⟩ | bz | ⟨rfl, bz⟩ | ⟨rfl, rfl, bz⟩ | ⟨rfl, rfl, rfl, bz⟩
 any_goals try (obtain rfl : args = [] := List.eq_nil_of_length_eq_zero (by omega); clear hl)
 all_goals
  go_enter Try.func141, Try.ntmps141
  go_wp2
  refine rk_start (fun g => g = w.heap.size + 1) (by kernel_rfl) (n := 8) (l := (bl 8 0)) (by kernel_rfl) (by kernel_rfl) ?_
  refine kt 0 (bl 8 1) rfl (fun w' hR => by go_simp; first | done | with_reducible rfl) rfl ?_
  try simp only [Act.put, pB, pC, pD]
  refine kt 1 (bl 8 3) rfl (fun w' hR => by have x0 := cell_at (old_cells hR) 2 _ rfl; go_simp; first | done | with_reducible rfl) rfl ?_
  try simp only [Act.put, pB, pC, pD]
  refine kt 2 (bl 8 7) rfl (fun w' hR => by go_simp; first | done | with_reducible rfl) rfl ?_
  try simp only [Act.put, pB, pC, pD]
  refine kt 3 (bl 8 15) rfl (fun w' hR => by have x0 := cell_at (old_cells hR) 3 _ rfl; go_simp; first | done | with_reducible rfl) rfl ?_
  try simp only [Act.put, pB, pC, pD]
  refine kt 4 (bl 8 31) rfl (fun w' hR => by go_simp; first | done | with_reducible rfl) rfl ?_
  try simp only [Act.put, pB, pC, pD]
  refine rk_step (fuel := 2) 5 rfl (by kernel_rfl) (listed' := (bl 8 63)) (by kernel_rfl) (by kernel_rfl) (fun K' hK => ?_)
  go_wp2_with fail
  refine hK.out _ _ (keep_last _ _ (by rw [World.size_alloc]) _ _) ?_
  clear hK K'
  try simp only [Act.put, pB, pC, pD]
  refine kt 6 (bl 8 127) rfl (fun w' hR => by go_simp; first | done | with_reducible rfl) rfl ?_
  try simp only [Act.put, pB, pC, pD]
  refine rk_step (fuel := 0) 7 rfl (by kernel_rfl) (listed' := (bl 8 255)) (by kernel_rfl) (by kernel_rfl) (fun K' hK => ?_)
  go_wp2_with fail
  refine hK.out _ _ (keep_last _ _ (by rw [World.size_alloc]) _ _) ?_
  clear hK K'
  try simp only [Act.put, pB, pC, pD]
  refine rk_done (by kernel_rfl) ?_
  go_wp2
  go_ret
  refine ⟨?_, (((Below.refl _ _).alloc (Nat.le_refl _) _).alloc (by simp only [World.size_alloc]; omega) _).drew⟩
  first | rfl | (simp at bz; simp [plainB, bz]) | simp [plainB] | (simp [plainB]; done)
set_option maxHeartbeats 1000000 in
set_option maxRecDepth 100000 in
theorem plain5 (op d a b n : Int) (args : List Int) (A : Option Addr) (c : Nat) (w : World) : Calls Try.prog 141 #[.agg #[.int .u8 5, .int .u8 op, .int .i64 d, .int .i64 a, .int .i64 b, .int .i64 n, .slice A args.length c]] w fun r w' => r = .returned (.bool (plainB (5, op, d, a, b, n, args))) ∧ Below w.heap.size w w' := by
 have mixed : Try.prog.follows .mixedOrders = true := by kernel_rfl
 rcases bad4 op d n args.length with ⟨rfl, rfl, rfl, hl⟩ | bz | ⟨rfl, bz⟩ | ⟨rfl, rfl, bz⟩ | ⟨rfl, rfl, rfl, bz⟩
 any_goals try (obtain rfl : args = [] := List.eq_nil_of_length_eq_zero (by omega); clear hl)
 all_goals
  go_enter Try.func141, Try.ntmps141
  go_wp2
  refine rk_start (fun g => g = w.heap.size + 1) (by kernel_rfl) (n := 8) (l := (bl 8 0)) (by kernel_rfl) (by kernel_rfl) ?_
  refine kt 0 (bl 8 1) rfl (fun w' hR => by go_simp; first | done | with_reducible rfl) rfl ?_
  try simp only [Act.put, pB, pC, pD]
  refine kt 1 (bl 8 3) rfl (fun w' hR => by have x0 := cell_at (old_cells hR) 3 _ rfl; go_simp; first | done | with_reducible rfl) rfl ?_
  try simp only [Act.put, pB, pC, pD]
  refine kt 2 (bl 8 7) rfl (fun w' hR => by go_simp; first | done | with_reducible rfl) rfl ?_
  try simp only [Act.put, pB, pC, pD]
  refine kt 3 (bl 8 15) rfl (fun w' hR => by have x0 := cell_at (old_cells hR) 4 _ rfl; go_simp; first | done | with_reducible rfl) rfl ?_
  try simp only [Act.put, pB, pC, pD]
  refine kt 4 (bl 8 31) rfl (fun w' hR => by go_simp; first | done | with_reducible rfl) rfl ?_
  try simp only [Act.put, pB, pC, pD]
  refine rk_step (fuel := 2) 5 rfl (by kernel_rfl) (listed' := (bl 8 63)) (by kernel_rfl) (by kernel_rfl) (fun K' hK => ?_)
  go_wp2_with fail
  refine hK.out _ _ (keep_last _ _ (by rw [World.size_alloc]) _ _) ?_
  clear hK K'
  try simp only [Act.put, pB, pC, pD]
  refine kt 6 (bl 8 127) rfl (fun w' hR => by go_simp; first | done | with_reducible rfl) rfl ?_
  try simp only [Act.put, pB, pC, pD]
  refine rk_step (fuel := 0) 7 rfl (by kernel_rfl) (listed' := (bl 8 255)) (by kernel_rfl) (by kernel_rfl) (fun K' hK => ?_)
  go_wp2_with fail
  refine hK.out _ _ (keep_last _ _ (by rw [World.size_alloc]) _ _) ?_
  clear hK K'
  try simp only [Act.put, pB, pC, pD]
  refine rk_done (by kernel_rfl) ?_
  go_wp2
  go_ret
  refine ⟨?_, (((Below.refl _ _).alloc (Nat.le_refl _) _).alloc (by simp only [World.size_alloc]; omega) _).drew⟩
  first | rfl | (simp at bz; simp [plainB, bz]) | simp [plainB] | (simp [plainB]; done)
set_option maxHeartbeats 1000000 in
set_option maxRecDepth 100000 in
theorem plain6 (op d a b n : Int) (args : List Int) (A : Option Addr) (c : Nat) (w : World) : Calls Try.prog 141 #[.agg #[.int .u8 6, .int .u8 op, .int .i64 d, .int .i64 a, .int .i64 b, .int .i64 n, .slice A args.length c]] w fun r w' => r = .returned (.bool (plainB (6, op, d, a, b, n, args))) ∧ Below w.heap.size w w' := by
 have mixed : Try.prog.follows .mixedOrders = true := by kernel_rfl
 rcases bad4 op a b args.length with ⟨rfl, rfl, rfl, hl⟩ | bz | ⟨rfl, bz⟩ | ⟨rfl, rfl, bz⟩ | ⟨rfl, rfl, rfl, bz⟩
 any_goals try (obtain rfl : args = [] := List.eq_nil_of_length_eq_zero (by omega); clear hl)
 all_goals
  go_enter Try.func141, Try.ntmps141
  go_wp2
  refine rk_start (fun g => g = w.heap.size + 1) (by kernel_rfl) (n := 8) (l := (bl 8 0)) (by kernel_rfl) (by kernel_rfl) ?_
  refine kt 0 (bl 8 1) rfl (fun w' hR => by go_simp; first | done | with_reducible rfl) rfl ?_
  try simp only [Act.put, pB, pC, pD]
  refine kt 1 (bl 8 3) rfl (fun w' hR => by have x0 := cell_at (old_cells hR) 2 _ rfl; go_simp; first | done | with_reducible rfl) rfl ?_
  try simp only [Act.put, pB, pC, pD]
  refine kt 2 (bl 8 7) rfl (fun w' hR => by go_simp; first | done | with_reducible rfl) rfl ?_
  try simp only [Act.put, pB, pC, pD]
  refine kt 3 (bl 8 15) rfl (fun w' hR => by have x0 := cell_at (old_cells hR) 5 _ rfl; go_simp; first | done | with_reducible rfl) rfl ?_
  try simp only [Act.put, pB, pC, pD]
  refine kt 4 (bl 8 31) rfl (fun w' hR => by go_simp; first | done | with_reducible rfl) rfl ?_
  try simp only [Act.put, pB, pC, pD]
  refine rk_step (fuel := 2) 5 rfl (by kernel_rfl) (listed' := (bl 8 63)) (by kernel_rfl) (by kernel_rfl) (fun K' hK => ?_)
  go_wp2_with fail
  refine hK.out _ _ (keep_last _ _ (by rw [World.size_alloc]) _ _) ?_
  clear hK K'
  try simp only [Act.put, pB, pC, pD]
  refine kt 6 (bl 8 127) rfl (fun w' hR => by go_simp; first | done | with_reducible rfl) rfl ?_
  try simp only [Act.put, pB, pC, pD]
  refine rk_step (fuel := 0) 7 rfl (by kernel_rfl) (listed' := (bl 8 255)) (by kernel_rfl) (by kernel_rfl) (fun K' hK => ?_)
  go_wp2_with fail
  refine hK.out _ _ (keep_last _ _ (by rw [World.size_alloc]) _ _) ?_
  clear hK K'
  try simp only [Act.put, pB, pC, pD]
  refine rk_done (by kernel_rfl) ?_
  go_wp2
  go_ret
  refine ⟨?_, (((Below.refl _ _).alloc (Nat.le_refl _) _).alloc (by simp only [World.size_alloc]; omega) _).drew⟩
  first | rfl | (simp at bz; simp [plainB, bz]) | simp [plainB] | (simp [plainB]; done)
theorem plain_calls (k op d a b n : Int) (args : List Int) (A : Option Addr) (c : Nat) (w : World) (hk : 1 ≤ k ∧ k ≤ 6) : Calls Try.prog 141 #[(.agg #[.int .u8 k, .int .u8 op, .int .i64 d, .int .i64 a, .int .i64 b, .int .i64 n, .slice A args.length c])] w fun r w' => r = .returned (.bool (plainB (k, op, d, a, b, n, args))) ∧ Below w.heap.size w w' := by
 rcases (by omega : k = 1 ∨ k = 2 ∨ k = 3 ∨ k = 4 ∨ k = 5 ∨ k = 6) with rfl | rfl | rfl | rfl | rfl | rfl
 · exact plain1 op d a b n args A c w
 · exact plain2 op d a b n args A c w
 · exact plain3 op d a b n args A c w
 · exact plain4 op d a b n args A c w
 · exact plain5 op d a b n args A c w
 · exact plain6 op d a b n args A c w
end Go.Proofs.Ytnckonglodmfeaa.Ik
namespace Go.Proofs.Ytnckonglodmfeaa.Ik
open Go.RowKit Go.Proofs.YtnckonglodmfeaaW.PrintWords Go.Proofs.YtnckonglodmfeaaW.PrintLast Go.Proofs.YtnckonglodmfeaaW.PrintMore B R S Is
theorem C_lit (k : IntKind) (e : Nat) (W : World) (xs : List Int) (n : Nat) (hn : xs.length = n) (h : n ≤ maxLen) : (Kd.int k).C (W.alloc (.cells (xs.map (Value.int k)).toArray e)) (some ⟨W.heap.size, 0, none⟩) n xs := by
 subst hn
 obtain ⟨A, c, he, -, hC⟩ := Kd.R_reads (R_litN k e W xs h)
 injection he with e1 e2 e3
 subst e1
 exact hC
def BoxC (W' : World) (g : Nat) (k op d a b n : Int) (s : Value) : Prop :=
 W'.cell? ⟨g, 0, none⟩ = some (.int .u8 k) ∧ W'.cell? ⟨g, 1, none⟩ = some (.int .u8 op) ∧ W'.cell? ⟨g, 2, none⟩ = some (.int .i64 d) ∧ W'.cell? ⟨g, 3, none⟩ = some (.int .i64 a) ∧ W'.cell? ⟨g, 4, none⟩ = some (.int .i64 b) ∧ W'.cell? ⟨g, 5, none⟩ = some (.int .i64 n) ∧ W'.cell? ⟨g, 6, none⟩ = some s
theorem box_cells {w W' : World} {k op d a b n : Int} {s : Value} {e : Nat} (h : Below (w.heap.size + 1) (w.alloc (.cells #[.int .u8 k, .int .u8 op, .int .i64 d, .int .i64 a, .int .i64 b, .int .i64 n, s] e)) W') : BoxC W' w.heap.size k op d a b n s := by
 have h := below_cells (h.mono (by rw [World.size_alloc]; omega))
 exact ⟨cell_at h 0 _ rfl, cell_at h 1 _ rfl, cell_at h 2 _ rfl, cell_at h 3 _ rfl, cell_at h 4 _ rfl, cell_at h 5 _ rfl, cell_at h 6 _ rfl⟩
def okK (k op : Int) : Prop := (1 ≤ k ∧ k ≤ 6 ∧ k ≠ 3) ∨ (k = 3 ∧ 1 ≤ op ∧ op ≤ 7)
theorem ins_v (v k op d a b n : Int) (args : List Int) : insErr v (-1) (k, op, d, a, b, n, args) = if k < 1 ∨ 6 < k ∨ plainB (k, op, d, a, b, n, args) = false ∨ (k = 3 ∧ (op < 1 ∨ 7 < op)) then 20 else if 3 < args.length then 25 else if (allL (k, op, d, a, b, n, args)).any (outB v) then 21 else if (k = 7 ∧ (d < 0 ∨ -1 ≤ d)) ∨ (k = 8 ∧ (a < 0 ∨ -1 ≤ a)) then 24 else 0 := rfl
theorem ins_bad {v : Int} {k op d a b n : Int} {args : List Int} (h : ¬ okK k op ∨ plainB (k, op, d, a, b, n, args) = false) : insErr v (-1) (k, op, d, a, b, n, args) = 20 := by
 rw [ins_v, if_pos]
 simp only [okK] at h
 rcases h with h | h
 · omega
 · exact .inr (.inr (.inl h))
theorem ins_many {v : Int} {k op d a b n : Int} {args : List Int} (h : okK k op) (hp : plainB (k, op, d, a, b, n, args) = true) (hl : 3 < args.length) : insErr v (-1) (k, op, d, a, b, n, args) = 25 := by
 simp only [okK] at h
 rw [ins_v, if_neg, if_pos hl]
 rw [hp]
 simp only [Bool.true_eq_false, false_or]
 omega
theorem ins_regs {v : Int} {k op d a b n : Int} {args : List Int} (h : okK k op) (hp : plainB (k, op, d, a, b, n, args) = true) (hl : ¬ 3 < args.length) : insErr v (-1) (k, op, d, a, b, n, args) = if (allL (k, op, d, a, b, n, args)).any (outB v) then 21 else 0 := by
 simp only [okK] at h
 rw [ins_v, if_neg, if_neg hl]
 · congr 1
   rw [if_neg]
   omega
 rw [hp]
 simp only [Bool.true_eq_false, false_or]
 omega
theorem uses_len (k op d a b n : Int) (args : List Int) (h : args.length ≤ 3) : (usesL (k, op, d, a, b, n, args)).length ≤ 3 := by
 simp only [usesL]
 repeat' split
 all_goals first | omega | simp
set_option maxHeartbeats 4000000 in
set_option maxRecDepth 100000 in
theorem of_calls (k op d a b n v : Int) (args : List Int) (A : Option Addr) (c : Nat) (w : World) (hC : kI.C w A args.length args) :
 Calls Try.prog 118 #[(.agg #[.int .u8 k, .int .u8 op, .int .i64 d, .int .i64 a, .int .i64 b, .int .i64 n, .slice A args.length c]), .int .i64 v] w fun r w' => r = .returned (.int .i64 (insErr v (-1) (k, op, d, a, b, n, args))) ∧ Below w.heap.size w w' := by
 have mixed : Try.prog.follows .mixedOrders = true := by kernel_rfl
 by_cases hok : okK k op
 rotate_left
 · rw [ins_bad (.inl hok)]
   have hk : k < 1 ∨ (¬ k < 1 ∧ 6 < k) ∨ (k = 3 ∧ op < 1) ∨ (k = 3 ∧ ¬ op < 1 ∧ 7 < op) := by simp only [okK] at hok; omega
   clear hok
   rcases hk with h1 | ⟨h1, h2⟩ | ⟨rfl, h1⟩ | ⟨rfl, h1, h2⟩
   all_goals
    go_enter Try.func118, Try.ntmps118
    go_wp2
    go_ret
    exact ⟨rfl, (Below.refl _ _).alloc (Nat.le_refl _) _⟩
 have HOK := aM hok
 have HC := aM hC
 have HX := aM (fun W' h => box_cells (w := w) (W' := W') (k := k) (op := op) (d := d) (a := a) (b := b) (n := n) (s := .slice A args.length c) (e := 92) h)
 have HA := aM (show Below w.heap.size w (w.alloc (.cells #[.int .u8 k, .int .u8 op, .int .i64 d, .int .i64 a, .int .i64 b, .int .i64 n, .slice A args.length c] 92)) from (Below.refl _ _).alloc (Nat.le_refl _) _)
 have HSZ := aM (World.size_alloc w (.cells #[.int .u8 k, .int .u8 op, .int .i64 d, .int .i64 a, .int .i64 b, .int .i64 n, .slice A args.length c] 92))
 have hk : (¬ k < 1 ∧ ¬ 6 < k ∧ (k == 3) = false) ∨ (k = 3 ∧ ¬ op < 1 ∧ ¬ 7 < op) := by simp only [okK] at hok; simp only [beq_eq_false_iff_ne]; omega
 clear hok hC
 have HP := aM (show ∀ W, Calls Try.prog 141 #[(.agg #[.int .u8 k, .int .u8 op, .int .i64 d, .int .i64 a, .int .i64 b, .int .i64 n, .slice A args.length c])] W fun r w' => r = .returned (.bool (plainB (k, op, d, a, b, n, args))) ∧ Below W.heap.size W w' from fun W => plain_calls k op d a b n args A c W (by have := HOK.out; simp only [okK] at this; omega))
 cases hp : plainB (k, op, d, a, b, n, args) with
 | false =>
  rw [hp] at HP
  rw [ins_bad (.inr hp)]
  clear hp
  rcases hk with ⟨h1, h2, h3⟩ | ⟨rfl, h1, h2⟩
  all_goals
   go_enter Try.func118, Try.ntmps118
   go_wp2_with (go_at_call 141; refine (HP.out _).mono ?_; rintro _ w1 ⟨rfl, hb⟩; have HB := aM hb; clear hb)
   go_ret
   exact ⟨rfl, HA.out.trans (HB.out.mono HA.out.size)⟩
 | true =>
  rw [hp] at HP
  by_cases hl : 3 < args.length
  · rw [ins_many HOK.out hp hl]
    clear hp
    rcases hk with ⟨h1, h2, h3⟩ | ⟨rfl, h1, h2⟩
    all_goals
     go_enter Try.func118, Try.ntmps118
     go_wp2_with (go_at_call 141; refine (HP.out _).mono ?_; rintro _ w1 ⟨rfl, hb⟩; obtain ⟨c0, c1, c2, c3, c4, c5, c6⟩ := HX.out w1 (hb.mono (by rw [HSZ.out]; exact Nat.le_refl _)); have HB := aM hb; clear hb)
     go_ret
     exact ⟨rfl, HA.out.trans (HB.out.mono HA.out.size)⟩
  rw [ins_regs HOK.out hp hl]
  obtain ⟨L, hL⟩ : ∃ L, allL (k, op, d, a, b, n, args) = L := ⟨_, rfl⟩
  obtain ⟨U, hU⟩ : ∃ U, usesL (k, op, d, a, b, n, args) = U := ⟨_, rfl⟩
  have HU := aM (show ∀ W, Below w.heap.size w W → Calls Try.prog 137 #[(.agg #[.int .u8 k, .int .u8 op, .int .i64 d, .int .i64 a, .int .i64 b, .int .i64 n, .slice A args.length c])] W fun r w' => ∃ v, r = .returned v ∧ kI.R 3 w' W.heap.size (fun _ => True) v U ∧ Below W.heap.size W w' from fun W hW => by rw [← hU]; exact uses_calls k op d a b n args A c W (Kd.C_below HC.out hW) (by omega))
  have HUL := aM (show U.length ≤ 3 by rw [← hU]; exact uses_len k op d a b n args (by omega))
  rw [hL]
  clear hp
  have hal : L = U ++ if givesB k then [d] else [] := by rw [← hL, ← hU]; rfl
  clear hL hU
  have FIN := aM (show ∀ (vl : Value) (wz : World) (L : List Int), kI.R 3 wz w.heap.size (fun _ => True) vl L → ∃ (Al : Option Addr) (cl : Nat), vl = .slice Al L.length cl ∧ kI.C wz Al L.length L from fun vl wz L h => by
   obtain ⟨Al, cl, e, -, hC⟩ := Kd.R_reads h
   exact ⟨Al, cl, e, hC⟩)
  have hll : L.length ≤ 4 := by have := HUL.out; rw [hal]; split <;> simp <;> omega
  obtain ⟨EE, hEE⟩ : ∃ EE : Int, (if L.any (outB v) = true then (21 : Int) else 0) = EE := ⟨_, rfl⟩
  rw [hEE]
  have HE := aM hEE
  clear hEE
  cases hg : givesB k with
  | false =>
   have HG := aM hg
   rw [hg] at hal
   simp only [Bool.false_eq_true, if_false, List.append_nil] at hal
   subst hal
   clear hg
   rcases hk with ⟨h1, h2, h3⟩ | ⟨rfl, h1, h2⟩
   all_goals
    go_enter Try.func118, Try.ntmps118
    go_wp2_with (first | (go_at_call 141; refine (HP.out _).mono ?_; rintro _ w1 ⟨rfl, hb⟩; have HZ := aM (show Below (w.heap.size + 1) _ w1 from hb.mono (by rw [HSZ.out]; exact Nat.le_refl _)); obtain ⟨c0, c1, c2, c3, c4, c5, c6⟩ := HX.out w1 HZ.out; clear hb) | (go_at_call 137; refine (HU.out _ (HA.out.trans (HZ.out.mono (by omega)))).mono ?_; rintro _ w2 ⟨vu, rfl, ho, hb⟩; clear c0 c1 c2 c3 c4 c5 c6; have HS := aM (show w.heap.size + 1 ≤ w1.heap.size by have := HZ.out.size; rw [HSZ.out] at this; exact this); have HZ := aM (HZ.out.trans (hb.mono HS.out)); obtain ⟨c0, c1, c2, c3, c4, c5, c6⟩ := HX.out w2 HZ.out; obtain ⟨Au, cu, hvu, -, -⟩ := Kd.R_reads ho; subst hvu; have HO := aM (Kd.R_lower ho (show w.heap.size ≤ w1.heap.size by have := HS.out; omega)); clear ho hb) | (go_at_call 138; refine (gives_calls _ _ _ _ _ _ _ _ _ _).mono ?_; rintro _ wz ⟨rfl, hb⟩; rw [HG.out]; clear c0 c1 c2 c3 c4 c5 c6; have HO := aM (Kd.R_below HO.out hb); have HZ := aM (HZ.out.trans (hb.mono (by have := HS.out; have := HZ.out.size; have := HSZ.out; omega))); have HW := aM (HA.out.trans (HZ.out.mono (Nat.le_succ _))); clear hb))
    obtain ⟨Al, cl, e, hcl⟩ := FIN.out _ _ _ HO.out
    injection e with e1 e2 e3
    subst e1 e3
    have HCL := aM hcl
    clear hcl e2
    go_loopw [58] (fun vi wr => wr = wz ∧ ∃ j : Nat, j ≤ L.length ∧ vi = .int .i64 j ∧ Aside0 ((L.take j).any (outB v) = false)) (fun vi _ => L.length - (intOf vi).toNat)
    case atStart => exact ⟨rfl, 0, by omega, rfl, ⟨by simp⟩⟩
    case round =>
     obtain ⟨rfl, j, hj, rfl, HN⟩ := hrel
     by_cases hjl : j < L.length
     · obtain ⟨x, hx⟩ : ∃ x, L[j]? = some x := ⟨_, List.getElem?_eq_getElem hjl⟩
       obtain ⟨ad, rfl⟩ : ∃ ad, Au = some ad := by obtain ⟨ad, e, _⟩ := HCL.out.2.2 (by omega); exact ⟨ad, e⟩
       have hcx := C_cell HCL.out hx
       have HT := aM (show (L.take (j + 1)).any (outB v) = outB v x by rw [List.take_add_one, hx, List.any_append, HN.out]; simp)
       have HY := aM (show outB v x = true → L.any (outB v) = true from fun h => List.any_eq_true.2 ⟨x, List.mem_of_getElem? hx, h⟩)
       clear hx
       rcases (by omega : x < 0 ∨ (¬ x < 0 ∧ v ≤ x) ∨ (¬ x < 0 ∧ ¬ v ≤ x)) with hx0 | ⟨hx0, hx1⟩ | ⟨hx0, hx1⟩
       · go_wp2
         go_ret
         exact ⟨by rw [← HE.out, HY.out (decide_eq_true (.inl hx0))]; rfl, HW.out⟩
       · go_wp2
         go_ret
         exact ⟨by rw [← HE.out, HY.out (decide_eq_true (.inr hx1))]; rfl, HW.out⟩
       · have HN := aM (HT.out.trans (decide_eq_false (by omega)))
         go_wp2
         go_roundw
         case rel => exact ⟨by first | rfl | trivial, j + 1, by omega, by go_num, HN⟩
         case measure => simp [intOf]; omega
     · obtain rfl : j = L.length := by omega
       have hn := HN.out
       rw [List.take_length] at hn
       have HN := aM hn
       clear hn
       go_wp2
       go_ret
       exact ⟨by rw [← HE.out, HN.out]; rfl, HW.out⟩
  | true =>
   have HG := aM hg
   rw [hg] at hal
   simp only [if_true] at hal
   have HAL := aM hal
   clear hg hal
   rcases hk with ⟨h1, h2, h3⟩ | ⟨rfl, h1, h2⟩
   all_goals
    go_enter Try.func118, Try.ntmps118
    go_wp2_with (first | (go_at_call 141; refine (HP.out _).mono ?_; rintro _ w1 ⟨rfl, hb⟩; have HZ := aM (show Below (w.heap.size + 1) _ w1 from hb.mono (by rw [HSZ.out]; exact Nat.le_refl _)); obtain ⟨c0, c1, c2, c3, c4, c5, c6⟩ := HX.out w1 HZ.out; clear hb) | (go_at_call 137; refine (HU.out _ (HA.out.trans (HZ.out.mono (by omega)))).mono ?_; rintro _ w2 ⟨vu, rfl, ho, hb⟩; clear c0 c1 c2 c3 c4 c5 c6; have HS := aM (show w.heap.size + 1 ≤ w1.heap.size by have := HZ.out.size; rw [HSZ.out] at this; exact this); have HZ := aM (HZ.out.trans (hb.mono HS.out)); obtain ⟨c0, c1, c2, c3, c4, c5, c6⟩ := HX.out w2 HZ.out; obtain ⟨Au, cu, hvu, -, -⟩ := Kd.R_reads ho; subst hvu; have HO := aM (Kd.R_lower ho (show w.heap.size ≤ w1.heap.size by have := HS.out; omega)); clear ho hb) | (go_at_call 138; refine (gives_calls _ _ _ _ _ _ _ _ _ _).mono ?_; rintro _ w3 ⟨rfl, hb⟩; rw [HG.out]; clear c0 c1 c2 c3 c4 c5 c6; have HO := aM (Kd.R_below HO.out hb); have HZ := aM (HZ.out.trans (hb.mono (by have := HS.out; have := HZ.out.size; have := HSZ.out; omega))); have HW := aM (HA.out.trans (HZ.out.mono (Nat.le_succ _))); clear hb) | ((with_reducible refine gate_builtin (b := .append) (xs := #[.tmp 52, .tmp 54]) rfl ?_); at_builtin; refine Kd.R_append_rows kI (w0 := w) w.heap.size rfl (.tmp 52) (.tmp 54) 31 3 (.int .i64 0) 8 rfl Try.underlying31 infoI rfl (by decide) (by omega) (.slice Au U.length cu) U [d] _ _ _ (fun _ => True) (fun _ => False) rfl rfl ?aO ?aR (fun _ _ h => h) (fun _ h => h.elim) ?aF ?aB ?aS ?aL ?_; (case aR => exact (C_lit .i64 _ _ [d] 1 rfl (by decide))); (case aB => exact (HW.out.alloc HW.out.size _)); (case aF => exact (fun _ _ => trivial)); (case aO => exact (Kd.R_below HO.out ((Below.refl _ _).alloc (Nat.le_refl _) _))); (case aS => (simp only [World.size_alloc]; have := HW.out.size; omega)); (case aL => (have := HUL.out; simp; omega)); (intro v1 wz ho hb1 hg hat; rw [← HAL.out] at ho; obtain ⟨Al, cl, e, hcl⟩ := FIN.out _ _ _ ho; subst e; have HCL := aM hcl; have HW := aM hb1; clear ho hb1 hg hat hcl)))
    go_loopw [58] (fun vi wr => wr = wz ∧ ∃ j : Nat, j ≤ L.length ∧ vi = .int .i64 j ∧ Aside0 ((L.take j).any (outB v) = false)) (fun vi _ => L.length - (intOf vi).toNat)
    case atStart => exact ⟨rfl, 0, by omega, rfl, ⟨by simp⟩⟩
    case round =>
     obtain ⟨rfl, j, hj, rfl, HN⟩ := hrel
     by_cases hjl : j < L.length
     · obtain ⟨x, hx⟩ : ∃ x, L[j]? = some x := ⟨_, List.getElem?_eq_getElem hjl⟩
       obtain ⟨ad, rfl⟩ : ∃ ad, Al = some ad := by obtain ⟨ad, e, _⟩ := HCL.out.2.2 (by omega); exact ⟨ad, e⟩
       have hcx := C_cell HCL.out hx
       have HT := aM (show (L.take (j + 1)).any (outB v) = outB v x by rw [List.take_add_one, hx, List.any_append, HN.out]; simp)
       have HY := aM (show outB v x = true → L.any (outB v) = true from fun h => List.any_eq_true.2 ⟨x, List.mem_of_getElem? hx, h⟩)
       clear hx
       rcases (by omega : x < 0 ∨ (¬ x < 0 ∧ v ≤ x) ∨ (¬ x < 0 ∧ ¬ v ≤ x)) with hx0 | ⟨hx0, hx1⟩ | ⟨hx0, hx1⟩
       · go_wp2
         go_ret
         exact ⟨by rw [← HE.out, HY.out (decide_eq_true (.inl hx0))]; rfl, HW.out⟩
       · go_wp2
         go_ret
         exact ⟨by rw [← HE.out, HY.out (decide_eq_true (.inr hx1))]; rfl, HW.out⟩
       · have HN := aM (HT.out.trans (decide_eq_false (by omega)))
         go_wp2
         go_roundw
         case rel => exact ⟨by first | rfl | trivial, j + 1, by omega, by go_num, HN⟩
         case measure => simp [intOf]; omega
     · obtain rfl : j = L.length := by omega
       have hn := HN.out
       rw [List.take_length] at hn
       have HN := aM hn
       clear hn
       go_wp2
       go_ret
       exact ⟨by rw [← HE.out, HN.out]; rfl, HW.out⟩
end Go.Proofs.Ytnckonglodmfeaa.Ik
namespace Go.Proofs.Ytnckonglodmfeaa.Ik
open Go.RowKit Go.Proofs.YtnckonglodmfeaaW.PrintWords Go.Proofs.YtnckonglodmfeaaW.PrintLast Go.Proofs.YtnckonglodmfeaaW.PrintMore B R S Is
set_option maxHeartbeats 1000000 in
set_option maxRecDepth 100000 in
theorem ends_calls (k a t e v m : Int) (w : World) : Calls Try.prog 119 #[.agg #[.int .u8 k, .int .i64 a, .int .i64 t, .int .i64 e], .int .i64 v, .int .i64 m] w fun r w' => r = .returned (.int .i64 (endErr v m 21 (k, a, t, e))) ∧ Below w.heap.size w w' := by
 have mixed : Try.prog.follows .mixedOrders = true := by kernel_rfl
 have hk : k = 1 ∨ k = 2 ∨ k = 3 ∨ (k < 1) ∨ (¬ k < 1 ∧ 3 < k) := by omega
 rcases hk with rfl | rfl | rfl | h1 | ⟨h1, h2⟩
 all_goals
  go_enter Try.func119, Try.ntmps119
  go_wp2_with (go_at_call 106; refine (last_calls _ _ _ _ _).mono ?_; rintro _ w1 ⟨rfl, hb⟩; (first | rw [show takesB 1 = false from rfl] | rw [show takesB 2 = true from rfl] | rw [show takesB 3 = true from rfl] | skip); have hc0 := cell_at (below_cells hb) 0 _ rfl; have hc1 := cell_at (below_cells hb) 1 _ rfl; have hc2 := cell_at (below_cells hb) 2 _ rfl; have hc3 := cell_at (below_cells hb) 3 _ rfl; have HB := aM hb; clear hb)
  all_goals
   go_ret
   refine ⟨?_, ((Below.refl _ _).alloc (Nat.le_refl _) _).trans (HB.out.mono (by rw [World.size_alloc]; omega))⟩
   have HE : ∀ x y : Int, x = y → Ending.returned (Value.int .i64 x) = .returned (.int .i64 y) := fun x y h => by rw [h]
   refine HE _ _ ?_
   simp only [endErr]
   repeat' split
   all_goals first | rfl | omega | (clear hc0 hc1 hc2 hc3 HB HE; simp only [true_and, and_true, false_or, or_false, false_and, and_false, or_true, true_or, not_true_eq_false, not_false_eq_true, bne_iff_ne, ne_eq, bne_eq_false_iff_eq, beq_iff_eq, takesB, decide_eq_true_eq, decide_eq_false_iff_not, Bool.not_eq_true'] at *; first | omega | (trace_state; omega))
end Go.Proofs.Ytnckonglodmfeaa.Ik
namespace Go.Proofs.Ytnckonglodmfeaa.Ik
open Go.RowKit Go.Proofs.YtnckonglodmfeaaW.PrintWords Go.Proofs.YtnckonglodmfeaaW.PrintLast Go.Proofs.YtnckonglodmfeaaW.PrintMore B R S Is
def FaultIs (e : Int) (r : Ending) : Prop := ∃ x y : Int, r = .returned (.agg #[.int .i64 e, .int .i64 x, .int .i64 y])
theorem firstN_hit {l : List Int} {k : Nat} {x : Int} (h : firstN (l.take k) = 0) (hk : l[k]? = some x) (hx : x ≠ 0) : firstN l = x := by
 have h1 := firstN_take h hk
 rw [← h1] at hx
 rw [firstN_pre hx, h1]
theorem two_cells {w W' : World} {c1 c2 : Array Value} {e1 e2 : Nat} (h : Below (w.heap.size + 2) ((w.alloc (.cells c1 e1)).alloc (.cells c2 e2)) W') : W'.heap[w.heap.size]? = some (.cells c1 e1) ∧ W'.heap[w.heap.size + 1]? = some (.cells c2 e2) := by
 constructor
 · rw [h.block _ (by omega), heap_alloc_old _ _ (by rw [World.size_alloc]; omega), heap_alloc_new]
 · rw [h.block _ (by omega), ← World.size_alloc w (.cells c1 e1), heap_alloc_new]
theorem addr_ne {g i j : Nat} (h : i ≠ j) : (⟨g, i, none⟩ : Addr) ≠ ⟨g, j, none⟩ := by
 intro e
 injection e with e1 e2
 exact h e2
theorem fault_set {W : World} {g : Nat} {u0 u1 u2 : Value} (r0 : W.cell? ⟨g, 0, none⟩ = some u0) (r1 : W.cell? ⟨g, 1, none⟩ = some u1) (r2 : W.cell? ⟨g, 2, none⟩ = some u2) :
 ∀ x y z : Value, (((W.setCell ⟨g, 0, none⟩ x).setCell ⟨g, 1, none⟩ y).setCell ⟨g, 2, none⟩ z).cell? ⟨g, 0, none⟩ = some x ∧ (((W.setCell ⟨g, 0, none⟩ x).setCell ⟨g, 1, none⟩ y).setCell ⟨g, 2, none⟩ z).cell? ⟨g, 1, none⟩ = some y ∧ (((W.setCell ⟨g, 0, none⟩ x).setCell ⟨g, 1, none⟩ y).setCell ⟨g, 2, none⟩ z).cell? ⟨g, 2, none⟩ = some z := by
 intro x y z
 have o : ∀ (W : World) (i j : Nat) (h : i ≠ j) (x : Value), (W.setCell ⟨g, i, none⟩ x).cell? ⟨g, j, none⟩ = W.cell? ⟨g, j, none⟩ := fun W i j h x => World.cell?_setCell_other _ _ _ _ (addr_ne h)
 refine ⟨?_, ?_, ?_⟩
 · rw [o _ 2 0 (by decide), o _ 1 0 (by decide)]
   exact World.cell?_setCell_same _ _ _ r0
 · rw [o _ 2 1 (by decide)]
   exact World.cell?_setCell_same _ _ _ ((o _ 0 1 (by decide) _).trans r1)
 · exact World.cell?_setCell_same _ _ _ ((o _ 1 2 (by decide) _).trans ((o _ 0 2 (by decide) _).trans r2))
theorem below_set {B g : Nat} {w W : World} (h : Below B w W) (hB : B ≤ g) (x y z : Value) : Below B w (((W.setCell ⟨g, 0, none⟩ x).setCell ⟨g, 1, none⟩ y).setCell ⟨g, 2, none⟩ z) := ((h.setCell hB _).setCell hB _).setCell hB _
set_option maxHeartbeats 4000000 in
set_option maxRecDepth 100000 in
theorem check_calls (p v : Int) (l : List Blk) (A : Option Addr) (c : Nat) (w : World) (hC : kBlk.C w A l.length l) (hll : l.length ≤ 100000) :
 Calls Try.prog 85 #[.agg #[.int .i64 p, .int .i64 v, .slice A l.length c]] w fun r w' => FaultIs (funcErr (p, v, l)) r ∧ Below w.heap.size w w' := by
 have mixed : Try.prog.follows .mixedOrders = true := by kernel_rfl
 by_cases hb : p < 0 ∨ 4 < p ∨ v < p ∨ 32 < v ∨ l.length < 1 ∨ 16 < l.length
 · rw [show funcErr (p, v, l) = 2 from if_pos hb]
   have hb : p < 0 ∨ (¬ p < 0 ∧ 4 < p) ∨ (¬ p < 0 ∧ ¬ 4 < p ∧ v < p) ∨ (¬ p < 0 ∧ ¬ 4 < p ∧ ¬ v < p ∧ 32 < v) ∨ (¬ p < 0 ∧ ¬ 4 < p ∧ ¬ v < p ∧ ¬ 32 < v ∧ (l.length : Int) < 1) ∨ (¬ p < 0 ∧ ¬ 4 < p ∧ ¬ v < p ∧ ¬ 32 < v ∧ ¬ (l.length : Int) < 1 ∧ 16 < (l.length : Int)) := by omega
   clear hC
   rcases hb with h1 | ⟨h1, h2⟩ | ⟨h1, h2, h3⟩ | ⟨h1, h2, h3, h4⟩ | ⟨h1, h2, h3, h4, h5⟩ | ⟨h1, h2, h3, h4, h5, h6⟩
   all_goals
    go_enter Try.func85, Try.ntmps85
    go_wp2
    go_returns
    exact ⟨⟨_, _, rfl⟩, ((Below.refl _ _).alloc (Nat.le_refl _) _).alloc (by rw [World.size_alloc]; omega) _⟩
 · obtain ⟨FE, hFE⟩ : ∃ FE, funcErr (p, v, l) = FE := ⟨_, rfl⟩
   rw [hFE]
   have HFE := aM (show firstN (l.map (blkErr v (-1) 32 l.length)) = FE from (if_neg hb).symm.trans hFE)
   have HC := aM hC
   have h1 : ¬ p < 0 := by omega
   have h2 : ¬ 4 < p := by omega
   have h3 : ¬ v < p := by omega
   have h4 : ¬ 32 < v := by omega
   have h5 : ¬ (l.length : Int) < 1 := by omega
   have h6 : ¬ 16 < (l.length : Int) := by omega
   clear hFE hb hC
   obtain ⟨W0, hW0⟩ : ∃ W0, W0 = (w.alloc (.cells #[.int .i64 p, .int .i64 v, .slice A l.length c] 25)).alloc (.cells #[.int .i64 0, .int .i64 0, .int .i64 0] 75) := ⟨_, rfl⟩
   have HX := aM (show ∀ W', Below (w.heap.size + 2) W0 W' → W'.cell? ⟨w.heap.size, 0, none⟩ = some (.int .i64 p) ∧ W'.cell? ⟨w.heap.size, 1, none⟩ = some (.int .i64 v) ∧ W'.cell? ⟨w.heap.size, 2, none⟩ = some (.slice A l.length c) ∧ W'.cell? ⟨w.heap.size + 1, 0, none⟩ = some (.int .i64 0) ∧ W'.cell? ⟨w.heap.size + 1, 1, none⟩ = some (.int .i64 0) ∧ W'.cell? ⟨w.heap.size + 1, 2, none⟩ = some (.int .i64 0) ∧ W'.frozen? ⟨w.heap.size + 1, 0, none⟩ = false ∧ W'.frozen? ⟨w.heap.size + 1, 1, none⟩ = false ∧ W'.frozen? ⟨w.heap.size + 1, 2, none⟩ = false from fun W' h => by
    subst hW0
    obtain ⟨g, g'⟩ := two_cells h
    exact ⟨cell_at g 0 _ rfl, cell_at g 1 _ rfl, cell_at g 2 _ rfl, cell_at g' 0 _ rfl, cell_at g' 1 _ rfl, cell_at g' 2 _ rfl, blk_frozen g' 0, blk_frozen g' 1, blk_frozen g' 2⟩)
   have HA := aM (show Below w.heap.size w W0 by rw [hW0]; exact ((Below.refl _ _).alloc (Nat.le_refl _) _).alloc (by rw [World.size_alloc]; omega) _)
   have HSZ := aM (show W0.heap.size = w.heap.size + 2 by rw [hW0, World.size_alloc, World.size_alloc])
   go_enter Try.func85, Try.ntmps85
   go_wp2_with fail
   rw [← hW0]
   clear hW0
   go_loopw [45] (fun vi wr => ∃ j : Nat, j ≤ l.length ∧ vi = .int .i64 j ∧ Aside0 (firstN ((l.map (blkErr v (-1) 32 l.length)).take j) = 0) ∧ Aside0 (Below (w.heap.size + 2) W0 wr)) (fun vi _ => l.length - (intOf vi).toNat)
   case atStart => exact ⟨0, by omega, rfl, ⟨rfl⟩, ⟨Below.refl _ _⟩⟩
   case round =>
    obtain ⟨wo, hwo⟩ : ∃ wo, wo = wr := ⟨_, rfl⟩
    subst hwo
    obtain ⟨j, hj, rfl, HN, HZ⟩ := hrel
    obtain ⟨f0, f1, f2, -⟩ := HX.out wo HZ.out
    by_cases hjl : j < l.length
    · obtain ⟨⟨is, k, a, t, e⟩, hx⟩ : ∃ x, l[j]? = some x := ⟨_, List.getElem?_eq_getElem hjl⟩
      obtain ⟨ad, A1, n1, rfl, b0, b1, b2, b3, b4, hn1, hC1⟩ := blk_cells (Kd.C_below HC.out (HA.out.trans (HZ.out.mono (by omega)))) hx
      have HC1 := aM hC1
      have HIL := aM hC1.2.1
      have HMX := aM (show (l.map (blkErr v (-1) 32 l.length))[j]? = some (blkErr v (-1) 32 l.length (is, k, a, t, e)) by rw [List.getElem?_map, hx]; rfl)
      clear hx hC1
      obtain ⟨WA, hWA⟩ : ∃ WA, WA = wo.alloc (.cells #[.slice A1 is.length n1, .int .u8 k, .int .i64 a, .int .i64 t, .int .i64 e] 84) := ⟨_, rfl⟩
      have HBA := aM (show Below wo.heap.size wo WA by rw [hWA]; exact (Below.refl _ _).alloc (Nat.le_refl _) _)
      have HZA := aM (HZ.out.trans (HBA.out.mono (by have := HZ.out.size; have := HSZ.out; omega)))
      have HBX := aM (show ∀ W', Below (wo.heap.size + 1) WA W' → W'.cell? ⟨wo.heap.size, 0, none⟩ = some (.slice A1 is.length n1) ∧ W'.cell? ⟨wo.heap.size, 1, none⟩ = some (.int .u8 k) ∧ W'.cell? ⟨wo.heap.size, 2, none⟩ = some (.int .i64 a) ∧ W'.cell? ⟨wo.heap.size, 3, none⟩ = some (.int .i64 t) ∧ W'.cell? ⟨wo.heap.size, 4, none⟩ = some (.int .i64 e) from fun W' h => by
       subst hWA
       have g := below_cells (h.mono (by rw [World.size_alloc]; omega))
       exact ⟨cell_at g 0 _ rfl, cell_at g 1 _ rfl, cell_at g 2 _ rfl, cell_at g 3 _ rfl, cell_at g 4 _ rfl⟩)
      have HSA := aM (show WA.heap.size = wo.heap.size + 1 by rw [hWA, World.size_alloc])
      go_upto_region 6 with fail
      rw [← hWA]
      clear hWA b0 b1 b2 b3 b4 f0 f1 f2
      obtain ⟨b0, b1, b2, b3, b4⟩ := HBX.out WA (Below.refl _ _)
      obtain ⟨f0, f1, f2, r0, r1, r2, r3, r4, r5⟩ := HX.out WA HZA.out
      by_cases hmany : 32 < is.length
      · have HE := aM (show FE = 9 by rw [← HFE.out]; exact (firstN_hit HN.out HMX.out (by simp [blkErr, hmany])).trans (by simp [blkErr, hmany]))
        go_wp2
        (have q := fault_set r0 r1 r2; have q0 := fun x y z => (q x y z).1; have q1 := fun x y z => (q x y z).2.1; have q2 := fun x y z => (q x y z).2.2; clear q; (try simp only [Exit.inBlock, Exit.then]); refine bodyPost_ret (by simp [results, Try.results85, go_sem, q0, q1, q2]; try rfl) rfl ?_)
        exact ⟨⟨_, _, by rw [HE.out]⟩, below_set (HA.out.trans (HZA.out.mono (by omega))) (by omega) _ _ _⟩
      · obtain ⟨En, hEn⟩ : ∃ En, endErr v l.length 21 (k, a, t, e) = En := ⟨_, rfl⟩
        obtain ⟨M, hM⟩ : ∃ M, is.map (insErr v (-1)) ++ [En] = M := ⟨_, rfl⟩
        have HEN := aM hEn
        have HME := aM (show blkErr v (-1) 32 l.length (is, k, a, t, e) = firstN M by rw [← hM, ← hEn]; exact if_neg hmany)
        have HML := aM (show M[is.length]? = some En by rw [← hM]; simp)
        have HMS := aM (show M.length = is.length + 1 by rw [← hM]; simp)
        have HMI := aM (show ∀ (i : Nat) (q : Ins), is[i]? = some q → M[i]? = some (insErr v (-1) q) from fun i q h => by
         have hi := (List.getElem?_eq_some_iff.1 h).1
         rw [← hM, List.getElem?_append_left (by simpa using hi), List.getElem?_map, h]; rfl)
        have HHIT := aM (show ∀ (i : Nat) (y : Int), firstN (M.take i) = 0 → M[i]? = some y → y ≠ 0 → FE = y from fun i y h1 h2 h3 => by
         have h4 := firstN_hit h1 h2 h3
         rw [← HFE.out, firstN_hit HN.out HMX.out (by rw [HME.out, h4]; exact h3), HME.out, h4])
        clear hEn hM r0 r1 r2 r3 r4 r5
        go_wp2_with fail
        go_loopw [59] (fun vi wi => ∃ i : Nat, i ≤ is.length ∧ vi = .int .i64 i ∧ Aside0 (firstN (M.take i) = 0) ∧ Aside0 (Below (wo.heap.size + 1) WA wi)) (fun vi _ => is.length - (intOf vi).toNat)
        case atStart => exact ⟨0, by omega, rfl, ⟨rfl⟩, ⟨Below.refl _ _⟩⟩
        case round =>
         clear b0 b1 b2 b3 b4 f0 f1 f2
         obtain ⟨wi, hwi⟩ : ∃ wi, wi = wr := ⟨_, rfl⟩
         subst hwi
         obtain ⟨i, hi, rfl, HNi, HBi⟩ := hrel
         have HZi := aM (HZA.out.trans (HBi.out.mono (by have := HZ.out.size; have := HSZ.out; omega)))
         obtain ⟨b0, b1, b2, b3, b4⟩ := HBX.out wi HBi.out
         obtain ⟨f0, f1, f2, -⟩ := HX.out wi HZi.out
         by_cases hil : i < is.length
         · obtain ⟨⟨k1, op, d, a1, bb, nn, args⟩, hq⟩ : ∃ q, is[i]? = some q := ⟨_, List.getElem?_eq_getElem hil⟩
           obtain ⟨ad2, A2, n2, rfl, i0, i1, i2, i3, i4, i5, i6, hn2, hC2⟩ := ins_cells (Kd.C_below HC1.out (HBA.out.trans (HBi.out.mono (by omega)))) hq
           have HMQ := aM (HMI.out i _ hq)
           obtain ⟨WB, hWB⟩ : ∃ WB, WB = wi.alloc (.cells #[.int .u8 k1, .int .u8 op, .int .i64 d, .int .i64 a1, .int .i64 bb, .int .i64 nn, .slice A2 args.length n2] 92) := ⟨_, rfl⟩
           have HBW := aM (show Below wi.heap.size wi WB by rw [hWB]; exact (Below.refl _ _).alloc (Nat.le_refl _) _)
           have HI := aM (Kd.C_below hC2 HBW.out)
           have HB1 := aM (HBi.out.trans (HBW.out.mono (by have := HBi.out.size; have := HSA.out; omega)))
           have HZ1 := aM (HZi.out.trans (HBW.out.mono (by have := HZi.out.size; have := HSZ.out; omega)))
           have hbox := box_cells (w := wi) (W' := WB) (k := k1) (op := op) (d := d) (a := a1) (b := bb) (n := nn) (s := .slice A2 args.length n2) (e := 92) (by rw [hWB]; exact Below.refl _ _)
           have HBOX := aM hbox
           clear hbox hq hC2
           go_upto_region 11 with fail
           rw [← hWB]
           clear hWB i0 i1 i2 i3 i4 i5 i6 b0 b1 b2 b3 b4 f0 f1 f2
           obtain ⟨c0, c1, c2, c3, c4, c5, c6⟩ := HBOX.out
           obtain ⟨f0, f1, f2, -⟩ := HX.out WB HZ1.out
           obtain ⟨y, hy⟩ : ∃ y, insErr v (-1) (k1, op, d, a1, bb, nn, args) = y := ⟨_, rfl⟩
           have HQ := aM hy
           rw [hy] at HMQ
           clear hy
           by_cases hy0 : y = 0
           · subst hy0
             have HN2 := aM (firstN_take HNi.out HMQ.out)
             go_wp2_with (go_at_call 118; refine (of_calls _ _ _ _ _ _ v _ _ _ _ HI.out).mono ?_; rintro _ w2 ⟨rfl, hb⟩; rw [HQ.out]; have HB2 := aM (HB1.out.trans (hb.mono (by have := HB1.out.size; have := HSA.out; omega))); have HZ2 := aM (HZ1.out.trans (hb.mono (by have := HZ1.out.size; have := HSZ.out; omega))); clear c0 c1 c2 c3 c4 c5 c6 f0 f1 f2; obtain ⟨-, -, -, r0, r1, r2, r3, r4, r5⟩ := HX.out w2 HZ2.out; clear hb)
             go_roundw
             case rel => exact ⟨i + 1, by omega, by go_num, HN2, HB2⟩
             case measure => simp [intOf]; omega
           · have HE := aM (HHIT.out i y HNi.out HMQ.out hy0)
             have hyb : (y == 0) = false := beq_eq_false_iff_ne.mpr hy0
             go_wp2_with (go_at_call 118; refine (of_calls _ _ _ _ _ _ v _ _ _ _ HI.out).mono ?_; rintro _ w2 ⟨rfl, hb⟩; rw [HQ.out]; have HB2 := aM (HB1.out.trans (hb.mono (by have := HB1.out.size; have := HSA.out; omega))); have HZ2 := aM (HZ1.out.trans (hb.mono (by have := HZ1.out.size; have := HSZ.out; omega))); clear c0 c1 c2 c3 c4 c5 c6 f0 f1 f2; obtain ⟨-, -, -, r0, r1, r2, r3, r4, r5⟩ := HX.out w2 HZ2.out; clear hb)
             (have q := fault_set r0 r1 r2; have q0 := fun x y z => (q x y z).1; have q1 := fun x y z => (q x y z).2.1; have q2 := fun x y z => (q x y z).2.2; clear q; (try simp only [Exit.inBlock, Exit.then]); refine bodyPost_ret (by simp [results, Try.results85, go_sem, q0, q1, q2]; try rfl) rfl ?_)
             exact ⟨⟨_, _, by rw [HE.out]⟩, below_set (HA.out.trans (HZ2.out.mono (by omega))) (by omega) _ _ _⟩
         · obtain rfl : i = is.length := by omega
           have HQ := HEN
           by_cases hy0 : En = 0
           · subst hy0
             have HN2 := aM (show firstN M = 0 by rw [← List.take_of_length_le (l := M) (i := is.length + 1) (by rw [HMS.out]; exact Nat.le_refl _)]; exact firstN_take HNi.out HML.out)
             have HN3 := aM ((firstN_take HN.out HMX.out).trans (HME.out.trans HN2.out))
             go_wp2_with (go_at_call 119; refine (ends_calls _ _ _ _ _ _ _).mono ?_; rintro _ w2 ⟨rfl, hb⟩; rw [HQ.out]; have HB2 := aM (HBi.out.trans (hb.mono (by have := HBi.out.size; have := HSA.out; omega))); have HZ2 := aM (HZi.out.trans (hb.mono (by have := HZi.out.size; have := HSZ.out; omega))); clear b0 b1 b2 b3 b4 f0 f1 f2; obtain ⟨-, -, -, r0, r1, r2, r3, r4, r5⟩ := HX.out w2 HZ2.out; obtain ⟨b0, -⟩ := HBX.out w2 HB2.out; clear hb)
             go_roundw
             case rel => exact ⟨j + 1, by omega, by go_num, HN3, HZ2⟩
             case measure => simp [intOf]; omega
           · have HE := aM (HHIT.out is.length En HNi.out HML.out hy0)
             have hyb : (En == 0) = false := beq_eq_false_iff_ne.mpr hy0
             go_wp2_with (go_at_call 119; refine (ends_calls _ _ _ _ _ _ _).mono ?_; rintro _ w2 ⟨rfl, hb⟩; rw [HQ.out]; have HB2 := aM (HBi.out.trans (hb.mono (by have := HBi.out.size; have := HSA.out; omega))); have HZ2 := aM (HZi.out.trans (hb.mono (by have := HZi.out.size; have := HSZ.out; omega))); clear b0 b1 b2 b3 b4 f0 f1 f2; obtain ⟨-, -, -, r0, r1, r2, r3, r4, r5⟩ := HX.out w2 HZ2.out; obtain ⟨b0, -⟩ := HBX.out w2 HB2.out; clear hb)
             (have q := fault_set r0 r1 r2; have q0 := fun x y z => (q x y z).1; have q1 := fun x y z => (q x y z).2.1; have q2 := fun x y z => (q x y z).2.2; clear q; (try simp only [Exit.inBlock, Exit.then]); refine bodyPost_ret (by simp [results, Try.results85, go_sem, q0, q1, q2]; try rfl) rfl ?_)
             exact ⟨⟨_, _, by rw [HE.out]⟩, below_set (HA.out.trans (HZ2.out.mono (by omega))) (by omega) _ _ _⟩
    · obtain rfl : j = l.length := by omega
      have HE := aM (show FE = 0 by rw [← HFE.out, ← HN.out, List.take_of_length_le (by simp)])
      obtain ⟨-, -, -, r0, r1, r2, r3, r4, r5⟩ := HX.out wo HZ.out
      go_wp2
      (have q := fault_set r0 r1 r2; have q0 := fun x y z => (q x y z).1; have q1 := fun x y z => (q x y z).2.1; have q2 := fun x y z => (q x y z).2.2; clear q; (try simp only [Exit.inBlock, Exit.then]); refine bodyPost_ret (by simp [results, Try.results85, go_sem, q0, q1, q2]; try rfl) rfl ?_)
      exact ⟨⟨_, _, by rw [HE.out]⟩, below_set (HA.out.trans (HZ.out.mono (by omega))) (by omega) _ _ _⟩
end Go.Proofs.Ytnckonglodmfeaa.Ik
namespace Go.Proofs.Ytnckonglodmfeaa.Ik
open Ls Lc Go.RowKit Go.Proofs.YtnckonglodmfeaaW.PrintWords Go.Proofs.YtnckonglodmfeaaW.PrintLast Go.Proofs.YtnckonglodmfeaaW.PrintMore B R S Is
def Wtr (w : World) (g : Nat) (l : List Int) : Prop :=
 ∃ (A : Option Addr) (c : Nat), w.heap[g]? = some (.cells #[.slice A l.length c] 157 (0, 0)) ∧ l.length ≤ c ∧ (∀ a, A = some a → a.block ≠ g) ∧ kU8.C w A l.length l
theorem C_keep {k : IntKind} {w w' : World} {S : Nat → Prop} {A : Option Addr} {n : Nat} {xs : List Int} (h : (Kd.int k).C w A n xs) (hk : Keep S w w') (hA : 0 < n → ∀ a, A = some a → ¬ S a.block) : (Kd.int k).C w' A n xs := by
 rcases Nat.eq_zero_or_pos n with hn | hn
 · exact ⟨h.1, h.2.1, fun h0 => by omega⟩
 · obtain ⟨ad, e, _⟩ := h.2.2 hn
   have hl := h.1
   obtain ⟨x, hx⟩ : ∃ x, xs[0]? = some x := ⟨_, List.getElem?_eq_getElem (by omega)⟩
   have hc := C_cell (by rw [e] at h; exact h) hx
   have hlt := World.block_lt_of_cell? w _ hc
   rw [B.add_block] at hlt
   exact C_blk h (fun a e' => by rw [e] at e'; injection e' with e'; rw [← e']; exact hk.block _ hlt (hA hn ad e))
theorem C_lt {k : IntKind} {w : World} {A : Option Addr} {n : Nat} {xs : List Int} (h : (Kd.int k).C w A n xs) (hn : 0 < n) {a : Addr} (e : A = some a) : a.block < w.heap.size := by
 subst e
 have hl := h.1
 obtain ⟨x, hx⟩ : ∃ x, xs[0]? = some x := ⟨_, List.getElem?_eq_getElem (by omega)⟩
 have hlt := World.block_lt_of_cell? w _ (C_cell h hx)
 rwa [B.add_block] at hlt
theorem Wtr.lt {w : World} {g : Nat} {l : List Int} (h : Wtr w g l) : g < w.heap.size := by
 obtain ⟨A, c, h, _⟩ := h
 exact blk_lt h
theorem Wtr.keep {w w' : World} {g : Nat} {l : List Int} (h : Wtr w g l) (hk : Below w.heap.size w w') : Wtr w' g l := by
 obtain ⟨A, c, h1, h2, h3, h4⟩ := h
 exact ⟨A, c, blk_below h1 hk, h2, h3, Kd.C_below h4 hk⟩
theorem Wtr.set {w w1 : World} {g : Nat} {l m : List Int} {A : Option Addr} {c : Nat} (h : Wtr w g l) (hk : Below w.heap.size w w1) (hR : kU8.R 5 w1 w.heap.size (fun _ => True) (.slice A m.length c) m) (hlc : m.length ≤ c) : Wtr (w1.setCell ⟨g, 0, none⟩ (.slice A m.length c)) g m := by
 obtain ⟨A0, c0, h1, -⟩ := h
 have hb := blk_below h1 hk
 have hne : ∀ a, A = some a → a.block ≠ g := fun a e => by
  subst e
  have := R_at hR
  have := blk_lt h1
  omega
 refine ⟨A, c, ?_, hlc, hne, ?_⟩
 · rw [heap_setCell_same w1 g 0 _ 157 _ hb]; rfl
 · obtain ⟨A', c', e, -, hC⟩ := Kd.R_reads hR
   injection e with e1 e2 e3
   subst e1
   exact C_blk hC (fun a e => Below.heap_setCell _ _ _ _ (hne a e))
theorem wrap_u64 (x : Int) : 0 ≤ IntKind.u64.wrap x ∧ IntKind.u64.wrap x < 18446744073709551616 := by
 have h : IntKind.u64.wrap x = x % 18446744073709551616 := by simp [IntKind.wrap, IntKind.signed, IntKind.bits]
 rw [h]
 omega
theorem fields_take {l : List Int} {j : Nat} {x : Int} (h : l[j]? = some x) : fieldsL (l.take (j + 1)) = fieldsL (l.take j) ++ fieldL x := by
 rw [List.take_add_one, h]
 simp [fieldsL]
theorem field_len (x : Int) : (fieldL x).length ≤ 10 := putl_ten _ (by have := wrap_u64 x; omega)
theorem fields_len (l : List Int) : (fieldsL l).length ≤ 10 * l.length := by
 induction l with
 | nil => simp [fieldsL]
 | cons x l ih =>
  have := field_len x
  simp only [fieldsL, List.map_cons, List.flatten_cons, List.length_append, List.length_cons] at ih ⊢
  omega
set_option maxHeartbeats 1000000 in
set_option maxRecDepth 100000 in
theorem nums_calls (g : Nat) (l ns : List Int) (A : Option Addr) (c : Nat) (w : World) (hW : Wtr w g l) (hC : kI.C w A ns.length ns) (hA : 0 < ns.length → ∀ a, A = some a → a.block ≠ g) (hll : l.length + 10 * ns.length ≤ 100000000) :
 Calls Try.prog 86 #[.pointer (some ⟨g, 0, none⟩), .slice A ns.length c] w fun r w' => r = .returned (.tuple #[]) ∧ Wtr w' g (l ++ fieldsL ns) ∧ Keep (· = g) w w' := by
 have mixed : Try.prog.follows .mixedOrders = true := by kernel_rfl
 have HC := aM hC
 have HA := aM hA
 have hn0 : ns.length ≤ 10000000 := by omega
 have HLL := aM hll
 have HW := aM hW
 clear hC hA hll hW
 go_enter Try.func86, Try.ntmps86
 go_wp2_with fail
 go_loopw [8] (fun vi wr => ∃ j : Nat, j ≤ ns.length ∧ vi = .int .i64 j ∧ Aside0 (Wtr wr g (l ++ fieldsL (ns.take j))) ∧ Aside0 (Keep (· = g) w wr)) (fun vi _ => ns.length - (intOf vi).toNat)
 case atStart => exact ⟨0, by omega, rfl, ⟨by simpa [fieldsL] using HW.out⟩, ⟨Keep.refl _ _⟩⟩
 case round =>
  clear HW
  obtain ⟨j, hj, rfl, HW, HK⟩ := hrel
  by_cases hjl : j < ns.length
  · obtain ⟨x, hx⟩ : ∃ x, ns[j]? = some x := ⟨_, List.getElem?_eq_getElem hjl⟩
    obtain ⟨m, hm⟩ : ∃ m, l ++ fieldsL (ns.take j) = m := ⟨_, rfl⟩
    have HM := aM (show l ++ fieldsL (ns.take (j + 1)) = m ++ fieldL x by rw [fields_take hx, ← List.append_assoc, hm])
    have hml : m.length ≤ 100000000 := by
     have := HLL.out
     have h2 := fields_len (ns.take j)
     rw [List.length_take] at h2
     rw [← hm, List.length_append]
     omega
    rw [hm] at HW
    have hC := C_keep HC.out HK.out HA.out
    obtain ⟨ad, rfl⟩ : ∃ ad, A = some ad := by obtain ⟨ad, e, _⟩ := HC.out.2.2 (by omega); exact ⟨ad, e⟩
    have hcx := C_cell hC hx
    obtain ⟨A1, c1, hh, hlc, hne, hC1⟩ := HW.out
    have hc0 : wr.cell? ⟨g, 0, none⟩ = some (.slice A1 m.length c1) := cell_at hh 0 _ rfl
    have HH := aM hh
    have HC1 := aM hC1
    have hwr := wrap_u64 x
    obtain ⟨y, hy⟩ : ∃ y, IntKind.u64.wrap x = y := ⟨_, rfl⟩
    have HY := aM hy
    have HM := aM (show l ++ fieldsL (ns.take (j + 1)) = m ++ putl y.toNat by rw [HM.out, ← hy]; rfl)
    rw [hy] at hwr
    clear hx hm hC hh hC1 hne hy
    go_wp2_with (rw [HY.out]; go_at_call 38; refine (put_calls A1 c1 m y wr HC1.out (by omega) hwr.1 hwr.2).mono ?_; rintro _ w1 ⟨v1, rfl, ho, hb⟩; obtain ⟨A2, c2, rfl, hlc2, -⟩ := Kd.R_reads ho; have hs := Wtr.set HW.out hb ho hlc2; rw [List.length_append] at hs; have HS := aM hs; have hh1 := blk_below HH.out hb; have q0 := cell_at hh1 0 _ rfl; have q1 := blk_frozen hh1 0; have HK1 := aM ((HK.out.trans (Keep.of_below hb)).setCell ⟨g, 0, none⟩ (.slice A2 (m.length + (putl y.toNat).length) c2) (fun _ => rfl)); clear ho hb hh1 hcx hc0 hs)
    go_roundw
    case rel => exact ⟨j + 1, by omega, by go_num, ⟨by rw [HM.out]; exact HS.out⟩, HK1⟩
    case measure => simp [intOf]; omega
  · obtain rfl : j = ns.length := by omega
    go_wp2
    go_returns
    exact ⟨rfl, by have h := HW.out; rw [List.take_length] at h; exact h, HK.out⟩
end Go.Proofs.Ytnckonglodmfeaa.Ik
namespace Go.Proofs.Ytnckonglodmfeaa.Ik
open Ls Lc Go.RowKit Go.Proofs.YtnckonglodmfeaaW.PrintWords Go.Proofs.YtnckonglodmfeaaW.PrintLast Go.Proofs.YtnckonglodmfeaaW.PrintMore B R S Is
theorem nums_lit (g : Nat) (l ns : List Int) (N : Nat) (hN : ns.length = N) (w : World) (gb : Nat) (hW : Wtr w g l) (hgb : gb = w.heap.size) (hll : l.length + 10 * N ≤ 100000000) :
 Calls Try.prog 86 #[.pointer (some ⟨g, 0, none⟩), .slice (some ⟨gb, 0, none⟩) N N] (w.alloc (.cells (ns.map (Value.int .i64)).toArray 3)) fun r w' => r = .returned (.tuple #[]) ∧ ∃ m, m = l ++ fieldsL ns ∧ m.length ≤ l.length + 10 * N ∧ Wtr w' g m ∧ Keep (· = g) w w' := by
 subst hN hgb
 have hlt := hW.lt
 refine (nums_calls g l ns (some ⟨w.heap.size, 0, none⟩) ns.length _ (hW.keep ((Below.refl _ _).alloc (Nat.le_refl _) _)) (C_lit .i64 _ _ ns ns.length rfl (by simp [maxLen]; omega)) (fun _ a e => by injection e with e; subst e; show w.heap.size ≠ g; omega) hll).mono ?_
 rintro r w' ⟨h1, h2, h3⟩
 exact ⟨h1, _, rfl, by rw [List.length_append]; have := fields_len ns; omega, h2, ((Keep.refl _ _).alloc _).trans h3⟩
theorem box_keep {w W' : World} {g : Nat} {k op d a b n : Int} {s : Value} {e : Nat} (hg : g < w.heap.size) (h : Keep (· = g) (w.alloc (.cells #[.int .u8 k, .int .u8 op, .int .i64 d, .int .i64 a, .int .i64 b, .int .i64 n, s] e)) W') : BoxC W' w.heap.size k op d a b n s := by
 have h := (h.block w.heap.size (by rw [World.size_alloc]; omega) (fun e => by have e : w.heap.size = g := e; omega)).trans (heap_alloc_new w _)
 exact ⟨cell_at h 0 _ rfl, cell_at h 1 _ rfl, cell_at h 2 _ rfl, cell_at h 3 _ rfl, cell_at h 4 _ rfl, cell_at h 5 _ rfl, cell_at h 6 _ rfl⟩
set_option maxHeartbeats 1000000 in
set_option maxRecDepth 100000 in
theorem wins2 (g : Nat) (l : List Int) (k op d a b n : Int) (args : List Int) (A : Option Addr) (c : Nat) (w : World) (hW : Wtr w g l) (hC : kI.C w A args.length args) (hA : 0 < args.length → ∀ a, A = some a → a.block ≠ g) (hr : InsR (k, op, d, a, b, n, args)) (hll : l.length ≤ 10000000) (hal : args.length ≤ 100000) (hkk : k = 2) :
 Calls Try.prog 120 #[.pointer (some ⟨g, 0, none⟩), .agg #[.int .u8 k, .int .u8 op, .int .i64 d, .int .i64 a, .int .i64 b, .int .i64 n, .slice A args.length c]] w fun r w' => r = .returned (.tuple #[]) ∧ Wtr w' g (l ++ insL (k, op, d, a, b, n, args)) ∧ Keep (· = g) w w' := by
 have mixed : Try.prog.follows .mixedOrders = true := by kernel_rfl
 have HX := aM (fun W' h => box_keep (w := w) (W' := W') (g := g) (k := k) (op := op) (d := d) (a := a) (b := b) (n := n) (s := .slice A args.length c) (e := 92) hW.lt h)
 have HA := aM ((Keep.refl (· = g) w).alloc (.cells #[.int .u8 k, .int .u8 op, .int .i64 d, .int .i64 a, .int .i64 b, .int .i64 n, .slice A args.length c] 92))
 have HK := aM (Keep.refl (· = g) (w.alloc (.cells #[.int .u8 k, .int .u8 op, .int .i64 d, .int .i64 a, .int .i64 b, .int .i64 n, .slice A args.length c] 92)))
 have HW0 := aM (hW.keep ((Below.refl _ _).alloc (Nat.le_refl _) (.cells #[.int .u8 k, .int .u8 op, .int .i64 d, .int .i64 a, .int .i64 b, .int .i64 n, .slice A args.length c] 92)))
 have HC := aM (hC : kI.C w A args.length args)
 have HAB := aM hA
 obtain ⟨hk, hop, -, -, -, hn, -⟩ := hr
 simp only [U8, I64] at hk hop hn
 clear hW hC hA
 subst hkk
 go_enter Try.func120, Try.ntmps120
 go_wp2_with (first | (have HWc := HW0; clear HW0; go_at_call 86; refine (nums_lit g l [2] 1 rfl _ _ HWc.out (by first | rfl | exact (World.size_alloc _ _).symm) (by omega)).mono ?_; rintro _ w1 ⟨rfl, m1, hm, hml_1, hw, hk⟩; have HE_1 := aM hm; have HK := aM (HK.out.trans hk); obtain ⟨c0, c1, c2, c3, c4, c5, c6⟩ := HX.out w1 HK.out; have HW1 := aM hw; clear hm hw hk HWc) | (have HWc := HW1; clear HW1; go_at_call 86; refine (nums_lit g m1 [d, a] 2 rfl _ _ HWc.out (by first | rfl | exact (World.size_alloc _ _).symm) (by omega)).mono ?_; rintro _ w1 ⟨rfl, m2, hm, hml_2, hw, hk⟩; have HE_2 := aM hm; clear c0 c1 c2 c3 c4 c5 c6; have HK := aM (HK.out.trans hk); obtain ⟨c0, c1, c2, c3, c4, c5, c6⟩ := HX.out w1 HK.out; have HW2 := aM hw; clear hm hw hk HWc))
 go_returns
 refine ⟨rfl, ?_, HA.out.trans HK.out⟩
 have h := HW2.out
 rw [HE_2.out, HE_1.out] at h
 simpa [fieldsL, insL, List.append_assoc] using h
set_option maxHeartbeats 1000000 in
set_option maxRecDepth 100000 in
theorem wins4 (g : Nat) (l : List Int) (k op d a b n : Int) (args : List Int) (A : Option Addr) (c : Nat) (w : World) (hW : Wtr w g l) (hC : kI.C w A args.length args) (hA : 0 < args.length → ∀ a, A = some a → a.block ≠ g) (hr : InsR (k, op, d, a, b, n, args)) (hll : l.length ≤ 10000000) (hal : args.length ≤ 100000) (hkk : k = 4) :
 Calls Try.prog 120 #[.pointer (some ⟨g, 0, none⟩), .agg #[.int .u8 k, .int .u8 op, .int .i64 d, .int .i64 a, .int .i64 b, .int .i64 n, .slice A args.length c]] w fun r w' => r = .returned (.tuple #[]) ∧ Wtr w' g (l ++ insL (k, op, d, a, b, n, args)) ∧ Keep (· = g) w w' := by
 have mixed : Try.prog.follows .mixedOrders = true := by kernel_rfl
 have HX := aM (fun W' h => box_keep (w := w) (W' := W') (g := g) (k := k) (op := op) (d := d) (a := a) (b := b) (n := n) (s := .slice A args.length c) (e := 92) hW.lt h)
 have HA := aM ((Keep.refl (· = g) w).alloc (.cells #[.int .u8 k, .int .u8 op, .int .i64 d, .int .i64 a, .int .i64 b, .int .i64 n, .slice A args.length c] 92))
 have HK := aM (Keep.refl (· = g) (w.alloc (.cells #[.int .u8 k, .int .u8 op, .int .i64 d, .int .i64 a, .int .i64 b, .int .i64 n, .slice A args.length c] 92)))
 have HW0 := aM (hW.keep ((Below.refl _ _).alloc (Nat.le_refl _) (.cells #[.int .u8 k, .int .u8 op, .int .i64 d, .int .i64 a, .int .i64 b, .int .i64 n, .slice A args.length c] 92)))
 have HC := aM (hC : kI.C w A args.length args)
 have HAB := aM hA
 obtain ⟨hk, hop, -, -, -, hn, -⟩ := hr
 simp only [U8, I64] at hk hop hn
 clear hW hC hA
 subst hkk
 go_enter Try.func120, Try.ntmps120
 go_wp2_with (first | (have HWc := HW0; clear HW0; go_at_call 86; refine (nums_lit g l [4] 1 rfl _ _ HWc.out (by first | rfl | exact (World.size_alloc _ _).symm) (by omega)).mono ?_; rintro _ w1 ⟨rfl, m1, hm, hml_1, hw, hk⟩; have HE_1 := aM hm; have HK := aM (HK.out.trans hk); obtain ⟨c0, c1, c2, c3, c4, c5, c6⟩ := HX.out w1 HK.out; have HW1 := aM hw; clear hm hw hk HWc) | (have HWc := HW1; clear HW1; go_at_call 86; refine (nums_lit g m1 [d, a] 2 rfl _ _ HWc.out (by first | rfl | exact (World.size_alloc _ _).symm) (by omega)).mono ?_; rintro _ w1 ⟨rfl, m2, hm, hml_2, hw, hk⟩; have HE_2 := aM hm; clear c0 c1 c2 c3 c4 c5 c6; have HK := aM (HK.out.trans hk); obtain ⟨c0, c1, c2, c3, c4, c5, c6⟩ := HX.out w1 HK.out; have HW2 := aM hw; clear hm hw hk HWc))
 go_returns
 refine ⟨rfl, ?_, HA.out.trans HK.out⟩
 have h := HW2.out
 rw [HE_2.out, HE_1.out] at h
 simpa [fieldsL, insL, List.append_assoc] using h
set_option maxHeartbeats 1000000 in
set_option maxRecDepth 100000 in
theorem wins7 (g : Nat) (l : List Int) (k op d a b n : Int) (args : List Int) (A : Option Addr) (c : Nat) (w : World) (hW : Wtr w g l) (hC : kI.C w A args.length args) (hA : 0 < args.length → ∀ a, A = some a → a.block ≠ g) (hr : InsR (k, op, d, a, b, n, args)) (hll : l.length ≤ 10000000) (hal : args.length ≤ 100000) (hkk : k = 7) :
 Calls Try.prog 120 #[.pointer (some ⟨g, 0, none⟩), .agg #[.int .u8 k, .int .u8 op, .int .i64 d, .int .i64 a, .int .i64 b, .int .i64 n, .slice A args.length c]] w fun r w' => r = .returned (.tuple #[]) ∧ Wtr w' g (l ++ insL (k, op, d, a, b, n, args)) ∧ Keep (· = g) w w' := by
 have mixed : Try.prog.follows .mixedOrders = true := by kernel_rfl
 have HX := aM (fun W' h => box_keep (w := w) (W' := W') (g := g) (k := k) (op := op) (d := d) (a := a) (b := b) (n := n) (s := .slice A args.length c) (e := 92) hW.lt h)
 have HA := aM ((Keep.refl (· = g) w).alloc (.cells #[.int .u8 k, .int .u8 op, .int .i64 d, .int .i64 a, .int .i64 b, .int .i64 n, .slice A args.length c] 92))
 have HK := aM (Keep.refl (· = g) (w.alloc (.cells #[.int .u8 k, .int .u8 op, .int .i64 d, .int .i64 a, .int .i64 b, .int .i64 n, .slice A args.length c] 92)))
 have HW0 := aM (hW.keep ((Below.refl _ _).alloc (Nat.le_refl _) (.cells #[.int .u8 k, .int .u8 op, .int .i64 d, .int .i64 a, .int .i64 b, .int .i64 n, .slice A args.length c] 92)))
 have HC := aM (hC : kI.C w A args.length args)
 have HAB := aM hA
 obtain ⟨hk, hop, -, -, -, hn, -⟩ := hr
 simp only [U8, I64] at hk hop hn
 clear hW hC hA
 subst hkk
 go_enter Try.func120, Try.ntmps120
 go_wp2_with (first | (have HWc := HW0; clear HW0; go_at_call 86; refine (nums_lit g l [7] 1 rfl _ _ HWc.out (by first | rfl | exact (World.size_alloc _ _).symm) (by omega)).mono ?_; rintro _ w1 ⟨rfl, m1, hm, hml_1, hw, hk⟩; have HE_1 := aM hm; have HK := aM (HK.out.trans hk); obtain ⟨c0, c1, c2, c3, c4, c5, c6⟩ := HX.out w1 HK.out; have HW1 := aM hw; clear hm hw hk HWc) | (have HWc := HW1; clear HW1; go_at_call 86; refine (nums_lit g m1 [d, a] 2 rfl _ _ HWc.out (by first | rfl | exact (World.size_alloc _ _).symm) (by omega)).mono ?_; rintro _ w1 ⟨rfl, m2, hm, hml_2, hw, hk⟩; have HE_2 := aM hm; clear c0 c1 c2 c3 c4 c5 c6; have HK := aM (HK.out.trans hk); obtain ⟨c0, c1, c2, c3, c4, c5, c6⟩ := HX.out w1 HK.out; have HW2 := aM hw; clear hm hw hk HWc))
 go_returns
 refine ⟨rfl, ?_, HA.out.trans HK.out⟩
 have h := HW2.out
 rw [HE_2.out, HE_1.out] at h
 simpa [fieldsL, insL, List.append_assoc] using h
set_option maxHeartbeats 1000000 in
set_option maxRecDepth 100000 in
theorem wins8 (g : Nat) (l : List Int) (k op d a b n : Int) (args : List Int) (A : Option Addr) (c : Nat) (w : World) (hW : Wtr w g l) (hC : kI.C w A args.length args) (hA : 0 < args.length → ∀ a, A = some a → a.block ≠ g) (hr : InsR (k, op, d, a, b, n, args)) (hll : l.length ≤ 10000000) (hal : args.length ≤ 100000) (hkk : k = 8) :
 Calls Try.prog 120 #[.pointer (some ⟨g, 0, none⟩), .agg #[.int .u8 k, .int .u8 op, .int .i64 d, .int .i64 a, .int .i64 b, .int .i64 n, .slice A args.length c]] w fun r w' => r = .returned (.tuple #[]) ∧ Wtr w' g (l ++ insL (k, op, d, a, b, n, args)) ∧ Keep (· = g) w w' := by
 have mixed : Try.prog.follows .mixedOrders = true := by kernel_rfl
 have HX := aM (fun W' h => box_keep (w := w) (W' := W') (g := g) (k := k) (op := op) (d := d) (a := a) (b := b) (n := n) (s := .slice A args.length c) (e := 92) hW.lt h)
 have HA := aM ((Keep.refl (· = g) w).alloc (.cells #[.int .u8 k, .int .u8 op, .int .i64 d, .int .i64 a, .int .i64 b, .int .i64 n, .slice A args.length c] 92))
 have HK := aM (Keep.refl (· = g) (w.alloc (.cells #[.int .u8 k, .int .u8 op, .int .i64 d, .int .i64 a, .int .i64 b, .int .i64 n, .slice A args.length c] 92)))
 have HW0 := aM (hW.keep ((Below.refl _ _).alloc (Nat.le_refl _) (.cells #[.int .u8 k, .int .u8 op, .int .i64 d, .int .i64 a, .int .i64 b, .int .i64 n, .slice A args.length c] 92)))
 have HC := aM (hC : kI.C w A args.length args)
 have HAB := aM hA
 obtain ⟨hk, hop, -, -, -, hn, -⟩ := hr
 simp only [U8, I64] at hk hop hn
 clear hW hC hA
 subst hkk
 go_enter Try.func120, Try.ntmps120
 go_wp2_with (first | (have HWc := HW0; clear HW0; go_at_call 86; refine (nums_lit g l [8] 1 rfl _ _ HWc.out (by first | rfl | exact (World.size_alloc _ _).symm) (by omega)).mono ?_; rintro _ w1 ⟨rfl, m1, hm, hml_1, hw, hk⟩; have HE_1 := aM hm; have HK := aM (HK.out.trans hk); obtain ⟨c0, c1, c2, c3, c4, c5, c6⟩ := HX.out w1 HK.out; have HW1 := aM hw; clear hm hw hk HWc) | (have HWc := HW1; clear HW1; go_at_call 86; refine (nums_lit g m1 [d, a] 2 rfl _ _ HWc.out (by first | rfl | exact (World.size_alloc _ _).symm) (by omega)).mono ?_; rintro _ w1 ⟨rfl, m2, hm, hml_2, hw, hk⟩; have HE_2 := aM hm; clear c0 c1 c2 c3 c4 c5 c6; have HK := aM (HK.out.trans hk); obtain ⟨c0, c1, c2, c3, c4, c5, c6⟩ := HX.out w1 HK.out; have HW2 := aM hw; clear hm hw hk HWc))
 go_returns
 refine ⟨rfl, ?_, HA.out.trans HK.out⟩
 have h := HW2.out
 rw [HE_2.out, HE_1.out] at h
 simpa [fieldsL, insL, List.append_assoc] using h
set_option maxHeartbeats 1000000 in
set_option maxRecDepth 100000 in
theorem wins3 (g : Nat) (l : List Int) (k op d a b n : Int) (args : List Int) (A : Option Addr) (c : Nat) (w : World) (hW : Wtr w g l) (hC : kI.C w A args.length args) (hA : 0 < args.length → ∀ a, A = some a → a.block ≠ g) (hr : InsR (k, op, d, a, b, n, args)) (hll : l.length ≤ 10000000) (hal : args.length ≤ 100000) (hkk : k = 3) :
 Calls Try.prog 120 #[.pointer (some ⟨g, 0, none⟩), .agg #[.int .u8 k, .int .u8 op, .int .i64 d, .int .i64 a, .int .i64 b, .int .i64 n, .slice A args.length c]] w fun r w' => r = .returned (.tuple #[]) ∧ Wtr w' g (l ++ insL (k, op, d, a, b, n, args)) ∧ Keep (· = g) w w' := by
 have mixed : Try.prog.follows .mixedOrders = true := by kernel_rfl
 have HX := aM (fun W' h => box_keep (w := w) (W' := W') (g := g) (k := k) (op := op) (d := d) (a := a) (b := b) (n := n) (s := .slice A args.length c) (e := 92) hW.lt h)
 have HA := aM ((Keep.refl (· = g) w).alloc (.cells #[.int .u8 k, .int .u8 op, .int .i64 d, .int .i64 a, .int .i64 b, .int .i64 n, .slice A args.length c] 92))
 have HK := aM (Keep.refl (· = g) (w.alloc (.cells #[.int .u8 k, .int .u8 op, .int .i64 d, .int .i64 a, .int .i64 b, .int .i64 n, .slice A args.length c] 92)))
 have HW0 := aM (hW.keep ((Below.refl _ _).alloc (Nat.le_refl _) (.cells #[.int .u8 k, .int .u8 op, .int .i64 d, .int .i64 a, .int .i64 b, .int .i64 n, .slice A args.length c] 92)))
 have HC := aM (hC : kI.C w A args.length args)
 have HAB := aM hA
 obtain ⟨hk, hop, -, -, -, hn, -⟩ := hr
 simp only [U8, I64] at hk hop hn
 clear hW hC hA
 subst hkk
 go_enter Try.func120, Try.ntmps120
 go_wp2_with (first | (have HWc := HW0; clear HW0; go_at_call 86; refine (nums_lit g l [3] 1 rfl _ _ HWc.out (by first | rfl | exact (World.size_alloc _ _).symm) (by omega)).mono ?_; rintro _ w1 ⟨rfl, m1, hm, hml_1, hw, hk⟩; have HE_1 := aM hm; have HK := aM (HK.out.trans hk); obtain ⟨c0, c1, c2, c3, c4, c5, c6⟩ := HX.out w1 HK.out; have HW1 := aM hw; clear hm hw hk HWc) | (have HWc := HW1; clear HW1; go_at_call 86; refine (nums_lit g m1 [op, d, a, b] 4 rfl _ _ HWc.out (by first | rfl | exact (World.size_alloc _ _).symm) (by omega)).mono ?_; rintro _ w1 ⟨rfl, m2, hm, hml_2, hw, hk⟩; have HE_2 := aM hm; clear c0 c1 c2 c3 c4 c5 c6; have HK := aM (HK.out.trans hk); obtain ⟨c0, c1, c2, c3, c4, c5, c6⟩ := HX.out w1 HK.out; have HW2 := aM hw; clear hm hw hk HWc))
 go_returns
 refine ⟨rfl, ?_, HA.out.trans HK.out⟩
 have h := HW2.out
 rw [HE_2.out, HE_1.out] at h
 simpa [fieldsL, insL, List.append_assoc] using h
set_option maxHeartbeats 1000000 in
set_option maxRecDepth 100000 in
theorem wins5 (g : Nat) (l : List Int) (k op d a b n : Int) (args : List Int) (A : Option Addr) (c : Nat) (w : World) (hW : Wtr w g l) (hC : kI.C w A args.length args) (hA : 0 < args.length → ∀ a, A = some a → a.block ≠ g) (hr : InsR (k, op, d, a, b, n, args)) (hll : l.length ≤ 10000000) (hal : args.length ≤ 100000) (hkk : k = 5) :
 Calls Try.prog 120 #[.pointer (some ⟨g, 0, none⟩), .agg #[.int .u8 k, .int .u8 op, .int .i64 d, .int .i64 a, .int .i64 b, .int .i64 n, .slice A args.length c]] w fun r w' => r = .returned (.tuple #[]) ∧ Wtr w' g (l ++ insL (k, op, d, a, b, n, args)) ∧ Keep (· = g) w w' := by
 have mixed : Try.prog.follows .mixedOrders = true := by kernel_rfl
 have HX := aM (fun W' h => box_keep (w := w) (W' := W') (g := g) (k := k) (op := op) (d := d) (a := a) (b := b) (n := n) (s := .slice A args.length c) (e := 92) hW.lt h)
 have HA := aM ((Keep.refl (· = g) w).alloc (.cells #[.int .u8 k, .int .u8 op, .int .i64 d, .int .i64 a, .int .i64 b, .int .i64 n, .slice A args.length c] 92))
 have HK := aM (Keep.refl (· = g) (w.alloc (.cells #[.int .u8 k, .int .u8 op, .int .i64 d, .int .i64 a, .int .i64 b, .int .i64 n, .slice A args.length c] 92)))
 have HW0 := aM (hW.keep ((Below.refl _ _).alloc (Nat.le_refl _) (.cells #[.int .u8 k, .int .u8 op, .int .i64 d, .int .i64 a, .int .i64 b, .int .i64 n, .slice A args.length c] 92)))
 have HC := aM (hC : kI.C w A args.length args)
 have HAB := aM hA
 obtain ⟨hk, hop, -, -, -, hn, -⟩ := hr
 simp only [U8, I64] at hk hop hn
 clear hW hC hA
 subst hkk
 go_enter Try.func120, Try.ntmps120
 go_wp2_with (first | (have HWc := HW0; clear HW0; go_at_call 86; refine (nums_lit g l [5] 1 rfl _ _ HWc.out (by first | rfl | exact (World.size_alloc _ _).symm) (by omega)).mono ?_; rintro _ w1 ⟨rfl, m1, hm, hml_1, hw, hk⟩; have HE_1 := aM hm; have HK := aM (HK.out.trans hk); obtain ⟨c0, c1, c2, c3, c4, c5, c6⟩ := HX.out w1 HK.out; have HW1 := aM hw; clear hm hw hk HWc) | (have HWc := HW1; clear HW1; go_at_call 86; refine (nums_lit g m1 [a, b] 2 rfl _ _ HWc.out (by first | rfl | exact (World.size_alloc _ _).symm) (by omega)).mono ?_; rintro _ w1 ⟨rfl, m2, hm, hml_2, hw, hk⟩; have HE_2 := aM hm; clear c0 c1 c2 c3 c4 c5 c6; have HK := aM (HK.out.trans hk); obtain ⟨c0, c1, c2, c3, c4, c5, c6⟩ := HX.out w1 HK.out; have HW2 := aM hw; clear hm hw hk HWc))
 go_returns
 refine ⟨rfl, ?_, HA.out.trans HK.out⟩
 have h := HW2.out
 rw [HE_2.out, HE_1.out] at h
 simpa [fieldsL, insL, List.append_assoc] using h
set_option maxHeartbeats 1000000 in
set_option maxRecDepth 100000 in
theorem wins0 (g : Nat) (l : List Int) (k op d a b n : Int) (args : List Int) (A : Option Addr) (c : Nat) (w : World) (hW : Wtr w g l) (hC : kI.C w A args.length args) (hA : 0 < args.length → ∀ a, A = some a → a.block ≠ g) (hr : InsR (k, op, d, a, b, n, args)) (hll : l.length ≤ 10000000) (hal : args.length ≤ 100000) (h1 : (k == 1) = false) (h2 : (k == 2) = false) (h3 : (k == 3) = false) (h4 : (k == 4) = false) (h5 : (k == 5) = false) (h6 : (k == 6) = false) (h7 : (k == 7) = false) (h8 : (k == 8) = false) :
 Calls Try.prog 120 #[.pointer (some ⟨g, 0, none⟩), .agg #[.int .u8 k, .int .u8 op, .int .i64 d, .int .i64 a, .int .i64 b, .int .i64 n, .slice A args.length c]] w fun r w' => r = .returned (.tuple #[]) ∧ Wtr w' g (l ++ insL (k, op, d, a, b, n, args)) ∧ Keep (· = g) w w' := by
 have mixed : Try.prog.follows .mixedOrders = true := by kernel_rfl
 have HX := aM (fun W' h => box_keep (w := w) (W' := W') (g := g) (k := k) (op := op) (d := d) (a := a) (b := b) (n := n) (s := .slice A args.length c) (e := 92) hW.lt h)
 have HA := aM ((Keep.refl (· = g) w).alloc (.cells #[.int .u8 k, .int .u8 op, .int .i64 d, .int .i64 a, .int .i64 b, .int .i64 n, .slice A args.length c] 92))
 have HK := aM (Keep.refl (· = g) (w.alloc (.cells #[.int .u8 k, .int .u8 op, .int .i64 d, .int .i64 a, .int .i64 b, .int .i64 n, .slice A args.length c] 92)))
 have HW0 := aM (hW.keep ((Below.refl _ _).alloc (Nat.le_refl _) (.cells #[.int .u8 k, .int .u8 op, .int .i64 d, .int .i64 a, .int .i64 b, .int .i64 n, .slice A args.length c] 92)))
 have HC := aM (hC : kI.C w A args.length args)
 have HAB := aM hA
 obtain ⟨hk, hop, -, -, -, hn, -⟩ := hr
 simp only [U8, I64] at hk hop hn
 clear hW hC hA
 go_enter Try.func120, Try.ntmps120
 go_wp2_with (first | (have HWc := HW0; clear HW0; go_at_call 86; refine (nums_lit g l [k] 1 rfl _ _ HWc.out (by first | rfl | exact (World.size_alloc _ _).symm) (by omega)).mono ?_; rintro _ w1 ⟨rfl, m1, hm, hml_1, hw, hk⟩; have HE_1 := aM hm; have HK := aM (HK.out.trans hk); obtain ⟨c0, c1, c2, c3, c4, c5, c6⟩ := HX.out w1 HK.out; have HW1 := aM hw; clear hm hw hk HWc))
 go_returns
 refine ⟨rfl, ?_, HA.out.trans HK.out⟩
 have h := HW1.out
 rw [HE_1.out] at h
 simp at h1 h2 h3 h4 h5 h6 h7 h8
 simpa [fieldsL, insL, List.append_assoc, h1, h2, h3, h4, h5, h6, h7, h8] using h
set_option maxHeartbeats 1000000 in
set_option maxRecDepth 100000 in
theorem wins1 (g : Nat) (l : List Int) (k op d a b n : Int) (args : List Int) (A : Option Addr) (c : Nat) (w : World) (hW : Wtr w g l) (hC : kI.C w A args.length args) (hA : 0 < args.length → ∀ a, A = some a → a.block ≠ g) (hr : InsR (k, op, d, a, b, n, args)) (hll : l.length ≤ 10000000) (hal : args.length ≤ 100000) (hkk : k = 1) :
 Calls Try.prog 120 #[.pointer (some ⟨g, 0, none⟩), .agg #[.int .u8 k, .int .u8 op, .int .i64 d, .int .i64 a, .int .i64 b, .int .i64 n, .slice A args.length c]] w fun r w' => r = .returned (.tuple #[]) ∧ Wtr w' g (l ++ insL (k, op, d, a, b, n, args)) ∧ Keep (· = g) w w' := by
 have mixed : Try.prog.follows .mixedOrders = true := by kernel_rfl
 have HX := aM (fun W' h => box_keep (w := w) (W' := W') (g := g) (k := k) (op := op) (d := d) (a := a) (b := b) (n := n) (s := .slice A args.length c) (e := 92) hW.lt h)
 have HA := aM ((Keep.refl (· = g) w).alloc (.cells #[.int .u8 k, .int .u8 op, .int .i64 d, .int .i64 a, .int .i64 b, .int .i64 n, .slice A args.length c] 92))
 have HK := aM (Keep.refl (· = g) (w.alloc (.cells #[.int .u8 k, .int .u8 op, .int .i64 d, .int .i64 a, .int .i64 b, .int .i64 n, .slice A args.length c] 92)))
 have HW0 := aM (hW.keep ((Below.refl _ _).alloc (Nat.le_refl _) (.cells #[.int .u8 k, .int .u8 op, .int .i64 d, .int .i64 a, .int .i64 b, .int .i64 n, .slice A args.length c] 92)))
 have HC := aM (hC : kI.C w A args.length args)
 have HAB := aM hA
 obtain ⟨hk, hop, -, -, -, hn, -⟩ := hr
 simp only [U8, I64] at hk hop hn
 clear hW hC hA
 subst hkk
 go_enter Try.func120, Try.ntmps120
 go_wp2_with (first | (have HWc := HW0; clear HW0; go_at_call 86; refine (nums_lit g l [1] 1 rfl _ _ HWc.out (by first | rfl | exact (World.size_alloc _ _).symm) (by omega)).mono ?_; rintro _ w1 ⟨rfl, m1, hm, hml_1, hw, hk⟩; have HE_1 := aM hm; have HK := aM (HK.out.trans hk); obtain ⟨c0, c1, c2, c3, c4, c5, c6⟩ := HX.out w1 HK.out; have HW1 := aM hw; clear hm hw hk HWc) | (have HWc := HW1; clear HW1; go_at_call 86; refine (nums_lit g m1 [d] 1 rfl _ _ HWc.out (by first | rfl | exact (World.size_alloc _ _).symm) (by omega)).mono ?_; rintro _ wz ⟨rfl, m2, hm, hml_2, hw, hk⟩; have HE_2 := aM hm; clear c0 c1 c2 c3 c4 c5 c6; have HK := aM (HK.out.trans hk); obtain ⟨c0, c1, c2, c3, c4, c5, c6⟩ := HX.out wz HK.out; have HW2 := aM hw; clear hm hw hk HWc))
 obtain ⟨A9, cc9, hh9, hlc9, hne9, hC9⟩ := HW2.out
 have HC9 := aM hC9
 have HH9 := aM (show wz.drew.heap[g]? = _ from hh9)
 have HW9 := aM (HW2.out.keep (Below.refl _ _).drew)
 have HG := aM (show ∀ W', Keep (fun _ => False) wz.drew W' → W'.cell? ⟨g, 0, none⟩ = some (.slice A9 m2.length cc9) ∧ W'.cell? ⟨w.heap.size, 5, none⟩ = some (.int .i64 n) from fun W' h => ⟨cell_at ((h.block g (blk_lt hh9) id).trans hh9) 0 _ rfl, (HX.out W' (HK.out.drew.trans (h.mono (fun _ _ h => h.elim)))).2.2.2.2.2.1⟩)
 clear hh9 hne9 hC9
 refine re_start [10] (fun _ => False) (by kernel_rfl) (n := 11) (l := (bl 11 0)) (by kernel_rfl) (by kernel_rfl) ?_
 refine et 0 (bl 11 1) rfl (fun w' hR => by go_simp; first | done | with_reducible rfl) rfl ?_
 try simp only [Act.put, pB, pC, pD]
 refine et 1 (bl 11 3) rfl (fun w' hR => by go_simp; first | done | with_reducible rfl) rfl ?_
 try simp only [Act.put, pB, pC, pD]
 refine et 2 (bl 11 7) rfl (fun w' hR => by go_simp; first | done | with_reducible rfl) rfl ?_
 try simp only [Act.put, pB, pC, pD]
 refine et 3 (bl 11 15) rfl (fun w' hR => by go_simp; first | done | with_reducible rfl) rfl ?_
 try simp only [Act.put, pB, pC, pD]
 refine et 4 (bl 11 31) rfl (fun w' hR => by have x0 := (HG.out w' hR).1; go_simp; first | done | with_reducible rfl) rfl ?_
 try simp only [Act.put, pB, pC, pD]
 refine et 5 (bl 11 63) rfl (fun w' hR => by go_simp; first | done | with_reducible rfl) rfl ?_
 try simp only [Act.put, pB, pC, pD]
 refine et 6 (bl 11 127) rfl (fun w' hR => by have x0 := (HG.out w' hR).2; go_simp; first | done | with_reducible rfl) rfl ?_
 try simp only [Act.put, pB, pC, pD]
 refine re_step (fuel := 3) 7 rfl (by kernel_rfl) (listed' := (bl 11 255)) (by kernel_rfl) (by kernel_rfl) (fun K' hK => ?_)
 go_wp2_with (go_at_call 142; refine (putInt_calls A9 cc9 m2 n _ (Kd.C_below HC9.out (Below.refl _ _).drew) (by omega) hn.1 hn.2).mono ?_; rintro _ w2 ⟨v2, rfl, ho, hb⟩; obtain ⟨A8, cc8, rfl, hlc8, -⟩ := Kd.R_reads ho; have HB8 := aM hb; have hs := Wtr.set HW9.out hb ho hlc8; rw [List.length_append] at hs; have HS := aM hs; have hh := blk_below HH9.out hb; have q0 := cell_at hh 0 _ rfl; have q1 := blk_frozen hh 0; have HK8 := aM ((HK.out.drew.trans (Keep.of_below hb)).setCell ⟨g, 0, none⟩ (.slice A8 (m2.length + (putl (zig n).toNat).length) cc8) (fun _ => rfl)); clear ho hb hs hh)
 refine hK.out _ _ (Keep.of_below HB8.out) ?_
 clear hK K'
 try simp only [Act.put, pB, pC, pD]
 refine et 8 (bl 11 511) rfl (fun w' hR => by go_simp; first | done | with_reducible rfl) rfl ?_
 try simp only [Act.put, pB, pC, pD]
 refine et 9 (bl 11 1023) rfl (fun w' hR => by go_simp; first | done | with_reducible rfl) rfl ?_
 try simp only [Act.put, pB, pC, pD]
 refine re_free (fuel := 0) 10 rfl (by kernel_rfl) (listed' := (bl 11 2047)) (by kernel_rfl) (by kernel_rfl) (fun K' hK => ?_)
 go_wp2_with fail
 refine hK.out _ _ trivial ?_
 clear hK K'
 try simp only [Act.put, pB, pC, pD]
 refine re_done (by kernel_rfl) ?_
 generalize hwy : w2.setCell ⟨g, 0, none⟩ (.slice A8 (m2.length + (putl (zig n).toNat).length) cc8) = wy at HS HK8 ⊢
 clear hwy q0 q1
 go_wp2
 go_returns
 refine ⟨rfl, ?_, HA.out.trans HK8.out⟩
 have h := HS.out
 rw [HE_2.out, HE_1.out] at h
 simpa [fieldsL, insL, List.append_assoc] using h
set_option maxHeartbeats 1000000 in
set_option maxRecDepth 100000 in
theorem wins6 (g : Nat) (l : List Int) (k op d a b n : Int) (args : List Int) (A : Option Addr) (c : Nat) (w : World) (hW : Wtr w g l) (hC : kI.C w A args.length args) (hA : 0 < args.length → ∀ a, A = some a → a.block ≠ g) (hr : InsR (k, op, d, a, b, n, args)) (hll : l.length ≤ 10000000) (hal : args.length ≤ 100000) (hkk : k = 6) :
 Calls Try.prog 120 #[.pointer (some ⟨g, 0, none⟩), .agg #[.int .u8 k, .int .u8 op, .int .i64 d, .int .i64 a, .int .i64 b, .int .i64 n, .slice A args.length c]] w fun r w' => r = .returned (.tuple #[]) ∧ Wtr w' g (l ++ insL (k, op, d, a, b, n, args)) ∧ Keep (· = g) w w' := by
 have mixed : Try.prog.follows .mixedOrders = true := by kernel_rfl
 have HX := aM (fun W' h => box_keep (w := w) (W' := W') (g := g) (k := k) (op := op) (d := d) (a := a) (b := b) (n := n) (s := .slice A args.length c) (e := 92) hW.lt h)
 have HA := aM ((Keep.refl (· = g) w).alloc (.cells #[.int .u8 k, .int .u8 op, .int .i64 d, .int .i64 a, .int .i64 b, .int .i64 n, .slice A args.length c] 92))
 have HK := aM (Keep.refl (· = g) (w.alloc (.cells #[.int .u8 k, .int .u8 op, .int .i64 d, .int .i64 a, .int .i64 b, .int .i64 n, .slice A args.length c] 92)))
 have HW0 := aM (hW.keep ((Below.refl _ _).alloc (Nat.le_refl _) (.cells #[.int .u8 k, .int .u8 op, .int .i64 d, .int .i64 a, .int .i64 b, .int .i64 n, .slice A args.length c] 92)))
 have HC := aM (hC : kI.C w A args.length args)
 have HAB := aM hA
 obtain ⟨hk, hop, -, -, -, hn, -⟩ := hr
 simp only [U8, I64] at hk hop hn
 clear hW hC hA
 subst hkk
 go_enter Try.func120, Try.ntmps120
 go_wp2_with (first | (have HWc := HW0; clear HW0; go_at_call 86; refine (nums_lit g l [6] 1 rfl _ _ HWc.out (by first | rfl | exact (World.size_alloc _ _).symm) (by omega)).mono ?_; rintro _ w1 ⟨rfl, m1, hm, hml_1, hw, hk⟩; have HE_1 := aM hm; have HK := aM (HK.out.trans hk); obtain ⟨c0, c1, c2, c3, c4, c5, c6⟩ := HX.out w1 HK.out; have HW1 := aM hw; clear hm hw hk HWc) | (have HWc := HW1; clear HW1; go_at_call 86; refine (nums_lit g m1 [d] 1 rfl _ _ HWc.out (by first | rfl | exact (World.size_alloc _ _).symm) (by omega)).mono ?_; rintro _ wz ⟨rfl, m2, hm, hml_2, hw, hk⟩; have HE_2 := aM hm; clear c0 c1 c2 c3 c4 c5 c6; have HK := aM (HK.out.trans hk); obtain ⟨c0, c1, c2, c3, c4, c5, c6⟩ := HX.out wz HK.out; have HW2 := aM hw; clear hm hw hk HWc))
 obtain ⟨A9, cc9, hh9, hlc9, hne9, hC9⟩ := HW2.out
 have HC9 := aM hC9
 have HH9 := aM (show wz.drew.heap[g]? = _ from hh9)
 have HW9 := aM (HW2.out.keep (Below.refl _ _).drew)
 have HG := aM (show ∀ W', Keep (fun _ => False) wz.drew W' → W'.cell? ⟨g, 0, none⟩ = some (.slice A9 m2.length cc9) ∧ W'.cell? ⟨w.heap.size, 5, none⟩ = some (.int .i64 n) from fun W' h => ⟨cell_at ((h.block g (blk_lt hh9) id).trans hh9) 0 _ rfl, (HX.out W' (HK.out.drew.trans (h.mono (fun _ _ h => h.elim)))).2.2.2.2.2.1⟩)
 clear hh9 hne9 hC9
 refine re_start [10] (fun _ => False) (by kernel_rfl) (n := 11) (l := (bl 11 0)) (by kernel_rfl) (by kernel_rfl) ?_
 refine et 0 (bl 11 1) rfl (fun w' hR => by go_simp; first | done | with_reducible rfl) rfl ?_
 try simp only [Act.put, pB, pC, pD]
 refine et 1 (bl 11 3) rfl (fun w' hR => by go_simp; first | done | with_reducible rfl) rfl ?_
 try simp only [Act.put, pB, pC, pD]
 refine et 2 (bl 11 7) rfl (fun w' hR => by go_simp; first | done | with_reducible rfl) rfl ?_
 try simp only [Act.put, pB, pC, pD]
 refine et 3 (bl 11 15) rfl (fun w' hR => by go_simp; first | done | with_reducible rfl) rfl ?_
 try simp only [Act.put, pB, pC, pD]
 refine et 4 (bl 11 31) rfl (fun w' hR => by have x0 := (HG.out w' hR).1; go_simp; first | done | with_reducible rfl) rfl ?_
 try simp only [Act.put, pB, pC, pD]
 refine et 5 (bl 11 63) rfl (fun w' hR => by go_simp; first | done | with_reducible rfl) rfl ?_
 try simp only [Act.put, pB, pC, pD]
 refine et 6 (bl 11 127) rfl (fun w' hR => by have x0 := (HG.out w' hR).2; go_simp; first | done | with_reducible rfl) rfl ?_
 try simp only [Act.put, pB, pC, pD]
 refine re_step (fuel := 3) 7 rfl (by kernel_rfl) (listed' := (bl 11 255)) (by kernel_rfl) (by kernel_rfl) (fun K' hK => ?_)
 go_wp2_with (go_at_call 142; refine (putInt_calls A9 cc9 m2 n _ (Kd.C_below HC9.out (Below.refl _ _).drew) (by omega) hn.1 hn.2).mono ?_; rintro _ w2 ⟨v2, rfl, ho, hb⟩; obtain ⟨A8, cc8, rfl, hlc8, -⟩ := Kd.R_reads ho; have HB8 := aM hb; have hs := Wtr.set HW9.out hb ho hlc8; rw [List.length_append] at hs; have HS := aM hs; have hh := blk_below HH9.out hb; have q0 := cell_at hh 0 _ rfl; have q1 := blk_frozen hh 0; have HK8 := aM ((HK.out.drew.trans (Keep.of_below hb)).setCell ⟨g, 0, none⟩ (.slice A8 (m2.length + (putl (zig n).toNat).length) cc8) (fun _ => rfl)); clear ho hb hs hh)
 refine hK.out _ _ (Keep.of_below HB8.out) ?_
 clear hK K'
 try simp only [Act.put, pB, pC, pD]
 refine et 8 (bl 11 511) rfl (fun w' hR => by go_simp; first | done | with_reducible rfl) rfl ?_
 try simp only [Act.put, pB, pC, pD]
 refine et 9 (bl 11 1023) rfl (fun w' hR => by go_simp; first | done | with_reducible rfl) rfl ?_
 try simp only [Act.put, pB, pC, pD]
 refine re_free (fuel := 0) 10 rfl (by kernel_rfl) (listed' := (bl 11 2047)) (by kernel_rfl) (by kernel_rfl) (fun K' hK => ?_)
 go_wp2_with fail
 refine hK.out _ _ trivial ?_
 clear hK K'
 try simp only [Act.put, pB, pC, pD]
 refine re_done (by kernel_rfl) ?_
 generalize hwy : w2.setCell ⟨g, 0, none⟩ (.slice A8 (m2.length + (putl (zig n).toNat).length) cc8) = wy at HS HK8 ⊢
 clear hwy q0 q1
 clear c0 c1 c2 c3 c4 c5 c6
 have hzr := zig_range n hn.1 hn.2
 obtain ⟨m3, hm3, hml_3⟩ : ∃ m3, m3 = m2 ++ putl (zig n).toNat ∧ m3.length ≤ m2.length + 10 := ⟨_, rfl, by rw [List.length_append]; have := putl_ten (zig n).toNat (by omega); omega⟩
 rw [← hm3] at HS
 have HE_3 := aM hm3
 have HW3 := HS
 have HK := HK8
 clear hm3 HK8 hzr
 obtain ⟨c0, c1, c2, c3, c4, c5, c6⟩ := HX.out wy HK.out
 go_wp2_with (first | (have HWc := HW3; clear HW3; go_at_call 86; refine (nums_lit g m3 [(args.length : Int)] 1 rfl _ _ HWc.out (by first | rfl | exact (World.size_alloc _ _).symm) (by omega)).mono ?_; rintro _ w1 ⟨rfl, m4, hm, hml_4, hw, hk⟩; have HE_4 := aM hm; clear c0 c1 c2 c3 c4 c5 c6; have HK := aM (HK.out.trans hk); obtain ⟨c0, c1, c2, c3, c4, c5, c6⟩ := HX.out w1 HK.out; have HW4 := aM hw; clear hm hw hk HWc) | (have HWc := HW4; clear HW4; go_at_call 86; refine (nums_calls g m4 args A c _ HWc.out (C_keep HC.out (HA.out.trans HK.out) HAB.out) HAB.out (by omega)).mono ?_; rintro _ w5 ⟨rfl, hw, hk⟩; clear c0 c1 c2 c3 c4 c5 c6; have HK := aM (HK.out.trans hk); have HW5 := aM hw; clear hw hk HWc))
 go_returns
 refine ⟨rfl, ?_, HA.out.trans HK.out⟩
 have h := HW5.out
 rw [HE_4.out, HE_3.out, HE_2.out, HE_1.out] at h
 simpa [fieldsL, insL, List.append_assoc] using h
theorem wins_calls (g : Nat) (l : List Int) (k op d a b n : Int) (args : List Int) (A : Option Addr) (c : Nat) (w : World) (hW : Wtr w g l) (hC : kI.C w A args.length args) (hA : 0 < args.length → ∀ a, A = some a → a.block ≠ g) (hr : InsR (k, op, d, a, b, n, args)) (hll : l.length ≤ 10000000) (hal : args.length ≤ 100000) :
 Calls Try.prog 120 #[.pointer (some ⟨g, 0, none⟩), .agg #[.int .u8 k, .int .u8 op, .int .i64 d, .int .i64 a, .int .i64 b, .int .i64 n, .slice A args.length c]] w fun r w' => r = .returned (.tuple #[]) ∧ Wtr w' g (l ++ insL (k, op, d, a, b, n, args)) ∧ Keep (· = g) w w' := by
 rcases kinds k with h | h | h | h | h | h | h | h | ⟨h1, h2, h3, h4, h5, h6, h7, h8⟩
 · exact wins1 g l k op d a b n args A c w hW hC hA hr hll hal h
 · exact wins2 g l k op d a b n args A c w hW hC hA hr hll hal h
 · exact wins3 g l k op d a b n args A c w hW hC hA hr hll hal h
 · exact wins4 g l k op d a b n args A c w hW hC hA hr hll hal h
 · exact wins5 g l k op d a b n args A c w hW hC hA hr hll hal h
 · exact wins6 g l k op d a b n args A c w hW hC hA hr hll hal h
 · exact wins7 g l k op d a b n args A c w hW hC hA hr hll hal h
 · exact wins8 g l k op d a b n args A c w hW hC hA hr hll hal h
 · exact wins0 g l k op d a b n args A c w hW hC hA hr hll hal h1 h2 h3 h4 h5 h6 h7 h8
end Go.Proofs.Ytnckonglodmfeaa.Ik
namespace Go.Proofs.Ytnckonglodmfeaa.Ik
open Ls Lc Go.RowKit Go.Proofs.YtnckonglodmfeaaW.PrintWords Go.Proofs.YtnckonglodmfeaaW.PrintLast Go.Proofs.YtnckonglodmfeaaW.PrintMore B R S Is
theorem ins_len (i : Ins) (h : i.2.2.2.2.2.2.length ≤ 3) (hn : I64 i.2.2.2.2.2.1) : (insL i).length ≤ 100 := by
 obtain ⟨k, op, d, a, b, n, args⟩ := i
 have hz := zig_range n hn.1 hn.2
 have h1 := putl_ten (zig n).toNat (by omega)
 have h2 := field_len k
 have h3 := field_len d
 have h4 := fields_len args
 have h5 := field_len args.length
 have h6 := fields_len [d, a]
 have h7 := fields_len [op, d, a, b]
 have h8 := fields_len [a, b]
 simp only [List.length_cons, List.length_nil] at h4 h6 h7 h8 h
 simp only [insL, List.length_append]
 repeat' split
 all_goals (try simp only [List.length_append, List.length_nil]); omega
theorem insl_len (l : List Ins) (h : ∀ i ∈ l, InsR i ∧ i.2.2.2.2.2.2.length ≤ 3) : ((l.map insL).flatten).length ≤ 100 * l.length := by
 induction l with
 | nil => simp
 | cons x l ih =>
  obtain ⟨h1, h2⟩ := h x (by simp)
  have := ins_len x h2 (by obtain ⟨k, op, d, a, b, n, args⟩ := x; exact h1.2.2.2.2.2.1)
  have := ih (fun i hi => h i (by simp [hi]))
  simp only [List.map_cons, List.flatten_cons, List.length_append, List.length_cons]
  omega
theorem end_len (e : IEnd) : (endL e).length ≤ 40 := by
 obtain ⟨k, a, t, e⟩ := e
 have h2 := field_len k
 have h4 := fields_len [t]
 have h6 := fields_len [a, t, e]
 have h7 := fields_len [a]
 simp only [List.length_cons, List.length_nil] at h4 h6 h7
 simp only [endL, List.length_append]
 repeat' split
 all_goals omega
def OkB (b : Blk) : Prop := b.1.length ≤ 400 ∧ EndR b.2 ∧ ∀ i ∈ b.1, InsR i ∧ i.2.2.2.2.2.2.length ≤ 3
theorem map_take {α : Type} (f : α → List Int) {l : List α} {j : Nat} {x : α} (h : l[j]? = some x) : ((l.take (j + 1)).map f).flatten = ((l.take j).map f).flatten ++ f x := by
 rw [List.take_add_one, h]
 simp
set_option maxHeartbeats 4000000 in
set_option maxRecDepth 100000 in
theorem wblocks_calls (g : Nat) (l : List Int) (bs : List Blk) (A : Option Addr) (c : Nat) (w0 w : World) (hC : kBlk.C w0 A bs.length bs) (h0 : Below w0.heap.size w0 w) (hg : w0.heap.size ≤ g) (hW : Wtr w g l) (hl : l.length ≤ 100) (hn : bs.length ≤ 16) (hR : ∀ b ∈ bs, OkB b) :
 Calls Try.prog 87 #[.pointer (some ⟨g, 0, none⟩), .slice A bs.length c] w fun r w' => r = .returned (.tuple #[]) ∧ Wtr w' g (l ++ blksL bs) ∧ Keep (· = g) w w' := by
 have mixed : Try.prog.follows .mixedOrders = true := by kernel_rfl
 have HC := aM hC
 have HB0 := aM h0
 have HBL := aM (show ∀ W', Keep (· = g) w W' → Below w0.heap.size w0 W' from fun W' h => Keep.below_then h0 h h0.size (fun i hi e => by have e : i = g := e; omega))
 have HR := aM hR
 have hgw := hW.lt
 have HW0 := aM hW
 clear hC h0 hR hW
 go_enter Try.func87, Try.ntmps87
 go_wp2_with (have HWc := HW0; clear HW0; go_at_call 86; refine (nums_lit g l [(bs.length : Int)] 1 rfl w _ HWc.out (by first | rfl | exact (World.size_alloc _ _).symm) (by omega)).mono ?_; rintro _ w1 ⟨rfl, m0, hm, hml_m0, hw, hk⟩; have HE_m0 := aM hm; have HK := aM hk; have HW1 := aM hw; clear hm hw hk HWc)
 go_loopw [15] (fun vi wr => ∃ j : Nat, j ≤ bs.length ∧ vi = .int .i64 j ∧ ∃ m : List Int, m.length ≤ 200 + 50000 * j ∧ Aside0 (m = m0 ++ ((bs.take j).map blkL).flatten) ∧ Aside0 (Wtr wr g m) ∧ Aside0 (Keep (· = g) w wr)) (fun vi _ => bs.length - (intOf vi).toNat)
 case atStart => exact ⟨0, by omega, rfl, m0, by omega, ⟨by simp⟩, HW1, HK⟩
 case round =>
  clear HW1 HK
  obtain ⟨wo, hwo⟩ : ∃ wo, wo = wr := ⟨_, rfl⟩
  subst hwo
  obtain ⟨j, hj, rfl, m, hml, HM, HW, HK⟩ := hrel
  by_cases hjl : j < bs.length
  · obtain ⟨⟨is, k, a, t, e⟩, hx⟩ : ∃ x, bs[j]? = some x := ⟨_, List.getElem?_eq_getElem hjl⟩
    obtain ⟨hi4, hre, hri⟩ := HR.out _ (List.mem_of_getElem? hx)
    simp only at hi4
    obtain ⟨hk8, ha64, ht64, he64⟩ := hre
    simp only [U8] at hk8
    have HRI := aM hri
    have HMT := aM (map_take blkL hx)
    obtain ⟨ad, A1, n1, rfl, b0, b1, b2, b3, b4, hn1, hC1⟩ := blk_cells HC.out hx
    have hbl := HBL.out _ HK.out
    have b0 := pw_cell_below hbl b0
    have b1 := pw_cell_below hbl b1
    have b2 := pw_cell_below hbl b2
    have b3 := pw_cell_below hbl b3
    have b4 := pw_cell_below hbl b4
    have HC1 := aM hC1
    obtain ⟨WA, hWA⟩ : ∃ WA, WA = wo.alloc (.cells #[.slice A1 is.length n1, .int .u8 k, .int .i64 a, .int .i64 t, .int .i64 e] 84) := ⟨_, rfl⟩
    have HBA := aM (show Below wo.heap.size wo WA by rw [hWA]; exact (Below.refl _ _).alloc (Nat.le_refl _) _)
    have HSA := aM (show WA.heap.size = wo.heap.size + 1 by rw [hWA, World.size_alloc])
    have HGO := aM HW.out.lt
    have HBX := aM (show ∀ W', Keep (· = g) WA W' → W'.cell? ⟨wo.heap.size, 0, none⟩ = some (.slice A1 is.length n1) ∧ W'.cell? ⟨wo.heap.size, 1, none⟩ = some (.int .u8 k) ∧ W'.cell? ⟨wo.heap.size, 2, none⟩ = some (.int .i64 a) ∧ W'.cell? ⟨wo.heap.size, 3, none⟩ = some (.int .i64 t) ∧ W'.cell? ⟨wo.heap.size, 4, none⟩ = some (.int .i64 e) from fun W' h => by
     have h := h.block wo.heap.size (by rw [HSA.out]; omega) (fun e => by have e : wo.heap.size = g := e; have := HGO.out; omega)
     rw [hWA, heap_alloc_new] at h
     exact ⟨cell_at h 0 _ rfl, cell_at h 1 _ rfl, cell_at h 2 _ rfl, cell_at h 3 _ rfl, cell_at h 4 _ rfl⟩)
    have HWA := aM (HW.out.keep HBA.out)
    have HKA := aM (Keep.refl (· = g) WA)
    have HKW := aM (HK.out.trans (Keep.of_below HBA.out))
    clear hx hbl hC1 hri
    go_upto_region 4 with fail
    rw [← hWA]
    clear hWA b0 b1 b2 b3 b4
    obtain ⟨b0, b1, b2, b3, b4⟩ := HBX.out WA HKA.out
    go_wp2_with (have HWc := HWA; clear HWA; go_at_call 86; refine (nums_lit g m [(is.length : Int)] 1 rfl WA _ HWc.out (by first | rfl | exact (World.size_alloc _ _).symm) (by omega)).mono ?_; rintro _ w1 ⟨rfl, m1, hm, hml_m1, hw, hk⟩; have HE_m1 := aM hm; clear b0 b1 b2 b3 b4; have HKA := aM (HKA.out.trans hk); obtain ⟨b0, b1, b2, b3, b4⟩ := HBX.out w1 HKA.out; have HW2 := aM hw; clear hm hw hk HWc)
    go_loopw [28] (fun vi wi => ∃ i : Nat, i ≤ is.length ∧ vi = .int .i64 i ∧ ∃ mi : List Int, mi.length ≤ m1.length + 100 * i ∧ Aside0 (mi = m1 ++ ((is.take i).map insL).flatten) ∧ Aside0 (Wtr wi g mi) ∧ Aside0 (Keep (· = g) WA wi)) (fun vi _ => is.length - (intOf vi).toNat)
    case atStart => exact ⟨0, by omega, rfl, m1, by omega, ⟨by simp⟩, HW2, HKA⟩
    case round =>
     clear HW2 b0 b1 b2 b3 b4 HKA
     obtain ⟨wi, hwi⟩ : ∃ wi, wi = wr := ⟨_, rfl⟩
     subst hwi
     obtain ⟨i, hi, rfl, mi, hmi, HMI, HWI, HKA⟩ := hrel
     obtain ⟨b0, b1, b2, b3, b4⟩ := HBX.out wi HKA.out
     by_cases hil : i < is.length
     · obtain ⟨⟨k1, op, d, a1, bb, nn, args⟩, hq⟩ : ∃ q, is[i]? = some q := ⟨_, List.getElem?_eq_getElem hil⟩
       obtain ⟨hq1, hq2⟩ := HRI.out _ (List.mem_of_getElem? hq)
       simp only at hq2
       have HQ1 := aM hq1
       have HQL := aM (ins_len (k1, op, d, a1, bb, nn, args) hq2 hq1.2.2.2.2.2.1)
       have HMT1 := aM (map_take insL hq)
       obtain ⟨ad2, A2, n2, rfl, i0, i1, i2, i3, i4, i5, i6, hn2, hC2⟩ := ins_cells HC1.out hq
       have hbl := HBL.out _ (HKW.out.trans HKA.out)
       have i0 := pw_cell_below hbl i0
       have i1 := pw_cell_below hbl i1
       have i2 := pw_cell_below hbl i2
       have i3 := pw_cell_below hbl i3
       have i4 := pw_cell_below hbl i4
       have i5 := pw_cell_below hbl i5
       have i6 := pw_cell_below hbl i6
       obtain ⟨WB, hWB⟩ : ∃ WB, WB = wi.alloc (.cells #[.int .u8 k1, .int .u8 op, .int .i64 d, .int .i64 a1, .int .i64 bb, .int .i64 nn, .slice A2 args.length n2] 92) := ⟨_, rfl⟩
       have HBW := aM (show Below wi.heap.size wi WB by rw [hWB]; exact (Below.refl _ _).alloc (Nat.le_refl _) _)
       have HAB := aM (show 0 < args.length → ∀ a, A2 = some a → a.block ≠ g from fun h a e => by have := C_lt hC2 h e; omega)
       have HC2 := aM (show kI.C WB A2 args.length args from Kd.C_below (Kd.C_below hC2 hbl) HBW.out)
       have hbox := box_cells (w := wi) (W' := WB) (k := k1) (op := op) (d := d) (a := a1) (b := bb) (n := nn) (s := .slice A2 args.length n2) (e := 92) (by rw [hWB]; exact Below.refl _ _)
       have HBOX := aM hbox
       have HWB := aM (HWI.out.keep HBW.out)
       clear hbox hq hq1 hC2 hbl
       go_upto_region 8 with fail
       rw [← hWB]
       clear hWB i0 i1 i2 i3 i4 i5 i6 b0 b1 b2 b3 b4
       obtain ⟨c0, c1, c2, c3, c4, c5, c6⟩ := HBOX.out
       go_wp2_with (have HWc := HWB; clear HWB; go_at_call 120; refine (wins_calls g mi k1 op d a1 bb nn args A2 n2 WB HWc.out HC2.out HAB.out HQ1.out (by omega) (by omega)).mono ?_; rintro _ w1 ⟨rfl, hw, hk⟩; have HWN := aM hw; have HKN := aM ((HKA.out.trans (Keep.of_below HBW.out)).trans hk); clear hw hk HWc c0 c1 c2 c3 c4 c5 c6)
       go_roundw
       case rel => exact ⟨i + 1, by omega, by go_num, mi ++ insL (k1, op, d, a1, bb, nn, args), by rw [List.length_append]; have := HQL.out; omega, ⟨by rw [HMI.out, HMT1.out, List.append_assoc]⟩, HWN, HKN⟩
       case measure => simp [intOf]; omega
     · obtain rfl : i = is.length := by omega
       have HMF := aM (show mi = m1 ++ (is.map insL).flatten by rw [HMI.out, List.take_length])
       rcases (by omega : k = 1 ∨ k = 2 ∨ (k ≠ 1 ∧ k ≠ 2)) with rfl | rfl | ⟨hk1, hk2⟩
       · go_wp2_with (first | (have HWc := HWI; clear HWI; go_at_call 86; refine (nums_lit g mi [1] 1 rfl wi _ HWc.out (by first | rfl | exact (World.size_alloc _ _).symm) (by omega)).mono ?_; rintro _ w1 ⟨rfl, m2, hm, hml_m2, hw, hk⟩; have HE_m2 := aM hm; clear b0 b1 b2 b3 b4; have HKA := aM (HKA.out.trans hk); obtain ⟨b0, b1, b2, b3, b4⟩ := HBX.out w1 HKA.out; have HW3 := aM hw; clear hm hw hk HWc) | (have HWc := HW3; clear HW3; go_at_call 86; refine (nums_lit g m2 [t] 1 rfl _ _ HWc.out (by first | rfl | exact (World.size_alloc _ _).symm) (by omega)).mono ?_; rintro _ w1 ⟨rfl, m3, hm, hml_m3, hw, hk⟩; have HE_m3 := aM hm; clear b0 b1 b2 b3 b4; have HKA := aM (HKA.out.trans hk); obtain ⟨b0, b1, b2, b3, b4⟩ := HBX.out w1 HKA.out; have HW4 := aM hw; clear hm hw hk HWc))
         go_roundw
         case rel => exact ⟨j + 1, by omega, by go_num, m3, by omega, ⟨by rw [HMT.out, HE_m3.out, HE_m2.out, HMF.out, HE_m1.out, HM.out]; simp [blkL, endL, fieldsL, List.append_assoc]⟩, HW4, ⟨HKW.out.trans HKA.out⟩⟩
         case measure => simp [intOf]; omega
       · go_wp2_with (first | (have HWc := HWI; clear HWI; go_at_call 86; refine (nums_lit g mi [2] 1 rfl wi _ HWc.out (by first | rfl | exact (World.size_alloc _ _).symm) (by omega)).mono ?_; rintro _ w1 ⟨rfl, m2, hm, hml_m2, hw, hk⟩; have HE_m2 := aM hm; clear b0 b1 b2 b3 b4; have HKA := aM (HKA.out.trans hk); obtain ⟨b0, b1, b2, b3, b4⟩ := HBX.out w1 HKA.out; have HW3 := aM hw; clear hm hw hk HWc) | (have HWc := HW3; clear HW3; go_at_call 86; refine (nums_lit g m2 [a, t, e] 3 rfl _ _ HWc.out (by first | rfl | exact (World.size_alloc _ _).symm) (by omega)).mono ?_; rintro _ w1 ⟨rfl, m3, hm, hml_m3, hw, hk⟩; have HE_m3 := aM hm; clear b0 b1 b2 b3 b4; have HKA := aM (HKA.out.trans hk); obtain ⟨b0, b1, b2, b3, b4⟩ := HBX.out w1 HKA.out; have HW4 := aM hw; clear hm hw hk HWc))
         go_roundw
         case rel => exact ⟨j + 1, by omega, by go_num, m3, by omega, ⟨by rw [HMT.out, HE_m3.out, HE_m2.out, HMF.out, HE_m1.out, HM.out]; simp [blkL, endL, fieldsL, List.append_assoc]⟩, HW4, ⟨HKW.out.trans HKA.out⟩⟩
         case measure => simp [intOf]; omega
       · have hb1 : (k == 1) = false := beq_eq_false_iff_ne.mpr hk1
         have hb2 : (k == 2) = false := beq_eq_false_iff_ne.mpr hk2
         have HK1 := aM hk1
         have HK2 := aM hk2
         clear hk1 hk2
         go_wp2_with (first | (have HWc := HWI; clear HWI; go_at_call 86; refine (nums_lit g mi [k] 1 rfl wi _ HWc.out (by first | rfl | exact (World.size_alloc _ _).symm) (by omega)).mono ?_; rintro _ w1 ⟨rfl, m2, hm, hml_m2, hw, hk⟩; have HE_m2 := aM hm; clear b0 b1 b2 b3 b4; have HKA := aM (HKA.out.trans hk); obtain ⟨b0, b1, b2, b3, b4⟩ := HBX.out w1 HKA.out; have HW3 := aM hw; clear hm hw hk HWc) | (have HWc := HW3; clear HW3; go_at_call 86; refine (nums_lit g m2 [a] 1 rfl _ _ HWc.out (by first | rfl | exact (World.size_alloc _ _).symm) (by omega)).mono ?_; rintro _ w1 ⟨rfl, m3, hm, hml_m3, hw, hk⟩; have HE_m3 := aM hm; clear b0 b1 b2 b3 b4; have HKA := aM (HKA.out.trans hk); obtain ⟨b0, b1, b2, b3, b4⟩ := HBX.out w1 HKA.out; have HW4 := aM hw; clear hm hw hk HWc))
         go_roundw
         case rel => exact ⟨j + 1, by omega, by go_num, m3, by omega, ⟨by rw [HMT.out, HE_m3.out, HE_m2.out, HMF.out, HE_m1.out, HM.out]; simp [blkL, endL, fieldsL, List.append_assoc, HK1.out, HK2.out]⟩, HW4, ⟨HKW.out.trans HKA.out⟩⟩
         case measure => simp [intOf]; omega
  · obtain rfl : j = bs.length := by omega
    go_wp2
    go_returns
    exact ⟨rfl, by have h := HW.out; rw [HM.out, List.take_length, HE_m0.out] at h; simpa [blksL, fieldsL, List.append_assoc] using h, HK.out⟩
end Go.Proofs.Ytnckonglodmfeaa.Ik
namespace Go.Proofs.Ytnckonglodmfeaa.Ik
open Go.RowKit Go.Proofs.YtnckonglodmfeaaW.PrintWords Go.Proofs.YtnckonglodmfeaaW.PrintLast Go.Proofs.YtnckonglodmfeaaW.PrintMore B R S Is
end Go.Proofs.Ytnckonglodmfeaa.Ik
namespace Go.Proofs.Ytnckonglodmfeaa.Ik
open Go.RowKit Go.Proofs.YtnckonglodmfeaaW.PrintWords Go.Proofs.YtnckonglodmfeaaW.PrintLast Go.Proofs.YtnckonglodmfeaaW.PrintMore B R S Is
def letter (j : Nat) : UInt8 := if j = 0 then 79 else if j = 1 then 68 else if j = 2 then 65 else if j = 3 then 66 else if j = 4 then 78 else 82
end Go.Proofs.Ytnckonglodmfeaa.Ik
namespace Go.Proofs.Ytnckonglodmfeaa.Ik
open Go.RowKit Go.Proofs.YtnckonglodmfeaaW.PrintWords Go.Proofs.YtnckonglodmfeaaW.PrintLast Go.Proofs.YtnckonglodmfeaaW.PrintMore B R S Is
end Go.Proofs.Ytnckonglodmfeaa.Ik
