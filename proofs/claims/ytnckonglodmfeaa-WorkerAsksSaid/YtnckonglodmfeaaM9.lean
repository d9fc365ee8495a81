/- Contracts and plain facts that the statements' proofs use (part 9). -/
import Derived.Test.YtnckonglodmfeaaM5
namespace Go.Proofs.Ytnckonglodmfeaa.Ik
open Go.RowKit Go.Proofs.YtnckonglodmfeaaW.PrintWords Go.Proofs.YtnckonglodmfeaaW.PrintLast Go.Proofs.YtnckonglodmfeaaW.PrintMore Go.Proofs.Ytnckonglodmfeaa.B Go.Proofs.Ytnckonglodmfeaa.R Go.Proofs.Ytnckonglodmfeaa.S Go.Proofs.Ytnckonglodmfeaa.Is
set_option linter.unusedVariables false
set_option linter.unusedSimpArgs false
theorem box_keepF {w W' : World} {k op d a b n : Int} {s : Value} {e : Nat} (h : Keep (fun _ => False) (w.alloc (.cells #[.int .u8 k, .int .u8 op, .int .i64 d, .int .i64 a, .int .i64 b, .int .i64 n, s] e)) W') : BoxC W' w.heap.size k op d a b n s := by
  have h := (h.block w.heap.size (by rw [World.size_alloc]; omega) id).trans (heap_alloc_new w _)
  exact ⟨cell_at h 0 _ rfl, cell_at h 1 _ rfl, cell_at h 2 _ rfl, cell_at h 3 _ rfl, cell_at h 4 _ rfl, cell_at h 5 _ rfl, cell_at h 6 _ rfl⟩
theorem names_small (k : Int) : (namesA k).size ≤ 100 := by
  simp only [namesA]
  repeat' split
  all_goals decide
/-- What is answered where it isn't refused at once. -/
theorem rins_more {v t : Int} {i : Ins} (h : ¬ (i.1 < 1 ∨ (if t < 0 then 6 else 8) < i.1 ∨ plainB i = false ∨ (i.1 = 3 ∧ (i.2.1 < 1 ∨ 7 < i.2.1)))) :
    insErr v t i = if 3 < i.2.2.2.2.2.2.length then 25 else if (allL i).any (outB v) then (if t < 0 then 21 else 23) else if (i.1 = 7 ∧ (i.2.2.1 < 0 ∨ t ≤ i.2.2.1)) ∨ (i.1 = 8 ∧ (i.2.2.2.1 < 0 ∨ t ≤ i.2.2.2.1)) then 24 else 0 := if_neg h
theorem e24_7 (d a t : Int) (h : d < 0 ∨ t ≤ d) : (if ((7 : Int) = 7 ∧ (d < 0 ∨ t ≤ d)) ∨ ((7 : Int) = 8 ∧ (a < 0 ∨ t ≤ a)) then (24 : Int) else 0) = 24 := if_pos (.inl ⟨rfl, h⟩)
theorem e0_7 (d a t : Int) (h : ¬ (d < 0 ∨ t ≤ d)) : (if ((7 : Int) = 7 ∧ (d < 0 ∨ t ≤ d)) ∨ ((7 : Int) = 8 ∧ (a < 0 ∨ t ≤ a)) then (24 : Int) else 0) = 0 := if_neg (by
  rintro (⟨-, h'⟩ | ⟨h', -⟩)
  · exact h h'
  · exact absurd h' (by decide))
theorem e24_8 (d a t : Int) (h : a < 0 ∨ t ≤ a) : (if ((8 : Int) = 7 ∧ (d < 0 ∨ t ≤ d)) ∨ ((8 : Int) = 8 ∧ (a < 0 ∨ t ≤ a)) then (24 : Int) else 0) = 24 := if_pos (.inr ⟨rfl, h⟩)
theorem e0_8 (d a t : Int) (h : ¬ (a < 0 ∨ t ≤ a)) : (if ((8 : Int) = 7 ∧ (d < 0 ∨ t ≤ d)) ∨ ((8 : Int) = 8 ∧ (a < 0 ∨ t ≤ a)) then (24 : Int) else 0) = 0 := if_neg (by
  rintro (⟨h', -⟩ | ⟨-, h'⟩)
  · exact absurd h' (by decide)
  · exact h h')
theorem e0_k (k d a t : Int) (h7 : k ≠ 7) (h8 : k ≠ 8) : (if (k = 7 ∧ (d < 0 ∨ t ≤ d)) ∨ (k = 8 ∧ (a < 0 ∨ t ≤ a)) then (24 : Int) else 0) = 0 := if_neg (by
  rintro (⟨h', -⟩ | ⟨h', -⟩)
  · exact h7 h'
  · exact h8 h')
theorem ret_i {x y : Int} (h : x = y) : Ending.returned (Value.int .i64 x) = .returned (.int .i64 y) := by rw [h]
set_option maxHeartbeats 4000000 in
set_option maxRecDepth 100000 in
theorem rins_calls (k op d a b n v t : Int) (args : List Int) (A : Option Addr) (c : Nat) (w : World) (hC : kI.C w A args.length args) (hc : args.length ≤ c) :
    Calls Try.prog 122 #[(.agg #[.int .u8 k, .int .u8 op, .int .i64 d, .int .i64 a, .int .i64 b, .int .i64 n, .slice A args.length c]), .int .i64 v, .int .i64 t] w fun r w' => r = .returned (.int .i64 (insErr v t (k, op, d, a, b, n, args))) ∧ Below w.heap.size w w' := by
  have mixed : Try.prog.follows .mixedOrders = true := by kernel_rfl
  have HC := Aside0.mk hC
  have HX := Aside0.mk (fun W' h => box_keepF (w := w) (W' := W') (k := k) (op := op) (d := d) (a := a) (b := b) (n := n) (s := .slice A args.length c) (e := 92) h)
  have HA := Aside0.mk (show Below w.heap.size w (w.alloc (.cells #[.int .u8 k, .int .u8 op, .int .i64 d, .int .i64 a, .int .i64 b, .int .i64 n, .slice A args.length c] 92)) from (Below.refl _ _).alloc (Nat.le_refl _) _)
  have HSZ := Aside0.mk (World.size_alloc w (.cells #[.int .u8 k, .int .u8 op, .int .i64 d, .int .i64 a, .int .i64 b, .int .i64 n, .slice A args.length c] 92))
  have HK0 := Aside0.mk (show Keep (fun _ => False) (w.alloc (.cells #[.int .u8 k, .int .u8 op, .int .i64 d, .int .i64 a, .int .i64 b, .int .i64 n, .slice A args.length c] 92)) (World.drew (w.alloc (.cells #[.int .u8 k, .int .u8 op, .int .i64 d, .int .i64 a, .int .i64 b, .int .i64 n, .slice A args.length c] 92))) from (Keep.refl _ _).drew)
  obtain ⟨M, hM⟩ : ∃ M : Int, M = if t < 0 then 6 else 8 := ⟨_, rfl⟩
  have hMr : (t < 0 ∧ M = 6) ∨ (¬ t < 0 ∧ M = 8) := by
    rw [hM]
    by_cases h : t < 0
    · exact .inl ⟨h, if_pos h⟩
    · exact .inr ⟨h, if_neg h⟩
  have HM := Aside0.mk hM
  obtain ⟨E, hE⟩ : ∃ E, insErr v t (k, op, d, a, b, n, args) = E := ⟨_, rfl⟩
  have HE := Aside0.mk hE
  rw [hE]
  clear hC hM hE
  have HBAD := Aside0.mk (show k < 1 ∨ M < k ∨ plainB (k, op, d, a, b, n, args) = false ∨ (k = 3 ∧ (op < 1 ∨ 7 < op)) → E = 20 from fun h => by
    rw [← HE.out]
    exact if_pos (by rw [← HM.out]; exact h))
  have hcase : k < 1 ∨ (¬ k < 1 ∧ M < k) ∨ (¬ k < 1 ∧ ¬ M < k ∧ plainB (k, op, d, a, b, n, args) = false) ∨ (¬ k < 1 ∧ ¬ M < k ∧ plainB (k, op, d, a, b, n, args) = true ∧ k = 3 ∧ op < 1) ∨ (¬ k < 1 ∧ ¬ M < k ∧ plainB (k, op, d, a, b, n, args) = true ∧ k = 3 ∧ ¬ op < 1 ∧ 7 < op) ∨
      (¬ k < 1 ∧ ¬ M < k ∧ plainB (k, op, d, a, b, n, args) = true ∧ k = 3 ∧ ¬ op < 1 ∧ ¬ 7 < op) ∨ (¬ k < 1 ∧ ¬ M < k ∧ plainB (k, op, d, a, b, n, args) = true ∧ (k == 3) = false) := by
    by_cases h1 : k < 1
    · exact .inl h1
    by_cases h2 : M < k
    · exact .inr (.inl ⟨h1, h2⟩)
    by_cases h3 : plainB (k, op, d, a, b, n, args) = true
    · by_cases h4 : k = 3
      · by_cases h5 : op < 1
        · exact .inr (.inr (.inr (.inl ⟨h1, h2, h3, h4, h5⟩)))
        by_cases h6 : 7 < op
        · exact .inr (.inr (.inr (.inr (.inl ⟨h1, h2, h3, h4, h5, h6⟩))))
        · exact .inr (.inr (.inr (.inr (.inr (.inl ⟨h1, h2, h3, h4, h5, h6⟩)))))
      · exact .inr (.inr (.inr (.inr (.inr (.inr ⟨h1, h2, h3, beq_eq_false_iff_ne.mpr h4⟩)))))
    · exact .inr (.inr (.inl ⟨h1, h2, by simpa using h3⟩))
  have hbx := HX.out _ HK0.out
  have ht3 : (0 ≤ t ∧ M = 8) ∨ (t < 0 ∧ M = 6) := by omega
  have BXC := Aside0.mk (show ∀ W1 W2, Keep (fun _ => False) (w.alloc (.cells #[.int .u8 k, .int .u8 op, .int .i64 d, .int .i64 a, .int .i64 b, .int .i64 n, .slice A args.length c] 92)) W1 → W2.heap[w.heap.size]? = W1.heap[w.heap.size]? → BoxC W2 w.heap.size k op d a b n (.slice A args.length c) from fun W1 W2 h1 h2 => by
    have h := h2.trans ((h1.block w.heap.size (by rw [World.size_alloc]; omega) id).trans (heap_alloc_new w _))
    exact ⟨cell_at h 0 _ rfl, cell_at h 1 _ rfl, cell_at h 2 _ rfl, cell_at h 3 _ rfl, cell_at h 4 _ rfl, cell_at h 5 _ rfl, cell_at h 6 _ rfl⟩)
  rcases hcase with h1 | ⟨h1, h2⟩ | ⟨h1, h2, h3⟩ | ⟨h1, h2, h3, rfl, h5⟩ | ⟨h1, h2, h3, rfl, h5, h6⟩ | ⟨h1, h2, h3, rfl, h5, h6⟩ | ⟨h1, h2, h3, h4⟩
  · have HE20 := Aside0.mk (HBAD.out (.inl h1))
    have d1 := decide_eq_true h1
    clear h1
    rcases hMr with ⟨ht, rfl⟩ | ⟨ht, rfl⟩
    all_goals
      clear HE HM HBAD hbx ht3 HC
      go_enter Try.func122, Try.ntmps122
      go_wp2_with fail
      refine rk_start (fun _ => False) (by kernel_rfl) (n := 32) (l := #[false, false, false, false, false, false, false, false, false, false, false, false, false, false, false, false, false, false, false, false, false, false, false, false, false, false, false, false, false, false, false, false]) (by kernel_rfl) (by kernel_rfl) ?_
      refine rk_take (fuel := 31) 0 rfl (by kernel_rfl) (listed' := #[true, false, false, false, false, false, false, false, false, false, false, false, false, false, false, false, false, false, false, false, false, false, false, false, false, false, false, false, false, false, false, false]) (by kernel_rfl) (fun _ _ _ h => h) (by kernel_rfl) (fun w' hR => by obtain ⟨x0, x1, x2, x3, x4, x5, x6⟩ := HX.out w' (by first | exact HK2.out.trans hR | exact HK1.out.trans hR | exact HK0.out.trans hR); go_simp; first | done | with_reducible rfl) rfl ?_
      try simp only [Act.put, List.setIfInBounds_toArray, List.set_cons_zero, List.set_cons_succ]
      refine rk_take (fuel := 30) 1 rfl (by kernel_rfl) (listed' := #[true, true, false, false, false, false, false, false, false, false, false, false, false, false, false, false, false, false, false, false, false, false, false, false, false, false, false, false, false, false, false, false]) (by kernel_rfl) (fun _ _ _ h => h) (by kernel_rfl) (fun w' hR => by obtain ⟨x0, x1, x2, x3, x4, x5, x6⟩ := HX.out w' (by first | exact HK2.out.trans hR | exact HK1.out.trans hR | exact HK0.out.trans hR); go_simp; first | done | with_reducible rfl) rfl ?_
      try simp only [Act.put, List.setIfInBounds_toArray, List.set_cons_zero, List.set_cons_succ]
      refine rk_take (fuel := 29) 2 rfl (by kernel_rfl) (listed' := #[true, true, true, false, false, false, false, false, false, false, false, false, false, false, false, false, false, false, false, false, false, false, false, false, false, false, false, false, false, false, false, false]) (by kernel_rfl) (fun _ _ _ h => h) (by kernel_rfl) (fun w' hR => by obtain ⟨x0, x1, x2, x3, x4, x5, x6⟩ := HX.out w' (by first | exact HK2.out.trans hR | exact HK1.out.trans hR | exact HK0.out.trans hR); go_simp; first | done | with_reducible rfl) rfl ?_
      try simp only [Act.put, List.setIfInBounds_toArray, List.set_cons_zero, List.set_cons_succ]
      refine rk_take (fuel := 28) 3 rfl (by kernel_rfl) (listed' := #[true, true, true, true, false, false, false, false, false, false, false, false, false, false, false, false, false, false, false, false, false, false, false, false, false, false, false, false, false, false, false, false]) (by kernel_rfl) (fun _ _ _ h => h) (by kernel_rfl) (fun w' hR => by obtain ⟨x0, x1, x2, x3, x4, x5, x6⟩ := HX.out w' (by first | exact HK2.out.trans hR | exact HK1.out.trans hR | exact HK0.out.trans hR); go_simp; first | done | with_reducible rfl) rfl ?_
      try simp only [Act.put, List.setIfInBounds_toArray, List.set_cons_zero, List.set_cons_succ]
      refine rk_skip (fuel := 27) 4 rfl (by kernel_rfl) (listed' := #[true, true, true, true, true, false, false, false, false, false, false, false, false, false, false, false, false, false, false, false, false, false, false, false, false, false, false, false, false, false, false, false]) (by kernel_rfl) (fun _ _ _ h => h) (by kernel_rfl) rfl ?_
      try simp only [Act.put, List.setIfInBounds_toArray, List.set_cons_zero, List.set_cons_succ]
      refine rk_skip (fuel := 26) 5 rfl (by kernel_rfl) (listed' := #[true, true, true, true, true, true, false, false, false, false, false, false, false, false, false, false, false, false, false, false, false, false, false, false, false, false, false, false, false, false, false, false]) (by kernel_rfl) (fun _ _ _ h => h) (by kernel_rfl) rfl ?_
      try simp only [Act.put, List.setIfInBounds_toArray, List.set_cons_zero, List.set_cons_succ]
      refine rk_skip (fuel := 25) 6 rfl (by kernel_rfl) (listed' := #[true, true, true, true, true, true, true, false, false, false, false, false, false, false, false, false, false, false, false, false, false, false, false, false, false, false, false, false, false, false, false, false]) (by kernel_rfl) (fun _ _ _ h => h) (by kernel_rfl) rfl ?_
      try simp only [Act.put, List.setIfInBounds_toArray, List.set_cons_zero, List.set_cons_succ]
      refine rk_skip (fuel := 24) 7 rfl (by kernel_rfl) (listed' := #[true, true, true, true, true, true, true, true, false, false, false, false, false, false, false, false, false, false, false, false, false, false, false, false, false, false, false, false, false, false, false, false]) (by kernel_rfl) (fun _ _ _ h => h) (by kernel_rfl) rfl ?_
      try simp only [Act.put, List.setIfInBounds_toArray, List.set_cons_zero, List.set_cons_succ]
      refine rk_take (fuel := 23) 8 rfl (by kernel_rfl) (listed' := #[true, true, true, true, true, true, true, true, true, false, false, false, false, false, false, false, false, false, false, false, false, false, false, false, false, false, false, false, false, false, false, false]) (by kernel_rfl) (fun _ _ _ h => h) (by kernel_rfl) (fun w' hR => by obtain ⟨x0, x1, x2, x3, x4, x5, x6⟩ := HX.out w' (by first | exact HK2.out.trans hR | exact HK1.out.trans hR | exact HK0.out.trans hR); go_simp; first | done | with_reducible rfl) rfl ?_
      try simp only [Act.put, List.setIfInBounds_toArray, List.set_cons_zero, List.set_cons_succ]
      refine rk_take (fuel := 22) 9 rfl (by kernel_rfl) (listed' := #[true, true, true, true, true, true, true, true, true, true, false, false, false, false, false, false, false, false, false, false, false, false, false, false, false, false, false, false, false, false, false, false]) (by kernel_rfl) (fun _ _ _ h => h) (by kernel_rfl) (fun w' hR => by obtain ⟨x0, x1, x2, x3, x4, x5, x6⟩ := HX.out w' (by first | exact HK2.out.trans hR | exact HK1.out.trans hR | exact HK0.out.trans hR); go_simp; first | done | with_reducible rfl) rfl ?_
      try simp only [Act.put, List.setIfInBounds_toArray, List.set_cons_zero, List.set_cons_succ]
      refine rk_skip (fuel := 21) 10 rfl (by kernel_rfl) (listed' := #[true, true, true, true, true, true, true, true, true, true, true, false, false, false, false, false, false, false, false, false, false, false, false, false, false, false, false, false, false, false, false, false]) (by kernel_rfl) (fun _ _ _ h => h) (by kernel_rfl) rfl ?_
      try simp only [Act.put, List.setIfInBounds_toArray, List.set_cons_zero, List.set_cons_succ]
      refine rk_skip (fuel := 20) 11 rfl (by kernel_rfl) (listed' := #[true, true, true, true, true, true, true, true, true, true, true, true, false, false, false, false, false, false, false, false, false, false, false, false, false, false, false, false, false, false, false, false]) (by kernel_rfl) (fun _ _ _ h => h) (by kernel_rfl) rfl ?_
      try simp only [Act.put, List.setIfInBounds_toArray, List.set_cons_zero, List.set_cons_succ]
      refine rk_skip (fuel := 19) 12 rfl (by kernel_rfl) (listed' := #[true, true, true, true, true, true, true, true, true, true, true, true, true, false, false, false, false, false, false, false, false, false, false, false, false, false, false, false, false, false, false, false]) (by kernel_rfl) (fun _ _ _ h => h) (by kernel_rfl) rfl ?_
      try simp only [Act.put, List.setIfInBounds_toArray, List.set_cons_zero, List.set_cons_succ]
      refine rk_skip (fuel := 18) 13 rfl (by kernel_rfl) (listed' := #[true, true, true, true, true, true, true, true, true, true, true, true, true, true, false, false, false, false, false, false, false, false, false, false, false, false, false, false, false, false, false, false]) (by kernel_rfl) (fun _ _ _ h => h) (by kernel_rfl) rfl ?_
      try simp only [Act.put, List.setIfInBounds_toArray, List.set_cons_zero, List.set_cons_succ]
      refine rk_skip (fuel := 17) 14 rfl (by kernel_rfl) (listed' := #[true, true, true, true, true, true, true, true, true, true, true, true, true, true, true, false, false, false, false, false, false, false, false, false, false, false, false, false, false, false, false, false]) (by kernel_rfl) (fun _ _ _ h => h) (by kernel_rfl) rfl ?_
      try simp only [Act.put, List.setIfInBounds_toArray, List.set_cons_zero, List.set_cons_succ]
      refine rk_skip (fuel := 16) 15 rfl (by kernel_rfl) (listed' := #[true, true, true, true, true, true, true, true, true, true, true, true, true, true, true, true, false, false, false, false, false, false, false, false, false, false, false, false, false, false, false, false]) (by kernel_rfl) (fun _ _ _ h => h) (by kernel_rfl) rfl ?_
      try simp only [Act.put, List.setIfInBounds_toArray, List.set_cons_zero, List.set_cons_succ]
      refine rk_take (fuel := 15) 16 rfl (by kernel_rfl) (listed' := #[true, true, true, true, true, true, true, true, true, true, true, true, true, true, true, true, true, false, false, false, false, false, false, false, false, false, false, false, false, false, false, false]) (by kernel_rfl) (fun _ _ _ h => h) (by kernel_rfl) (fun w' hR => by obtain ⟨x0, x1, x2, x3, x4, x5, x6⟩ := HX.out w' (by first | exact HK2.out.trans hR | exact HK1.out.trans hR | exact HK0.out.trans hR); go_simp; first | done | with_reducible rfl) rfl ?_
      try simp only [Act.put, List.setIfInBounds_toArray, List.set_cons_zero, List.set_cons_succ]
      refine rk_take (fuel := 14) 17 rfl (by kernel_rfl) (listed' := #[true, true, true, true, true, true, true, true, true, true, true, true, true, true, true, true, true, true, false, false, false, false, false, false, false, false, false, false, false, false, false, false]) (by kernel_rfl) (fun _ _ _ h => h) (by kernel_rfl) (fun w' hR => by obtain ⟨x0, x1, x2, x3, x4, x5, x6⟩ := HX.out w' (by first | exact HK2.out.trans hR | exact HK1.out.trans hR | exact HK0.out.trans hR); go_simp; first | done | with_reducible rfl) rfl ?_
      try simp only [Act.put, List.setIfInBounds_toArray, List.set_cons_zero, List.set_cons_succ]
      refine rk_skip (fuel := 13) 18 rfl (by kernel_rfl) (listed' := #[true, true, true, true, true, true, true, true, true, true, true, true, true, true, true, true, true, true, true, false, false, false, false, false, false, false, false, false, false, false, false, false]) (by kernel_rfl) (fun _ _ _ h => h) (by kernel_rfl) rfl ?_
      try simp only [Act.put, List.setIfInBounds_toArray, List.set_cons_zero, List.set_cons_succ]
      refine rk_skip (fuel := 12) 19 rfl (by kernel_rfl) (listed' := #[true, true, true, true, true, true, true, true, true, true, true, true, true, true, true, true, true, true, true, true, false, false, false, false, false, false, false, false, false, false, false, false]) (by kernel_rfl) (fun _ _ _ h => h) (by kernel_rfl) rfl ?_
      try simp only [Act.put, List.setIfInBounds_toArray, List.set_cons_zero, List.set_cons_succ]
      refine rk_skip (fuel := 11) 20 rfl (by kernel_rfl) (listed' := #[true, true, true, true, true, true, true, true, true, true, true, true, true, true, true, true, true, true, true, true, true, false, false, false, false, false, false, false, false, false, false, false]) (by kernel_rfl) (fun _ _ _ h => h) (by kernel_rfl) rfl ?_
      try simp only [Act.put, List.setIfInBounds_toArray, List.set_cons_zero, List.set_cons_succ]
      refine rk_skip (fuel := 10) 21 rfl (by kernel_rfl) (listed' := #[true, true, true, true, true, true, true, true, true, true, true, true, true, true, true, true, true, true, true, true, true, true, false, false, false, false, false, false, false, false, false, false]) (by kernel_rfl) (fun _ _ _ h => h) (by kernel_rfl) rfl ?_
      try simp only [Act.put, List.setIfInBounds_toArray, List.set_cons_zero, List.set_cons_succ]
      refine rk_skip (fuel := 9) 22 rfl (by kernel_rfl) (listed' := #[true, true, true, true, true, true, true, true, true, true, true, true, true, true, true, true, true, true, true, true, true, true, true, false, false, false, false, false, false, false, false, false]) (by kernel_rfl) (fun _ _ _ h => h) (by kernel_rfl) rfl ?_
      try simp only [Act.put, List.setIfInBounds_toArray, List.set_cons_zero, List.set_cons_succ]
      refine rk_skip (fuel := 8) 23 rfl (by kernel_rfl) (listed' := #[true, true, true, true, true, true, true, true, true, true, true, true, true, true, true, true, true, true, true, true, true, true, true, true, false, false, false, false, false, false, false, false]) (by kernel_rfl) (fun _ _ _ h => h) (by kernel_rfl) rfl ?_
      try simp only [Act.put, List.setIfInBounds_toArray, List.set_cons_zero, List.set_cons_succ]
      refine rk_skip (fuel := 7) 24 rfl (by kernel_rfl) (listed' := #[true, true, true, true, true, true, true, true, true, true, true, true, true, true, true, true, true, true, true, true, true, true, true, true, true, false, false, false, false, false, false, false]) (by kernel_rfl) (fun _ _ _ h => h) (by kernel_rfl) rfl ?_
      try simp only [Act.put, List.setIfInBounds_toArray, List.set_cons_zero, List.set_cons_succ]
      refine rk_skip (fuel := 6) 25 rfl (by kernel_rfl) (listed' := #[true, true, true, true, true, true, true, true, true, true, true, true, true, true, true, true, true, true, true, true, true, true, true, true, true, true, false, false, false, false, false, false]) (by kernel_rfl) (fun _ _ _ h => h) (by kernel_rfl) rfl ?_
      try simp only [Act.put, List.setIfInBounds_toArray, List.set_cons_zero, List.set_cons_succ]
      refine rk_skip (fuel := 5) 26 rfl (by kernel_rfl) (listed' := #[true, true, true, true, true, true, true, true, true, true, true, true, true, true, true, true, true, true, true, true, true, true, true, true, true, true, true, false, false, false, false, false]) (by kernel_rfl) (fun _ _ _ h => h) (by kernel_rfl) rfl ?_
      try simp only [Act.put, List.setIfInBounds_toArray, List.set_cons_zero, List.set_cons_succ]
      refine rk_skip (fuel := 4) 27 rfl (by kernel_rfl) (listed' := #[true, true, true, true, true, true, true, true, true, true, true, true, true, true, true, true, true, true, true, true, true, true, true, true, true, true, true, true, false, false, false, false]) (by kernel_rfl) (fun _ _ _ h => h) (by kernel_rfl) rfl ?_
      try simp only [Act.put, List.setIfInBounds_toArray, List.set_cons_zero, List.set_cons_succ]
      refine rk_skip (fuel := 3) 28 rfl (by kernel_rfl) (listed' := #[true, true, true, true, true, true, true, true, true, true, true, true, true, true, true, true, true, true, true, true, true, true, true, true, true, true, true, true, true, false, false, false]) (by kernel_rfl) (fun _ _ _ h => h) (by kernel_rfl) rfl ?_
      try simp only [Act.put, List.setIfInBounds_toArray, List.set_cons_zero, List.set_cons_succ]
      refine rk_skip (fuel := 2) 29 rfl (by kernel_rfl) (listed' := #[true, true, true, true, true, true, true, true, true, true, true, true, true, true, true, true, true, true, true, true, true, true, true, true, true, true, true, true, true, true, false, false]) (by kernel_rfl) (fun _ _ _ h => h) (by kernel_rfl) rfl ?_
      try simp only [Act.put, List.setIfInBounds_toArray, List.set_cons_zero, List.set_cons_succ]
      refine rk_skip (fuel := 1) 30 rfl (by kernel_rfl) (listed' := #[true, true, true, true, true, true, true, true, true, true, true, true, true, true, true, true, true, true, true, true, true, true, true, true, true, true, true, true, true, true, true, false]) (by kernel_rfl) (fun _ _ _ h => h) (by kernel_rfl) rfl ?_
      try simp only [Act.put, List.setIfInBounds_toArray, List.set_cons_zero, List.set_cons_succ]
      refine rk_take (fuel := 0) 31 rfl (by kernel_rfl) (listed' := #[true, true, true, true, true, true, true, true, true, true, true, true, true, true, true, true, true, true, true, true, true, true, true, true, true, true, true, true, true, true, true, true]) (by kernel_rfl) (fun _ _ _ h => h) (by kernel_rfl) (fun w' hR => by obtain ⟨x0, x1, x2, x3, x4, x5, x6⟩ := HX.out w' (by first | exact HK2.out.trans hR | exact HK1.out.trans hR | exact HK0.out.trans hR); go_simp; first | done | with_reducible rfl) rfl ?_
      try simp only [Act.put, List.setIfInBounds_toArray, List.set_cons_zero, List.set_cons_succ]
      refine rk_done (by kernel_rfl) ?_
      go_wp2
      go_ret
      exact ⟨ret_i HE20.out.symm, HA.out.trans ((HK0.out.below (Nat.le_refl _) (fun _ _ h => h)).mono HA.out.size)⟩
  · have HE20 := Aside0.mk (HBAD.out (.inr (.inl h2)))
    have d1 := decide_eq_false h1
    have d2 := decide_eq_true h2
    rcases hMr with ⟨ht, rfl⟩ | ⟨ht, rfl⟩
    all_goals
      clear HE HM HBAD hbx ht3 HC
      go_enter Try.func122, Try.ntmps122
      go_wp2_with fail
      refine rk_start (fun _ => False) (by kernel_rfl) (n := 32) (l := #[false, false, false, false, false, false, false, false, false, false, false, false, false, false, false, false, false, false, false, false, false, false, false, false, false, false, false, false, false, false, false, false]) (by kernel_rfl) (by kernel_rfl) ?_
      refine rk_take (fuel := 31) 0 rfl (by kernel_rfl) (listed' := #[true, false, false, false, false, false, false, false, false, false, false, false, false, false, false, false, false, false, false, false, false, false, false, false, false, false, false, false, false, false, false, false]) (by kernel_rfl) (fun _ _ _ h => h) (by kernel_rfl) (fun w' hR => by obtain ⟨x0, x1, x2, x3, x4, x5, x6⟩ := HX.out w' (by first | exact HK2.out.trans hR | exact HK1.out.trans hR | exact HK0.out.trans hR); go_simp; first | done | with_reducible rfl) rfl ?_
      try simp only [Act.put, List.setIfInBounds_toArray, List.set_cons_zero, List.set_cons_succ]
      refine rk_take (fuel := 30) 1 rfl (by kernel_rfl) (listed' := #[true, true, false, false, false, false, false, false, false, false, false, false, false, false, false, false, false, false, false, false, false, false, false, false, false, false, false, false, false, false, false, false]) (by kernel_rfl) (fun _ _ _ h => h) (by kernel_rfl) (fun w' hR => by obtain ⟨x0, x1, x2, x3, x4, x5, x6⟩ := HX.out w' (by first | exact HK2.out.trans hR | exact HK1.out.trans hR | exact HK0.out.trans hR); go_simp; first | done | with_reducible rfl) rfl ?_
      try simp only [Act.put, List.setIfInBounds_toArray, List.set_cons_zero, List.set_cons_succ]
      refine rk_take (fuel := 29) 2 rfl (by kernel_rfl) (listed' := #[true, true, true, false, false, false, false, false, false, false, false, false, false, false, false, false, false, false, false, false, false, false, false, false, false, false, false, false, false, false, false, false]) (by kernel_rfl) (fun _ _ _ h => h) (by kernel_rfl) (fun w' hR => by obtain ⟨x0, x1, x2, x3, x4, x5, x6⟩ := HX.out w' (by first | exact HK2.out.trans hR | exact HK1.out.trans hR | exact HK0.out.trans hR); go_simp; first | done | with_reducible rfl) rfl ?_
      try simp only [Act.put, List.setIfInBounds_toArray, List.set_cons_zero, List.set_cons_succ]
      refine rk_take (fuel := 28) 3 rfl (by kernel_rfl) (listed' := #[true, true, true, true, false, false, false, false, false, false, false, false, false, false, false, false, false, false, false, false, false, false, false, false, false, false, false, false, false, false, false, false]) (by kernel_rfl) (fun _ _ _ h => h) (by kernel_rfl) (fun w' hR => by obtain ⟨x0, x1, x2, x3, x4, x5, x6⟩ := HX.out w' (by first | exact HK2.out.trans hR | exact HK1.out.trans hR | exact HK0.out.trans hR); go_simp; first | done | with_reducible rfl) rfl ?_
      try simp only [Act.put, List.setIfInBounds_toArray, List.set_cons_zero, List.set_cons_succ]
      refine rk_take (fuel := 27) 4 rfl (by kernel_rfl) (listed' := #[true, true, true, true, true, false, false, false, false, false, false, false, false, false, false, false, false, false, false, false, false, false, false, false, false, false, false, false, false, false, false, false]) (by kernel_rfl) (fun _ _ _ h => h) (by kernel_rfl) (fun w' hR => by obtain ⟨x0, x1, x2, x3, x4, x5, x6⟩ := HX.out w' (by first | exact HK2.out.trans hR | exact HK1.out.trans hR | exact HK0.out.trans hR); go_simp; first | done | with_reducible rfl) rfl ?_
      try simp only [Act.put, List.setIfInBounds_toArray, List.set_cons_zero, List.set_cons_succ]
      refine rk_take (fuel := 26) 5 rfl (by kernel_rfl) (listed' := #[true, true, true, true, true, true, false, false, false, false, false, false, false, false, false, false, false, false, false, false, false, false, false, false, false, false, false, false, false, false, false, false]) (by kernel_rfl) (fun _ _ _ h => h) (by kernel_rfl) (fun w' hR => by obtain ⟨x0, x1, x2, x3, x4, x5, x6⟩ := HX.out w' (by first | exact HK2.out.trans hR | exact HK1.out.trans hR | exact HK0.out.trans hR); go_simp; first | done | with_reducible rfl) rfl ?_
      try simp only [Act.put, List.setIfInBounds_toArray, List.set_cons_zero, List.set_cons_succ]
      refine rk_take (fuel := 25) 6 rfl (by kernel_rfl) (listed' := #[true, true, true, true, true, true, true, false, false, false, false, false, false, false, false, false, false, false, false, false, false, false, false, false, false, false, false, false, false, false, false, false]) (by kernel_rfl) (fun _ _ _ h => h) (by kernel_rfl) (fun w' hR => by obtain ⟨x0, x1, x2, x3, x4, x5, x6⟩ := HX.out w' (by first | exact HK2.out.trans hR | exact HK1.out.trans hR | exact HK0.out.trans hR); go_simp; first | done | with_reducible rfl) rfl ?_
      try simp only [Act.put, List.setIfInBounds_toArray, List.set_cons_zero, List.set_cons_succ]
      refine rk_take (fuel := 24) 7 rfl (by kernel_rfl) (listed' := #[true, true, true, true, true, true, true, true, false, false, false, false, false, false, false, false, false, false, false, false, false, false, false, false, false, false, false, false, false, false, false, false]) (by kernel_rfl) (fun _ _ _ h => h) (by kernel_rfl) (fun w' hR => by obtain ⟨x0, x1, x2, x3, x4, x5, x6⟩ := HX.out w' (by first | exact HK2.out.trans hR | exact HK1.out.trans hR | exact HK0.out.trans hR); go_simp; first | done | with_reducible rfl) rfl ?_
      try simp only [Act.put, List.setIfInBounds_toArray, List.set_cons_zero, List.set_cons_succ]
      refine rk_take (fuel := 23) 8 rfl (by kernel_rfl) (listed' := #[true, true, true, true, true, true, true, true, true, false, false, false, false, false, false, false, false, false, false, false, false, false, false, false, false, false, false, false, false, false, false, false]) (by kernel_rfl) (fun _ _ _ h => h) (by kernel_rfl) (fun w' hR => by obtain ⟨x0, x1, x2, x3, x4, x5, x6⟩ := HX.out w' (by first | exact HK2.out.trans hR | exact HK1.out.trans hR | exact HK0.out.trans hR); go_simp; first | done | with_reducible rfl) rfl ?_
      try simp only [Act.put, List.setIfInBounds_toArray, List.set_cons_zero, List.set_cons_succ]
      refine rk_take (fuel := 22) 9 rfl (by kernel_rfl) (listed' := #[true, true, true, true, true, true, true, true, true, true, false, false, false, false, false, false, false, false, false, false, false, false, false, false, false, false, false, false, false, false, false, false]) (by kernel_rfl) (fun _ _ _ h => h) (by kernel_rfl) (fun w' hR => by obtain ⟨x0, x1, x2, x3, x4, x5, x6⟩ := HX.out w' (by first | exact HK2.out.trans hR | exact HK1.out.trans hR | exact HK0.out.trans hR); go_simp; first | done | with_reducible rfl) rfl ?_
      try simp only [Act.put, List.setIfInBounds_toArray, List.set_cons_zero, List.set_cons_succ]
      refine rk_skip (fuel := 21) 10 rfl (by kernel_rfl) (listed' := #[true, true, true, true, true, true, true, true, true, true, true, false, false, false, false, false, false, false, false, false, false, false, false, false, false, false, false, false, false, false, false, false]) (by kernel_rfl) (fun _ _ _ h => h) (by kernel_rfl) rfl ?_
      try simp only [Act.put, List.setIfInBounds_toArray, List.set_cons_zero, List.set_cons_succ]
      refine rk_skip (fuel := 20) 11 rfl (by kernel_rfl) (listed' := #[true, true, true, true, true, true, true, true, true, true, true, true, false, false, false, false, false, false, false, false, false, false, false, false, false, false, false, false, false, false, false, false]) (by kernel_rfl) (fun _ _ _ h => h) (by kernel_rfl) rfl ?_
      try simp only [Act.put, List.setIfInBounds_toArray, List.set_cons_zero, List.set_cons_succ]
      refine rk_skip (fuel := 19) 12 rfl (by kernel_rfl) (listed' := #[true, true, true, true, true, true, true, true, true, true, true, true, true, false, false, false, false, false, false, false, false, false, false, false, false, false, false, false, false, false, false, false]) (by kernel_rfl) (fun _ _ _ h => h) (by kernel_rfl) rfl ?_
      try simp only [Act.put, List.setIfInBounds_toArray, List.set_cons_zero, List.set_cons_succ]
      refine rk_skip (fuel := 18) 13 rfl (by kernel_rfl) (listed' := #[true, true, true, true, true, true, true, true, true, true, true, true, true, true, false, false, false, false, false, false, false, false, false, false, false, false, false, false, false, false, false, false]) (by kernel_rfl) (fun _ _ _ h => h) (by kernel_rfl) rfl ?_
      try simp only [Act.put, List.setIfInBounds_toArray, List.set_cons_zero, List.set_cons_succ]
      refine rk_skip (fuel := 17) 14 rfl (by kernel_rfl) (listed' := #[true, true, true, true, true, true, true, true, true, true, true, true, true, true, true, false, false, false, false, false, false, false, false, false, false, false, false, false, false, false, false, false]) (by kernel_rfl) (fun _ _ _ h => h) (by kernel_rfl) rfl ?_
      try simp only [Act.put, List.setIfInBounds_toArray, List.set_cons_zero, List.set_cons_succ]
      refine rk_skip (fuel := 16) 15 rfl (by kernel_rfl) (listed' := #[true, true, true, true, true, true, true, true, true, true, true, true, true, true, true, true, false, false, false, false, false, false, false, false, false, false, false, false, false, false, false, false]) (by kernel_rfl) (fun _ _ _ h => h) (by kernel_rfl) rfl ?_
      try simp only [Act.put, List.setIfInBounds_toArray, List.set_cons_zero, List.set_cons_succ]
      refine rk_take (fuel := 15) 16 rfl (by kernel_rfl) (listed' := #[true, true, true, true, true, true, true, true, true, true, true, true, true, true, true, true, true, false, false, false, false, false, false, false, false, false, false, false, false, false, false, false]) (by kernel_rfl) (fun _ _ _ h => h) (by kernel_rfl) (fun w' hR => by obtain ⟨x0, x1, x2, x3, x4, x5, x6⟩ := HX.out w' (by first | exact HK2.out.trans hR | exact HK1.out.trans hR | exact HK0.out.trans hR); go_simp; first | done | with_reducible rfl) rfl ?_
      try simp only [Act.put, List.setIfInBounds_toArray, List.set_cons_zero, List.set_cons_succ]
      refine rk_take (fuel := 14) 17 rfl (by kernel_rfl) (listed' := #[true, true, true, true, true, true, true, true, true, true, true, true, true, true, true, true, true, true, false, false, false, false, false, false, false, false, false, false, false, false, false, false]) (by kernel_rfl) (fun _ _ _ h => h) (by kernel_rfl) (fun w' hR => by obtain ⟨x0, x1, x2, x3, x4, x5, x6⟩ := HX.out w' (by first | exact HK2.out.trans hR | exact HK1.out.trans hR | exact HK0.out.trans hR); go_simp; first | done | with_reducible rfl) rfl ?_
      try simp only [Act.put, List.setIfInBounds_toArray, List.set_cons_zero, List.set_cons_succ]
      refine rk_skip (fuel := 13) 18 rfl (by kernel_rfl) (listed' := #[true, true, true, true, true, true, true, true, true, true, true, true, true, true, true, true, true, true, true, false, false, false, false, false, false, false, false, false, false, false, false, false]) (by kernel_rfl) (fun _ _ _ h => h) (by kernel_rfl) rfl ?_
      try simp only [Act.put, List.setIfInBounds_toArray, List.set_cons_zero, List.set_cons_succ]
      refine rk_skip (fuel := 12) 19 rfl (by kernel_rfl) (listed' := #[true, true, true, true, true, true, true, true, true, true, true, true, true, true, true, true, true, true, true, true, false, false, false, false, false, false, false, false, false, false, false, false]) (by kernel_rfl) (fun _ _ _ h => h) (by kernel_rfl) rfl ?_
      try simp only [Act.put, List.setIfInBounds_toArray, List.set_cons_zero, List.set_cons_succ]
      refine rk_skip (fuel := 11) 20 rfl (by kernel_rfl) (listed' := #[true, true, true, true, true, true, true, true, true, true, true, true, true, true, true, true, true, true, true, true, true, false, false, false, false, false, false, false, false, false, false, false]) (by kernel_rfl) (fun _ _ _ h => h) (by kernel_rfl) rfl ?_
      try simp only [Act.put, List.setIfInBounds_toArray, List.set_cons_zero, List.set_cons_succ]
      refine rk_skip (fuel := 10) 21 rfl (by kernel_rfl) (listed' := #[true, true, true, true, true, true, true, true, true, true, true, true, true, true, true, true, true, true, true, true, true, true, false, false, false, false, false, false, false, false, false, false]) (by kernel_rfl) (fun _ _ _ h => h) (by kernel_rfl) rfl ?_
      try simp only [Act.put, List.setIfInBounds_toArray, List.set_cons_zero, List.set_cons_succ]
      refine rk_skip (fuel := 9) 22 rfl (by kernel_rfl) (listed' := #[true, true, true, true, true, true, true, true, true, true, true, true, true, true, true, true, true, true, true, true, true, true, true, false, false, false, false, false, false, false, false, false]) (by kernel_rfl) (fun _ _ _ h => h) (by kernel_rfl) rfl ?_
      try simp only [Act.put, List.setIfInBounds_toArray, List.set_cons_zero, List.set_cons_succ]
      refine rk_skip (fuel := 8) 23 rfl (by kernel_rfl) (listed' := #[true, true, true, true, true, true, true, true, true, true, true, true, true, true, true, true, true, true, true, true, true, true, true, true, false, false, false, false, false, false, false, false]) (by kernel_rfl) (fun _ _ _ h => h) (by kernel_rfl) rfl ?_
      try simp only [Act.put, List.setIfInBounds_toArray, List.set_cons_zero, List.set_cons_succ]
      refine rk_skip (fuel := 7) 24 rfl (by kernel_rfl) (listed' := #[true, true, true, true, true, true, true, true, true, true, true, true, true, true, true, true, true, true, true, true, true, true, true, true, true, false, false, false, false, false, false, false]) (by kernel_rfl) (fun _ _ _ h => h) (by kernel_rfl) rfl ?_
      try simp only [Act.put, List.setIfInBounds_toArray, List.set_cons_zero, List.set_cons_succ]
      refine rk_skip (fuel := 6) 25 rfl (by kernel_rfl) (listed' := #[true, true, true, true, true, true, true, true, true, true, true, true, true, true, true, true, true, true, true, true, true, true, true, true, true, true, false, false, false, false, false, false]) (by kernel_rfl) (fun _ _ _ h => h) (by kernel_rfl) rfl ?_
      try simp only [Act.put, List.setIfInBounds_toArray, List.set_cons_zero, List.set_cons_succ]
      refine rk_skip (fuel := 5) 26 rfl (by kernel_rfl) (listed' := #[true, true, true, true, true, true, true, true, true, true, true, true, true, true, true, true, true, true, true, true, true, true, true, true, true, true, true, false, false, false, false, false]) (by kernel_rfl) (fun _ _ _ h => h) (by kernel_rfl) rfl ?_
      try simp only [Act.put, List.setIfInBounds_toArray, List.set_cons_zero, List.set_cons_succ]
      refine rk_skip (fuel := 4) 27 rfl (by kernel_rfl) (listed' := #[true, true, true, true, true, true, true, true, true, true, true, true, true, true, true, true, true, true, true, true, true, true, true, true, true, true, true, true, false, false, false, false]) (by kernel_rfl) (fun _ _ _ h => h) (by kernel_rfl) rfl ?_
      try simp only [Act.put, List.setIfInBounds_toArray, List.set_cons_zero, List.set_cons_succ]
      refine rk_skip (fuel := 3) 28 rfl (by kernel_rfl) (listed' := #[true, true, true, true, true, true, true, true, true, true, true, true, true, true, true, true, true, true, true, true, true, true, true, true, true, true, true, true, true, false, false, false]) (by kernel_rfl) (fun _ _ _ h => h) (by kernel_rfl) rfl ?_
      try simp only [Act.put, List.setIfInBounds_toArray, List.set_cons_zero, List.set_cons_succ]
      refine rk_skip (fuel := 2) 29 rfl (by kernel_rfl) (listed' := #[true, true, true, true, true, true, true, true, true, true, true, true, true, true, true, true, true, true, true, true, true, true, true, true, true, true, true, true, true, true, false, false]) (by kernel_rfl) (fun _ _ _ h => h) (by kernel_rfl) rfl ?_
      try simp only [Act.put, List.setIfInBounds_toArray, List.set_cons_zero, List.set_cons_succ]
      refine rk_skip (fuel := 1) 30 rfl (by kernel_rfl) (listed' := #[true, true, true, true, true, true, true, true, true, true, true, true, true, true, true, true, true, true, true, true, true, true, true, true, true, true, true, true, true, true, true, false]) (by kernel_rfl) (fun _ _ _ h => h) (by kernel_rfl) rfl ?_
      try simp only [Act.put, List.setIfInBounds_toArray, List.set_cons_zero, List.set_cons_succ]
      refine rk_take (fuel := 0) 31 rfl (by kernel_rfl) (listed' := #[true, true, true, true, true, true, true, true, true, true, true, true, true, true, true, true, true, true, true, true, true, true, true, true, true, true, true, true, true, true, true, true]) (by kernel_rfl) (fun _ _ _ h => h) (by kernel_rfl) (fun w' hR => by obtain ⟨x0, x1, x2, x3, x4, x5, x6⟩ := HX.out w' (by first | exact HK2.out.trans hR | exact HK1.out.trans hR | exact HK0.out.trans hR); go_simp; first | done | with_reducible rfl) rfl ?_
      try simp only [Act.put, List.setIfInBounds_toArray, List.set_cons_zero, List.set_cons_succ]
      refine rk_done (by kernel_rfl) ?_
      go_wp2
      go_ret
      exact ⟨ret_i HE20.out.symm, HA.out.trans ((HK0.out.below (Nat.le_refl _) (fun _ _ h => h)).mono HA.out.size)⟩
  · have HE20 := Aside0.mk (HBAD.out (.inr (.inr (.inl h3))))
    have HZP := Aside0.mk (show zeroB (k, op, d, a, b, n, args) (namesA k) = false from (zero_plain k op d a b n args (by rcases hMr with h | h <;> omega)).trans h3)
    clear h3
    have d1 := decide_eq_false h1
    have d2 := decide_eq_false h2
    rcases hMr with ⟨ht, rfl⟩ | ⟨ht, rfl⟩
    all_goals
      clear HE HM HBAD hbx ht3 HC
      go_enter Try.func122, Try.ntmps122
      go_wp2_with fail
      refine rk_start (fun _ => False) (by kernel_rfl) (n := 32) (l := #[false, false, false, false, false, false, false, false, false, false, false, false, false, false, false, false, false, false, false, false, false, false, false, false, false, false, false, false, false, false, false, false]) (by kernel_rfl) (by kernel_rfl) ?_
      refine rk_take (fuel := 31) 0 rfl (by kernel_rfl) (listed' := #[true, false, false, false, false, false, false, false, false, false, false, false, false, false, false, false, false, false, false, false, false, false, false, false, false, false, false, false, false, false, false, false]) (by kernel_rfl) (fun _ _ _ h => h) (by kernel_rfl) (fun w' hR => by obtain ⟨x0, x1, x2, x3, x4, x5, x6⟩ := HX.out w' (by first | exact HK2.out.trans hR | exact HK1.out.trans hR | exact HK0.out.trans hR); go_simp; first | done | with_reducible rfl) rfl ?_
      try simp only [Act.put, List.setIfInBounds_toArray, List.set_cons_zero, List.set_cons_succ]
      refine rk_take (fuel := 30) 1 rfl (by kernel_rfl) (listed' := #[true, true, false, false, false, false, false, false, false, false, false, false, false, false, false, false, false, false, false, false, false, false, false, false, false, false, false, false, false, false, false, false]) (by kernel_rfl) (fun _ _ _ h => h) (by kernel_rfl) (fun w' hR => by obtain ⟨x0, x1, x2, x3, x4, x5, x6⟩ := HX.out w' (by first | exact HK2.out.trans hR | exact HK1.out.trans hR | exact HK0.out.trans hR); go_simp; first | done | with_reducible rfl) rfl ?_
      try simp only [Act.put, List.setIfInBounds_toArray, List.set_cons_zero, List.set_cons_succ]
      refine rk_take (fuel := 29) 2 rfl (by kernel_rfl) (listed' := #[true, true, true, false, false, false, false, false, false, false, false, false, false, false, false, false, false, false, false, false, false, false, false, false, false, false, false, false, false, false, false, false]) (by kernel_rfl) (fun _ _ _ h => h) (by kernel_rfl) (fun w' hR => by obtain ⟨x0, x1, x2, x3, x4, x5, x6⟩ := HX.out w' (by first | exact HK2.out.trans hR | exact HK1.out.trans hR | exact HK0.out.trans hR); go_simp; first | done | with_reducible rfl) rfl ?_
      try simp only [Act.put, List.setIfInBounds_toArray, List.set_cons_zero, List.set_cons_succ]
      refine rk_take (fuel := 28) 3 rfl (by kernel_rfl) (listed' := #[true, true, true, true, false, false, false, false, false, false, false, false, false, false, false, false, false, false, false, false, false, false, false, false, false, false, false, false, false, false, false, false]) (by kernel_rfl) (fun _ _ _ h => h) (by kernel_rfl) (fun w' hR => by obtain ⟨x0, x1, x2, x3, x4, x5, x6⟩ := HX.out w' (by first | exact HK2.out.trans hR | exact HK1.out.trans hR | exact HK0.out.trans hR); go_simp; first | done | with_reducible rfl) rfl ?_
      try simp only [Act.put, List.setIfInBounds_toArray, List.set_cons_zero, List.set_cons_succ]
      refine rk_take (fuel := 27) 4 rfl (by kernel_rfl) (listed' := #[true, true, true, true, true, false, false, false, false, false, false, false, false, false, false, false, false, false, false, false, false, false, false, false, false, false, false, false, false, false, false, false]) (by kernel_rfl) (fun _ _ _ h => h) (by kernel_rfl) (fun w' hR => by obtain ⟨x0, x1, x2, x3, x4, x5, x6⟩ := HX.out w' (by first | exact HK2.out.trans hR | exact HK1.out.trans hR | exact HK0.out.trans hR); go_simp; first | done | with_reducible rfl) rfl ?_
      try simp only [Act.put, List.setIfInBounds_toArray, List.set_cons_zero, List.set_cons_succ]
      refine rk_take (fuel := 26) 5 rfl (by kernel_rfl) (listed' := #[true, true, true, true, true, true, false, false, false, false, false, false, false, false, false, false, false, false, false, false, false, false, false, false, false, false, false, false, false, false, false, false]) (by kernel_rfl) (fun _ _ _ h => h) (by kernel_rfl) (fun w' hR => by obtain ⟨x0, x1, x2, x3, x4, x5, x6⟩ := HX.out w' (by first | exact HK2.out.trans hR | exact HK1.out.trans hR | exact HK0.out.trans hR); go_simp; first | done | with_reducible rfl) rfl ?_
      try simp only [Act.put, List.setIfInBounds_toArray, List.set_cons_zero, List.set_cons_succ]
      refine rk_take (fuel := 25) 6 rfl (by kernel_rfl) (listed' := #[true, true, true, true, true, true, true, false, false, false, false, false, false, false, false, false, false, false, false, false, false, false, false, false, false, false, false, false, false, false, false, false]) (by kernel_rfl) (fun _ _ _ h => h) (by kernel_rfl) (fun w' hR => by obtain ⟨x0, x1, x2, x3, x4, x5, x6⟩ := HX.out w' (by first | exact HK2.out.trans hR | exact HK1.out.trans hR | exact HK0.out.trans hR); go_simp; first | done | with_reducible rfl) rfl ?_
      try simp only [Act.put, List.setIfInBounds_toArray, List.set_cons_zero, List.set_cons_succ]
      refine rk_take (fuel := 24) 7 rfl (by kernel_rfl) (listed' := #[true, true, true, true, true, true, true, true, false, false, false, false, false, false, false, false, false, false, false, false, false, false, false, false, false, false, false, false, false, false, false, false]) (by kernel_rfl) (fun _ _ _ h => h) (by kernel_rfl) (fun w' hR => by obtain ⟨x0, x1, x2, x3, x4, x5, x6⟩ := HX.out w' (by first | exact HK2.out.trans hR | exact HK1.out.trans hR | exact HK0.out.trans hR); go_simp; first | done | with_reducible rfl) rfl ?_
      try simp only [Act.put, List.setIfInBounds_toArray, List.set_cons_zero, List.set_cons_succ]
      refine rk_take (fuel := 23) 8 rfl (by kernel_rfl) (listed' := #[true, true, true, true, true, true, true, true, true, false, false, false, false, false, false, false, false, false, false, false, false, false, false, false, false, false, false, false, false, false, false, false]) (by kernel_rfl) (fun _ _ _ h => h) (by kernel_rfl) (fun w' hR => by obtain ⟨x0, x1, x2, x3, x4, x5, x6⟩ := HX.out w' (by first | exact HK2.out.trans hR | exact HK1.out.trans hR | exact HK0.out.trans hR); go_simp; first | done | with_reducible rfl) rfl ?_
      try simp only [Act.put, List.setIfInBounds_toArray, List.set_cons_zero, List.set_cons_succ]
      refine rk_take (fuel := 22) 9 rfl (by kernel_rfl) (listed' := #[true, true, true, true, true, true, true, true, true, true, false, false, false, false, false, false, false, false, false, false, false, false, false, false, false, false, false, false, false, false, false, false]) (by kernel_rfl) (fun _ _ _ h => h) (by kernel_rfl) (fun w' hR => by obtain ⟨x0, x1, x2, x3, x4, x5, x6⟩ := HX.out w' (by first | exact HK2.out.trans hR | exact HK1.out.trans hR | exact HK0.out.trans hR); go_simp; first | done | with_reducible rfl) rfl ?_
      try simp only [Act.put, List.setIfInBounds_toArray, List.set_cons_zero, List.set_cons_succ]
      refine rk_take (fuel := 21) 10 rfl (by kernel_rfl) (listed' := #[true, true, true, true, true, true, true, true, true, true, true, false, false, false, false, false, false, false, false, false, false, false, false, false, false, false, false, false, false, false, false, false]) (by kernel_rfl) (fun _ _ _ h => h) (by kernel_rfl) (fun w' hR => by obtain ⟨x0, x1, x2, x3, x4, x5, x6⟩ := HX.out w' (by first | exact HK2.out.trans hR | exact HK1.out.trans hR | exact HK0.out.trans hR); go_simp; first | done | with_reducible rfl) rfl ?_
      try simp only [Act.put, List.setIfInBounds_toArray, List.set_cons_zero, List.set_cons_succ]
      refine rk_take (fuel := 20) 11 rfl (by kernel_rfl) (listed' := #[true, true, true, true, true, true, true, true, true, true, true, true, false, false, false, false, false, false, false, false, false, false, false, false, false, false, false, false, false, false, false, false]) (by kernel_rfl) (fun _ _ _ h => h) (by kernel_rfl) (fun w' hR => by obtain ⟨x0, x1, x2, x3, x4, x5, x6⟩ := HX.out w' (by first | exact HK2.out.trans hR | exact HK1.out.trans hR | exact HK0.out.trans hR); go_simp; first | done | with_reducible rfl) rfl ?_
      try simp only [Act.put, List.setIfInBounds_toArray, List.set_cons_zero, List.set_cons_succ]
      refine rk_take (fuel := 19) 12 rfl (by kernel_rfl) (listed' := #[true, true, true, true, true, true, true, true, true, true, true, true, true, false, false, false, false, false, false, false, false, false, false, false, false, false, false, false, false, false, false, false]) (by kernel_rfl) (fun _ _ _ h => h) (by kernel_rfl) (fun w' hR => by obtain ⟨x0, x1, x2, x3, x4, x5, x6⟩ := HX.out w' (by first | exact HK2.out.trans hR | exact HK1.out.trans hR | exact HK0.out.trans hR); go_simp; first | done | with_reducible rfl) rfl ?_
      try simp only [Act.put, List.setIfInBounds_toArray, List.set_cons_zero, List.set_cons_succ]
      refine rk_step (fuel := 18) 13 rfl (by kernel_rfl) (listed' := #[true, true, true, true, true, true, true, true, true, true, true, true, true, true, false, false, false, false, false, false, false, false, false, false, false, false, false, false, false, false, false, false]) (by kernel_rfl) (by kernel_rfl) (fun K' hK => ?_)
      go_wp2_with (go_at_call 124; refine (names_calls k _ ⟨by omega, by omega⟩).mono ?_; rintro _ w1 ⟨rfl, hb⟩; have HB1 := Aside0.mk hb; have HK1 := Aside0.mk (HK0.out.trans (Keep.of_below hb)); clear hb)
      refine hK.out _ _ (Keep.of_below HB1.out) ?_
      clear hK K'
      try simp only [Act.put, List.setIfInBounds_toArray, List.set_cons_zero, List.set_cons_succ]
      refine rk_step (fuel := 17) 14 rfl (by kernel_rfl) (listed' := #[true, true, true, true, true, true, true, true, true, true, true, true, true, true, true, false, false, false, false, false, false, false, false, false, false, false, false, false, false, false, false, false]) (by kernel_rfl) (by kernel_rfl) (fun K' hK => ?_)
      go_wp2_with (go_at_call 143; refine (zero_calls k op d a b n args A c (namesA k) (names_small k) w1).mono ?_; rintro _ w2 ⟨rfl, hb⟩; rw [HZP.out]; have HB2 := Aside0.mk hb; have HK2 := Aside0.mk (HK1.out.trans (Keep.of_below hb)); clear hb)
      refine hK.out _ _ (Keep.of_below HB2.out) ?_
      clear hK K'
      try simp only [Act.put, List.setIfInBounds_toArray, List.set_cons_zero, List.set_cons_succ]
      refine rk_take (fuel := 16) 15 rfl (by kernel_rfl) (listed' := #[true, true, true, true, true, true, true, true, true, true, true, true, true, true, true, true, false, false, false, false, false, false, false, false, false, false, false, false, false, false, false, false]) (by kernel_rfl) (fun _ _ _ h => h) (by kernel_rfl) (fun w' hR => by obtain ⟨x0, x1, x2, x3, x4, x5, x6⟩ := HX.out w' (by first | exact HK2.out.trans hR | exact HK1.out.trans hR | exact HK0.out.trans hR); go_simp; first | done | with_reducible rfl) rfl ?_
      try simp only [Act.put, List.setIfInBounds_toArray, List.set_cons_zero, List.set_cons_succ]
      refine rk_take (fuel := 15) 16 rfl (by kernel_rfl) (listed' := #[true, true, true, true, true, true, true, true, true, true, true, true, true, true, true, true, true, false, false, false, false, false, false, false, false, false, false, false, false, false, false, false]) (by kernel_rfl) (fun _ _ _ h => h) (by kernel_rfl) (fun w' hR => by obtain ⟨x0, x1, x2, x3, x4, x5, x6⟩ := HX.out w' (by first | exact HK2.out.trans hR | exact HK1.out.trans hR | exact HK0.out.trans hR); go_simp; first | done | with_reducible rfl) rfl ?_
      try simp only [Act.put, List.setIfInBounds_toArray, List.set_cons_zero, List.set_cons_succ]
      refine rk_take (fuel := 14) 17 rfl (by kernel_rfl) (listed' := #[true, true, true, true, true, true, true, true, true, true, true, true, true, true, true, true, true, true, false, false, false, false, false, false, false, false, false, false, false, false, false, false]) (by kernel_rfl) (fun _ _ _ h => h) (by kernel_rfl) (fun w' hR => by obtain ⟨x0, x1, x2, x3, x4, x5, x6⟩ := HX.out w' (by first | exact HK2.out.trans hR | exact HK1.out.trans hR | exact HK0.out.trans hR); go_simp; first | done | with_reducible rfl) rfl ?_
      try simp only [Act.put, List.setIfInBounds_toArray, List.set_cons_zero, List.set_cons_succ]
      refine rk_skip (fuel := 13) 18 rfl (by kernel_rfl) (listed' := #[true, true, true, true, true, true, true, true, true, true, true, true, true, true, true, true, true, true, true, false, false, false, false, false, false, false, false, false, false, false, false, false]) (by kernel_rfl) (fun _ _ _ h => h) (by kernel_rfl) rfl ?_
      try simp only [Act.put, List.setIfInBounds_toArray, List.set_cons_zero, List.set_cons_succ]
      refine rk_skip (fuel := 12) 19 rfl (by kernel_rfl) (listed' := #[true, true, true, true, true, true, true, true, true, true, true, true, true, true, true, true, true, true, true, true, false, false, false, false, false, false, false, false, false, false, false, false]) (by kernel_rfl) (fun _ _ _ h => h) (by kernel_rfl) rfl ?_
      try simp only [Act.put, List.setIfInBounds_toArray, List.set_cons_zero, List.set_cons_succ]
      refine rk_skip (fuel := 11) 20 rfl (by kernel_rfl) (listed' := #[true, true, true, true, true, true, true, true, true, true, true, true, true, true, true, true, true, true, true, true, true, false, false, false, false, false, false, false, false, false, false, false]) (by kernel_rfl) (fun _ _ _ h => h) (by kernel_rfl) rfl ?_
      try simp only [Act.put, List.setIfInBounds_toArray, List.set_cons_zero, List.set_cons_succ]
      refine rk_skip (fuel := 10) 21 rfl (by kernel_rfl) (listed' := #[true, true, true, true, true, true, true, true, true, true, true, true, true, true, true, true, true, true, true, true, true, true, false, false, false, false, false, false, false, false, false, false]) (by kernel_rfl) (fun _ _ _ h => h) (by kernel_rfl) rfl ?_
      try simp only [Act.put, List.setIfInBounds_toArray, List.set_cons_zero, List.set_cons_succ]
      refine rk_skip (fuel := 9) 22 rfl (by kernel_rfl) (listed' := #[true, true, true, true, true, true, true, true, true, true, true, true, true, true, true, true, true, true, true, true, true, true, true, false, false, false, false, false, false, false, false, false]) (by kernel_rfl) (fun _ _ _ h => h) (by kernel_rfl) rfl ?_
      try simp only [Act.put, List.setIfInBounds_toArray, List.set_cons_zero, List.set_cons_succ]
      refine rk_skip (fuel := 8) 23 rfl (by kernel_rfl) (listed' := #[true, true, true, true, true, true, true, true, true, true, true, true, true, true, true, true, true, true, true, true, true, true, true, true, false, false, false, false, false, false, false, false]) (by kernel_rfl) (fun _ _ _ h => h) (by kernel_rfl) rfl ?_
      try simp only [Act.put, List.setIfInBounds_toArray, List.set_cons_zero, List.set_cons_succ]
      refine rk_skip (fuel := 7) 24 rfl (by kernel_rfl) (listed' := #[true, true, true, true, true, true, true, true, true, true, true, true, true, true, true, true, true, true, true, true, true, true, true, true, true, false, false, false, false, false, false, false]) (by kernel_rfl) (fun _ _ _ h => h) (by kernel_rfl) rfl ?_
      try simp only [Act.put, List.setIfInBounds_toArray, List.set_cons_zero, List.set_cons_succ]
      refine rk_skip (fuel := 6) 25 rfl (by kernel_rfl) (listed' := #[true, true, true, true, true, true, true, true, true, true, true, true, true, true, true, true, true, true, true, true, true, true, true, true, true, true, false, false, false, false, false, false]) (by kernel_rfl) (fun _ _ _ h => h) (by kernel_rfl) rfl ?_
      try simp only [Act.put, List.setIfInBounds_toArray, List.set_cons_zero, List.set_cons_succ]
      refine rk_skip (fuel := 5) 26 rfl (by kernel_rfl) (listed' := #[true, true, true, true, true, true, true, true, true, true, true, true, true, true, true, true, true, true, true, true, true, true, true, true, true, true, true, false, false, false, false, false]) (by kernel_rfl) (fun _ _ _ h => h) (by kernel_rfl) rfl ?_
      try simp only [Act.put, List.setIfInBounds_toArray, List.set_cons_zero, List.set_cons_succ]
      refine rk_skip (fuel := 4) 27 rfl (by kernel_rfl) (listed' := #[true, true, true, true, true, true, true, true, true, true, true, true, true, true, true, true, true, true, true, true, true, true, true, true, true, true, true, true, false, false, false, false]) (by kernel_rfl) (fun _ _ _ h => h) (by kernel_rfl) rfl ?_
      try simp only [Act.put, List.setIfInBounds_toArray, List.set_cons_zero, List.set_cons_succ]
      refine rk_skip (fuel := 3) 28 rfl (by kernel_rfl) (listed' := #[true, true, true, true, true, true, true, true, true, true, true, true, true, true, true, true, true, true, true, true, true, true, true, true, true, true, true, true, true, false, false, false]) (by kernel_rfl) (fun _ _ _ h => h) (by kernel_rfl) rfl ?_
      try simp only [Act.put, List.setIfInBounds_toArray, List.set_cons_zero, List.set_cons_succ]
      refine rk_skip (fuel := 2) 29 rfl (by kernel_rfl) (listed' := #[true, true, true, true, true, true, true, true, true, true, true, true, true, true, true, true, true, true, true, true, true, true, true, true, true, true, true, true, true, true, false, false]) (by kernel_rfl) (fun _ _ _ h => h) (by kernel_rfl) rfl ?_
      try simp only [Act.put, List.setIfInBounds_toArray, List.set_cons_zero, List.set_cons_succ]
      refine rk_skip (fuel := 1) 30 rfl (by kernel_rfl) (listed' := #[true, true, true, true, true, true, true, true, true, true, true, true, true, true, true, true, true, true, true, true, true, true, true, true, true, true, true, true, true, true, true, false]) (by kernel_rfl) (fun _ _ _ h => h) (by kernel_rfl) rfl ?_
      try simp only [Act.put, List.setIfInBounds_toArray, List.set_cons_zero, List.set_cons_succ]
      refine rk_take (fuel := 0) 31 rfl (by kernel_rfl) (listed' := #[true, true, true, true, true, true, true, true, true, true, true, true, true, true, true, true, true, true, true, true, true, true, true, true, true, true, true, true, true, true, true, true]) (by kernel_rfl) (fun _ _ _ h => h) (by kernel_rfl) (fun w' hR => by obtain ⟨x0, x1, x2, x3, x4, x5, x6⟩ := HX.out w' (by first | exact HK2.out.trans hR | exact HK1.out.trans hR | exact HK0.out.trans hR); go_simp; first | done | with_reducible rfl) rfl ?_
      try simp only [Act.put, List.setIfInBounds_toArray, List.set_cons_zero, List.set_cons_succ]
      refine rk_done (by kernel_rfl) ?_
      go_wp2
      go_ret
      exact ⟨ret_i HE20.out.symm, HA.out.trans ((HK2.out.below (Nat.le_refl _) (fun _ _ h => h)).mono HA.out.size)⟩
  · have HE20 := Aside0.mk (HBAD.out (.inr (.inr (.inr ⟨rfl, .inl h5⟩))))
    have HZP := Aside0.mk (show zeroB (3, op, d, a, b, n, args) (namesA 3) = true from (zero_plain 3 op d a b n args (by rcases hMr with h | h <;> omega)).trans h3)
    clear h3
    have d5 := decide_eq_true h5
    rcases hMr with ⟨ht, rfl⟩ | ⟨ht, rfl⟩
    all_goals
      clear HE HM HBAD hbx ht3 HC
      go_enter Try.func122, Try.ntmps122
      go_wp2_with fail
      refine rk_start (fun _ => False) (by kernel_rfl) (n := 32) (l := #[false, false, false, false, false, false, false, false, false, false, false, false, false, false, false, false, false, false, false, false, false, false, false, false, false, false, false, false, false, false, false, false]) (by kernel_rfl) (by kernel_rfl) ?_
      refine rk_take (fuel := 31) 0 rfl (by kernel_rfl) (listed' := #[true, false, false, false, false, false, false, false, false, false, false, false, false, false, false, false, false, false, false, false, false, false, false, false, false, false, false, false, false, false, false, false]) (by kernel_rfl) (fun _ _ _ h => h) (by kernel_rfl) (fun w' hR => by obtain ⟨x0, x1, x2, x3, x4, x5, x6⟩ := HX.out w' (by first | exact HK2.out.trans hR | exact HK1.out.trans hR | exact HK0.out.trans hR); go_simp; first | done | with_reducible rfl) rfl ?_
      try simp only [Act.put, List.setIfInBounds_toArray, List.set_cons_zero, List.set_cons_succ]
      refine rk_take (fuel := 30) 1 rfl (by kernel_rfl) (listed' := #[true, true, false, false, false, false, false, false, false, false, false, false, false, false, false, false, false, false, false, false, false, false, false, false, false, false, false, false, false, false, false, false]) (by kernel_rfl) (fun _ _ _ h => h) (by kernel_rfl) (fun w' hR => by obtain ⟨x0, x1, x2, x3, x4, x5, x6⟩ := HX.out w' (by first | exact HK2.out.trans hR | exact HK1.out.trans hR | exact HK0.out.trans hR); go_simp; first | done | with_reducible rfl) rfl ?_
      try simp only [Act.put, List.setIfInBounds_toArray, List.set_cons_zero, List.set_cons_succ]
      refine rk_take (fuel := 29) 2 rfl (by kernel_rfl) (listed' := #[true, true, true, false, false, false, false, false, false, false, false, false, false, false, false, false, false, false, false, false, false, false, false, false, false, false, false, false, false, false, false, false]) (by kernel_rfl) (fun _ _ _ h => h) (by kernel_rfl) (fun w' hR => by obtain ⟨x0, x1, x2, x3, x4, x5, x6⟩ := HX.out w' (by first | exact HK2.out.trans hR | exact HK1.out.trans hR | exact HK0.out.trans hR); go_simp; first | done | with_reducible rfl) rfl ?_
      try simp only [Act.put, List.setIfInBounds_toArray, List.set_cons_zero, List.set_cons_succ]
      refine rk_take (fuel := 28) 3 rfl (by kernel_rfl) (listed' := #[true, true, true, true, false, false, false, false, false, false, false, false, false, false, false, false, false, false, false, false, false, false, false, false, false, false, false, false, false, false, false, false]) (by kernel_rfl) (fun _ _ _ h => h) (by kernel_rfl) (fun w' hR => by obtain ⟨x0, x1, x2, x3, x4, x5, x6⟩ := HX.out w' (by first | exact HK2.out.trans hR | exact HK1.out.trans hR | exact HK0.out.trans hR); go_simp; first | done | with_reducible rfl) rfl ?_
      try simp only [Act.put, List.setIfInBounds_toArray, List.set_cons_zero, List.set_cons_succ]
      refine rk_take (fuel := 27) 4 rfl (by kernel_rfl) (listed' := #[true, true, true, true, true, false, false, false, false, false, false, false, false, false, false, false, false, false, false, false, false, false, false, false, false, false, false, false, false, false, false, false]) (by kernel_rfl) (fun _ _ _ h => h) (by kernel_rfl) (fun w' hR => by obtain ⟨x0, x1, x2, x3, x4, x5, x6⟩ := HX.out w' (by first | exact HK2.out.trans hR | exact HK1.out.trans hR | exact HK0.out.trans hR); go_simp; first | done | with_reducible rfl) rfl ?_
      try simp only [Act.put, List.setIfInBounds_toArray, List.set_cons_zero, List.set_cons_succ]
      refine rk_take (fuel := 26) 5 rfl (by kernel_rfl) (listed' := #[true, true, true, true, true, true, false, false, false, false, false, false, false, false, false, false, false, false, false, false, false, false, false, false, false, false, false, false, false, false, false, false]) (by kernel_rfl) (fun _ _ _ h => h) (by kernel_rfl) (fun w' hR => by obtain ⟨x0, x1, x2, x3, x4, x5, x6⟩ := HX.out w' (by first | exact HK2.out.trans hR | exact HK1.out.trans hR | exact HK0.out.trans hR); go_simp; first | done | with_reducible rfl) rfl ?_
      try simp only [Act.put, List.setIfInBounds_toArray, List.set_cons_zero, List.set_cons_succ]
      refine rk_take (fuel := 25) 6 rfl (by kernel_rfl) (listed' := #[true, true, true, true, true, true, true, false, false, false, false, false, false, false, false, false, false, false, false, false, false, false, false, false, false, false, false, false, false, false, false, false]) (by kernel_rfl) (fun _ _ _ h => h) (by kernel_rfl) (fun w' hR => by obtain ⟨x0, x1, x2, x3, x4, x5, x6⟩ := HX.out w' (by first | exact HK2.out.trans hR | exact HK1.out.trans hR | exact HK0.out.trans hR); go_simp; first | done | with_reducible rfl) rfl ?_
      try simp only [Act.put, List.setIfInBounds_toArray, List.set_cons_zero, List.set_cons_succ]
      refine rk_take (fuel := 24) 7 rfl (by kernel_rfl) (listed' := #[true, true, true, true, true, true, true, true, false, false, false, false, false, false, false, false, false, false, false, false, false, false, false, false, false, false, false, false, false, false, false, false]) (by kernel_rfl) (fun _ _ _ h => h) (by kernel_rfl) (fun w' hR => by obtain ⟨x0, x1, x2, x3, x4, x5, x6⟩ := HX.out w' (by first | exact HK2.out.trans hR | exact HK1.out.trans hR | exact HK0.out.trans hR); go_simp; first | done | with_reducible rfl) rfl ?_
      try simp only [Act.put, List.setIfInBounds_toArray, List.set_cons_zero, List.set_cons_succ]
      refine rk_take (fuel := 23) 8 rfl (by kernel_rfl) (listed' := #[true, true, true, true, true, true, true, true, true, false, false, false, false, false, false, false, false, false, false, false, false, false, false, false, false, false, false, false, false, false, false, false]) (by kernel_rfl) (fun _ _ _ h => h) (by kernel_rfl) (fun w' hR => by obtain ⟨x0, x1, x2, x3, x4, x5, x6⟩ := HX.out w' (by first | exact HK2.out.trans hR | exact HK1.out.trans hR | exact HK0.out.trans hR); go_simp; first | done | with_reducible rfl) rfl ?_
      try simp only [Act.put, List.setIfInBounds_toArray, List.set_cons_zero, List.set_cons_succ]
      refine rk_take (fuel := 22) 9 rfl (by kernel_rfl) (listed' := #[true, true, true, true, true, true, true, true, true, true, false, false, false, false, false, false, false, false, false, false, false, false, false, false, false, false, false, false, false, false, false, false]) (by kernel_rfl) (fun _ _ _ h => h) (by kernel_rfl) (fun w' hR => by obtain ⟨x0, x1, x2, x3, x4, x5, x6⟩ := HX.out w' (by first | exact HK2.out.trans hR | exact HK1.out.trans hR | exact HK0.out.trans hR); go_simp; first | done | with_reducible rfl) rfl ?_
      try simp only [Act.put, List.setIfInBounds_toArray, List.set_cons_zero, List.set_cons_succ]
      refine rk_take (fuel := 21) 10 rfl (by kernel_rfl) (listed' := #[true, true, true, true, true, true, true, true, true, true, true, false, false, false, false, false, false, false, false, false, false, false, false, false, false, false, false, false, false, false, false, false]) (by kernel_rfl) (fun _ _ _ h => h) (by kernel_rfl) (fun w' hR => by obtain ⟨x0, x1, x2, x3, x4, x5, x6⟩ := HX.out w' (by first | exact HK2.out.trans hR | exact HK1.out.trans hR | exact HK0.out.trans hR); go_simp; first | done | with_reducible rfl) rfl ?_
      try simp only [Act.put, List.setIfInBounds_toArray, List.set_cons_zero, List.set_cons_succ]
      refine rk_take (fuel := 20) 11 rfl (by kernel_rfl) (listed' := #[true, true, true, true, true, true, true, true, true, true, true, true, false, false, false, false, false, false, false, false, false, false, false, false, false, false, false, false, false, false, false, false]) (by kernel_rfl) (fun _ _ _ h => h) (by kernel_rfl) (fun w' hR => by obtain ⟨x0, x1, x2, x3, x4, x5, x6⟩ := HX.out w' (by first | exact HK2.out.trans hR | exact HK1.out.trans hR | exact HK0.out.trans hR); go_simp; first | done | with_reducible rfl) rfl ?_
      try simp only [Act.put, List.setIfInBounds_toArray, List.set_cons_zero, List.set_cons_succ]
      refine rk_take (fuel := 19) 12 rfl (by kernel_rfl) (listed' := #[true, true, true, true, true, true, true, true, true, true, true, true, true, false, false, false, false, false, false, false, false, false, false, false, false, false, false, false, false, false, false, false]) (by kernel_rfl) (fun _ _ _ h => h) (by kernel_rfl) (fun w' hR => by obtain ⟨x0, x1, x2, x3, x4, x5, x6⟩ := HX.out w' (by first | exact HK2.out.trans hR | exact HK1.out.trans hR | exact HK0.out.trans hR); go_simp; first | done | with_reducible rfl) rfl ?_
      try simp only [Act.put, List.setIfInBounds_toArray, List.set_cons_zero, List.set_cons_succ]
      refine rk_step (fuel := 18) 13 rfl (by kernel_rfl) (listed' := #[true, true, true, true, true, true, true, true, true, true, true, true, true, true, false, false, false, false, false, false, false, false, false, false, false, false, false, false, false, false, false, false]) (by kernel_rfl) (by kernel_rfl) (fun K' hK => ?_)
      go_wp2_with (go_at_call 124; refine (names_calls 3 _ ⟨by omega, by omega⟩).mono ?_; rintro _ w1 ⟨rfl, hb⟩; have HB1 := Aside0.mk hb; have HK1 := Aside0.mk (HK0.out.trans (Keep.of_below hb)); clear hb)
      refine hK.out _ _ (Keep.of_below HB1.out) ?_
      clear hK K'
      try simp only [Act.put, List.setIfInBounds_toArray, List.set_cons_zero, List.set_cons_succ]
      refine rk_step (fuel := 17) 14 rfl (by kernel_rfl) (listed' := #[true, true, true, true, true, true, true, true, true, true, true, true, true, true, true, false, false, false, false, false, false, false, false, false, false, false, false, false, false, false, false, false]) (by kernel_rfl) (by kernel_rfl) (fun K' hK => ?_)
      go_wp2_with (go_at_call 143; refine (zero_calls 3 op d a b n args A c (namesA 3) (names_small 3) w1).mono ?_; rintro _ w2 ⟨rfl, hb⟩; rw [HZP.out]; have HB2 := Aside0.mk hb; have HK2 := Aside0.mk (HK1.out.trans (Keep.of_below hb)); clear hb)
      refine hK.out _ _ (Keep.of_below HB2.out) ?_
      clear hK K'
      try simp only [Act.put, List.setIfInBounds_toArray, List.set_cons_zero, List.set_cons_succ]
      refine rk_take (fuel := 16) 15 rfl (by kernel_rfl) (listed' := #[true, true, true, true, true, true, true, true, true, true, true, true, true, true, true, true, false, false, false, false, false, false, false, false, false, false, false, false, false, false, false, false]) (by kernel_rfl) (fun _ _ _ h => h) (by kernel_rfl) (fun w' hR => by obtain ⟨x0, x1, x2, x3, x4, x5, x6⟩ := HX.out w' (by first | exact HK2.out.trans hR | exact HK1.out.trans hR | exact HK0.out.trans hR); go_simp; first | done | with_reducible rfl) rfl ?_
      try simp only [Act.put, List.setIfInBounds_toArray, List.set_cons_zero, List.set_cons_succ]
      refine rk_take (fuel := 15) 16 rfl (by kernel_rfl) (listed' := #[true, true, true, true, true, true, true, true, true, true, true, true, true, true, true, true, true, false, false, false, false, false, false, false, false, false, false, false, false, false, false, false]) (by kernel_rfl) (fun _ _ _ h => h) (by kernel_rfl) (fun w' hR => by obtain ⟨x0, x1, x2, x3, x4, x5, x6⟩ := HX.out w' (by first | exact HK2.out.trans hR | exact HK1.out.trans hR | exact HK0.out.trans hR); go_simp; first | done | with_reducible rfl) rfl ?_
      try simp only [Act.put, List.setIfInBounds_toArray, List.set_cons_zero, List.set_cons_succ]
      refine rk_take (fuel := 14) 17 rfl (by kernel_rfl) (listed' := #[true, true, true, true, true, true, true, true, true, true, true, true, true, true, true, true, true, true, false, false, false, false, false, false, false, false, false, false, false, false, false, false]) (by kernel_rfl) (fun _ _ _ h => h) (by kernel_rfl) (fun w' hR => by obtain ⟨x0, x1, x2, x3, x4, x5, x6⟩ := HX.out w' (by first | exact HK2.out.trans hR | exact HK1.out.trans hR | exact HK0.out.trans hR); go_simp; first | done | with_reducible rfl) rfl ?_
      try simp only [Act.put, List.setIfInBounds_toArray, List.set_cons_zero, List.set_cons_succ]
      refine rk_take (fuel := 13) 18 rfl (by kernel_rfl) (listed' := #[true, true, true, true, true, true, true, true, true, true, true, true, true, true, true, true, true, true, true, false, false, false, false, false, false, false, false, false, false, false, false, false]) (by kernel_rfl) (fun _ _ _ h => h) (by kernel_rfl) (fun w' hR => by obtain ⟨x0, x1, x2, x3, x4, x5, x6⟩ := HX.out w' (by first | exact HK2.out.trans hR | exact HK1.out.trans hR | exact HK0.out.trans hR); go_simp; first | done | with_reducible rfl) rfl ?_
      try simp only [Act.put, List.setIfInBounds_toArray, List.set_cons_zero, List.set_cons_succ]
      refine rk_take (fuel := 12) 19 rfl (by kernel_rfl) (listed' := #[true, true, true, true, true, true, true, true, true, true, true, true, true, true, true, true, true, true, true, true, false, false, false, false, false, false, false, false, false, false, false, false]) (by kernel_rfl) (fun _ _ _ h => h) (by kernel_rfl) (fun w' hR => by obtain ⟨x0, x1, x2, x3, x4, x5, x6⟩ := HX.out w' (by first | exact HK2.out.trans hR | exact HK1.out.trans hR | exact HK0.out.trans hR); go_simp; first | done | with_reducible rfl) rfl ?_
      try simp only [Act.put, List.setIfInBounds_toArray, List.set_cons_zero, List.set_cons_succ]
      refine rk_take (fuel := 11) 20 rfl (by kernel_rfl) (listed' := #[true, true, true, true, true, true, true, true, true, true, true, true, true, true, true, true, true, true, true, true, true, false, false, false, false, false, false, false, false, false, false, false]) (by kernel_rfl) (fun _ _ _ h => h) (by kernel_rfl) (fun w' hR => by obtain ⟨x0, x1, x2, x3, x4, x5, x6⟩ := HX.out w' (by first | exact HK2.out.trans hR | exact HK1.out.trans hR | exact HK0.out.trans hR); go_simp; first | done | with_reducible rfl) rfl ?_
      try simp only [Act.put, List.setIfInBounds_toArray, List.set_cons_zero, List.set_cons_succ]
      refine rk_take (fuel := 10) 21 rfl (by kernel_rfl) (listed' := #[true, true, true, true, true, true, true, true, true, true, true, true, true, true, true, true, true, true, true, true, true, true, false, false, false, false, false, false, false, false, false, false]) (by kernel_rfl) (fun _ _ _ h => h) (by kernel_rfl) (fun w' hR => by obtain ⟨x0, x1, x2, x3, x4, x5, x6⟩ := HX.out w' (by first | exact HK2.out.trans hR | exact HK1.out.trans hR | exact HK0.out.trans hR); go_simp; first | done | with_reducible rfl) rfl ?_
      try simp only [Act.put, List.setIfInBounds_toArray, List.set_cons_zero, List.set_cons_succ]
      refine rk_take (fuel := 9) 22 rfl (by kernel_rfl) (listed' := #[true, true, true, true, true, true, true, true, true, true, true, true, true, true, true, true, true, true, true, true, true, true, true, false, false, false, false, false, false, false, false, false]) (by kernel_rfl) (fun _ _ _ h => h) (by kernel_rfl) (fun w' hR => by obtain ⟨x0, x1, x2, x3, x4, x5, x6⟩ := HX.out w' (by first | exact HK2.out.trans hR | exact HK1.out.trans hR | exact HK0.out.trans hR); go_simp; first | done | with_reducible rfl) rfl ?_
      try simp only [Act.put, List.setIfInBounds_toArray, List.set_cons_zero, List.set_cons_succ]
      refine rk_take (fuel := 8) 23 rfl (by kernel_rfl) (listed' := #[true, true, true, true, true, true, true, true, true, true, true, true, true, true, true, true, true, true, true, true, true, true, true, true, false, false, false, false, false, false, false, false]) (by kernel_rfl) (fun _ _ _ h => h) (by kernel_rfl) (fun w' hR => by obtain ⟨x0, x1, x2, x3, x4, x5, x6⟩ := HX.out w' (by first | exact HK2.out.trans hR | exact HK1.out.trans hR | exact HK0.out.trans hR); go_simp; first | done | with_reducible rfl) rfl ?_
      try simp only [Act.put, List.setIfInBounds_toArray, List.set_cons_zero, List.set_cons_succ]
      refine rk_take (fuel := 7) 24 rfl (by kernel_rfl) (listed' := #[true, true, true, true, true, true, true, true, true, true, true, true, true, true, true, true, true, true, true, true, true, true, true, true, true, false, false, false, false, false, false, false]) (by kernel_rfl) (fun _ _ _ h => h) (by kernel_rfl) (fun w' hR => by obtain ⟨x0, x1, x2, x3, x4, x5, x6⟩ := HX.out w' (by first | exact HK2.out.trans hR | exact HK1.out.trans hR | exact HK0.out.trans hR); go_simp; first | done | with_reducible rfl) rfl ?_
      try simp only [Act.put, List.setIfInBounds_toArray, List.set_cons_zero, List.set_cons_succ]
      refine rk_take (fuel := 6) 25 rfl (by kernel_rfl) (listed' := #[true, true, true, true, true, true, true, true, true, true, true, true, true, true, true, true, true, true, true, true, true, true, true, true, true, true, false, false, false, false, false, false]) (by kernel_rfl) (fun _ _ _ h => h) (by kernel_rfl) (fun w' hR => by obtain ⟨x0, x1, x2, x3, x4, x5, x6⟩ := HX.out w' (by first | exact HK2.out.trans hR | exact HK1.out.trans hR | exact HK0.out.trans hR); go_simp; first | done | with_reducible rfl) rfl ?_
      try simp only [Act.put, List.setIfInBounds_toArray, List.set_cons_zero, List.set_cons_succ]
      refine rk_skip (fuel := 5) 26 rfl (by kernel_rfl) (listed' := #[true, true, true, true, true, true, true, true, true, true, true, true, true, true, true, true, true, true, true, true, true, true, true, true, true, true, true, false, false, false, false, false]) (by kernel_rfl) (fun _ _ _ h => h) (by kernel_rfl) rfl ?_
      try simp only [Act.put, List.setIfInBounds_toArray, List.set_cons_zero, List.set_cons_succ]
      refine rk_skip (fuel := 4) 27 rfl (by kernel_rfl) (listed' := #[true, true, true, true, true, true, true, true, true, true, true, true, true, true, true, true, true, true, true, true, true, true, true, true, true, true, true, true, false, false, false, false]) (by kernel_rfl) (fun _ _ _ h => h) (by kernel_rfl) rfl ?_
      try simp only [Act.put, List.setIfInBounds_toArray, List.set_cons_zero, List.set_cons_succ]
      refine rk_skip (fuel := 3) 28 rfl (by kernel_rfl) (listed' := #[true, true, true, true, true, true, true, true, true, true, true, true, true, true, true, true, true, true, true, true, true, true, true, true, true, true, true, true, true, false, false, false]) (by kernel_rfl) (fun _ _ _ h => h) (by kernel_rfl) rfl ?_
      try simp only [Act.put, List.setIfInBounds_toArray, List.set_cons_zero, List.set_cons_succ]
      refine rk_take (fuel := 2) 29 rfl (by kernel_rfl) (listed' := #[true, true, true, true, true, true, true, true, true, true, true, true, true, true, true, true, true, true, true, true, true, true, true, true, true, true, true, true, true, true, false, false]) (by kernel_rfl) (fun _ _ _ h => h) (by kernel_rfl) (fun w' hR => by obtain ⟨x0, x1, x2, x3, x4, x5, x6⟩ := HX.out w' (by first | exact HK2.out.trans hR | exact HK1.out.trans hR | exact HK0.out.trans hR); go_simp; first | done | with_reducible rfl) rfl ?_
      try simp only [Act.put, List.setIfInBounds_toArray, List.set_cons_zero, List.set_cons_succ]
      refine rk_take (fuel := 1) 30 rfl (by kernel_rfl) (listed' := #[true, true, true, true, true, true, true, true, true, true, true, true, true, true, true, true, true, true, true, true, true, true, true, true, true, true, true, true, true, true, true, false]) (by kernel_rfl) (fun _ _ _ h => h) (by kernel_rfl) (fun w' hR => by obtain ⟨x0, x1, x2, x3, x4, x5, x6⟩ := HX.out w' (by first | exact HK2.out.trans hR | exact HK1.out.trans hR | exact HK0.out.trans hR); go_simp; first | done | with_reducible rfl) rfl ?_
      try simp only [Act.put, List.setIfInBounds_toArray, List.set_cons_zero, List.set_cons_succ]
      refine rk_take (fuel := 0) 31 rfl (by kernel_rfl) (listed' := #[true, true, true, true, true, true, true, true, true, true, true, true, true, true, true, true, true, true, true, true, true, true, true, true, true, true, true, true, true, true, true, true]) (by kernel_rfl) (fun _ _ _ h => h) (by kernel_rfl) (fun w' hR => by obtain ⟨x0, x1, x2, x3, x4, x5, x6⟩ := HX.out w' (by first | exact HK2.out.trans hR | exact HK1.out.trans hR | exact HK0.out.trans hR); go_simp; first | done | with_reducible rfl) rfl ?_
      try simp only [Act.put, List.setIfInBounds_toArray, List.set_cons_zero, List.set_cons_succ]
      refine rk_done (by kernel_rfl) ?_
      go_wp2
      go_ret
      exact ⟨ret_i HE20.out.symm, HA.out.trans ((HK2.out.below (Nat.le_refl _) (fun _ _ h => h)).mono HA.out.size)⟩
  · have HE20 := Aside0.mk (HBAD.out (.inr (.inr (.inr ⟨rfl, .inr h6⟩))))
    have HZP := Aside0.mk (show zeroB (3, op, d, a, b, n, args) (namesA 3) = true from (zero_plain 3 op d a b n args (by rcases hMr with h | h <;> omega)).trans h3)
    clear h3
    have d5 := decide_eq_false h5
    have d6 := decide_eq_true h6
    rcases hMr with ⟨ht, rfl⟩ | ⟨ht, rfl⟩
    all_goals
      clear HE HM HBAD hbx ht3 HC
      go_enter Try.func122, Try.ntmps122
      go_wp2_with fail
      refine rk_start (fun _ => False) (by kernel_rfl) (n := 32) (l := #[false, false, false, false, false, false, false, false, false, false, false, false, false, false, false, false, false, false, false, false, false, false, false, false, false, false, false, false, false, false, false, false]) (by kernel_rfl) (by kernel_rfl) ?_
      refine rk_take (fuel := 31) 0 rfl (by kernel_rfl) (listed' := #[true, false, false, false, false, false, false, false, false, false, false, false, false, false, false, false, false, false, false, false, false, false, false, false, false, false, false, false, false, false, false, false]) (by kernel_rfl) (fun _ _ _ h => h) (by kernel_rfl) (fun w' hR => by obtain ⟨x0, x1, x2, x3, x4, x5, x6⟩ := HX.out w' (by first | exact HK2.out.trans hR | exact HK1.out.trans hR | exact HK0.out.trans hR); go_simp; first | done | with_reducible rfl) rfl ?_
      try simp only [Act.put, List.setIfInBounds_toArray, List.set_cons_zero, List.set_cons_succ]
      refine rk_take (fuel := 30) 1 rfl (by kernel_rfl) (listed' := #[true, true, false, false, false, false, false, false, false, false, false, false, false, false, false, false, false, false, false, false, false, false, false, false, false, false, false, false, false, false, false, false]) (by kernel_rfl) (fun _ _ _ h => h) (by kernel_rfl) (fun w' hR => by obtain ⟨x0, x1, x2, x3, x4, x5, x6⟩ := HX.out w' (by first | exact HK2.out.trans hR | exact HK1.out.trans hR | exact HK0.out.trans hR); go_simp; first | done | with_reducible rfl) rfl ?_
      try simp only [Act.put, List.setIfInBounds_toArray, List.set_cons_zero, List.set_cons_succ]
      refine rk_take (fuel := 29) 2 rfl (by kernel_rfl) (listed' := #[true, true, true, false, false, false, false, false, false, false, false, false, false, false, false, false, false, false, false, false, false, false, false, false, false, false, false, false, false, false, false, false]) (by kernel_rfl) (fun _ _ _ h => h) (by kernel_rfl) (fun w' hR => by obtain ⟨x0, x1, x2, x3, x4, x5, x6⟩ := HX.out w' (by first | exact HK2.out.trans hR | exact HK1.out.trans hR | exact HK0.out.trans hR); go_simp; first | done | with_reducible rfl) rfl ?_
      try simp only [Act.put, List.setIfInBounds_toArray, List.set_cons_zero, List.set_cons_succ]
      refine rk_take (fuel := 28) 3 rfl (by kernel_rfl) (listed' := #[true, true, true, true, false, false, false, false, false, false, false, false, false, false, false, false, false, false, false, false, false, false, false, false, false, false, false, false, false, false, false, false]) (by kernel_rfl) (fun _ _ _ h => h) (by kernel_rfl) (fun w' hR => by obtain ⟨x0, x1, x2, x3, x4, x5, x6⟩ := HX.out w' (by first | exact HK2.out.trans hR | exact HK1.out.trans hR | exact HK0.out.trans hR); go_simp; first | done | with_reducible rfl) rfl ?_
      try simp only [Act.put, List.setIfInBounds_toArray, List.set_cons_zero, List.set_cons_succ]
      refine rk_take (fuel := 27) 4 rfl (by kernel_rfl) (listed' := #[true, true, true, true, true, false, false, false, false, false, false, false, false, false, false, false, false, false, false, false, false, false, false, false, false, false, false, false, false, false, false, false]) (by kernel_rfl) (fun _ _ _ h => h) (by kernel_rfl) (fun w' hR => by obtain ⟨x0, x1, x2, x3, x4, x5, x6⟩ := HX.out w' (by first | exact HK2.out.trans hR | exact HK1.out.trans hR | exact HK0.out.trans hR); go_simp; first | done | with_reducible rfl) rfl ?_
      try simp only [Act.put, List.setIfInBounds_toArray, List.set_cons_zero, List.set_cons_succ]
      refine rk_take (fuel := 26) 5 rfl (by kernel_rfl) (listed' := #[true, true, true, true, true, true, false, false, false, false, false, false, false, false, false, false, false, false, false, false, false, false, false, false, false, false, false, false, false, false, false, false]) (by kernel_rfl) (fun _ _ _ h => h) (by kernel_rfl) (fun w' hR => by obtain ⟨x0, x1, x2, x3, x4, x5, x6⟩ := HX.out w' (by first | exact HK2.out.trans hR | exact HK1.out.trans hR | exact HK0.out.trans hR); go_simp; first | done | with_reducible rfl) rfl ?_
      try simp only [Act.put, List.setIfInBounds_toArray, List.set_cons_zero, List.set_cons_succ]
      refine rk_take (fuel := 25) 6 rfl (by kernel_rfl) (listed' := #[true, true, true, true, true, true, true, false, false, false, false, false, false, false, false, false, false, false, false, false, false, false, false, false, false, false, false, false, false, false, false, false]) (by kernel_rfl) (fun _ _ _ h => h) (by kernel_rfl) (fun w' hR => by obtain ⟨x0, x1, x2, x3, x4, x5, x6⟩ := HX.out w' (by first | exact HK2.out.trans hR | exact HK1.out.trans hR | exact HK0.out.trans hR); go_simp; first | done | with_reducible rfl) rfl ?_
      try simp only [Act.put, List.setIfInBounds_toArray, List.set_cons_zero, List.set_cons_succ]
      refine rk_take (fuel := 24) 7 rfl (by kernel_rfl) (listed' := #[true, true, true, true, true, true, true, true, false, false, false, false, false, false, false, false, false, false, false, false, false, false, false, false, false, false, false, false, false, false, false, false]) (by kernel_rfl) (fun _ _ _ h => h) (by kernel_rfl) (fun w' hR => by obtain ⟨x0, x1, x2, x3, x4, x5, x6⟩ := HX.out w' (by first | exact HK2.out.trans hR | exact HK1.out.trans hR | exact HK0.out.trans hR); go_simp; first | done | with_reducible rfl) rfl ?_
      try simp only [Act.put, List.setIfInBounds_toArray, List.set_cons_zero, List.set_cons_succ]
      refine rk_take (fuel := 23) 8 rfl (by kernel_rfl) (listed' := #[true, true, true, true, true, true, true, true, true, false, false, false, false, false, false, false, false, false, false, false, false, false, false, false, false, false, false, false, false, false, false, false]) (by kernel_rfl) (fun _ _ _ h => h) (by kernel_rfl) (fun w' hR => by obtain ⟨x0, x1, x2, x3, x4, x5, x6⟩ := HX.out w' (by first | exact HK2.out.trans hR | exact HK1.out.trans hR | exact HK0.out.trans hR); go_simp; first | done | with_reducible rfl) rfl ?_
      try simp only [Act.put, List.setIfInBounds_toArray, List.set_cons_zero, List.set_cons_succ]
      refine rk_take (fuel := 22) 9 rfl (by kernel_rfl) (listed' := #[true, true, true, true, true, true, true, true, true, true, false, false, false, false, false, false, false, false, false, false, false, false, false, false, false, false, false, false, false, false, false, false]) (by kernel_rfl) (fun _ _ _ h => h) (by kernel_rfl) (fun w' hR => by obtain ⟨x0, x1, x2, x3, x4, x5, x6⟩ := HX.out w' (by first | exact HK2.out.trans hR | exact HK1.out.trans hR | exact HK0.out.trans hR); go_simp; first | done | with_reducible rfl) rfl ?_
      try simp only [Act.put, List.setIfInBounds_toArray, List.set_cons_zero, List.set_cons_succ]
      refine rk_take (fuel := 21) 10 rfl (by kernel_rfl) (listed' := #[true, true, true, true, true, true, true, true, true, true, true, false, false, false, false, false, false, false, false, false, false, false, false, false, false, false, false, false, false, false, false, false]) (by kernel_rfl) (fun _ _ _ h => h) (by kernel_rfl) (fun w' hR => by obtain ⟨x0, x1, x2, x3, x4, x5, x6⟩ := HX.out w' (by first | exact HK2.out.trans hR | exact HK1.out.trans hR | exact HK0.out.trans hR); go_simp; first | done | with_reducible rfl) rfl ?_
      try simp only [Act.put, List.setIfInBounds_toArray, List.set_cons_zero, List.set_cons_succ]
      refine rk_take (fuel := 20) 11 rfl (by kernel_rfl) (listed' := #[true, true, true, true, true, true, true, true, true, true, true, true, false, false, false, false, false, false, false, false, false, false, false, false, false, false, false, false, false, false, false, false]) (by kernel_rfl) (fun _ _ _ h => h) (by kernel_rfl) (fun w' hR => by obtain ⟨x0, x1, x2, x3, x4, x5, x6⟩ := HX.out w' (by first | exact HK2.out.trans hR | exact HK1.out.trans hR | exact HK0.out.trans hR); go_simp; first | done | with_reducible rfl) rfl ?_
      try simp only [Act.put, List.setIfInBounds_toArray, List.set_cons_zero, List.set_cons_succ]
      refine rk_take (fuel := 19) 12 rfl (by kernel_rfl) (listed' := #[true, true, true, true, true, true, true, true, true, true, true, true, true, false, false, false, false, false, false, false, false, false, false, false, false, false, false, false, false, false, false, false]) (by kernel_rfl) (fun _ _ _ h => h) (by kernel_rfl) (fun w' hR => by obtain ⟨x0, x1, x2, x3, x4, x5, x6⟩ := HX.out w' (by first | exact HK2.out.trans hR | exact HK1.out.trans hR | exact HK0.out.trans hR); go_simp; first | done | with_reducible rfl) rfl ?_
      try simp only [Act.put, List.setIfInBounds_toArray, List.set_cons_zero, List.set_cons_succ]
      refine rk_step (fuel := 18) 13 rfl (by kernel_rfl) (listed' := #[true, true, true, true, true, true, true, true, true, true, true, true, true, true, false, false, false, false, false, false, false, false, false, false, false, false, false, false, false, false, false, false]) (by kernel_rfl) (by kernel_rfl) (fun K' hK => ?_)
      go_wp2_with (go_at_call 124; refine (names_calls 3 _ ⟨by omega, by omega⟩).mono ?_; rintro _ w1 ⟨rfl, hb⟩; have HB1 := Aside0.mk hb; have HK1 := Aside0.mk (HK0.out.trans (Keep.of_below hb)); clear hb)
      refine hK.out _ _ (Keep.of_below HB1.out) ?_
      clear hK K'
      try simp only [Act.put, List.setIfInBounds_toArray, List.set_cons_zero, List.set_cons_succ]
      refine rk_step (fuel := 17) 14 rfl (by kernel_rfl) (listed' := #[true, true, true, true, true, true, true, true, true, true, true, true, true, true, true, false, false, false, false, false, false, false, false, false, false, false, false, false, false, false, false, false]) (by kernel_rfl) (by kernel_rfl) (fun K' hK => ?_)
      go_wp2_with (go_at_call 143; refine (zero_calls 3 op d a b n args A c (namesA 3) (names_small 3) w1).mono ?_; rintro _ w2 ⟨rfl, hb⟩; rw [HZP.out]; have HB2 := Aside0.mk hb; have HK2 := Aside0.mk (HK1.out.trans (Keep.of_below hb)); clear hb)
      refine hK.out _ _ (Keep.of_below HB2.out) ?_
      clear hK K'
      try simp only [Act.put, List.setIfInBounds_toArray, List.set_cons_zero, List.set_cons_succ]
      refine rk_take (fuel := 16) 15 rfl (by kernel_rfl) (listed' := #[true, true, true, true, true, true, true, true, true, true, true, true, true, true, true, true, false, false, false, false, false, false, false, false, false, false, false, false, false, false, false, false]) (by kernel_rfl) (fun _ _ _ h => h) (by kernel_rfl) (fun w' hR => by obtain ⟨x0, x1, x2, x3, x4, x5, x6⟩ := HX.out w' (by first | exact HK2.out.trans hR | exact HK1.out.trans hR | exact HK0.out.trans hR); go_simp; first | done | with_reducible rfl) rfl ?_
      try simp only [Act.put, List.setIfInBounds_toArray, List.set_cons_zero, List.set_cons_succ]
      refine rk_take (fuel := 15) 16 rfl (by kernel_rfl) (listed' := #[true, true, true, true, true, true, true, true, true, true, true, true, true, true, true, true, true, false, false, false, false, false, false, false, false, false, false, false, false, false, false, false]) (by kernel_rfl) (fun _ _ _ h => h) (by kernel_rfl) (fun w' hR => by obtain ⟨x0, x1, x2, x3, x4, x5, x6⟩ := HX.out w' (by first | exact HK2.out.trans hR | exact HK1.out.trans hR | exact HK0.out.trans hR); go_simp; first | done | with_reducible rfl) rfl ?_
      try simp only [Act.put, List.setIfInBounds_toArray, List.set_cons_zero, List.set_cons_succ]
      refine rk_take (fuel := 14) 17 rfl (by kernel_rfl) (listed' := #[true, true, true, true, true, true, true, true, true, true, true, true, true, true, true, true, true, true, false, false, false, false, false, false, false, false, false, false, false, false, false, false]) (by kernel_rfl) (fun _ _ _ h => h) (by kernel_rfl) (fun w' hR => by obtain ⟨x0, x1, x2, x3, x4, x5, x6⟩ := HX.out w' (by first | exact HK2.out.trans hR | exact HK1.out.trans hR | exact HK0.out.trans hR); go_simp; first | done | with_reducible rfl) rfl ?_
      try simp only [Act.put, List.setIfInBounds_toArray, List.set_cons_zero, List.set_cons_succ]
      refine rk_take (fuel := 13) 18 rfl (by kernel_rfl) (listed' := #[true, true, true, true, true, true, true, true, true, true, true, true, true, true, true, true, true, true, true, false, false, false, false, false, false, false, false, false, false, false, false, false]) (by kernel_rfl) (fun _ _ _ h => h) (by kernel_rfl) (fun w' hR => by obtain ⟨x0, x1, x2, x3, x4, x5, x6⟩ := HX.out w' (by first | exact HK2.out.trans hR | exact HK1.out.trans hR | exact HK0.out.trans hR); go_simp; first | done | with_reducible rfl) rfl ?_
      try simp only [Act.put, List.setIfInBounds_toArray, List.set_cons_zero, List.set_cons_succ]
      refine rk_take (fuel := 12) 19 rfl (by kernel_rfl) (listed' := #[true, true, true, true, true, true, true, true, true, true, true, true, true, true, true, true, true, true, true, true, false, false, false, false, false, false, false, false, false, false, false, false]) (by kernel_rfl) (fun _ _ _ h => h) (by kernel_rfl) (fun w' hR => by obtain ⟨x0, x1, x2, x3, x4, x5, x6⟩ := HX.out w' (by first | exact HK2.out.trans hR | exact HK1.out.trans hR | exact HK0.out.trans hR); go_simp; first | done | with_reducible rfl) rfl ?_
      try simp only [Act.put, List.setIfInBounds_toArray, List.set_cons_zero, List.set_cons_succ]
      refine rk_take (fuel := 11) 20 rfl (by kernel_rfl) (listed' := #[true, true, true, true, true, true, true, true, true, true, true, true, true, true, true, true, true, true, true, true, true, false, false, false, false, false, false, false, false, false, false, false]) (by kernel_rfl) (fun _ _ _ h => h) (by kernel_rfl) (fun w' hR => by obtain ⟨x0, x1, x2, x3, x4, x5, x6⟩ := HX.out w' (by first | exact HK2.out.trans hR | exact HK1.out.trans hR | exact HK0.out.trans hR); go_simp; first | done | with_reducible rfl) rfl ?_
      try simp only [Act.put, List.setIfInBounds_toArray, List.set_cons_zero, List.set_cons_succ]
      refine rk_take (fuel := 10) 21 rfl (by kernel_rfl) (listed' := #[true, true, true, true, true, true, true, true, true, true, true, true, true, true, true, true, true, true, true, true, true, true, false, false, false, false, false, false, false, false, false, false]) (by kernel_rfl) (fun _ _ _ h => h) (by kernel_rfl) (fun w' hR => by obtain ⟨x0, x1, x2, x3, x4, x5, x6⟩ := HX.out w' (by first | exact HK2.out.trans hR | exact HK1.out.trans hR | exact HK0.out.trans hR); go_simp; first | done | with_reducible rfl) rfl ?_
      try simp only [Act.put, List.setIfInBounds_toArray, List.set_cons_zero, List.set_cons_succ]
      refine rk_take (fuel := 9) 22 rfl (by kernel_rfl) (listed' := #[true, true, true, true, true, true, true, true, true, true, true, true, true, true, true, true, true, true, true, true, true, true, true, false, false, false, false, false, false, false, false, false]) (by kernel_rfl) (fun _ _ _ h => h) (by kernel_rfl) (fun w' hR => by obtain ⟨x0, x1, x2, x3, x4, x5, x6⟩ := HX.out w' (by first | exact HK2.out.trans hR | exact HK1.out.trans hR | exact HK0.out.trans hR); go_simp; first | done | with_reducible rfl) rfl ?_
      try simp only [Act.put, List.setIfInBounds_toArray, List.set_cons_zero, List.set_cons_succ]
      refine rk_take (fuel := 8) 23 rfl (by kernel_rfl) (listed' := #[true, true, true, true, true, true, true, true, true, true, true, true, true, true, true, true, true, true, true, true, true, true, true, true, false, false, false, false, false, false, false, false]) (by kernel_rfl) (fun _ _ _ h => h) (by kernel_rfl) (fun w' hR => by obtain ⟨x0, x1, x2, x3, x4, x5, x6⟩ := HX.out w' (by first | exact HK2.out.trans hR | exact HK1.out.trans hR | exact HK0.out.trans hR); go_simp; first | done | with_reducible rfl) rfl ?_
      try simp only [Act.put, List.setIfInBounds_toArray, List.set_cons_zero, List.set_cons_succ]
      refine rk_take (fuel := 7) 24 rfl (by kernel_rfl) (listed' := #[true, true, true, true, true, true, true, true, true, true, true, true, true, true, true, true, true, true, true, true, true, true, true, true, true, false, false, false, false, false, false, false]) (by kernel_rfl) (fun _ _ _ h => h) (by kernel_rfl) (fun w' hR => by obtain ⟨x0, x1, x2, x3, x4, x5, x6⟩ := HX.out w' (by first | exact HK2.out.trans hR | exact HK1.out.trans hR | exact HK0.out.trans hR); go_simp; first | done | with_reducible rfl) rfl ?_
      try simp only [Act.put, List.setIfInBounds_toArray, List.set_cons_zero, List.set_cons_succ]
      refine rk_take (fuel := 6) 25 rfl (by kernel_rfl) (listed' := #[true, true, true, true, true, true, true, true, true, true, true, true, true, true, true, true, true, true, true, true, true, true, true, true, true, true, false, false, false, false, false, false]) (by kernel_rfl) (fun _ _ _ h => h) (by kernel_rfl) (fun w' hR => by obtain ⟨x0, x1, x2, x3, x4, x5, x6⟩ := HX.out w' (by first | exact HK2.out.trans hR | exact HK1.out.trans hR | exact HK0.out.trans hR); go_simp; first | done | with_reducible rfl) rfl ?_
      try simp only [Act.put, List.setIfInBounds_toArray, List.set_cons_zero, List.set_cons_succ]
      refine rk_take (fuel := 5) 26 rfl (by kernel_rfl) (listed' := #[true, true, true, true, true, true, true, true, true, true, true, true, true, true, true, true, true, true, true, true, true, true, true, true, true, true, true, false, false, false, false, false]) (by kernel_rfl) (fun _ _ _ h => h) (by kernel_rfl) (fun w' hR => by obtain ⟨x0, x1, x2, x3, x4, x5, x6⟩ := HX.out w' (by first | exact HK2.out.trans hR | exact HK1.out.trans hR | exact HK0.out.trans hR); go_simp; first | done | with_reducible rfl) rfl ?_
      try simp only [Act.put, List.setIfInBounds_toArray, List.set_cons_zero, List.set_cons_succ]
      refine rk_take (fuel := 4) 27 rfl (by kernel_rfl) (listed' := #[true, true, true, true, true, true, true, true, true, true, true, true, true, true, true, true, true, true, true, true, true, true, true, true, true, true, true, true, false, false, false, false]) (by kernel_rfl) (fun _ _ _ h => h) (by kernel_rfl) (fun w' hR => by obtain ⟨x0, x1, x2, x3, x4, x5, x6⟩ := HX.out w' (by first | exact HK2.out.trans hR | exact HK1.out.trans hR | exact HK0.out.trans hR); go_simp; first | done | with_reducible rfl) rfl ?_
      try simp only [Act.put, List.setIfInBounds_toArray, List.set_cons_zero, List.set_cons_succ]
      refine rk_take (fuel := 3) 28 rfl (by kernel_rfl) (listed' := #[true, true, true, true, true, true, true, true, true, true, true, true, true, true, true, true, true, true, true, true, true, true, true, true, true, true, true, true, true, false, false, false]) (by kernel_rfl) (fun _ _ _ h => h) (by kernel_rfl) (fun w' hR => by obtain ⟨x0, x1, x2, x3, x4, x5, x6⟩ := HX.out w' (by first | exact HK2.out.trans hR | exact HK1.out.trans hR | exact HK0.out.trans hR); go_simp; first | done | with_reducible rfl) rfl ?_
      try simp only [Act.put, List.setIfInBounds_toArray, List.set_cons_zero, List.set_cons_succ]
      refine rk_take (fuel := 2) 29 rfl (by kernel_rfl) (listed' := #[true, true, true, true, true, true, true, true, true, true, true, true, true, true, true, true, true, true, true, true, true, true, true, true, true, true, true, true, true, true, false, false]) (by kernel_rfl) (fun _ _ _ h => h) (by kernel_rfl) (fun w' hR => by obtain ⟨x0, x1, x2, x3, x4, x5, x6⟩ := HX.out w' (by first | exact HK2.out.trans hR | exact HK1.out.trans hR | exact HK0.out.trans hR); go_simp; first | done | with_reducible rfl) rfl ?_
      try simp only [Act.put, List.setIfInBounds_toArray, List.set_cons_zero, List.set_cons_succ]
      refine rk_take (fuel := 1) 30 rfl (by kernel_rfl) (listed' := #[true, true, true, true, true, true, true, true, true, true, true, true, true, true, true, true, true, true, true, true, true, true, true, true, true, true, true, true, true, true, true, false]) (by kernel_rfl) (fun _ _ _ h => h) (by kernel_rfl) (fun w' hR => by obtain ⟨x0, x1, x2, x3, x4, x5, x6⟩ := HX.out w' (by first | exact HK2.out.trans hR | exact HK1.out.trans hR | exact HK0.out.trans hR); go_simp; first | done | with_reducible rfl) rfl ?_
      try simp only [Act.put, List.setIfInBounds_toArray, List.set_cons_zero, List.set_cons_succ]
      refine rk_take (fuel := 0) 31 rfl (by kernel_rfl) (listed' := #[true, true, true, true, true, true, true, true, true, true, true, true, true, true, true, true, true, true, true, true, true, true, true, true, true, true, true, true, true, true, true, true]) (by kernel_rfl) (fun _ _ _ h => h) (by kernel_rfl) (fun w' hR => by obtain ⟨x0, x1, x2, x3, x4, x5, x6⟩ := HX.out w' (by first | exact HK2.out.trans hR | exact HK1.out.trans hR | exact HK0.out.trans hR); go_simp; first | done | with_reducible rfl) rfl ?_
      try simp only [Act.put, List.setIfInBounds_toArray, List.set_cons_zero, List.set_cons_succ]
      refine rk_done (by kernel_rfl) ?_
      go_wp2
      go_ret
      exact ⟨ret_i HE20.out.symm, HA.out.trans ((HK2.out.below (Nat.le_refl _) (fun _ _ h => h)).mono HA.out.size)⟩
  · have d5 := decide_eq_false h5
    have d6 := decide_eq_false h6
    have HMORE := Aside0.mk (show E = if 3 < args.length then 25 else if (allL (3, op, d, a, b, n, args)).any (outB v) then (if t < 0 then 21 else 23) else if ((3 : Int) = 7 ∧ (d < 0 ∨ t ≤ d)) ∨ ((3 : Int) = 8 ∧ (a < 0 ∨ t ≤ a)) then 24 else 0 from by
      rw [← HE.out]
      refine rins_more (i := (3, op, d, a, b, n, args)) ?_
      rw [← HM.out]
      simp only [h3, Bool.true_eq_false, false_or]
      omega)
    have HZP := Aside0.mk (show zeroB (3, op, d, a, b, n, args) (namesA 3) = true from (zero_plain 3 op d a b n args (by rcases hMr with h | h <;> omega)).trans h3)
    clear h3
    obtain ⟨L, hL⟩ : ∃ L, allL (3, op, d, a, b, n, args) = L := ⟨_, rfl⟩
    obtain ⟨U, hU⟩ : ∃ U, usesL (3, op, d, a, b, n, args) = U := ⟨_, rfl⟩
    have HU := Aside0.mk hU
    have hal : L = U ++ if givesB 3 then [d] else [] := by rw [← hL, ← hU]; rfl
    have HUL := Aside0.mk (show args.length ≤ 3 → U.length ≤ 3 from fun h => by rw [← hU]; exact uses_len _ op d a b n args h)
    rw [hL] at HMORE
    have HAL0 := Aside0.mk hal
    have FIN := Aside0.mk (show ∀ (vl : Value) (wz : World) (L : List Int), kI.R 3 wz w.heap.size (fun k => w.heap.size < k) vl L → ∃ (Al : Option Addr) (cl : Nat), vl = .slice Al L.length cl ∧ kI.C wz Al L.length L from fun vl wz L h => by
      obtain ⟨Al, cl, e, -, hC⟩ := Kd.R_reads h
      exact ⟨Al, cl, e, hC⟩)
    clear hL hU hal
    rcases hMr with ⟨ht, rfl⟩ | ⟨ht, rfl⟩
    all_goals
      clear HE HM HBAD hbx ht3
      go_enter Try.func122, Try.ntmps122
      go_wp2_with fail
      refine rk_start (fun _ => False) (by kernel_rfl) (n := 32) (l := #[false, false, false, false, false, false, false, false, false, false, false, false, false, false, false, false, false, false, false, false, false, false, false, false, false, false, false, false, false, false, false, false]) (by kernel_rfl) (by kernel_rfl) ?_
      refine rk_take (fuel := 31) 0 rfl (by kernel_rfl) (listed' := #[true, false, false, false, false, false, false, false, false, false, false, false, false, false, false, false, false, false, false, false, false, false, false, false, false, false, false, false, false, false, false, false]) (by kernel_rfl) (fun _ _ _ h => h) (by kernel_rfl) (fun w' hR => by obtain ⟨x0, x1, x2, x3, x4, x5, x6⟩ := HX.out w' (by first | exact HK2.out.trans hR | exact HK1.out.trans hR | exact HK0.out.trans hR); go_simp; first | done | with_reducible rfl) rfl ?_
      try simp only [Act.put, List.setIfInBounds_toArray, List.set_cons_zero, List.set_cons_succ]
      refine rk_take (fuel := 30) 1 rfl (by kernel_rfl) (listed' := #[true, true, false, false, false, false, false, false, false, false, false, false, false, false, false, false, false, false, false, false, false, false, false, false, false, false, false, false, false, false, false, false]) (by kernel_rfl) (fun _ _ _ h => h) (by kernel_rfl) (fun w' hR => by obtain ⟨x0, x1, x2, x3, x4, x5, x6⟩ := HX.out w' (by first | exact HK2.out.trans hR | exact HK1.out.trans hR | exact HK0.out.trans hR); go_simp; first | done | with_reducible rfl) rfl ?_
      try simp only [Act.put, List.setIfInBounds_toArray, List.set_cons_zero, List.set_cons_succ]
      refine rk_take (fuel := 29) 2 rfl (by kernel_rfl) (listed' := #[true, true, true, false, false, false, false, false, false, false, false, false, false, false, false, false, false, false, false, false, false, false, false, false, false, false, false, false, false, false, false, false]) (by kernel_rfl) (fun _ _ _ h => h) (by kernel_rfl) (fun w' hR => by obtain ⟨x0, x1, x2, x3, x4, x5, x6⟩ := HX.out w' (by first | exact HK2.out.trans hR | exact HK1.out.trans hR | exact HK0.out.trans hR); go_simp; first | done | with_reducible rfl) rfl ?_
      try simp only [Act.put, List.setIfInBounds_toArray, List.set_cons_zero, List.set_cons_succ]
      refine rk_take (fuel := 28) 3 rfl (by kernel_rfl) (listed' := #[true, true, true, true, false, false, false, false, false, false, false, false, false, false, false, false, false, false, false, false, false, false, false, false, false, false, false, false, false, false, false, false]) (by kernel_rfl) (fun _ _ _ h => h) (by kernel_rfl) (fun w' hR => by obtain ⟨x0, x1, x2, x3, x4, x5, x6⟩ := HX.out w' (by first | exact HK2.out.trans hR | exact HK1.out.trans hR | exact HK0.out.trans hR); go_simp; first | done | with_reducible rfl) rfl ?_
      try simp only [Act.put, List.setIfInBounds_toArray, List.set_cons_zero, List.set_cons_succ]
      refine rk_take (fuel := 27) 4 rfl (by kernel_rfl) (listed' := #[true, true, true, true, true, false, false, false, false, false, false, false, false, false, false, false, false, false, false, false, false, false, false, false, false, false, false, false, false, false, false, false]) (by kernel_rfl) (fun _ _ _ h => h) (by kernel_rfl) (fun w' hR => by obtain ⟨x0, x1, x2, x3, x4, x5, x6⟩ := HX.out w' (by first | exact HK2.out.trans hR | exact HK1.out.trans hR | exact HK0.out.trans hR); go_simp; first | done | with_reducible rfl) rfl ?_
      try simp only [Act.put, List.setIfInBounds_toArray, List.set_cons_zero, List.set_cons_succ]
      refine rk_take (fuel := 26) 5 rfl (by kernel_rfl) (listed' := #[true, true, true, true, true, true, false, false, false, false, false, false, false, false, false, false, false, false, false, false, false, false, false, false, false, false, false, false, false, false, false, false]) (by kernel_rfl) (fun _ _ _ h => h) (by kernel_rfl) (fun w' hR => by obtain ⟨x0, x1, x2, x3, x4, x5, x6⟩ := HX.out w' (by first | exact HK2.out.trans hR | exact HK1.out.trans hR | exact HK0.out.trans hR); go_simp; first | done | with_reducible rfl) rfl ?_
      try simp only [Act.put, List.setIfInBounds_toArray, List.set_cons_zero, List.set_cons_succ]
      refine rk_take (fuel := 25) 6 rfl (by kernel_rfl) (listed' := #[true, true, true, true, true, true, true, false, false, false, false, false, false, false, false, false, false, false, false, false, false, false, false, false, false, false, false, false, false, false, false, false]) (by kernel_rfl) (fun _ _ _ h => h) (by kernel_rfl) (fun w' hR => by obtain ⟨x0, x1, x2, x3, x4, x5, x6⟩ := HX.out w' (by first | exact HK2.out.trans hR | exact HK1.out.trans hR | exact HK0.out.trans hR); go_simp; first | done | with_reducible rfl) rfl ?_
      try simp only [Act.put, List.setIfInBounds_toArray, List.set_cons_zero, List.set_cons_succ]
      refine rk_take (fuel := 24) 7 rfl (by kernel_rfl) (listed' := #[true, true, true, true, true, true, true, true, false, false, false, false, false, false, false, false, false, false, false, false, false, false, false, false, false, false, false, false, false, false, false, false]) (by kernel_rfl) (fun _ _ _ h => h) (by kernel_rfl) (fun w' hR => by obtain ⟨x0, x1, x2, x3, x4, x5, x6⟩ := HX.out w' (by first | exact HK2.out.trans hR | exact HK1.out.trans hR | exact HK0.out.trans hR); go_simp; first | done | with_reducible rfl) rfl ?_
      try simp only [Act.put, List.setIfInBounds_toArray, List.set_cons_zero, List.set_cons_succ]
      refine rk_take (fuel := 23) 8 rfl (by kernel_rfl) (listed' := #[true, true, true, true, true, true, true, true, true, false, false, false, false, false, false, false, false, false, false, false, false, false, false, false, false, false, false, false, false, false, false, false]) (by kernel_rfl) (fun _ _ _ h => h) (by kernel_rfl) (fun w' hR => by obtain ⟨x0, x1, x2, x3, x4, x5, x6⟩ := HX.out w' (by first | exact HK2.out.trans hR | exact HK1.out.trans hR | exact HK0.out.trans hR); go_simp; first | done | with_reducible rfl) rfl ?_
      try simp only [Act.put, List.setIfInBounds_toArray, List.set_cons_zero, List.set_cons_succ]
      refine rk_take (fuel := 22) 9 rfl (by kernel_rfl) (listed' := #[true, true, true, true, true, true, true, true, true, true, false, false, false, false, false, false, false, false, false, false, false, false, false, false, false, false, false, false, false, false, false, false]) (by kernel_rfl) (fun _ _ _ h => h) (by kernel_rfl) (fun w' hR => by obtain ⟨x0, x1, x2, x3, x4, x5, x6⟩ := HX.out w' (by first | exact HK2.out.trans hR | exact HK1.out.trans hR | exact HK0.out.trans hR); go_simp; first | done | with_reducible rfl) rfl ?_
      try simp only [Act.put, List.setIfInBounds_toArray, List.set_cons_zero, List.set_cons_succ]
      refine rk_take (fuel := 21) 10 rfl (by kernel_rfl) (listed' := #[true, true, true, true, true, true, true, true, true, true, true, false, false, false, false, false, false, false, false, false, false, false, false, false, false, false, false, false, false, false, false, false]) (by kernel_rfl) (fun _ _ _ h => h) (by kernel_rfl) (fun w' hR => by obtain ⟨x0, x1, x2, x3, x4, x5, x6⟩ := HX.out w' (by first | exact HK2.out.trans hR | exact HK1.out.trans hR | exact HK0.out.trans hR); go_simp; first | done | with_reducible rfl) rfl ?_
      try simp only [Act.put, List.setIfInBounds_toArray, List.set_cons_zero, List.set_cons_succ]
      refine rk_take (fuel := 20) 11 rfl (by kernel_rfl) (listed' := #[true, true, true, true, true, true, true, true, true, true, true, true, false, false, false, false, false, false, false, false, false, false, false, false, false, false, false, false, false, false, false, false]) (by kernel_rfl) (fun _ _ _ h => h) (by kernel_rfl) (fun w' hR => by obtain ⟨x0, x1, x2, x3, x4, x5, x6⟩ := HX.out w' (by first | exact HK2.out.trans hR | exact HK1.out.trans hR | exact HK0.out.trans hR); go_simp; first | done | with_reducible rfl) rfl ?_
      try simp only [Act.put, List.setIfInBounds_toArray, List.set_cons_zero, List.set_cons_succ]
      refine rk_take (fuel := 19) 12 rfl (by kernel_rfl) (listed' := #[true, true, true, true, true, true, true, true, true, true, true, true, true, false, false, false, false, false, false, false, false, false, false, false, false, false, false, false, false, false, false, false]) (by kernel_rfl) (fun _ _ _ h => h) (by kernel_rfl) (fun w' hR => by obtain ⟨x0, x1, x2, x3, x4, x5, x6⟩ := HX.out w' (by first | exact HK2.out.trans hR | exact HK1.out.trans hR | exact HK0.out.trans hR); go_simp; first | done | with_reducible rfl) rfl ?_
      try simp only [Act.put, List.setIfInBounds_toArray, List.set_cons_zero, List.set_cons_succ]
      refine rk_step (fuel := 18) 13 rfl (by kernel_rfl) (listed' := #[true, true, true, true, true, true, true, true, true, true, true, true, true, true, false, false, false, false, false, false, false, false, false, false, false, false, false, false, false, false, false, false]) (by kernel_rfl) (by kernel_rfl) (fun K' hK => ?_)
      go_wp2_with (go_at_call 124; refine (names_calls 3 _ ⟨by omega, by omega⟩).mono ?_; rintro _ w1 ⟨rfl, hb⟩; have HB1 := Aside0.mk hb; have HK1 := Aside0.mk (HK0.out.trans (Keep.of_below hb)); clear hb)
      refine hK.out _ _ (Keep.of_below HB1.out) ?_
      clear hK K'
      try simp only [Act.put, List.setIfInBounds_toArray, List.set_cons_zero, List.set_cons_succ]
      refine rk_step (fuel := 17) 14 rfl (by kernel_rfl) (listed' := #[true, true, true, true, true, true, true, true, true, true, true, true, true, true, true, false, false, false, false, false, false, false, false, false, false, false, false, false, false, false, false, false]) (by kernel_rfl) (by kernel_rfl) (fun K' hK => ?_)
      go_wp2_with (go_at_call 143; refine (zero_calls 3 op d a b n args A c (namesA 3) (names_small 3) w1).mono ?_; rintro _ w2 ⟨rfl, hb⟩; rw [HZP.out]; have HB2 := Aside0.mk hb; have HK2 := Aside0.mk (HK1.out.trans (Keep.of_below hb)); clear hb)
      refine hK.out _ _ (Keep.of_below HB2.out) ?_
      clear hK K'
      try simp only [Act.put, List.setIfInBounds_toArray, List.set_cons_zero, List.set_cons_succ]
      refine rk_take (fuel := 16) 15 rfl (by kernel_rfl) (listed' := #[true, true, true, true, true, true, true, true, true, true, true, true, true, true, true, true, false, false, false, false, false, false, false, false, false, false, false, false, false, false, false, false]) (by kernel_rfl) (fun _ _ _ h => h) (by kernel_rfl) (fun w' hR => by obtain ⟨x0, x1, x2, x3, x4, x5, x6⟩ := HX.out w' (by first | exact HK2.out.trans hR | exact HK1.out.trans hR | exact HK0.out.trans hR); go_simp; first | done | with_reducible rfl) rfl ?_
      try simp only [Act.put, List.setIfInBounds_toArray, List.set_cons_zero, List.set_cons_succ]
      refine rk_take (fuel := 15) 16 rfl (by kernel_rfl) (listed' := #[true, true, true, true, true, true, true, true, true, true, true, true, true, true, true, true, true, false, false, false, false, false, false, false, false, false, false, false, false, false, false, false]) (by kernel_rfl) (fun _ _ _ h => h) (by kernel_rfl) (fun w' hR => by obtain ⟨x0, x1, x2, x3, x4, x5, x6⟩ := HX.out w' (by first | exact HK2.out.trans hR | exact HK1.out.trans hR | exact HK0.out.trans hR); go_simp; first | done | with_reducible rfl) rfl ?_
      try simp only [Act.put, List.setIfInBounds_toArray, List.set_cons_zero, List.set_cons_succ]
      refine rk_take (fuel := 14) 17 rfl (by kernel_rfl) (listed' := #[true, true, true, true, true, true, true, true, true, true, true, true, true, true, true, true, true, true, false, false, false, false, false, false, false, false, false, false, false, false, false, false]) (by kernel_rfl) (fun _ _ _ h => h) (by kernel_rfl) (fun w' hR => by obtain ⟨x0, x1, x2, x3, x4, x5, x6⟩ := HX.out w' (by first | exact HK2.out.trans hR | exact HK1.out.trans hR | exact HK0.out.trans hR); go_simp; first | done | with_reducible rfl) rfl ?_
      try simp only [Act.put, List.setIfInBounds_toArray, List.set_cons_zero, List.set_cons_succ]
      refine rk_take (fuel := 13) 18 rfl (by kernel_rfl) (listed' := #[true, true, true, true, true, true, true, true, true, true, true, true, true, true, true, true, true, true, true, false, false, false, false, false, false, false, false, false, false, false, false, false]) (by kernel_rfl) (fun _ _ _ h => h) (by kernel_rfl) (fun w' hR => by obtain ⟨x0, x1, x2, x3, x4, x5, x6⟩ := HX.out w' (by first | exact HK2.out.trans hR | exact HK1.out.trans hR | exact HK0.out.trans hR); go_simp; first | done | with_reducible rfl) rfl ?_
      try simp only [Act.put, List.setIfInBounds_toArray, List.set_cons_zero, List.set_cons_succ]
      refine rk_take (fuel := 12) 19 rfl (by kernel_rfl) (listed' := #[true, true, true, true, true, true, true, true, true, true, true, true, true, true, true, true, true, true, true, true, false, false, false, false, false, false, false, false, false, false, false, false]) (by kernel_rfl) (fun _ _ _ h => h) (by kernel_rfl) (fun w' hR => by obtain ⟨x0, x1, x2, x3, x4, x5, x6⟩ := HX.out w' (by first | exact HK2.out.trans hR | exact HK1.out.trans hR | exact HK0.out.trans hR); go_simp; first | done | with_reducible rfl) rfl ?_
      try simp only [Act.put, List.setIfInBounds_toArray, List.set_cons_zero, List.set_cons_succ]
      refine rk_take (fuel := 11) 20 rfl (by kernel_rfl) (listed' := #[true, true, true, true, true, true, true, true, true, true, true, true, true, true, true, true, true, true, true, true, true, false, false, false, false, false, false, false, false, false, false, false]) (by kernel_rfl) (fun _ _ _ h => h) (by kernel_rfl) (fun w' hR => by obtain ⟨x0, x1, x2, x3, x4, x5, x6⟩ := HX.out w' (by first | exact HK2.out.trans hR | exact HK1.out.trans hR | exact HK0.out.trans hR); go_simp; first | done | with_reducible rfl) rfl ?_
      try simp only [Act.put, List.setIfInBounds_toArray, List.set_cons_zero, List.set_cons_succ]
      refine rk_take (fuel := 10) 21 rfl (by kernel_rfl) (listed' := #[true, true, true, true, true, true, true, true, true, true, true, true, true, true, true, true, true, true, true, true, true, true, false, false, false, false, false, false, false, false, false, false]) (by kernel_rfl) (fun _ _ _ h => h) (by kernel_rfl) (fun w' hR => by obtain ⟨x0, x1, x2, x3, x4, x5, x6⟩ := HX.out w' (by first | exact HK2.out.trans hR | exact HK1.out.trans hR | exact HK0.out.trans hR); go_simp; first | done | with_reducible rfl) rfl ?_
      try simp only [Act.put, List.setIfInBounds_toArray, List.set_cons_zero, List.set_cons_succ]
      refine rk_take (fuel := 9) 22 rfl (by kernel_rfl) (listed' := #[true, true, true, true, true, true, true, true, true, true, true, true, true, true, true, true, true, true, true, true, true, true, true, false, false, false, false, false, false, false, false, false]) (by kernel_rfl) (fun _ _ _ h => h) (by kernel_rfl) (fun w' hR => by obtain ⟨x0, x1, x2, x3, x4, x5, x6⟩ := HX.out w' (by first | exact HK2.out.trans hR | exact HK1.out.trans hR | exact HK0.out.trans hR); go_simp; first | done | with_reducible rfl) rfl ?_
      try simp only [Act.put, List.setIfInBounds_toArray, List.set_cons_zero, List.set_cons_succ]
      refine rk_take (fuel := 8) 23 rfl (by kernel_rfl) (listed' := #[true, true, true, true, true, true, true, true, true, true, true, true, true, true, true, true, true, true, true, true, true, true, true, true, false, false, false, false, false, false, false, false]) (by kernel_rfl) (fun _ _ _ h => h) (by kernel_rfl) (fun w' hR => by obtain ⟨x0, x1, x2, x3, x4, x5, x6⟩ := HX.out w' (by first | exact HK2.out.trans hR | exact HK1.out.trans hR | exact HK0.out.trans hR); go_simp; first | done | with_reducible rfl) rfl ?_
      try simp only [Act.put, List.setIfInBounds_toArray, List.set_cons_zero, List.set_cons_succ]
      refine rk_take (fuel := 7) 24 rfl (by kernel_rfl) (listed' := #[true, true, true, true, true, true, true, true, true, true, true, true, true, true, true, true, true, true, true, true, true, true, true, true, true, false, false, false, false, false, false, false]) (by kernel_rfl) (fun _ _ _ h => h) (by kernel_rfl) (fun w' hR => by obtain ⟨x0, x1, x2, x3, x4, x5, x6⟩ := HX.out w' (by first | exact HK2.out.trans hR | exact HK1.out.trans hR | exact HK0.out.trans hR); go_simp; first | done | with_reducible rfl) rfl ?_
      try simp only [Act.put, List.setIfInBounds_toArray, List.set_cons_zero, List.set_cons_succ]
      refine rk_take (fuel := 6) 25 rfl (by kernel_rfl) (listed' := #[true, true, true, true, true, true, true, true, true, true, true, true, true, true, true, true, true, true, true, true, true, true, true, true, true, true, false, false, false, false, false, false]) (by kernel_rfl) (fun _ _ _ h => h) (by kernel_rfl) (fun w' hR => by obtain ⟨x0, x1, x2, x3, x4, x5, x6⟩ := HX.out w' (by first | exact HK2.out.trans hR | exact HK1.out.trans hR | exact HK0.out.trans hR); go_simp; first | done | with_reducible rfl) rfl ?_
      try simp only [Act.put, List.setIfInBounds_toArray, List.set_cons_zero, List.set_cons_succ]
      refine rk_take (fuel := 5) 26 rfl (by kernel_rfl) (listed' := #[true, true, true, true, true, true, true, true, true, true, true, true, true, true, true, true, true, true, true, true, true, true, true, true, true, true, true, false, false, false, false, false]) (by kernel_rfl) (fun _ _ _ h => h) (by kernel_rfl) (fun w' hR => by obtain ⟨x0, x1, x2, x3, x4, x5, x6⟩ := HX.out w' (by first | exact HK2.out.trans hR | exact HK1.out.trans hR | exact HK0.out.trans hR); go_simp; first | done | with_reducible rfl) rfl ?_
      try simp only [Act.put, List.setIfInBounds_toArray, List.set_cons_zero, List.set_cons_succ]
      refine rk_take (fuel := 4) 27 rfl (by kernel_rfl) (listed' := #[true, true, true, true, true, true, true, true, true, true, true, true, true, true, true, true, true, true, true, true, true, true, true, true, true, true, true, true, false, false, false, false]) (by kernel_rfl) (fun _ _ _ h => h) (by kernel_rfl) (fun w' hR => by obtain ⟨x0, x1, x2, x3, x4, x5, x6⟩ := HX.out w' (by first | exact HK2.out.trans hR | exact HK1.out.trans hR | exact HK0.out.trans hR); go_simp; first | done | with_reducible rfl) rfl ?_
      try simp only [Act.put, List.setIfInBounds_toArray, List.set_cons_zero, List.set_cons_succ]
      refine rk_take (fuel := 3) 28 rfl (by kernel_rfl) (listed' := #[true, true, true, true, true, true, true, true, true, true, true, true, true, true, true, true, true, true, true, true, true, true, true, true, true, true, true, true, true, false, false, false]) (by kernel_rfl) (fun _ _ _ h => h) (by kernel_rfl) (fun w' hR => by obtain ⟨x0, x1, x2, x3, x4, x5, x6⟩ := HX.out w' (by first | exact HK2.out.trans hR | exact HK1.out.trans hR | exact HK0.out.trans hR); go_simp; first | done | with_reducible rfl) rfl ?_
      try simp only [Act.put, List.setIfInBounds_toArray, List.set_cons_zero, List.set_cons_succ]
      refine rk_take (fuel := 2) 29 rfl (by kernel_rfl) (listed' := #[true, true, true, true, true, true, true, true, true, true, true, true, true, true, true, true, true, true, true, true, true, true, true, true, true, true, true, true, true, true, false, false]) (by kernel_rfl) (fun _ _ _ h => h) (by kernel_rfl) (fun w' hR => by obtain ⟨x0, x1, x2, x3, x4, x5, x6⟩ := HX.out w' (by first | exact HK2.out.trans hR | exact HK1.out.trans hR | exact HK0.out.trans hR); go_simp; first | done | with_reducible rfl) rfl ?_
      try simp only [Act.put, List.setIfInBounds_toArray, List.set_cons_zero, List.set_cons_succ]
      refine rk_take (fuel := 1) 30 rfl (by kernel_rfl) (listed' := #[true, true, true, true, true, true, true, true, true, true, true, true, true, true, true, true, true, true, true, true, true, true, true, true, true, true, true, true, true, true, true, false]) (by kernel_rfl) (fun _ _ _ h => h) (by kernel_rfl) (fun w' hR => by obtain ⟨x0, x1, x2, x3, x4, x5, x6⟩ := HX.out w' (by first | exact HK2.out.trans hR | exact HK1.out.trans hR | exact HK0.out.trans hR); go_simp; first | done | with_reducible rfl) rfl ?_
      try simp only [Act.put, List.setIfInBounds_toArray, List.set_cons_zero, List.set_cons_succ]
      refine rk_take (fuel := 0) 31 rfl (by kernel_rfl) (listed' := #[true, true, true, true, true, true, true, true, true, true, true, true, true, true, true, true, true, true, true, true, true, true, true, true, true, true, true, true, true, true, true, true]) (by kernel_rfl) (fun _ _ _ h => h) (by kernel_rfl) (fun w' hR => by obtain ⟨x0, x1, x2, x3, x4, x5, x6⟩ := HX.out w' (by first | exact HK2.out.trans hR | exact HK1.out.trans hR | exact HK0.out.trans hR); go_simp; first | done | with_reducible rfl) rfl ?_
      try simp only [Act.put, List.setIfInBounds_toArray, List.set_cons_zero, List.set_cons_succ]
      refine rk_done (by kernel_rfl) ?_
      obtain ⟨c0, c1, c2, c3, c4, c5, c6⟩ := HX.out w2 HK2.out
      have HW2 := Aside0.mk (HA.out.trans ((HK2.out.below (Nat.le_refl _) (fun _ _ h => h)).mono HA.out.size))
      by_cases hl : 3 < args.length
      · go_wp2
        go_ret
        exact ⟨ret_i (by rw [HMORE.out, if_pos hl]), HW2.out⟩
      have HMO := Aside0.mk (HMORE.out.trans (if_neg hl))
      have hul := HUL.out (by omega)
      have HW2S := Aside0.mk (show w.heap.size < w2.heap.size by have := HK2.out.size; rw [HSZ.out] at this; omega)
      have hw2s := HW2S.out
      have hg : givesB 3 = true := rfl
      have HG := Aside0.mk hg
      have hal := HAL0.out
      rw [hg] at hal
      simp only [if_true] at hal
      have hll : L.length ≤ 4 := by rw [hal]; simp; omega
      have HAL := Aside0.mk hal
      clear hg hal
      go_wp2_with (first | (go_at_call 112; refine (ruses_calls 3 op d a b n args A c _ (Kd.C_below HC.out (HW2.out.alloc HW2.out.size _)) hc).mono ?_; rintro _ w3 ⟨Au, cu, rfl, -, hCu, hb⟩; rw [HU.out] at hCu ⊢; have HCU := Aside0.mk hCu; have HO0 := Aside0.mk (Kd.R_mono (Kd.R_lower (Kd.R_bound (Kd.R_below (R_lit0 kI 3 w2) hb)) HW2.out.size) (ok' := fun k => w.heap.size < k) (fun k hk => by have := hk.2.1; have := HW2S.out; omega)); have HW3 := Aside0.mk ((HW2.out.alloc HW2.out.size _).trans (hb.mono (HW2.out.alloc HW2.out.size _).size)); have HK3 := Aside0.mk ((HK2.out.alloc (.cells #[] 3)).trans (Keep.of_below hb)); have HW3L := Aside0.mk (show w.heap.size < w3.heap.size by have h1 := hb.size; simp only [World.size_alloc] at h1; have := HW2S.out; omega); clear c0 c1 c2 c3 c4 c5 c6 hb hCu) | ((with_reducible refine gate_builtin (b := .append) (xs := #[.tmp 48, .tmp 50]) rfl ?_); at_builtin; refine Kd.R_append_rows kI (w0 := w) w.heap.size rfl (.tmp 48) (.tmp 50) 31 3 (.int .i64 0) 8 rfl Try.underlying31 infoI rfl (by decide) (by omega) (.slice (some ⟨w2.heap.size, 0, none⟩) 0 0) ([] : List Int) U _ _ _ (fun k => w.heap.size < k) (fun _ => False) rfl rfl ?aO ?aR (fun _ _ h => h) (fun _ h => h.elim) ?aF ?aB ?aS ?aL ?_; (case aR => exact HCU.out); (case aB => exact HW3.out); (case aF => (intro k hk; have h1 := HK3.out.size; have h2 := HW2S.out; have h3 := HSZ.out; have h4 := HK2.out.size; have h5 := HW3L.out; omega)); (case aO => exact HO0.out); (case aS => exact HW3.out.size); (case aL => (simp only [List.length_nil]; omega)); (intro v4 w4 ho hb1 hg hat; rw [List.nil_append] at ho; obtain ⟨Al, cl, e, hcl⟩ := FIN.out _ _ _ ho; subst e; have HCL := Aside0.mk hcl; have HO := Aside0.mk ho; have HW4 := Aside0.mk hb1; have HK4 := Aside0.mk (hg.block w.heap.size (by have := HW3L.out; omega) (fun e => by have := HO0.out.1 w.heap.size e.symm; omega)); have HW4L := Aside0.mk (show w.heap.size < w4.heap.size by have := hg.size; have := HW3L.out; omega); have hw4l := HW4L.out; obtain ⟨c0, c1, c2, c3, c4, c5, c6⟩ := BXC.out w3 w4 HK3.out HK4.out; clear ho hb1 hg hat hcl)) | (go_at_call 114; refine (rgives_calls _ _).mono ?_; rintro _ w9 ⟨rfl, hw9⟩; rw [hw9, HG.out]; clear hw9) | ((with_reducible refine gate_builtin (b := .append) (xs := #[.tmp 55, .tmp 58]) rfl ?_); at_builtin; refine Kd.R_append_rows kI (w0 := w) w.heap.size rfl (.tmp 55) (.tmp 58) 31 3 (.int .i64 0) 8 rfl Try.underlying31 infoI rfl (by decide) (by omega) (.slice Al U.length cl) U [d] _ _ _ (fun k => w.heap.size < k) (fun _ => False) rfl rfl ?aO ?aR (fun _ _ h => h) (fun _ h => h.elim) ?aF ?aB ?aS ?aL ?_; (case aR => exact (C_lit .i64 _ _ [d] 1 rfl (by decide))); (case aB => exact (HW4.out.alloc HW4.out.size _)); (case aF => (intro k hk; (try simp only [World.size_alloc] at hk); have := HW4L.out; omega)); (case aO => exact (Kd.R_below HO.out ((Below.refl _ _).alloc (Nat.le_refl _) _))); (case aS => ((try simp only [World.size_alloc]); have := HW4.out.size; omega)); (case aL => (first | omega | (simp; omega))); (intro v5 w5 ho hb1 hg hat; rw [← HAL.out] at ho; obtain ⟨Al, cl, e, hcl⟩ := FIN.out _ _ _ ho; subst e; have HCL := Aside0.mk hcl; have HW5 := Aside0.mk hb1; have HK5 := Aside0.mk ((hg.block w.heap.size (by (try simp only [World.size_alloc]); have := HW4L.out; omega) (fun e => by have := HO.out.1 w.heap.size e.symm; omega)).trans (heap_alloc_old _ _ HW4L.out)); clear c0 c1 c2 c3 c4 c5 c6; obtain ⟨c0, c1, c2, c3, c4, c5, c6⟩ := BXC.out w3 w5 HK3.out (HK5.out.trans HK4.out); clear ho hb1 hg hat hcl)))
      go_loopw [9] (fun vi wr => wr = w5 ∧ ∃ j : Nat, j ≤ L.length ∧ vi = .int .i64 j ∧ Aside0 ((L.take j).any (outB v) = false)) (fun vi _ => L.length - (intOf vi).toNat)
      case atStart => exact ⟨rfl, 0, by omega, rfl, ⟨by simp⟩⟩
      case round =>
        obtain ⟨rfl, j, hj, rfl, HN⟩ := hrel
        by_cases hjl : j < L.length
        · obtain ⟨x, hx⟩ : ∃ x, L[j]? = some x := ⟨_, List.getElem?_eq_getElem hjl⟩
          obtain ⟨ad, rfl⟩ : ∃ ad, Al = some ad := by obtain ⟨ad, e, _⟩ := HCL.out.2.2 (by omega); exact ⟨ad, e⟩
          have hcx := C_cell HCL.out hx
          have HT := Aside0.mk (show (L.take (j + 1)).any (outB v) = outB v x by rw [List.take_add_one, hx, List.any_append, HN.out]; simp)
          have HY := Aside0.mk (show outB v x = true → L.any (outB v) = true from fun h => List.any_eq_true.2 ⟨x, List.mem_of_getElem? hx, h⟩)
          clear hx
          rcases (by omega : x < 0 ∨ (¬ x < 0 ∧ v ≤ x) ∨ (¬ x < 0 ∧ ¬ v ≤ x)) with hx0 | ⟨hx0, hx1⟩ | ⟨hx0, hx1⟩
          · go_wp2
            go_ret
            exact ⟨ret_i (by rw [HMO.out, HY.out (decide_eq_true (.inl hx0)), if_pos rfl, (by first | exact if_pos ht | exact if_neg (by omega) : (if t < 0 then (21 : Int) else 23) = _)]), HW5.out⟩
          · go_wp2
            go_ret
            exact ⟨ret_i (by rw [HMO.out, HY.out (decide_eq_true (.inr hx1)), if_pos rfl, (by first | exact if_pos ht | exact if_neg (by omega) : (if t < 0 then (21 : Int) else 23) = _)]), HW5.out⟩
          · have HN := Aside0.mk (HT.out.trans (decide_eq_false (by omega)))
            go_wp2
            go_roundw
            case rel => exact ⟨by first | rfl | trivial, j + 1, by omega, by go_num, HN⟩
            case measure => simp [intOf]; omega
        · obtain rfl : j = L.length := by omega
          have hn := HN.out
          rw [List.take_length] at hn
          have HE0 := Aside0.mk (HMO.out.trans (if_neg (by rw [hn]; exact Bool.false_ne_true)))
          clear hn hjl
          all_goals
            go_wp2
            go_ret
            refine ⟨ret_i ?_, HW5.out⟩
            rw [HE0.out]
            clear HE0 HMO HMORE
            (try simp only [beq_eq_false_iff_ne] at j1 j2)
            (try simp only [true_and, false_and, or_false, false_or])
            first | rfl | exact (if_pos (by omega)).symm | exact (if_neg (by omega)).symm | exact (e24_7 _ _ _ (by omega)).symm | exact (e0_7 _ _ _ (by omega)).symm | exact (e24_8 _ _ _ (by omega)).symm | exact (e0_8 _ _ _ (by omega)).symm | exact (e0_k _ _ _ _ (by omega) (by omega)).symm
  · have d1 := decide_eq_false h1
    have d2 := decide_eq_false h2
    have HMORE := Aside0.mk (show E = if 3 < args.length then 25 else if (allL (k, op, d, a, b, n, args)).any (outB v) then (if t < 0 then 21 else 23) else if ((k : Int) = 7 ∧ (d < 0 ∨ t ≤ d)) ∨ ((k : Int) = 8 ∧ (a < 0 ∨ t ≤ a)) then 24 else 0 from by
      rw [← HE.out]
      refine rins_more (i := (k, op, d, a, b, n, args)) ?_
      rw [← HM.out]
      simp only [h3, Bool.true_eq_false, false_or]
      simp only [beq_eq_false_iff_ne] at h4; omega)
    have HZP := Aside0.mk (show zeroB (k, op, d, a, b, n, args) (namesA k) = true from (zero_plain k op d a b n args (by rcases hMr with h | h <;> omega)).trans h3)
    clear h3
    obtain ⟨L, hL⟩ : ∃ L, allL (k, op, d, a, b, n, args) = L := ⟨_, rfl⟩
    obtain ⟨U, hU⟩ : ∃ U, usesL (k, op, d, a, b, n, args) = U := ⟨_, rfl⟩
    have HU := Aside0.mk hU
    have hal : L = U ++ if givesB k then [d] else [] := by rw [← hL, ← hU]; rfl
    have HUL := Aside0.mk (show args.length ≤ 3 → U.length ≤ 3 from fun h => by rw [← hU]; exact uses_len _ op d a b n args h)
    rw [hL] at HMORE
    have HAL0 := Aside0.mk hal
    have FIN := Aside0.mk (show ∀ (vl : Value) (wz : World) (L : List Int), kI.R 3 wz w.heap.size (fun k => w.heap.size < k) vl L → ∃ (Al : Option Addr) (cl : Nat), vl = .slice Al L.length cl ∧ kI.C wz Al L.length L from fun vl wz L h => by
      obtain ⟨Al, cl, e, -, hC⟩ := Kd.R_reads h
      exact ⟨Al, cl, e, hC⟩)
    clear hL hU hal
    rcases hMr with ⟨ht, rfl⟩ | ⟨ht, rfl⟩
    all_goals
      clear HE HM HBAD hbx ht3
      go_enter Try.func122, Try.ntmps122
      go_wp2_with fail
      refine rk_start (fun _ => False) (by kernel_rfl) (n := 32) (l := #[false, false, false, false, false, false, false, false, false, false, false, false, false, false, false, false, false, false, false, false, false, false, false, false, false, false, false, false, false, false, false, false]) (by kernel_rfl) (by kernel_rfl) ?_
      refine rk_take (fuel := 31) 0 rfl (by kernel_rfl) (listed' := #[true, false, false, false, false, false, false, false, false, false, false, false, false, false, false, false, false, false, false, false, false, false, false, false, false, false, false, false, false, false, false, false]) (by kernel_rfl) (fun _ _ _ h => h) (by kernel_rfl) (fun w' hR => by obtain ⟨x0, x1, x2, x3, x4, x5, x6⟩ := HX.out w' (by first | exact HK2.out.trans hR | exact HK1.out.trans hR | exact HK0.out.trans hR); go_simp; first | done | with_reducible rfl) rfl ?_
      try simp only [Act.put, List.setIfInBounds_toArray, List.set_cons_zero, List.set_cons_succ]
      refine rk_take (fuel := 30) 1 rfl (by kernel_rfl) (listed' := #[true, true, false, false, false, false, false, false, false, false, false, false, false, false, false, false, false, false, false, false, false, false, false, false, false, false, false, false, false, false, false, false]) (by kernel_rfl) (fun _ _ _ h => h) (by kernel_rfl) (fun w' hR => by obtain ⟨x0, x1, x2, x3, x4, x5, x6⟩ := HX.out w' (by first | exact HK2.out.trans hR | exact HK1.out.trans hR | exact HK0.out.trans hR); go_simp; first | done | with_reducible rfl) rfl ?_
      try simp only [Act.put, List.setIfInBounds_toArray, List.set_cons_zero, List.set_cons_succ]
      refine rk_take (fuel := 29) 2 rfl (by kernel_rfl) (listed' := #[true, true, true, false, false, false, false, false, false, false, false, false, false, false, false, false, false, false, false, false, false, false, false, false, false, false, false, false, false, false, false, false]) (by kernel_rfl) (fun _ _ _ h => h) (by kernel_rfl) (fun w' hR => by obtain ⟨x0, x1, x2, x3, x4, x5, x6⟩ := HX.out w' (by first | exact HK2.out.trans hR | exact HK1.out.trans hR | exact HK0.out.trans hR); go_simp; first | done | with_reducible rfl) rfl ?_
      try simp only [Act.put, List.setIfInBounds_toArray, List.set_cons_zero, List.set_cons_succ]
      refine rk_take (fuel := 28) 3 rfl (by kernel_rfl) (listed' := #[true, true, true, true, false, false, false, false, false, false, false, false, false, false, false, false, false, false, false, false, false, false, false, false, false, false, false, false, false, false, false, false]) (by kernel_rfl) (fun _ _ _ h => h) (by kernel_rfl) (fun w' hR => by obtain ⟨x0, x1, x2, x3, x4, x5, x6⟩ := HX.out w' (by first | exact HK2.out.trans hR | exact HK1.out.trans hR | exact HK0.out.trans hR); go_simp; first | done | with_reducible rfl) rfl ?_
      try simp only [Act.put, List.setIfInBounds_toArray, List.set_cons_zero, List.set_cons_succ]
      refine rk_take (fuel := 27) 4 rfl (by kernel_rfl) (listed' := #[true, true, true, true, true, false, false, false, false, false, false, false, false, false, false, false, false, false, false, false, false, false, false, false, false, false, false, false, false, false, false, false]) (by kernel_rfl) (fun _ _ _ h => h) (by kernel_rfl) (fun w' hR => by obtain ⟨x0, x1, x2, x3, x4, x5, x6⟩ := HX.out w' (by first | exact HK2.out.trans hR | exact HK1.out.trans hR | exact HK0.out.trans hR); go_simp; first | done | with_reducible rfl) rfl ?_
      try simp only [Act.put, List.setIfInBounds_toArray, List.set_cons_zero, List.set_cons_succ]
      refine rk_take (fuel := 26) 5 rfl (by kernel_rfl) (listed' := #[true, true, true, true, true, true, false, false, false, false, false, false, false, false, false, false, false, false, false, false, false, false, false, false, false, false, false, false, false, false, false, false]) (by kernel_rfl) (fun _ _ _ h => h) (by kernel_rfl) (fun w' hR => by obtain ⟨x0, x1, x2, x3, x4, x5, x6⟩ := HX.out w' (by first | exact HK2.out.trans hR | exact HK1.out.trans hR | exact HK0.out.trans hR); go_simp; first | done | with_reducible rfl) rfl ?_
      try simp only [Act.put, List.setIfInBounds_toArray, List.set_cons_zero, List.set_cons_succ]
      refine rk_take (fuel := 25) 6 rfl (by kernel_rfl) (listed' := #[true, true, true, true, true, true, true, false, false, false, false, false, false, false, false, false, false, false, false, false, false, false, false, false, false, false, false, false, false, false, false, false]) (by kernel_rfl) (fun _ _ _ h => h) (by kernel_rfl) (fun w' hR => by obtain ⟨x0, x1, x2, x3, x4, x5, x6⟩ := HX.out w' (by first | exact HK2.out.trans hR | exact HK1.out.trans hR | exact HK0.out.trans hR); go_simp; first | done | with_reducible rfl) rfl ?_
      try simp only [Act.put, List.setIfInBounds_toArray, List.set_cons_zero, List.set_cons_succ]
      refine rk_take (fuel := 24) 7 rfl (by kernel_rfl) (listed' := #[true, true, true, true, true, true, true, true, false, false, false, false, false, false, false, false, false, false, false, false, false, false, false, false, false, false, false, false, false, false, false, false]) (by kernel_rfl) (fun _ _ _ h => h) (by kernel_rfl) (fun w' hR => by obtain ⟨x0, x1, x2, x3, x4, x5, x6⟩ := HX.out w' (by first | exact HK2.out.trans hR | exact HK1.out.trans hR | exact HK0.out.trans hR); go_simp; first | done | with_reducible rfl) rfl ?_
      try simp only [Act.put, List.setIfInBounds_toArray, List.set_cons_zero, List.set_cons_succ]
      refine rk_take (fuel := 23) 8 rfl (by kernel_rfl) (listed' := #[true, true, true, true, true, true, true, true, true, false, false, false, false, false, false, false, false, false, false, false, false, false, false, false, false, false, false, false, false, false, false, false]) (by kernel_rfl) (fun _ _ _ h => h) (by kernel_rfl) (fun w' hR => by obtain ⟨x0, x1, x2, x3, x4, x5, x6⟩ := HX.out w' (by first | exact HK2.out.trans hR | exact HK1.out.trans hR | exact HK0.out.trans hR); go_simp; first | done | with_reducible rfl) rfl ?_
      try simp only [Act.put, List.setIfInBounds_toArray, List.set_cons_zero, List.set_cons_succ]
      refine rk_take (fuel := 22) 9 rfl (by kernel_rfl) (listed' := #[true, true, true, true, true, true, true, true, true, true, false, false, false, false, false, false, false, false, false, false, false, false, false, false, false, false, false, false, false, false, false, false]) (by kernel_rfl) (fun _ _ _ h => h) (by kernel_rfl) (fun w' hR => by obtain ⟨x0, x1, x2, x3, x4, x5, x6⟩ := HX.out w' (by first | exact HK2.out.trans hR | exact HK1.out.trans hR | exact HK0.out.trans hR); go_simp; first | done | with_reducible rfl) rfl ?_
      try simp only [Act.put, List.setIfInBounds_toArray, List.set_cons_zero, List.set_cons_succ]
      refine rk_take (fuel := 21) 10 rfl (by kernel_rfl) (listed' := #[true, true, true, true, true, true, true, true, true, true, true, false, false, false, false, false, false, false, false, false, false, false, false, false, false, false, false, false, false, false, false, false]) (by kernel_rfl) (fun _ _ _ h => h) (by kernel_rfl) (fun w' hR => by obtain ⟨x0, x1, x2, x3, x4, x5, x6⟩ := HX.out w' (by first | exact HK2.out.trans hR | exact HK1.out.trans hR | exact HK0.out.trans hR); go_simp; first | done | with_reducible rfl) rfl ?_
      try simp only [Act.put, List.setIfInBounds_toArray, List.set_cons_zero, List.set_cons_succ]
      refine rk_take (fuel := 20) 11 rfl (by kernel_rfl) (listed' := #[true, true, true, true, true, true, true, true, true, true, true, true, false, false, false, false, false, false, false, false, false, false, false, false, false, false, false, false, false, false, false, false]) (by kernel_rfl) (fun _ _ _ h => h) (by kernel_rfl) (fun w' hR => by obtain ⟨x0, x1, x2, x3, x4, x5, x6⟩ := HX.out w' (by first | exact HK2.out.trans hR | exact HK1.out.trans hR | exact HK0.out.trans hR); go_simp; first | done | with_reducible rfl) rfl ?_
      try simp only [Act.put, List.setIfInBounds_toArray, List.set_cons_zero, List.set_cons_succ]
      refine rk_take (fuel := 19) 12 rfl (by kernel_rfl) (listed' := #[true, true, true, true, true, true, true, true, true, true, true, true, true, false, false, false, false, false, false, false, false, false, false, false, false, false, false, false, false, false, false, false]) (by kernel_rfl) (fun _ _ _ h => h) (by kernel_rfl) (fun w' hR => by obtain ⟨x0, x1, x2, x3, x4, x5, x6⟩ := HX.out w' (by first | exact HK2.out.trans hR | exact HK1.out.trans hR | exact HK0.out.trans hR); go_simp; first | done | with_reducible rfl) rfl ?_
      try simp only [Act.put, List.setIfInBounds_toArray, List.set_cons_zero, List.set_cons_succ]
      refine rk_step (fuel := 18) 13 rfl (by kernel_rfl) (listed' := #[true, true, true, true, true, true, true, true, true, true, true, true, true, true, false, false, false, false, false, false, false, false, false, false, false, false, false, false, false, false, false, false]) (by kernel_rfl) (by kernel_rfl) (fun K' hK => ?_)
      go_wp2_with (go_at_call 124; refine (names_calls k _ ⟨by omega, by omega⟩).mono ?_; rintro _ w1 ⟨rfl, hb⟩; have HB1 := Aside0.mk hb; have HK1 := Aside0.mk (HK0.out.trans (Keep.of_below hb)); clear hb)
      refine hK.out _ _ (Keep.of_below HB1.out) ?_
      clear hK K'
      try simp only [Act.put, List.setIfInBounds_toArray, List.set_cons_zero, List.set_cons_succ]
      refine rk_step (fuel := 17) 14 rfl (by kernel_rfl) (listed' := #[true, true, true, true, true, true, true, true, true, true, true, true, true, true, true, false, false, false, false, false, false, false, false, false, false, false, false, false, false, false, false, false]) (by kernel_rfl) (by kernel_rfl) (fun K' hK => ?_)
      go_wp2_with (go_at_call 143; refine (zero_calls k op d a b n args A c (namesA k) (names_small k) w1).mono ?_; rintro _ w2 ⟨rfl, hb⟩; rw [HZP.out]; have HB2 := Aside0.mk hb; have HK2 := Aside0.mk (HK1.out.trans (Keep.of_below hb)); clear hb)
      refine hK.out _ _ (Keep.of_below HB2.out) ?_
      clear hK K'
      try simp only [Act.put, List.setIfInBounds_toArray, List.set_cons_zero, List.set_cons_succ]
      refine rk_take (fuel := 16) 15 rfl (by kernel_rfl) (listed' := #[true, true, true, true, true, true, true, true, true, true, true, true, true, true, true, true, false, false, false, false, false, false, false, false, false, false, false, false, false, false, false, false]) (by kernel_rfl) (fun _ _ _ h => h) (by kernel_rfl) (fun w' hR => by obtain ⟨x0, x1, x2, x3, x4, x5, x6⟩ := HX.out w' (by first | exact HK2.out.trans hR | exact HK1.out.trans hR | exact HK0.out.trans hR); go_simp; first | done | with_reducible rfl) rfl ?_
      try simp only [Act.put, List.setIfInBounds_toArray, List.set_cons_zero, List.set_cons_succ]
      refine rk_take (fuel := 15) 16 rfl (by kernel_rfl) (listed' := #[true, true, true, true, true, true, true, true, true, true, true, true, true, true, true, true, true, false, false, false, false, false, false, false, false, false, false, false, false, false, false, false]) (by kernel_rfl) (fun _ _ _ h => h) (by kernel_rfl) (fun w' hR => by obtain ⟨x0, x1, x2, x3, x4, x5, x6⟩ := HX.out w' (by first | exact HK2.out.trans hR | exact HK1.out.trans hR | exact HK0.out.trans hR); go_simp; first | done | with_reducible rfl) rfl ?_
      try simp only [Act.put, List.setIfInBounds_toArray, List.set_cons_zero, List.set_cons_succ]
      refine rk_take (fuel := 14) 17 rfl (by kernel_rfl) (listed' := #[true, true, true, true, true, true, true, true, true, true, true, true, true, true, true, true, true, true, false, false, false, false, false, false, false, false, false, false, false, false, false, false]) (by kernel_rfl) (fun _ _ _ h => h) (by kernel_rfl) (fun w' hR => by obtain ⟨x0, x1, x2, x3, x4, x5, x6⟩ := HX.out w' (by first | exact HK2.out.trans hR | exact HK1.out.trans hR | exact HK0.out.trans hR); go_simp; first | done | with_reducible rfl) rfl ?_
      try simp only [Act.put, List.setIfInBounds_toArray, List.set_cons_zero, List.set_cons_succ]
      refine rk_take (fuel := 13) 18 rfl (by kernel_rfl) (listed' := #[true, true, true, true, true, true, true, true, true, true, true, true, true, true, true, true, true, true, true, false, false, false, false, false, false, false, false, false, false, false, false, false]) (by kernel_rfl) (fun _ _ _ h => h) (by kernel_rfl) (fun w' hR => by obtain ⟨x0, x1, x2, x3, x4, x5, x6⟩ := HX.out w' (by first | exact HK2.out.trans hR | exact HK1.out.trans hR | exact HK0.out.trans hR); go_simp; first | done | with_reducible rfl) rfl ?_
      try simp only [Act.put, List.setIfInBounds_toArray, List.set_cons_zero, List.set_cons_succ]
      refine rk_take (fuel := 12) 19 rfl (by kernel_rfl) (listed' := #[true, true, true, true, true, true, true, true, true, true, true, true, true, true, true, true, true, true, true, true, false, false, false, false, false, false, false, false, false, false, false, false]) (by kernel_rfl) (fun _ _ _ h => h) (by kernel_rfl) (fun w' hR => by obtain ⟨x0, x1, x2, x3, x4, x5, x6⟩ := HX.out w' (by first | exact HK2.out.trans hR | exact HK1.out.trans hR | exact HK0.out.trans hR); go_simp; first | done | with_reducible rfl) rfl ?_
      try simp only [Act.put, List.setIfInBounds_toArray, List.set_cons_zero, List.set_cons_succ]
      refine rk_take (fuel := 11) 20 rfl (by kernel_rfl) (listed' := #[true, true, true, true, true, true, true, true, true, true, true, true, true, true, true, true, true, true, true, true, true, false, false, false, false, false, false, false, false, false, false, false]) (by kernel_rfl) (fun _ _ _ h => h) (by kernel_rfl) (fun w' hR => by obtain ⟨x0, x1, x2, x3, x4, x5, x6⟩ := HX.out w' (by first | exact HK2.out.trans hR | exact HK1.out.trans hR | exact HK0.out.trans hR); go_simp; first | done | with_reducible rfl) rfl ?_
      try simp only [Act.put, List.setIfInBounds_toArray, List.set_cons_zero, List.set_cons_succ]
      refine rk_take (fuel := 10) 21 rfl (by kernel_rfl) (listed' := #[true, true, true, true, true, true, true, true, true, true, true, true, true, true, true, true, true, true, true, true, true, true, false, false, false, false, false, false, false, false, false, false]) (by kernel_rfl) (fun _ _ _ h => h) (by kernel_rfl) (fun w' hR => by obtain ⟨x0, x1, x2, x3, x4, x5, x6⟩ := HX.out w' (by first | exact HK2.out.trans hR | exact HK1.out.trans hR | exact HK0.out.trans hR); go_simp; first | done | with_reducible rfl) rfl ?_
      try simp only [Act.put, List.setIfInBounds_toArray, List.set_cons_zero, List.set_cons_succ]
      refine rk_skip (fuel := 9) 22 rfl (by kernel_rfl) (listed' := #[true, true, true, true, true, true, true, true, true, true, true, true, true, true, true, true, true, true, true, true, true, true, true, false, false, false, false, false, false, false, false, false]) (by kernel_rfl) (fun _ _ _ h => h) (by kernel_rfl) rfl ?_
      try simp only [Act.put, List.setIfInBounds_toArray, List.set_cons_zero, List.set_cons_succ]
      refine rk_skip (fuel := 8) 23 rfl (by kernel_rfl) (listed' := #[true, true, true, true, true, true, true, true, true, true, true, true, true, true, true, true, true, true, true, true, true, true, true, true, false, false, false, false, false, false, false, false]) (by kernel_rfl) (fun _ _ _ h => h) (by kernel_rfl) rfl ?_
      try simp only [Act.put, List.setIfInBounds_toArray, List.set_cons_zero, List.set_cons_succ]
      refine rk_skip (fuel := 7) 24 rfl (by kernel_rfl) (listed' := #[true, true, true, true, true, true, true, true, true, true, true, true, true, true, true, true, true, true, true, true, true, true, true, true, true, false, false, false, false, false, false, false]) (by kernel_rfl) (fun _ _ _ h => h) (by kernel_rfl) rfl ?_
      try simp only [Act.put, List.setIfInBounds_toArray, List.set_cons_zero, List.set_cons_succ]
      refine rk_skip (fuel := 6) 25 rfl (by kernel_rfl) (listed' := #[true, true, true, true, true, true, true, true, true, true, true, true, true, true, true, true, true, true, true, true, true, true, true, true, true, true, false, false, false, false, false, false]) (by kernel_rfl) (fun _ _ _ h => h) (by kernel_rfl) rfl ?_
      try simp only [Act.put, List.setIfInBounds_toArray, List.set_cons_zero, List.set_cons_succ]
      refine rk_skip (fuel := 5) 26 rfl (by kernel_rfl) (listed' := #[true, true, true, true, true, true, true, true, true, true, true, true, true, true, true, true, true, true, true, true, true, true, true, true, true, true, true, false, false, false, false, false]) (by kernel_rfl) (fun _ _ _ h => h) (by kernel_rfl) rfl ?_
      try simp only [Act.put, List.setIfInBounds_toArray, List.set_cons_zero, List.set_cons_succ]
      refine rk_skip (fuel := 4) 27 rfl (by kernel_rfl) (listed' := #[true, true, true, true, true, true, true, true, true, true, true, true, true, true, true, true, true, true, true, true, true, true, true, true, true, true, true, true, false, false, false, false]) (by kernel_rfl) (fun _ _ _ h => h) (by kernel_rfl) rfl ?_
      try simp only [Act.put, List.setIfInBounds_toArray, List.set_cons_zero, List.set_cons_succ]
      refine rk_skip (fuel := 3) 28 rfl (by kernel_rfl) (listed' := #[true, true, true, true, true, true, true, true, true, true, true, true, true, true, true, true, true, true, true, true, true, true, true, true, true, true, true, true, true, false, false, false]) (by kernel_rfl) (fun _ _ _ h => h) (by kernel_rfl) rfl ?_
      try simp only [Act.put, List.setIfInBounds_toArray, List.set_cons_zero, List.set_cons_succ]
      refine rk_skip (fuel := 2) 29 rfl (by kernel_rfl) (listed' := #[true, true, true, true, true, true, true, true, true, true, true, true, true, true, true, true, true, true, true, true, true, true, true, true, true, true, true, true, true, true, false, false]) (by kernel_rfl) (fun _ _ _ h => h) (by kernel_rfl) rfl ?_
      try simp only [Act.put, List.setIfInBounds_toArray, List.set_cons_zero, List.set_cons_succ]
      refine rk_take (fuel := 1) 30 rfl (by kernel_rfl) (listed' := #[true, true, true, true, true, true, true, true, true, true, true, true, true, true, true, true, true, true, true, true, true, true, true, true, true, true, true, true, true, true, true, false]) (by kernel_rfl) (fun _ _ _ h => h) (by kernel_rfl) (fun w' hR => by obtain ⟨x0, x1, x2, x3, x4, x5, x6⟩ := HX.out w' (by first | exact HK2.out.trans hR | exact HK1.out.trans hR | exact HK0.out.trans hR); go_simp; first | done | with_reducible rfl) rfl ?_
      try simp only [Act.put, List.setIfInBounds_toArray, List.set_cons_zero, List.set_cons_succ]
      refine rk_take (fuel := 0) 31 rfl (by kernel_rfl) (listed' := #[true, true, true, true, true, true, true, true, true, true, true, true, true, true, true, true, true, true, true, true, true, true, true, true, true, true, true, true, true, true, true, true]) (by kernel_rfl) (fun _ _ _ h => h) (by kernel_rfl) (fun w' hR => by obtain ⟨x0, x1, x2, x3, x4, x5, x6⟩ := HX.out w' (by first | exact HK2.out.trans hR | exact HK1.out.trans hR | exact HK0.out.trans hR); go_simp; first | done | with_reducible rfl) rfl ?_
      try simp only [Act.put, List.setIfInBounds_toArray, List.set_cons_zero, List.set_cons_succ]
      refine rk_done (by kernel_rfl) ?_
      obtain ⟨c0, c1, c2, c3, c4, c5, c6⟩ := HX.out w2 HK2.out
      have HW2 := Aside0.mk (HA.out.trans ((HK2.out.below (Nat.le_refl _) (fun _ _ h => h)).mono HA.out.size))
      by_cases hl : 3 < args.length
      · go_wp2
        go_ret
        exact ⟨ret_i (by rw [HMORE.out, if_pos hl]), HW2.out⟩
      have HMO := Aside0.mk (HMORE.out.trans (if_neg hl))
      have hul := HUL.out (by omega)
      have HW2S := Aside0.mk (show w.heap.size < w2.heap.size by have := HK2.out.size; rw [HSZ.out] at this; omega)
      have hw2s := HW2S.out
      cases hg : givesB k with
      | false =>
        have HG := Aside0.mk hg
        have hal := HAL0.out
        rw [hg] at hal
        simp only [Bool.false_eq_true, if_false, List.append_nil] at hal
        have HMO := Aside0.mk (by have h := HMO.out; rw [hal] at h; exact h)
        have hll : U.length ≤ 4 := by omega
        clear hg hal
        go_wp2_with (first | (go_at_call 112; refine (ruses_calls k op d a b n args A c _ (Kd.C_below HC.out (HW2.out.alloc HW2.out.size _)) hc).mono ?_; rintro _ w3 ⟨Au, cu, rfl, -, hCu, hb⟩; rw [HU.out] at hCu ⊢; have HCU := Aside0.mk hCu; have HO0 := Aside0.mk (Kd.R_mono (Kd.R_lower (Kd.R_bound (Kd.R_below (R_lit0 kI 3 w2) hb)) HW2.out.size) (ok' := fun k => w.heap.size < k) (fun k hk => by have := hk.2.1; have := HW2S.out; omega)); have HW3 := Aside0.mk ((HW2.out.alloc HW2.out.size _).trans (hb.mono (HW2.out.alloc HW2.out.size _).size)); have HK3 := Aside0.mk ((HK2.out.alloc (.cells #[] 3)).trans (Keep.of_below hb)); have HW3L := Aside0.mk (show w.heap.size < w3.heap.size by have h1 := hb.size; simp only [World.size_alloc] at h1; have := HW2S.out; omega); clear c0 c1 c2 c3 c4 c5 c6 hb hCu) | ((with_reducible refine gate_builtin (b := .append) (xs := #[.tmp 48, .tmp 50]) rfl ?_); at_builtin; refine Kd.R_append_rows kI (w0 := w) w.heap.size rfl (.tmp 48) (.tmp 50) 31 3 (.int .i64 0) 8 rfl Try.underlying31 infoI rfl (by decide) (by omega) (.slice (some ⟨w2.heap.size, 0, none⟩) 0 0) ([] : List Int) U _ _ _ (fun k => w.heap.size < k) (fun _ => False) rfl rfl ?aO ?aR (fun _ _ h => h) (fun _ h => h.elim) ?aF ?aB ?aS ?aL ?_; (case aR => exact HCU.out); (case aB => exact HW3.out); (case aF => (intro k hk; have h1 := HK3.out.size; have h2 := HW2S.out; have h3 := HSZ.out; have h4 := HK2.out.size; have h5 := HW3L.out; omega)); (case aO => exact HO0.out); (case aS => exact HW3.out.size); (case aL => (simp only [List.length_nil]; omega)); (intro v4 w4 ho hb1 hg hat; rw [List.nil_append] at ho; obtain ⟨Al, cl, e, hcl⟩ := FIN.out _ _ _ ho; subst e; have HCL := Aside0.mk hcl; have HO := Aside0.mk ho; have HW4 := Aside0.mk hb1; have HK4 := Aside0.mk (hg.block w.heap.size (by have := HW3L.out; omega) (fun e => by have := HO0.out.1 w.heap.size e.symm; omega)); have HW4L := Aside0.mk (show w.heap.size < w4.heap.size by have := hg.size; have := HW3L.out; omega); have hw4l := HW4L.out; obtain ⟨c0, c1, c2, c3, c4, c5, c6⟩ := BXC.out w3 w4 HK3.out HK4.out; clear ho hb1 hg hat hcl)) | (go_at_call 114; refine (rgives_calls _ _).mono ?_; rintro _ w9 ⟨rfl, hw9⟩; rw [hw9, HG.out]; clear hw9))
        go_loopw [9] (fun vi wr => wr = w4 ∧ ∃ j : Nat, j ≤ U.length ∧ vi = .int .i64 j ∧ Aside0 ((U.take j).any (outB v) = false)) (fun vi _ => U.length - (intOf vi).toNat)
        case atStart => exact ⟨rfl, 0, by omega, rfl, ⟨by simp⟩⟩
        case round =>
          obtain ⟨rfl, j, hj, rfl, HN⟩ := hrel
          by_cases hjl : j < U.length
          · obtain ⟨x, hx⟩ : ∃ x, U[j]? = some x := ⟨_, List.getElem?_eq_getElem hjl⟩
            obtain ⟨ad, rfl⟩ : ∃ ad, Al = some ad := by obtain ⟨ad, e, _⟩ := HCL.out.2.2 (by omega); exact ⟨ad, e⟩
            have hcx := C_cell HCL.out hx
            have HT := Aside0.mk (show (U.take (j + 1)).any (outB v) = outB v x by rw [List.take_add_one, hx, List.any_append, HN.out]; simp)
            have HY := Aside0.mk (show outB v x = true → U.any (outB v) = true from fun h => List.any_eq_true.2 ⟨x, List.mem_of_getElem? hx, h⟩)
            clear hx
            rcases (by omega : x < 0 ∨ (¬ x < 0 ∧ v ≤ x) ∨ (¬ x < 0 ∧ ¬ v ≤ x)) with hx0 | ⟨hx0, hx1⟩ | ⟨hx0, hx1⟩
            · go_wp2
              go_ret
              exact ⟨ret_i (by rw [HMO.out, HY.out (decide_eq_true (.inl hx0)), if_pos rfl, (by first | exact if_pos ht | exact if_neg (by omega) : (if t < 0 then (21 : Int) else 23) = _)]), HW4.out⟩
            · go_wp2
              go_ret
              exact ⟨ret_i (by rw [HMO.out, HY.out (decide_eq_true (.inr hx1)), if_pos rfl, (by first | exact if_pos ht | exact if_neg (by omega) : (if t < 0 then (21 : Int) else 23) = _)]), HW4.out⟩
            · have HN := Aside0.mk (HT.out.trans (decide_eq_false (by omega)))
              go_wp2
              go_roundw
              case rel => exact ⟨by first | rfl | trivial, j + 1, by omega, by go_num, HN⟩
              case measure => simp [intOf]; omega
          · obtain rfl : j = U.length := by omega
            have hn := HN.out
            rw [List.take_length] at hn
            have HE0 := Aside0.mk (HMO.out.trans (if_neg (by rw [hn]; exact Bool.false_ne_true)))
            clear hn hjl
            rcases (by simp only [beq_eq_false_iff_ne]; omega : (k = 7 ∧ d < 0) ∨ (k = 7 ∧ ¬ d < 0 ∧ t ≤ d) ∨ (k = 7 ∧ ¬ d < 0 ∧ ¬ t ≤ d) ∨ (k = 8 ∧ a < 0) ∨ (k = 8 ∧ ¬ a < 0 ∧ t ≤ a) ∨ (k = 8 ∧ ¬ a < 0 ∧ ¬ t ≤ a) ∨ ((k == 7) = false ∧ (k == 8) = false)) with ⟨rfl, j1⟩ | ⟨rfl, j1, j2⟩ | ⟨rfl, j1, j2⟩ | ⟨rfl, j1⟩ | ⟨rfl, j1, j2⟩ | ⟨rfl, j1, j2⟩ | ⟨j1, j2⟩
            all_goals (try (exfalso; revert d2; decide))
            all_goals
              go_wp2
              go_ret
              refine ⟨ret_i ?_, HW4.out⟩
              rw [HE0.out]
              clear HE0 HMO HMORE
              (try simp only [beq_eq_false_iff_ne] at j1 j2)
              (try simp only [true_and, false_and, or_false, false_or])
              first | rfl | exact (if_pos (by omega)).symm | exact (if_neg (by omega)).symm | exact (e24_7 _ _ _ (by omega)).symm | exact (e0_7 _ _ _ (by omega)).symm | exact (e24_8 _ _ _ (by omega)).symm | exact (e0_8 _ _ _ (by omega)).symm | exact (e0_k _ _ _ _ (by omega) (by omega)).symm
      | true =>
        have HG := Aside0.mk hg
        have hal := HAL0.out
        rw [hg] at hal
        simp only [if_true] at hal
        have hll : L.length ≤ 4 := by rw [hal]; simp; omega
        have HAL := Aside0.mk hal
        clear hg hal
        go_wp2_with (first | (go_at_call 112; refine (ruses_calls k op d a b n args A c _ (Kd.C_below HC.out (HW2.out.alloc HW2.out.size _)) hc).mono ?_; rintro _ w3 ⟨Au, cu, rfl, -, hCu, hb⟩; rw [HU.out] at hCu ⊢; have HCU := Aside0.mk hCu; have HO0 := Aside0.mk (Kd.R_mono (Kd.R_lower (Kd.R_bound (Kd.R_below (R_lit0 kI 3 w2) hb)) HW2.out.size) (ok' := fun k => w.heap.size < k) (fun k hk => by have := hk.2.1; have := HW2S.out; omega)); have HW3 := Aside0.mk ((HW2.out.alloc HW2.out.size _).trans (hb.mono (HW2.out.alloc HW2.out.size _).size)); have HK3 := Aside0.mk ((HK2.out.alloc (.cells #[] 3)).trans (Keep.of_below hb)); have HW3L := Aside0.mk (show w.heap.size < w3.heap.size by have h1 := hb.size; simp only [World.size_alloc] at h1; have := HW2S.out; omega); clear c0 c1 c2 c3 c4 c5 c6 hb hCu) | ((with_reducible refine gate_builtin (b := .append) (xs := #[.tmp 48, .tmp 50]) rfl ?_); at_builtin; refine Kd.R_append_rows kI (w0 := w) w.heap.size rfl (.tmp 48) (.tmp 50) 31 3 (.int .i64 0) 8 rfl Try.underlying31 infoI rfl (by decide) (by omega) (.slice (some ⟨w2.heap.size, 0, none⟩) 0 0) ([] : List Int) U _ _ _ (fun k => w.heap.size < k) (fun _ => False) rfl rfl ?aO ?aR (fun _ _ h => h) (fun _ h => h.elim) ?aF ?aB ?aS ?aL ?_; (case aR => exact HCU.out); (case aB => exact HW3.out); (case aF => (intro k hk; have h1 := HK3.out.size; have h2 := HW2S.out; have h3 := HSZ.out; have h4 := HK2.out.size; have h5 := HW3L.out; omega)); (case aO => exact HO0.out); (case aS => exact HW3.out.size); (case aL => (simp only [List.length_nil]; omega)); (intro v4 w4 ho hb1 hg hat; rw [List.nil_append] at ho; obtain ⟨Al, cl, e, hcl⟩ := FIN.out _ _ _ ho; subst e; have HCL := Aside0.mk hcl; have HO := Aside0.mk ho; have HW4 := Aside0.mk hb1; have HK4 := Aside0.mk (hg.block w.heap.size (by have := HW3L.out; omega) (fun e => by have := HO0.out.1 w.heap.size e.symm; omega)); have HW4L := Aside0.mk (show w.heap.size < w4.heap.size by have := hg.size; have := HW3L.out; omega); have hw4l := HW4L.out; obtain ⟨c0, c1, c2, c3, c4, c5, c6⟩ := BXC.out w3 w4 HK3.out HK4.out; clear ho hb1 hg hat hcl)) | (go_at_call 114; refine (rgives_calls _ _).mono ?_; rintro _ w9 ⟨rfl, hw9⟩; rw [hw9, HG.out]; clear hw9) | ((with_reducible refine gate_builtin (b := .append) (xs := #[.tmp 55, .tmp 58]) rfl ?_); at_builtin; refine Kd.R_append_rows kI (w0 := w) w.heap.size rfl (.tmp 55) (.tmp 58) 31 3 (.int .i64 0) 8 rfl Try.underlying31 infoI rfl (by decide) (by omega) (.slice Al U.length cl) U [d] _ _ _ (fun k => w.heap.size < k) (fun _ => False) rfl rfl ?aO ?aR (fun _ _ h => h) (fun _ h => h.elim) ?aF ?aB ?aS ?aL ?_; (case aR => exact (C_lit .i64 _ _ [d] 1 rfl (by decide))); (case aB => exact (HW4.out.alloc HW4.out.size _)); (case aF => (intro k hk; (try simp only [World.size_alloc] at hk); have := HW4L.out; omega)); (case aO => exact (Kd.R_below HO.out ((Below.refl _ _).alloc (Nat.le_refl _) _))); (case aS => ((try simp only [World.size_alloc]); have := HW4.out.size; omega)); (case aL => (first | omega | (simp; omega))); (intro v5 w5 ho hb1 hg hat; rw [← HAL.out] at ho; obtain ⟨Al, cl, e, hcl⟩ := FIN.out _ _ _ ho; subst e; have HCL := Aside0.mk hcl; have HW5 := Aside0.mk hb1; have HK5 := Aside0.mk ((hg.block w.heap.size (by (try simp only [World.size_alloc]); have := HW4L.out; omega) (fun e => by have := HO.out.1 w.heap.size e.symm; omega)).trans (heap_alloc_old _ _ HW4L.out)); clear c0 c1 c2 c3 c4 c5 c6; obtain ⟨c0, c1, c2, c3, c4, c5, c6⟩ := BXC.out w3 w5 HK3.out (HK5.out.trans HK4.out); clear ho hb1 hg hat hcl)))
        go_loopw [9] (fun vi wr => wr = w5 ∧ ∃ j : Nat, j ≤ L.length ∧ vi = .int .i64 j ∧ Aside0 ((L.take j).any (outB v) = false)) (fun vi _ => L.length - (intOf vi).toNat)
        case atStart => exact ⟨rfl, 0, by omega, rfl, ⟨by simp⟩⟩
        case round =>
          obtain ⟨rfl, j, hj, rfl, HN⟩ := hrel
          by_cases hjl : j < L.length
          · obtain ⟨x, hx⟩ : ∃ x, L[j]? = some x := ⟨_, List.getElem?_eq_getElem hjl⟩
            obtain ⟨ad, rfl⟩ : ∃ ad, Al = some ad := by obtain ⟨ad, e, _⟩ := HCL.out.2.2 (by omega); exact ⟨ad, e⟩
            have hcx := C_cell HCL.out hx
            have HT := Aside0.mk (show (L.take (j + 1)).any (outB v) = outB v x by rw [List.take_add_one, hx, List.any_append, HN.out]; simp)
            have HY := Aside0.mk (show outB v x = true → L.any (outB v) = true from fun h => List.any_eq_true.2 ⟨x, List.mem_of_getElem? hx, h⟩)
            clear hx
            rcases (by omega : x < 0 ∨ (¬ x < 0 ∧ v ≤ x) ∨ (¬ x < 0 ∧ ¬ v ≤ x)) with hx0 | ⟨hx0, hx1⟩ | ⟨hx0, hx1⟩
            · go_wp2
              go_ret
              exact ⟨ret_i (by rw [HMO.out, HY.out (decide_eq_true (.inl hx0)), if_pos rfl, (by first | exact if_pos ht | exact if_neg (by omega) : (if t < 0 then (21 : Int) else 23) = _)]), HW5.out⟩
            · go_wp2
              go_ret
              exact ⟨ret_i (by rw [HMO.out, HY.out (decide_eq_true (.inr hx1)), if_pos rfl, (by first | exact if_pos ht | exact if_neg (by omega) : (if t < 0 then (21 : Int) else 23) = _)]), HW5.out⟩
            · have HN := Aside0.mk (HT.out.trans (decide_eq_false (by omega)))
              go_wp2
              go_roundw
              case rel => exact ⟨by first | rfl | trivial, j + 1, by omega, by go_num, HN⟩
              case measure => simp [intOf]; omega
          · obtain rfl : j = L.length := by omega
            have hn := HN.out
            rw [List.take_length] at hn
            have HE0 := Aside0.mk (HMO.out.trans (if_neg (by rw [hn]; exact Bool.false_ne_true)))
            clear hn hjl
            rcases (by simp only [beq_eq_false_iff_ne]; omega : (k = 7 ∧ d < 0) ∨ (k = 7 ∧ ¬ d < 0 ∧ t ≤ d) ∨ (k = 7 ∧ ¬ d < 0 ∧ ¬ t ≤ d) ∨ (k = 8 ∧ a < 0) ∨ (k = 8 ∧ ¬ a < 0 ∧ t ≤ a) ∨ (k = 8 ∧ ¬ a < 0 ∧ ¬ t ≤ a) ∨ ((k == 7) = false ∧ (k == 8) = false)) with ⟨rfl, j1⟩ | ⟨rfl, j1, j2⟩ | ⟨rfl, j1, j2⟩ | ⟨rfl, j1⟩ | ⟨rfl, j1, j2⟩ | ⟨rfl, j1, j2⟩ | ⟨j1, j2⟩
            all_goals (try (exfalso; revert d2; decide))
            all_goals
              go_wp2
              go_ret
              refine ⟨ret_i ?_, HW5.out⟩
              rw [HE0.out]
              clear HE0 HMO HMORE
              (try simp only [beq_eq_false_iff_ne] at j1 j2)
              (try simp only [true_and, false_and, or_false, false_or])
              first | rfl | exact (if_pos (by omega)).symm | exact (if_neg (by omega)).symm | exact (e24_7 _ _ _ (by omega)).symm | exact (e0_7 _ _ _ (by omega)).symm | exact (e24_8 _ _ _ (by omega)).symm | exact (e0_8 _ _ _ (by omega)).symm | exact (e0_k _ _ _ _ (by omega) (by omega)).symm
end Go.Proofs.Ytnckonglodmfeaa.Ik
