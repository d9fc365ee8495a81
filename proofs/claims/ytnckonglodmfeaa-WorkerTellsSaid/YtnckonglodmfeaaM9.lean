/- Contracts and plain facts that the statements' proofs use (part 9). -/
import Derived.Test.YtnckonglodmfeaaM5
set_option linter.unusedVariables false
set_option linter.unusedSimpArgs false
namespace Go.Proofs.Ytnckonglodmfeaa.Ik
open Go.RowKit Go.Proofs.YtnckonglodmfeaaW.PrintWords Go.Proofs.YtnckonglodmfeaaW.PrintLast Go.Proofs.YtnckonglodmfeaaW.PrintMore B R S Is
theorem box_keepF {w W' : World} {k op d a b n : Int} {s : Value} {e : Nat} (h : Keep (fun _ => False) (w.alloc (.cells #[.int .u8 k, .int .u8 op, .int .i64 d, .int .i64 a, .int .i64 b, .int .i64 n, s] e)) W') : BoxC W' w.heap.size k op d a b n s := by
 have h := (h.block w.heap.size (by rw [World.size_alloc]; omega) id).trans (heap_alloc_new w _)
 exact ⟨cell_at h 0 _ rfl, cell_at h 1 _ rfl, cell_at h 2 _ rfl, cell_at h 3 _ rfl, cell_at h 4 _ rfl, cell_at h 5 _ rfl, cell_at h 6 _ rfl⟩
theorem names_small (k : Int) : (namesA k).size ≤ 100 := by
 simp only [namesA]
 repeat' split
 all_goals decide
theorem rins_more {v t : Int} {i : Ins} (h : ¬ (i.1 < 1 ∨ (if t < 0 then 6 else 8) < i.1 ∨ plainB i = false ∨ (i.1 = 3 ∧ (i.2.1 < 1 ∨ 7 < i.2.1)))) :
 insErr v t i = if 3 < i.2.2.2.2.2.2.length then 25 else if (allL i).any (outB v) then (if t < 0 then 21 else 23) else if (i.1 = 7 ∧ (i.2.2.1 < 0 ∨ t ≤ i.2.2.1)) ∨ (i.1 = 8 ∧ (i.2.2.2.1 < 0 ∨ t ≤ i.2.2.2.1)) then 24 else 0 := if_neg h
theorem e24_7 (d a t : Int) (h : d < 0 ∨ t ≤ d) : (if ((7 : Int) = 7 ∧ (d < 0 ∨ t ≤ d)) ∨ ((7 : Int) = 8 ∧ (a < 0 ∨ t ≤ a)) then (24 : Int) else 0) = 24 := if_pos (.inl ⟨rfl, h⟩)
theorem e0_7 (d a t : Int) (h : ¬ (d < 0 ∨ t ≤ d)) : (if ((7 : Int) = 7 ∧ (d < 0 ∨ t ≤ d)) ∨ ((7 : Int) = 8 ∧ (a < 0 ∨ t ≤ a)) then (24 : Int) else 0) = 0 := if_neg (by
 rintro (⟨-, h'⟩ | ⟨h', -⟩)
 · exact h h'
 · exact absurd h' (by decide))
theorem e24_8 (d a t : Int) (h : a < 0 ∨ t ≤ a) : (if ((8 : Int) = 7 ∧ (d < 0 ∨ t ≤ d)) ∨ ((8 : Int) = 8 ∧ (a < 0 ∨ t ≤ a)) then (24 : Int) else 0) = 24 := if_pos (.inr ⟨rfl, h⟩)
theorem e0_8 (d a t : Int) (h : ¬ (a < 0 ∨ t ≤ a)) : (if ((8 : Int) = 7 ∧ (d < 0 ∨ t ≤ d)) ∨ ((8 : Int) = 8 ∧ (a < 0 ∨ t ≤ a)) then (24 : Int) else 0) = 0 := if_neg (by
 rintro (⟨h', -⟩ | ⟨-, h'⟩)
 · exact absurd h' (by decide)
 · exact h h')
theorem e0_k (k d a t : Int) (h7 : k ≠ 7) (h8 : k ≠ 8) : (if (k = 7 ∧ (d < 0 ∨ t ≤ d)) ∨ (k = 8 ∧ (a < 0 ∨ t ≤ a)) then (24 : Int) else 0) = 0 := if_neg (by
 rintro (⟨h', -⟩ | ⟨h', -⟩)
 · exact h7 h'
 · exact h8 h')
theorem ret_i {x y : Int} (h : x = y) : Ending.returned (Value.int .i64 x) = .returned (.int .i64 y) := by rw [h]
set_option maxHeartbeats 4000000 in
set_option maxRecDepth 100000 in
theorem rins_calls (k op d a b n v t : Int) (args : List Int) (A : Option Addr) (c : Nat) (w : World) (hC : kI.C w A args.length args) (hc : args.length ≤ c) :
 Calls Try.prog 122 #[(.agg #[.int .u8 k, .int .u8 op, .int .i64 d, .int .i64 a, .int .i64 b, .int .i64 n, .slice A args.length c]), .int .i64 v, .int .i64 t] w fun r w' => r = .returned (.int .i64 (insErr v t (k, op, d, a, b, n, args))) ∧ Below w.heap.size w w' := by
 have mixed : Try.prog.follows .mixedOrders = true := by kernel_rfl
 have HC := aM hC
 have HX := aM (fun W' h => box_keepF (w := w) (W' := W') (k := k) (op := op) (d := d) (a := a) (b := b) (n := n) (s := .slice A args.length c) (e := 92) h)
 have HA := aM (show Below w.heap.size w (w.alloc (.cells #[.int .u8 k, .int .u8 op, .int .i64 d, .int .i64 a, .int .i64 b, .int .i64 n, .slice A args.length c] 92)) from (Below.refl _ _).alloc (Nat.le_refl _) _)
 have HSZ := aM (World.size_alloc w (.cells #[.int .u8 k, .int .u8 op, .int .i64 d, .int .i64 a, .int .i64 b, .int .i64 n, .slice A args.length c] 92))
 have HK0 := aM (show Keep (fun _ => False) (w.alloc (.cells #[.int .u8 k, .int .u8 op, .int .i64 d, .int .i64 a, .int .i64 b, .int .i64 n, .slice A args.length c] 92)) (World.drew (w.alloc (.cells #[.int .u8 k, .int .u8 op, .int .i64 d, .int .i64 a, .int .i64 b, .int .i64 n, .slice A args.length c] 92))) from (Keep.refl _ _).drew)
 obtain ⟨M, hM⟩ : ∃ M : Int, M = if t < 0 then 6 else 8 := ⟨_, rfl⟩
 have hMr : (t < 0 ∧ M = 6) ∨ (¬ t < 0 ∧ M = 8) := by
  rw [hM]
  by_cases h : t < 0
  · exact .inl ⟨h, if_pos h⟩
  · exact .inr ⟨h, if_neg h⟩
 have HM := aM hM
 obtain ⟨E, hE⟩ : ∃ E, insErr v t (k, op, d, a, b, n, args) = E := ⟨_, rfl⟩
 have HE := aM hE
 rw [hE]
 clear hC hM hE
 have HBAD := aM (show k < 1 ∨ M < k ∨ plainB (k, op, d, a, b, n, args) = false ∨ (k = 3 ∧ (op < 1 ∨ 7 < op)) → E = 20 from fun h => by
  rw [← HE.out]
  exact if_pos (by rw [← HM.out]; exact h))
 have hcase : k < 1 ∨ (¬ k < 1 ∧ M < k) ∨ (¬ k < 1 ∧ ¬ M < k ∧ plainB (k, op, d, a, b, n, args) = false) ∨ (¬ k < 1 ∧ ¬ M < k ∧ plainB (k, op, d, a, b, n, args) = true ∧ k = 3 ∧ op < 1) ∨ (¬ k < 1 ∧ ¬ M < k ∧ plainB (k, op, d, a, b, n, args) = true ∧ k = 3 ∧ ¬ op < 1 ∧ 7 < op) ∨
  (¬ k < 1 ∧ ¬ M < k ∧ plainB (k, op, d, a, b, n, args) = true ∧ k = 3 ∧ ¬ op < 1 ∧ ¬ 7 < op) ∨ (¬ k < 1 ∧ ¬ M < k ∧ plainB (k, op, d, a, b, n, args) = true ∧ (k == 3) = false) := by
  by_cases h1 : k < 1
  · exact .inl h1
  by_cases h2 : M < k
  · exact .inr (.inl ⟨h1, h2⟩)
  by_cases h3 : plainB (k, op, d, a, b, n, args) = true
  · by_cases h4 : k = 3
    · by_cases h5 : op < 1
      · exact .inr (.inr (.inr (.inl ⟨h1, h2, h3, h4, h5⟩)))
      by_cases h6 : 7 < op
      · exact .inr (.inr (.inr (.inr (.inl ⟨h1, h2, h3, h4, h5, h6⟩))))
      · exact .inr (.inr (.inr (.inr (.inr (.inl ⟨h1, h2, h3, h4, h5, h6⟩)))))
    · exact .inr (.inr (.inr (.inr (.inr (.inr ⟨h1, h2, h3, beq_eq_false_iff_ne.mpr h4⟩)))))
  · exact .inr (.inr (.inl ⟨h1, h2, by simpa using h3⟩))
 have hbx := HX.out _ HK0.out
 have ht3 : (0 ≤ t ∧ M = 8) ∨ (t < 0 ∧ M = 6) := by omega
 have BXC := aM (show ∀ W1 W2, Keep (fun _ => False) (w.alloc (.cells #[.int .u8 k, .int .u8 op, .int .i64 d, .int .i64 a, .int .i64 b, .int .i64 n, .slice A args.length c] 92)) W1 → W2.heap[w.heap.size]? = W1.heap[w.heap.size]? → BoxC W2 w.heap.size k op d a b n (.slice A args.length c) from fun W1 W2 h1 h2 => by
  have h := h2.trans ((h1.block w.heap.size (by rw [World.size_alloc]; omega) id).trans (heap_alloc_new w _))
  exact ⟨cell_at h 0 _ rfl, cell_at h 1 _ rfl, cell_at h 2 _ rfl, cell_at h 3 _ rfl, cell_at h 4 _ rfl, cell_at h 5 _ rfl, cell_at h 6 _ rfl⟩)
 rcases hcase with h1 | ⟨h1, h2⟩ | ⟨h1, h2, h3⟩ | ⟨h1, h2, h3, rfl, h5⟩ | ⟨h1, h2, h3, rfl, h5, h6⟩ | ⟨h1, h2, h3, rfl, h5, h6⟩ | ⟨h1, h2, h3, h4⟩
 · have HE20 := aM (HBAD.out (.inl h1))
   have d1 := decide_eq_true h1
   clear h1
   rcases hMr with ⟨ht, rfl⟩ | ⟨ht, rfl⟩
   all_goals
    clear HE HM HBAD hbx ht3 HC
    go_enter Try.func122, Try.ntmps122
    go_wp2_with fail
    refine rk_start (fun _ => False) (by kernel_rfl) (n := 32) (l := (bl 32 0)) (by kernel_rfl) (by kernel_rfl) ?_
    refine kt 0 (bl 32 1) rfl (fun w' hR => by obtain ⟨x0, x1, x2, x3, x4, x5, x6⟩ := HX.out w' (by first | exact HK2.out.trans hR | exact HK1.out.trans hR | exact HK0.out.trans hR); go_simp; first | done | with_reducible rfl) rfl ?_
    try simp only [Act.put, pB, pC, pD]
    refine kt 1 (bl 32 3) rfl (fun w' hR => by obtain ⟨x0, x1, x2, x3, x4, x5, x6⟩ := HX.out w' (by first | exact HK2.out.trans hR | exact HK1.out.trans hR | exact HK0.out.trans hR); go_simp; first | done | with_reducible rfl) rfl ?_
    try simp only [Act.put, pB, pC, pD]
    refine kt 2 (bl 32 7) rfl (fun w' hR => by obtain ⟨x0, x1, x2, x3, x4, x5, x6⟩ := HX.out w' (by first | exact HK2.out.trans hR | exact HK1.out.trans hR | exact HK0.out.trans hR); go_simp; first | done | with_reducible rfl) rfl ?_
    try simp only [Act.put, pB, pC, pD]
    refine kt 3 (bl 32 15) rfl (fun w' hR => by obtain ⟨x0, x1, x2, x3, x4, x5, x6⟩ := HX.out w' (by first | exact HK2.out.trans hR | exact HK1.out.trans hR | exact HK0.out.trans hR); go_simp; first | done | with_reducible rfl) rfl ?_
    try simp only [Act.put, pB, pC, pD]
    refine kz 4 (bl 32 31) rfl rfl ?_
    try simp only [Act.put, pB, pC, pD]
    refine kz 5 (bl 32 63) rfl rfl ?_
    try simp only [Act.put, pB, pC, pD]
    refine kz 6 (bl 32 127) rfl rfl ?_
    try simp only [Act.put, pB, pC, pD]
    refine kz 7 (bl 32 255) rfl rfl ?_
    try simp only [Act.put, pB, pC, pD]
    refine kt 8 (bl 32 511) rfl (fun w' hR => by obtain ⟨x0, x1, x2, x3, x4, x5, x6⟩ := HX.out w' (by first | exact HK2.out.trans hR | exact HK1.out.trans hR | exact HK0.out.trans hR); go_simp; first | done | with_reducible rfl) rfl ?_
    try simp only [Act.put, pB, pC, pD]
    refine kt 9 (bl 32 1023) rfl (fun w' hR => by obtain ⟨x0, x1, x2, x3, x4, x5, x6⟩ := HX.out w' (by first | exact HK2.out.trans hR | exact HK1.out.trans hR | exact HK0.out.trans hR); go_simp; first | done | with_reducible rfl) rfl ?_
    try simp only [Act.put, pB, pC, pD]
    refine kz 10 (bl 32 2047) rfl rfl ?_
    try simp only [Act.put, pB, pC, pD]
    refine kz 11 (bl 32 4095) rfl rfl ?_
    try simp only [Act.put, pB, pC, pD]
    refine kz 12 (bl 32 8191) rfl rfl ?_
    try simp only [Act.put, pB, pC, pD]
    refine kz 13 (bl 32 16383) rfl rfl ?_
    try simp only [Act.put, pB, pC, pD]
    refine kz 14 (bl 32 32767) rfl rfl ?_
    try simp only [Act.put, pB, pC, pD]
    refine kz 15 (bl 32 65535) rfl rfl ?_
    try simp only [Act.put, pB, pC, pD]
    refine kt 16 (bl 32 131071) rfl (fun w' hR => by obtain ⟨x0, x1, x2, x3, x4, x5, x6⟩ := HX.out w' (by first | exact HK2.out.trans hR | exact HK1.out.trans hR | exact HK0.out.trans hR); go_simp; first | done | with_reducible rfl) rfl ?_
    try simp only [Act.put, pB, pC, pD]
    refine kt 17 (bl 32 262143) rfl (fun w' hR => by obtain ⟨x0, x1, x2, x3, x4, x5, x6⟩ := HX.out w' (by first | exact HK2.out.trans hR | exact HK1.out.trans hR | exact HK0.out.trans hR); go_simp; first | done | with_reducible rfl) rfl ?_
    try simp only [Act.put, pB, pC, pD]
    refine kz 18 (bl 32 524287) rfl rfl ?_
    try simp only [Act.put, pB, pC, pD]
    refine kz 19 (bl 32 1048575) rfl rfl ?_
    try simp only [Act.put, pB, pC, pD]
    refine kz 20 (bl 32 2097151) rfl rfl ?_
    try simp only [Act.put, pB, pC, pD]
    refine kz 21 (bl 32 4194303) rfl rfl ?_
    try simp only [Act.put, pB, pC, pD]
    refine kz 22 (bl 32 8388607) rfl rfl ?_
    try simp only [Act.put, pB, pC, pD]
    refine kz 23 (bl 32 16777215) rfl rfl ?_
    try simp only [Act.put, pB, pC, pD]
    refine kz 24 (bl 32 33554431) rfl rfl ?_
    try simp only [Act.put, pB, pC, pD]
    refine kz 25 (bl 32 67108863) rfl rfl ?_
    try simp only [Act.put, pB, pC, pD]
    refine kz 26 (bl 32 134217727) rfl rfl ?_
    try simp only [Act.put, pB, pC, pD]
    refine kz 27 (bl 32 268435455) rfl rfl ?_
    try simp only [Act.put, pB, pC, pD]
    refine kz 28 (bl 32 536870911) rfl rfl ?_
    try simp only [Act.put, pB, pC, pD]
    refine kz 29 (bl 32 1073741823) rfl rfl ?_
    try simp only [Act.put, pB, pC, pD]
    refine kz 30 (bl 32 2147483647) rfl rfl ?_
    try simp only [Act.put, pB, pC, pD]
    refine kt 31 (bl 32 4294967295) rfl (fun w' hR => by obtain ⟨x0, x1, x2, x3, x4, x5, x6⟩ := HX.out w' (by first | exact HK2.out.trans hR | exact HK1.out.trans hR | exact HK0.out.trans hR); go_simp; first | done | with_reducible rfl) rfl ?_
    try simp only [Act.put, pB, pC, pD]
    refine rk_done (by kernel_rfl) ?_
    go_wp2
    go_ret
    exact ⟨ret_i HE20.out.symm, HA.out.trans ((HK0.out.below (Nat.le_refl _) (fun _ _ h => h)).mono HA.out.size)⟩
 · have HE20 := aM (HBAD.out (.inr (.inl h2)))
   have d1 := decide_eq_false h1
   have d2 := decide_eq_true h2
   rcases hMr with ⟨ht, rfl⟩ | ⟨ht, rfl⟩
   all_goals
    clear HE HM HBAD hbx ht3 HC
    go_enter Try.func122, Try.ntmps122
    go_wp2_with fail
    refine rk_start (fun _ => False) (by kernel_rfl) (n := 32) (l := (bl 32 0)) (by kernel_rfl) (by kernel_rfl) ?_
    refine kt 0 (bl 32 1) rfl (fun w' hR => by obtain ⟨x0, x1, x2, x3, x4, x5, x6⟩ := HX.out w' (by first | exact HK2.out.trans hR | exact HK1.out.trans hR | exact HK0.out.trans hR); go_simp; first | done | with_reducible rfl) rfl ?_
    try simp only [Act.put, pB, pC, pD]
    refine kt 1 (bl 32 3) rfl (fun w' hR => by obtain ⟨x0, x1, x2, x3, x4, x5, x6⟩ := HX.out w' (by first | exact HK2.out.trans hR | exact HK1.out.trans hR | exact HK0.out.trans hR); go_simp; first | done | with_reducible rfl) rfl ?_
    try simp only [Act.put, pB, pC, pD]
    refine kt 2 (bl 32 7) rfl (fun w' hR => by obtain ⟨x0, x1, x2, x3, x4, x5, x6⟩ := HX.out w' (by first | exact HK2.out.trans hR | exact HK1.out.trans hR | exact HK0.out.trans hR); go_simp; first | done | with_reducible rfl) rfl ?_
    try simp only [Act.put, pB, pC, pD]
    refine kt 3 (bl 32 15) rfl (fun w' hR => by obtain ⟨x0, x1, x2, x3, x4, x5, x6⟩ := HX.out w' (by first | exact HK2.out.trans hR | exact HK1.out.trans hR | exact HK0.out.trans hR); go_simp; first | done | with_reducible rfl) rfl ?_
    try simp only [Act.put, pB, pC, pD]
    refine kt 4 (bl 32 31) rfl (fun w' hR => by obtain ⟨x0, x1, x2, x3, x4, x5, x6⟩ := HX.out w' (by first | exact HK2.out.trans hR | exact HK1.out.trans hR | exact HK0.out.trans hR); go_simp; first | done | with_reducible rfl) rfl ?_
    try simp only [Act.put, pB, pC, pD]
    refine kt 5 (bl 32 63) rfl (fun w' hR => by obtain ⟨x0, x1, x2, x3, x4, x5, x6⟩ := HX.out w' (by first | exact HK2.out.trans hR | exact HK1.out.trans hR | exact HK0.out.trans hR); go_simp; first | done | with_reducible rfl) rfl ?_
    try simp only [Act.put, pB, pC, pD]
    refine kt 6 (bl 32 127) rfl (fun w' hR => by obtain ⟨x0, x1, x2, x3, x4, x5, x6⟩ := HX.out w' (by first | exact HK2.out.trans hR | exact HK1.out.trans hR | exact HK0.out.trans hR); go_simp; first | done | with_reducible rfl) rfl ?_
    try simp only [Act.put, pB, pC, pD]
    refine kt 7 (bl 32 255) rfl (fun w' hR => by obtain ⟨x0, x1, x2, x3, x4, x5, x6⟩ := HX.out w' (by first | exact HK2.out.trans hR | exact HK1.out.trans hR | exact HK0.out.trans hR); go_simp; first | done | with_reducible rfl) rfl ?_
    try simp only [Act.put, pB, pC, pD]
    refine kt 8 (bl 32 511) rfl (fun w' hR => by obtain ⟨x0, x1, x2, x3, x4, x5, x6⟩ := HX.out w' (by first | exact HK2.out.trans hR | exact HK1.out.trans hR | exact HK0.out.trans hR); go_simp; first | done | with_reducible rfl) rfl ?_
    try simp only [Act.put, pB, pC, pD]
    refine kt 9 (bl 32 1023) rfl (fun w' hR => by obtain ⟨x0, x1, x2, x3, x4, x5, x6⟩ := HX.out w' (by first | exact HK2.out.trans hR | exact HK1.out.trans hR | exact HK0.out.trans hR); go_simp; first | done | with_reducible rfl) rfl ?_
    try simp only [Act.put, pB, pC, pD]
    refine kz 10 (bl 32 2047) rfl rfl ?_
    try simp only [Act.put, pB, pC, pD]
    refine kz 11 (bl 32 4095) rfl rfl ?_
    try simp only [Act.put, pB, pC, pD]
    refine kz 12 (bl 32 8191) rfl rfl ?_
    try simp only [Act.put, pB, pC, pD]
    refine kz 13 (bl 32 16383) rfl rfl ?_
    try simp only [Act.put, pB, pC, pD]
    refine kz 14 (bl 32 32767) rfl rfl ?_
    try simp only [Act.put, pB, pC, pD]
    refine kz 15 (bl 32 65535) rfl rfl ?_
    try simp only [Act.put, pB, pC, pD]
    refine kt 16 (bl 32 131071) rfl (fun w' hR => by obtain ⟨x0, x1, x2, x3, x4, x5, x6⟩ := HX.out w' (by first | exact HK2.out.trans hR | exact HK1.out.trans hR | exact HK0.out.trans hR); go_simp; first | done | with_reducible rfl) rfl ?_
    try simp only [Act.put, pB, pC, pD]
    refine kt 17 (bl 32 262143) rfl (fun w' hR => by obtain ⟨x0, x1, x2, x3, x4, x5, x6⟩ := HX.out w' (by first | exact HK2.out.trans hR | exact HK1.out.trans hR | exact HK0.out.trans hR); go_simp; first | done | with_reducible rfl) rfl ?_
    try simp only [Act.put, pB, pC, pD]
    refine kz 18 (bl 32 524287) rfl rfl ?_
    try simp only [Act.put, pB, pC, pD]
    refine kz 19 (bl 32 1048575) rfl rfl ?_
    try simp only [Act.put, pB, pC, pD]
    refine kz 20 (bl 32 2097151) rfl rfl ?_
    try simp only [Act.put, pB, pC, pD]
    refine kz 21 (bl 32 4194303) rfl rfl ?_
    try simp only [Act.put, pB, pC, pD]
    refine kz 22 (bl 32 8388607) rfl rfl ?_
    try simp only [Act.put, pB, pC, pD]
    refine kz 23 (bl 32 16777215) rfl rfl ?_
    try simp only [Act.put, pB, pC, pD]
    refine kz 24 (bl 32 33554431) rfl rfl ?_
    try simp only [Act.put, pB, pC, pD]
    refine kz 25 (bl 32 67108863) rfl rfl ?_
    try simp only [Act.put, pB, pC, pD]
    refine kz 26 (bl 32 134217727) rfl rfl ?_
    try simp only [Act.put, pB, pC, pD]
    refine kz 27 (bl 32 268435455) rfl rfl ?_
    try simp only [Act.put, pB, pC, pD]
    refine kz 28 (bl 32 536870911) rfl rfl ?_
    try simp only [Act.put, pB, pC, pD]
    refine kz 29 (bl 32 1073741823) rfl rfl ?_
    try simp only [Act.put, pB, pC, pD]
    refine kz 30 (bl 32 2147483647) rfl rfl ?_
    try simp only [Act.put, pB, pC, pD]
    refine kt 31 (bl 32 4294967295) rfl (fun w' hR => by obtain ⟨x0, x1, x2, x3, x4, x5, x6⟩ := HX.out w' (by first | exact HK2.out.trans hR | exact HK1.out.trans hR | exact HK0.out.trans hR); go_simp; first | done | with_reducible rfl) rfl ?_
    try simp only [Act.put, pB, pC, pD]
    refine rk_done (by kernel_rfl) ?_
    go_wp2
    go_ret
    exact ⟨ret_i HE20.out.symm, HA.out.trans ((HK0.out.below (Nat.le_refl _) (fun _ _ h => h)).mono HA.out.size)⟩
 · have HE20 := aM (HBAD.out (.inr (.inr (.inl h3))))
   have HZP := aM (show zeroB (k, op, d, a, b, n, args) (namesA k) = false from (zero_plain k op d a b n args (by rcases hMr with h | h <;> omega)).trans h3)
   clear h3
   have d1 := decide_eq_false h1
   have d2 := decide_eq_false h2
   rcases hMr with ⟨ht, rfl⟩ | ⟨ht, rfl⟩
   all_goals
    clear HE HM HBAD hbx ht3 HC
    go_enter Try.func122, Try.ntmps122
    go_wp2_with fail
    refine rk_start (fun _ => False) (by kernel_rfl) (n := 32) (l := (bl 32 0)) (by kernel_rfl) (by kernel_rfl) ?_
    refine kt 0 (bl 32 1) rfl (fun w' hR => by obtain ⟨x0, x1, x2, x3, x4, x5, x6⟩ := HX.out w' (by first | exact HK2.out.trans hR | exact HK1.out.trans hR | exact HK0.out.trans hR); go_simp; first | done | with_reducible rfl) rfl ?_
    try simp only [Act.put, pB, pC, pD]
    refine kt 1 (bl 32 3) rfl (fun w' hR => by obtain ⟨x0, x1, x2, x3, x4, x5, x6⟩ := HX.out w' (by first | exact HK2.out.trans hR | exact HK1.out.trans hR | exact HK0.out.trans hR); go_simp; first | done | with_reducible rfl) rfl ?_
    try simp only [Act.put, pB, pC, pD]
    refine kt 2 (bl 32 7) rfl (fun w' hR => by obtain ⟨x0, x1, x2, x3, x4, x5, x6⟩ := HX.out w' (by first | exact HK2.out.trans hR | exact HK1.out.trans hR | exact HK0.out.trans hR); go_simp; first | done | with_reducible rfl) rfl ?_
    try simp only [Act.put, pB, pC, pD]
    refine kt 3 (bl 32 15) rfl (fun w' hR => by obtain ⟨x0, x1, x2, x3, x4, x5, x6⟩ := HX.out w' (by first | exact HK2.out.trans hR | exact HK1.out.trans hR | exact HK0.out.trans hR); go_simp; first | done | with_reducible rfl) rfl ?_
    try simp only [Act.put, pB, pC, pD]
    refine kt 4 (bl 32 31) rfl (fun w' hR => by obtain ⟨x0, x1, x2, x3, x4, x5, x6⟩ := HX.out w' (by first | exact HK2.out.trans hR | exact HK1.out.trans hR | exact HK0.out.trans hR); go_simp; first | done | with_reducible rfl) rfl ?_
    try simp only [Act.put, pB, pC, pD]
    refine kt 5 (bl 32 63) rfl (fun w' hR => by obtain ⟨x0, x1, x2, x3, x4, x5, x6⟩ := HX.out w' (by first | exact HK2.out.trans hR | exact HK1.out.trans hR | exact HK0.out.trans hR); go_simp; first | done | with_reducible rfl) rfl ?_
    try simp only [Act.put, pB, pC, pD]
    refine kt 6 (bl 32 127) rfl (fun w' hR => by obtain ⟨x0, x1, x2, x3, x4, x5, x6⟩ := HX.out w' (by first | exact HK2.out.trans hR | exact HK1.out.trans hR | exact HK0.out.trans hR); go_simp; first | done | with_reducible rfl) rfl ?_
    try simp only [Act.put, pB, pC, pD]
    refine kt 7 (bl 32 255) rfl (fun w' hR => by obtain ⟨x0, x1, x2, x3, x4, x5, x6⟩ := HX.out w' (by first | exact HK2.out.trans hR | exact HK1.out.trans hR | exact HK0.out.trans hR); go_simp; first | done | with_reducible rfl) rfl ?_
    try simp only [Act.put, pB, pC, pD]
    refine kt 8 (bl 32 511) rfl (fun w' hR => by obtain ⟨x0, x1, x2, x3, x4, x5, x6⟩ := HX.out w' (by first | exact HK2.out.trans hR | exact HK1.out.trans hR | exact HK0.out.trans hR); go_simp; first | done | with_reducible rfl) rfl ?_
    try simp only [Act.put, pB, pC, pD]
    refine kt 9 (bl 32 1023) rfl (fun w' hR => by obtain ⟨x0, x1, x2, x3, x4, x5, x6⟩ := HX.out w' (by first | exact HK2.out.trans hR | exact HK1.out.trans hR | exact HK0.out.trans hR); go_simp; first | done | with_reducible rfl) rfl ?_
    try simp only [Act.put, pB, pC, pD]
    refine kt 10 (bl 32 2047) rfl (fun w' hR => by obtain ⟨x0, x1, x2, x3, x4, x5, x6⟩ := HX.out w' (by first | exact HK2.out.trans hR | exact HK1.out.trans hR | exact HK0.out.trans hR); go_simp; first | done | with_reducible rfl) rfl ?_
    try simp only [Act.put, pB, pC, pD]
    refine kt 11 (bl 32 4095) rfl (fun w' hR => by obtain ⟨x0, x1, x2, x3, x4, x5, x6⟩ := HX.out w' (by first | exact HK2.out.trans hR | exact HK1.out.trans hR | exact HK0.out.trans hR); go_simp; first | done | with_reducible rfl) rfl ?_
    try simp only [Act.put, pB, pC, pD]
    refine kt 12 (bl 32 8191) rfl (fun w' hR => by obtain ⟨x0, x1, x2, x3, x4, x5, x6⟩ := HX.out w' (by first | exact HK2.out.trans hR | exact HK1.out.trans hR | exact HK0.out.trans hR); go_simp; first | done | with_reducible rfl) rfl ?_
    try simp only [Act.put, pB, pC, pD]
    refine rk_step (fuel := 18) 13 rfl (by kernel_rfl) (listed' := (bl 32 16383)) (by kernel_rfl) (by kernel_rfl) (fun K' hK => ?_)
    go_wp2_with (go_at_call 124; refine (names_calls k _ ⟨by omega, by omega⟩).mono ?_; rintro _ w1 ⟨rfl, hb⟩; have HB1 := aM hb; have HK1 := aM (HK0.out.trans (Keep.of_below hb)); clear hb)
    refine hK.out _ _ (Keep.of_below HB1.out) ?_
    clear hK K'
    try simp only [Act.put, pB, pC, pD]
    refine rk_step (fuel := 17) 14 rfl (by kernel_rfl) (listed' := (bl 32 32767)) (by kernel_rfl) (by kernel_rfl) (fun K' hK => ?_)
    go_wp2_with (go_at_call 143; refine (zero_calls k op d a b n args A c (namesA k) (names_small k) w1).mono ?_; rintro _ w2 ⟨rfl, hb⟩; rw [HZP.out]; have HB2 := aM hb; have HK2 := aM (HK1.out.trans (Keep.of_below hb)); clear hb)
    refine hK.out _ _ (Keep.of_below HB2.out) ?_
    clear hK K'
    try simp only [Act.put, pB, pC, pD]
    refine kt 15 (bl 32 65535) rfl (fun w' hR => by obtain ⟨x0, x1, x2, x3, x4, x5, x6⟩ := HX.out w' (by first | exact HK2.out.trans hR | exact HK1.out.trans hR | exact HK0.out.trans hR); go_simp; first | done | with_reducible rfl) rfl ?_
    try simp only [Act.put, pB, pC, pD]
    refine kt 16 (bl 32 131071) rfl (fun w' hR => by obtain ⟨x0, x1, x2, x3, x4, x5, x6⟩ := HX.out w' (by first | exact HK2.out.trans hR | exact HK1.out.trans hR | exact HK0.out.trans hR); go_simp; first | done | with_reducible rfl) rfl ?_
    try simp only [Act.put, pB, pC, pD]
    refine kt 17 (bl 32 262143) rfl (fun w' hR => by obtain ⟨x0, x1, x2, x3, x4, x5, x6⟩ := HX.out w' (by first | exact HK2.out.trans hR | exact HK1.out.trans hR | exact HK0.out.trans hR); go_simp; first | done | with_reducible rfl) rfl ?_
    try simp only [Act.put, pB, pC, pD]
    refine kz 18 (bl 32 524287) rfl rfl ?_
    try simp only [Act.put, pB, pC, pD]
    refine kz 19 (bl 32 1048575) rfl rfl ?_
    try simp only [Act.put, pB, pC, pD]
    refine kz 20 (bl 32 2097151) rfl rfl ?_
    try simp only [Act.put, pB, pC, pD]
    refine kz 21 (bl 32 4194303) rfl rfl ?_
    try simp only [Act.put, pB, pC, pD]
    refine kz 22 (bl 32 8388607) rfl rfl ?_
    try simp only [Act.put, pB, pC, pD]
    refine kz 23 (bl 32 16777215) rfl rfl ?_
    try simp only [Act.put, pB, pC, pD]
    refine kz 24 (bl 32 33554431) rfl rfl ?_
    try simp only [Act.put, pB, pC, pD]
    refine kz 25 (bl 32 67108863) rfl rfl ?_
    try simp only [Act.put, pB, pC, pD]
    refine kz 26 (bl 32 134217727) rfl rfl ?_
    try simp only [Act.put, pB, pC, pD]
    refine kz 27 (bl 32 268435455) rfl rfl ?_
    try simp only [Act.put, pB, pC, pD]
    refine kz 28 (bl 32 536870911) rfl rfl ?_
    try simp only [Act.put, pB, pC, pD]
    refine kz 29 (bl 32 1073741823) rfl rfl ?_
    try simp only [Act.put, pB, pC, pD]
    refine kz 30 (bl 32 2147483647) rfl rfl ?_
    try simp only [Act.put, pB, pC, pD]
    refine kt 31 (bl 32 4294967295) rfl (fun w' hR => by obtain ⟨x0, x1, x2, x3, x4, x5, x6⟩ := HX.out w' (by first | exact HK2.out.trans hR | exact HK1.out.trans hR | exact HK0.out.trans hR); go_simp; first | done | with_reducible rfl) rfl ?_
    try simp only [Act.put, pB, pC, pD]
    refine rk_done (by kernel_rfl) ?_
    go_wp2
    go_ret
    exact ⟨ret_i HE20.out.symm, HA.out.trans ((HK2.out.below (Nat.le_refl _) (fun _ _ h => h)).mono HA.out.size)⟩
 · have HE20 := aM (HBAD.out (.inr (.inr (.inr ⟨rfl, .inl h5⟩))))
   have HZP := aM (show zeroB (3, op, d, a, b, n, args) (namesA 3) = true from (zero_plain 3 op d a b n args (by rcases hMr with h | h <;> omega)).trans h3)
   clear h3
   have d5 := decide_eq_true h5
   rcases hMr with ⟨ht, rfl⟩ | ⟨ht, rfl⟩
   all_goals
    clear HE HM HBAD hbx ht3 HC
    go_enter Try.func122, Try.ntmps122
    go_wp2_with fail
    refine rk_start (fun _ => False) (by kernel_rfl) (n := 32) (l := (bl 32 0)) (by kernel_rfl) (by kernel_rfl) ?_
    refine kt 0 (bl 32 1) rfl (fun w' hR => by obtain ⟨x0, x1, x2, x3, x4, x5, x6⟩ := HX.out w' (by first | exact HK2.out.trans hR | exact HK1.out.trans hR | exact HK0.out.trans hR); go_simp; first | done | with_reducible rfl) rfl ?_
    try simp only [Act.put, pB, pC, pD]
    refine kt 1 (bl 32 3) rfl (fun w' hR => by obtain ⟨x0, x1, x2, x3, x4, x5, x6⟩ := HX.out w' (by first | exact HK2.out.trans hR | exact HK1.out.trans hR | exact HK0.out.trans hR); go_simp; first | done | with_reducible rfl) rfl ?_
    try simp only [Act.put, pB, pC, pD]
    refine kt 2 (bl 32 7) rfl (fun w' hR => by obtain ⟨x0, x1, x2, x3, x4, x5, x6⟩ := HX.out w' (by first | exact HK2.out.trans hR | exact HK1.out.trans hR | exact HK0.out.trans hR); go_simp; first | done | with_reducible rfl) rfl ?_
    try simp only [Act.put, pB, pC, pD]
    refine kt 3 (bl 32 15) rfl (fun w' hR => by obtain ⟨x0, x1, x2, x3, x4, x5, x6⟩ := HX.out w' (by first | exact HK2.out.trans hR | exact HK1.out.trans hR | exact HK0.out.trans hR); go_simp; first | done | with_reducible rfl) rfl ?_
    try simp only [Act.put, pB, pC, pD]
    refine kt 4 (bl 32 31) rfl (fun w' hR => by obtain ⟨x0, x1, x2, x3, x4, x5, x6⟩ := HX.out w' (by first | exact HK2.out.trans hR | exact HK1.out.trans hR | exact HK0.out.trans hR); go_simp; first | done | with_reducible rfl) rfl ?_
    try simp only [Act.put, pB, pC, pD]
    refine kt 5 (bl 32 63) rfl (fun w' hR => by obtain ⟨x0, x1, x2, x3, x4, x5, x6⟩ := HX.out w' (by first | exact HK2.out.trans hR | exact HK1.out.trans hR | exact HK0.out.trans hR); go_simp; first | done | with_reducible rfl) rfl ?_
    try simp only [Act.put, pB, pC, pD]
    refine kt 6 (bl 32 127) rfl (fun w' hR => by obtain ⟨x0, x1, x2, x3, x4, x5, x6⟩ := HX.out w' (by first | exact HK2.out.trans hR | exact HK1.out.trans hR | exact HK0.out.trans hR); go_simp; first | done | with_reducible rfl) rfl ?_
    try simp only [Act.put, pB, pC, pD]
    refine kt 7 (bl 32 255) rfl (fun w' hR => by obtain ⟨x0, x1, x2, x3, x4, x5, x6⟩ := HX.out w' (by first | exact HK2.out.trans hR | exact HK1.out.trans hR | exact HK0.out.trans hR); go_simp; first | done | with_reducible rfl) rfl ?_
    try simp only [Act.put, pB, pC, pD]
    refine kt 8 (bl 32 511) rfl (fun w' hR => by obtain ⟨x0, x1, x2, x3, x4, x5, x6⟩ := HX.out w' (by first | exact HK2.out.trans hR | exact HK1.out.trans hR | exact HK0.out.trans hR); go_simp; first | done | with_reducible rfl) rfl ?_
    try simp only [Act.put, pB, pC, pD]
    refine kt 9 (bl 32 1023) rfl (fun w' hR => by obtain ⟨x0, x1, x2, x3, x4, x5, x6⟩ := HX.out w' (by first | exact HK2.out.trans hR | exact HK1.out.trans hR | exact HK0.out.trans hR); go_simp; first | done | with_reducible rfl) rfl ?_
    try simp only [Act.put, pB, pC, pD]
    refine kt 10 (bl 32 2047) rfl (fun w' hR => by obtain ⟨x0, x1, x2, x3, x4, x5, x6⟩ := HX.out w' (by first | exact HK2.out.trans hR | exact HK1.out.trans hR | exact HK0.out.trans hR); go_simp; first | done | with_reducible rfl) rfl ?_
    try simp only [Act.put, pB, pC, pD]
    refine kt 11 (bl 32 4095) rfl (fun w' hR => by obtain ⟨x0, x1, x2, x3, x4, x5, x6⟩ := HX.out w' (by first | exact HK2.out.trans hR | exact HK1.out.trans hR | exact HK0.out.trans hR); go_simp; first | done | with_reducible rfl) rfl ?_
    try simp only [Act.put, pB, pC, pD]
    refine kt 12 (bl 32 8191) rfl (fun w' hR => by obtain ⟨x0, x1, x2, x3, x4, x5, x6⟩ := HX.out w' (by first | exact HK2.out.trans hR | exact HK1.out.trans hR | exact HK0.out.trans hR); go_simp; first | done | with_reducible rfl) rfl ?_
    try simp only [Act.put, pB, pC, pD]
    refine rk_step (fuel := 18) 13 rfl (by kernel_rfl) (listed' := (bl 32 16383)) (by kernel_rfl) (by kernel_rfl) (fun K' hK => ?_)
    go_wp2_with (go_at_call 124; refine (names_calls 3 _ ⟨by omega, by omega⟩).mono ?_; rintro _ w1 ⟨rfl, hb⟩; have HB1 := aM hb; have HK1 := aM (HK0.out.trans (Keep.of_below hb)); clear hb)
    refine hK.out _ _ (Keep.of_below HB1.out) ?_
    clear hK K'
    try simp only [Act.put, pB, pC, pD]
    refine rk_step (fuel := 17) 14 rfl (by kernel_rfl) (listed' := (bl 32 32767)) (by kernel_rfl) (by kernel_rfl) (fun K' hK => ?_)
    go_wp2_with (go_at_call 143; refine (zero_calls 3 op d a b n args A c (namesA 3) (names_small 3) w1).mono ?_; rintro _ w2 ⟨rfl, hb⟩; rw [HZP.out]; have HB2 := aM hb; have HK2 := aM (HK1.out.trans (Keep.of_below hb)); clear hb)
    refine hK.out _ _ (Keep.of_below HB2.out) ?_
    clear hK K'
    try simp only [Act.put, pB, pC, pD]
    refine kt 15 (bl 32 65535) rfl (fun w' hR => by obtain ⟨x0, x1, x2, x3, x4, x5, x6⟩ := HX.out w' (by first | exact HK2.out.trans hR | exact HK1.out.trans hR | exact HK0.out.trans hR); go_simp; first | done | with_reducible rfl) rfl ?_
    try simp only [Act.put, pB, pC, pD]
    refine kt 16 (bl 32 131071) rfl (fun w' hR => by obtain ⟨x0, x1, x2, x3, x4, x5, x6⟩ := HX.out w' (by first | exact HK2.out.trans hR | exact HK1.out.trans hR | exact HK0.out.trans hR); go_simp; first | done | with_reducible rfl) rfl ?_
    try simp only [Act.put, pB, pC, pD]
    refine kt 17 (bl 32 262143) rfl (fun w' hR => by obtain ⟨x0, x1, x2, x3, x4, x5, x6⟩ := HX.out w' (by first | exact HK2.out.trans hR | exact HK1.out.trans hR | exact HK0.out.trans hR); go_simp; first | done | with_reducible rfl) rfl ?_
    try simp only [Act.put, pB, pC, pD]
    refine kt 18 (bl 32 524287) rfl (fun w' hR => by obtain ⟨x0, x1, x2, x3, x4, x5, x6⟩ := HX.out w' (by first | exact HK2.out.trans hR | exact HK1.out.trans hR | exact HK0.out.trans hR); go_simp; first | done | with_reducible rfl) rfl ?_
    try simp only [Act.put, pB, pC, pD]
    refine kt 19 (bl 32 1048575) rfl (fun w' hR => by obtain ⟨x0, x1, x2, x3, x4, x5, x6⟩ := HX.out w' (by first | exact HK2.out.trans hR | exact HK1.out.trans hR | exact HK0.out.trans hR); go_simp; first | done | with_reducible rfl) rfl ?_
    try simp only [Act.put, pB, pC, pD]
    refine kt 20 (bl 32 2097151) rfl (fun w' hR => by obtain ⟨x0, x1, x2, x3, x4, x5, x6⟩ := HX.out w' (by first | exact HK2.out.trans hR | exact HK1.out.trans hR | exact HK0.out.trans hR); go_simp; first | done | with_reducible rfl) rfl ?_
    try simp only [Act.put, pB, pC, pD]
    refine kt 21 (bl 32 4194303) rfl (fun w' hR => by obtain ⟨x0, x1, x2, x3, x4, x5, x6⟩ := HX.out w' (by first | exact HK2.out.trans hR | exact HK1.out.trans hR | exact HK0.out.trans hR); go_simp; first | done | with_reducible rfl) rfl ?_
    try simp only [Act.put, pB, pC, pD]
    refine kt 22 (bl 32 8388607) rfl (fun w' hR => by obtain ⟨x0, x1, x2, x3, x4, x5, x6⟩ := HX.out w' (by first | exact HK2.out.trans hR | exact HK1.out.trans hR | exact HK0.out.trans hR); go_simp; first | done | with_reducible rfl) rfl ?_
    try simp only [Act.put, pB, pC, pD]
    refine kt 23 (bl 32 16777215) rfl (fun w' hR => by obtain ⟨x0, x1, x2, x3, x4, x5, x6⟩ := HX.out w' (by first | exact HK2.out.trans hR | exact HK1.out.trans hR | exact HK0.out.trans hR); go_simp; first | done | with_reducible rfl) rfl ?_
    try simp only [Act.put, pB, pC, pD]
    refine kt 24 (bl 32 33554431) rfl (fun w' hR => by obtain ⟨x0, x1, x2, x3, x4, x5, x6⟩ := HX.out w' (by first | exact HK2.out.trans hR | exact HK1.out.trans hR | exact HK0.out.trans hR); go_simp; first | done | with_reducible rfl) rfl ?_
    try simp only [Act.put, pB, pC, pD]
    refine kt 25 (bl 32 67108863) rfl (fun w' hR => by obtain ⟨x0, x1, x2, x3, x4, x5, x6⟩ := HX.out w' (by first | exact HK2.out.trans hR | exact HK1.out.trans hR | exact HK0.out.trans hR); go_simp; first | done | with_reducible rfl) rfl ?_
    try simp only [Act.put, pB, pC, pD]
    refine kz 26 (bl 32 134217727) rfl rfl ?_
    try simp only [Act.put, pB, pC, pD]
    refine kz 27 (bl 32 268435455) rfl rfl ?_
    try simp only [Act.put, pB, pC, pD]
    refine kz 28 (bl 32 536870911) rfl rfl ?_
    try simp only [Act.put, pB, pC, pD]
    refine kt 29 (bl 32 1073741823) rfl (fun w' hR => by obtain ⟨x0, x1, x2, x3, x4, x5, x6⟩ := HX.out w' (by first | exact HK2.out.trans hR | exact HK1.out.trans hR | exact HK0.out.trans hR); go_simp; first | done | with_reducible rfl) rfl ?_
    try simp only [Act.put, pB, pC, pD]
    refine kt 30 (bl 32 2147483647) rfl (fun w' hR => by obtain ⟨x0, x1, x2, x3, x4, x5, x6⟩ := HX.out w' (by first | exact HK2.out.trans hR | exact HK1.out.trans hR | exact HK0.out.trans hR); go_simp; first | done | with_reducible rfl) rfl ?_
    try simp only [Act.put, pB, pC, pD]
    refine kt 31 (bl 32 4294967295) rfl (fun w' hR => by obtain ⟨x0, x1, x2, x3, x4, x5, x6⟩ := HX.out w' (by first | exact HK2.out.trans hR | exact HK1.out.trans hR | exact HK0.out.trans hR); go_simp; first | done | with_reducible rfl) rfl ?_
    try simp only [Act.put, pB, pC, pD]
    refine rk_done (by kernel_rfl) ?_
    go_wp2
    go_ret
    exact ⟨ret_i HE20.out.symm, HA.out.trans ((HK2.out.below (Nat.le_refl _) (fun _ _ h => h)).mono HA.out.size)⟩
 · have HE20 := aM (HBAD.out (.inr (.inr (.inr ⟨rfl, .inr h6⟩))))
   have HZP := aM (show zeroB (3, op, d, a, b, n, args) (namesA 3) = true from (zero_plain 3 op d a b n args (by rcases hMr with h | h <;> omega)).trans h3)
   clear h3
   have d5 := decide_eq_false h5
   have d6 := decide_eq_true h6
   rcases hMr with ⟨ht, rfl⟩ | ⟨ht, rfl⟩
   all_goals
    clear HE HM HBAD hbx ht3 HC
    go_enter Try.func122, Try.ntmps122
    go_wp2_with fail
    refine rk_start (fun _ => False) (by kernel_rfl) (n := 32) (l := (bl 32 0)) (by kernel_rfl) (by kernel_rfl) ?_
    refine kt 0 (bl 32 1) rfl (fun w' hR => by obtain ⟨x0, x1, x2, x3, x4, x5, x6⟩ := HX.out w' (by first | exact HK2.out.trans hR | exact HK1.out.trans hR | exact HK0.out.trans hR); go_simp; first | done | with_reducible rfl) rfl ?_
    try simp only [Act.put, pB, pC, pD]
    refine kt 1 (bl 32 3) rfl (fun w' hR => by obtain ⟨x0, x1, x2, x3, x4, x5, x6⟩ := HX.out w' (by first | exact HK2.out.trans hR | exact HK1.out.trans hR | exact HK0.out.trans hR); go_simp; first | done | with_reducible rfl) rfl ?_
    try simp only [Act.put, pB, pC, pD]
    refine kt 2 (bl 32 7) rfl (fun w' hR => by obtain ⟨x0, x1, x2, x3, x4, x5, x6⟩ := HX.out w' (by first | exact HK2.out.trans hR | exact HK1.out.trans hR | exact HK0.out.trans hR); go_simp; first | done | with_reducible rfl) rfl ?_
    try simp only [Act.put, pB, pC, pD]
    refine kt 3 (bl 32 15) rfl (fun w' hR => by obtain ⟨x0, x1, x2, x3, x4, x5, x6⟩ := HX.out w' (by first | exact HK2.out.trans hR | exact HK1.out.trans hR | exact HK0.out.trans hR); go_simp; first | done | with_reducible rfl) rfl ?_
    try simp only [Act.put, pB, pC, pD]
    refine kt 4 (bl 32 31) rfl (fun w' hR => by obtain ⟨x0, x1, x2, x3, x4, x5, x6⟩ := HX.out w' (by first | exact HK2.out.trans hR | exact HK1.out.trans hR | exact HK0.out.trans hR); go_simp; first | done | with_reducible rfl) rfl ?_
    try simp only [Act.put, pB, pC, pD]
    refine kt 5 (bl 32 63) rfl (fun w' hR => by obtain ⟨x0, x1, x2, x3, x4, x5, x6⟩ := HX.out w' (by first | exact HK2.out.trans hR | exact HK1.out.trans hR | exact HK0.out.trans hR); go_simp; first | done | with_reducible rfl) rfl ?_
    try simp only [Act.put, pB, pC, pD]
    refine kt 6 (bl 32 127) rfl (fun w' hR => by obtain ⟨x0, x1, x2, x3, x4, x5, x6⟩ := HX.out w' (by first | exact HK2.out.trans hR | exact HK1.out.trans hR | exact HK0.out.trans hR); go_simp; first | done | with_reducible rfl) rfl ?_
    try simp only [Act.put, pB, pC, pD]
    refine kt 7 (bl 32 255) rfl (fun w' hR => by obtain ⟨x0, x1, x2, x3, x4, x5, x6⟩ := HX.out w' (by first | exact HK2.out.trans hR | exact HK1.out.trans hR | exact HK0.out.trans hR); go_simp; first | done | with_reducible rfl) rfl ?_
    try simp only [Act.put, pB, pC, pD]
    refine kt 8 (bl 32 511) rfl (fun w' hR => by obtain ⟨x0, x1, x2, x3, x4, x5, x6⟩ := HX.out w' (by first | exact HK2.out.trans hR | exact HK1.out.trans hR | exact HK0.out.trans hR); go_simp; first | done | with_reducible rfl) rfl ?_
    try simp only [Act.put, pB, pC, pD]
    refine kt 9 (bl 32 1023) rfl (fun w' hR => by obtain ⟨x0, x1, x2, x3, x4, x5, x6⟩ := HX.out w' (by first | exact HK2.out.trans hR | exact HK1.out.trans hR | exact HK0.out.trans hR); go_simp; first | done | with_reducible rfl) rfl ?_
    try simp only [Act.put, pB, pC, pD]
    refine kt 10 (bl 32 2047) rfl (fun w' hR => by obtain ⟨x0, x1, x2, x3, x4, x5, x6⟩ := HX.out w' (by first | exact HK2.out.trans hR | exact HK1.out.trans hR | exact HK0.out.trans hR); go_simp; first | done | with_reducible rfl) rfl ?_
    try simp only [Act.put, pB, pC, pD]
    refine kt 11 (bl 32 4095) rfl (fun w' hR => by obtain ⟨x0, x1, x2, x3, x4, x5, x6⟩ := HX.out w' (by first | exact HK2.out.trans hR | exact HK1.out.trans hR | exact HK0.out.trans hR); go_simp; first | done | with_reducible rfl) rfl ?_
    try simp only [Act.put, pB, pC, pD]
    refine kt 12 (bl 32 8191) rfl (fun w' hR => by obtain ⟨x0, x1, x2, x3, x4, x5, x6⟩ := HX.out w' (by first | exact HK2.out.trans hR | exact HK1.out.trans hR | exact HK0.out.trans hR); go_simp; first | done | with_reducible rfl) rfl ?_
    try simp only [Act.put, pB, pC, pD]
    refine rk_step (fuel := 18) 13 rfl (by kernel_rfl) (listed' := (bl 32 16383)) (by kernel_rfl) (by kernel_rfl) (fun K' hK => ?_)
    go_wp2_with (go_at_call 124; refine (names_calls 3 _ ⟨by omega, by omega⟩).mono ?_; rintro _ w1 ⟨rfl, hb⟩; have HB1 := aM hb; have HK1 := aM (HK0.out.trans (Keep.of_below hb)); clear hb)
    refine hK.out _ _ (Keep.of_below HB1.out) ?_
    clear hK K'
    try simp only [Act.put, pB, pC, pD]
    refine rk_step (fuel := 17) 14 rfl (by kernel_rfl) (listed' := (bl 32 32767)) (by kernel_rfl) (by kernel_rfl) (fun K' hK => ?_)
    go_wp2_with (go_at_call 143; refine (zero_calls 3 op d a b n args A c (namesA 3) (names_small 3) w1).mono ?_; rintro _ w2 ⟨rfl, hb⟩; rw [HZP.out]; have HB2 := aM hb; have HK2 := aM (HK1.out.trans (Keep.of_below hb)); clear hb)
    refine hK.out _ _ (Keep.of_below HB2.out) ?_
    clear hK K'
    try simp only [Act.put, pB, pC, pD]
    refine kt 15 (bl 32 65535) rfl (fun w' hR => by obtain ⟨x0, x1, x2, x3, x4, x5, x6⟩ := HX.out w' (by first | exact HK2.out.trans hR | exact HK1.out.trans hR | exact HK0.out.trans hR); go_simp; first | done | with_reducible rfl) rfl ?_
    try simp only [Act.put, pB, pC, pD]
    refine kt 16 (bl 32 131071) rfl (fun w' hR => by obtain ⟨x0, x1, x2, x3, x4, x5, x6⟩ := HX.out w' (by first | exact HK2.out.trans hR | exact HK1.out.trans hR | exact HK0.out.trans hR); go_simp; first | done | with_reducible rfl) rfl ?_
    try simp only [Act.put, pB, pC, pD]
    refine kt 17 (bl 32 262143) rfl (fun w' hR => by obtain ⟨x0, x1, x2, x3, x4, x5, x6⟩ := HX.out w' (by first | exact HK2.out.trans hR | exact HK1.out.trans hR | exact HK0.out.trans hR); go_simp; first | done | with_reducible rfl) rfl ?_
    try simp only [Act.put, pB, pC, pD]
    refine kt 18 (bl 32 524287) rfl (fun w' hR => by obtain ⟨x0, x1, x2, x3, x4, x5, x6⟩ := HX.out w' (by first | exact HK2.out.trans hR | exact HK1.out.trans hR | exact HK0.out.trans hR); go_simp; first | done | with_reducible rfl) rfl ?_
    try simp only [Act.put, pB, pC, pD]
    refine kt 19 (bl 32 1048575) rfl (fun w' hR => by obtain ⟨x0, x1, x2, x3, x4, x5, x6⟩ := HX.out w' (by first | exact HK2.out.trans hR | exact HK1.out.trans hR | exact HK0.out.trans hR); go_simp; first | done | with_reducible rfl) rfl ?_
    try simp only [Act.put, pB, pC, pD]
    refine kt 20 (bl 32 2097151) rfl (fun w' hR => by obtain ⟨x0, x1, x2, x3, x4, x5, x6⟩ := HX.out w' (by first | exact HK2.out.trans hR | exact HK1.out.trans hR | exact HK0.out.trans hR); go_simp; first | done | with_reducible rfl) rfl ?_
    try simp only [Act.put, pB, pC, pD]
    refine kt 21 (bl 32 4194303) rfl (fun w' hR => by obtain ⟨x0, x1, x2, x3, x4, x5, x6⟩ := HX.out w' (by first | exact HK2.out.trans hR | exact HK1.out.trans hR | exact HK0.out.trans hR); go_simp; first | done | with_reducible rfl) rfl ?_
    try simp only [Act.put, pB, pC, pD]
    refine kt 22 (bl 32 8388607) rfl (fun w' hR => by obtain ⟨x0, x1, x2, x3, x4, x5, x6⟩ := HX.out w' (by first | exact HK2.out.trans hR | exact HK1.out.trans hR | exact HK0.out.trans hR); go_simp; first | done | with_reducible rfl) rfl ?_
    try simp only [Act.put, pB, pC, pD]
    refine kt 23 (bl 32 16777215) rfl (fun w' hR => by obtain ⟨x0, x1, x2, x3, x4, x5, x6⟩ := HX.out w' (by first | exact HK2.out.trans hR | exact HK1.out.trans hR | exact HK0.out.trans hR); go_simp; first | done | with_reducible rfl) rfl ?_
    try simp only [Act.put, pB, pC, pD]
    refine kt 24 (bl 32 33554431) rfl (fun w' hR => by obtain ⟨x0, x1, x2, x3, x4, x5, x6⟩ := HX.out w' (by first | exact HK2.out.trans hR | exact HK1.out.trans hR | exact HK0.out.trans hR); go_simp; first | done | with_reducible rfl) rfl ?_
    try simp only [Act.put, pB, pC, pD]
    refine kt 25 (bl 32 67108863) rfl (fun w' hR => by obtain ⟨x0, x1, x2, x3, x4, x5, x6⟩ := HX.out w' (by first | exact HK2.out.trans hR | exact HK1.out.trans hR | exact HK0.out.trans hR); go_simp; first | done | with_reducible rfl) rfl ?_
    try simp only [Act.put, pB, pC, pD]
    refine kt 26 (bl 32 134217727) rfl (fun w' hR => by obtain ⟨x0, x1, x2, x3, x4, x5, x6⟩ := HX.out w' (by first | exact HK2.out.trans hR | exact HK1.out.trans hR | exact HK0.out.trans hR); go_simp; first | done | with_reducible rfl) rfl ?_
    try simp only [Act.put, pB, pC, pD]
    refine kt 27 (bl 32 268435455) rfl (fun w' hR => by obtain ⟨x0, x1, x2, x3, x4, x5, x6⟩ := HX.out w' (by first | exact HK2.out.trans hR | exact HK1.out.trans hR | exact HK0.out.trans hR); go_simp; first | done | with_reducible rfl) rfl ?_
    try simp only [Act.put, pB, pC, pD]
    refine kt 28 (bl 32 536870911) rfl (fun w' hR => by obtain ⟨x0, x1, x2, x3, x4, x5, x6⟩ := HX.out w' (by first | exact HK2.out.trans hR | exact HK1.out.trans hR | exact HK0.out.trans hR); go_simp; first | done | with_reducible rfl) rfl ?_
    try simp only [Act.put, pB, pC, pD]
    refine kt 29 (bl 32 1073741823) rfl (fun w' hR => by obtain ⟨x0, x1, x2, x3, x4, x5, x6⟩ := HX.out w' (by first | exact HK2.out.trans hR | exact HK1.out.trans hR | exact HK0.out.trans hR); go_simp; first | done | with_reducible rfl) rfl ?_
    try simp only [Act.put, pB, pC, pD]
    refine kt 30 (bl 32 2147483647) rfl (fun w' hR => by obtain ⟨x0, x1, x2, x3, x4, x5, x6⟩ := HX.out w' (by first | exact HK2.out.trans hR | exact HK1.out.trans hR | exact HK0.out.trans hR); go_simp; first | done | with_reducible rfl) rfl ?_
    try simp only [Act.put, pB, pC, pD]
    refine kt 31 (bl 32 4294967295) rfl (fun w' hR => by obtain ⟨x0, x1, x2, x3, x4, x5, x6⟩ := HX.out w' (by first | exact HK2.out.trans hR | exact HK1.out.trans hR | exact HK0.out.trans hR); go_simp; first | done | with_reducible rfl) rfl ?_
    try simp only [Act.put, pB, pC, pD]
    refine rk_done (by kernel_rfl) ?_
    go_wp2
    go_ret
    exact ⟨ret_i HE20.out.symm, HA.out.trans ((HK2.out.below (Nat.le_refl _) (fun _ _ h => h)).mono HA.out.size)⟩
 · have d5 := decide_eq_false h5
   have d6 := decide_eq_false h6
   have HMORE := aM (show E = if 3 < args.length then 25 else if (allL (3, op, d, a, b, n, args)).any (outB v) then (if t < 0 then 21 else 23) else if ((3 : Int) = 7 ∧ (d < 0 ∨ t ≤ d)) ∨ ((3 : Int) = 8 ∧ (a < 0 ∨ t ≤ a)) then 24 else 0 from by
    rw [← HE.out]
    refine rins_more (i := (3, op, d, a, b, n, args)) ?_
    rw [← HM.out]
    simp only [h3, Bool.true_eq_false, false_or]
    omega)
   have HZP := aM (show zeroB (3, op, d, a, b, n, args) (namesA 3) = true from (zero_plain 3 op d a b n args (by rcases hMr with h | h <;> omega)).trans h3)
   clear h3
   obtain ⟨L, hL⟩ : ∃ L, allL (3, op, d, a, b, n, args) = L := ⟨_, rfl⟩
   obtain ⟨U, hU⟩ : ∃ U, usesL (3, op, d, a, b, n, args) = U := ⟨_, rfl⟩
   have HU := aM hU
   have hal : L = U ++ if givesB 3 then [d] else [] := by rw [← hL, ← hU]; rfl
   have HUL := aM (show args.length ≤ 3 → U.length ≤ 3 from fun h => by rw [← hU]; exact uses_len _ op d a b n args h)
   rw [hL] at HMORE
   have HAL0 := aM hal
   have FIN := aM (show ∀ (vl : Value) (wz : World) (L : List Int), kI.R 3 wz w.heap.size (fun k => w.heap.size < k) vl L → ∃ (Al : Option Addr) (cl : Nat), vl = .slice Al L.length cl ∧ kI.C wz Al L.length L from fun vl wz L h => by
    obtain ⟨Al, cl, e, -, hC⟩ := Kd.R_reads h
    exact ⟨Al, cl, e, hC⟩)
   clear hL hU hal
   rcases hMr with ⟨ht, rfl⟩ | ⟨ht, rfl⟩
   all_goals
    clear HE HM HBAD hbx ht3
    go_enter Try.func122, Try.ntmps122
    go_wp2_with fail
    refine rk_start (fun _ => False) (by kernel_rfl) (n := 32) (l := (bl 32 0)) (by kernel_rfl) (by kernel_rfl) ?_
    refine kt 0 (bl 32 1) rfl (fun w' hR => by obtain ⟨x0, x1, x2, x3, x4, x5, x6⟩ := HX.out w' (by first | exact HK2.out.trans hR | exact HK1.out.trans hR | exact HK0.out.trans hR); go_simp; first | done | with_reducible rfl) rfl ?_
    try simp only [Act.put, pB, pC, pD]
    refine kt 1 (bl 32 3) rfl (fun w' hR => by obtain ⟨x0, x1, x2, x3, x4, x5, x6⟩ := HX.out w' (by first | exact HK2.out.trans hR | exact HK1.out.trans hR | exact HK0.out.trans hR); go_simp; first | done | with_reducible rfl) rfl ?_
    try simp only [Act.put, pB, pC, pD]
    refine kt 2 (bl 32 7) rfl (fun w' hR => by obtain ⟨x0, x1, x2, x3, x4, x5, x6⟩ := HX.out w' (by first | exact HK2.out.trans hR | exact HK1.out.trans hR | exact HK0.out.trans hR); go_simp; first | done | with_reducible rfl) rfl ?_
    try simp only [Act.put, pB, pC, pD]
    refine kt 3 (bl 32 15) rfl (fun w' hR => by obtain ⟨x0, x1, x2, x3, x4, x5, x6⟩ := HX.out w' (by first | exact HK2.out.trans hR | exact HK1.out.trans hR | exact HK0.out.trans hR); go_simp; first | done | with_reducible rfl) rfl ?_
    try simp only [Act.put, pB, pC, pD]
    refine kt 4 (bl 32 31) rfl (fun w' hR => by obtain ⟨x0, x1, x2, x3, x4, x5, x6⟩ := HX.out w' (by first | exact HK2.out.trans hR | exact HK1.out.trans hR | exact HK0.out.trans hR); go_simp; first | done | with_reducible rfl) rfl ?_
    try simp only [Act.put, pB, pC, pD]
    refine kt 5 (bl 32 63) rfl (fun w' hR => by obtain ⟨x0, x1, x2, x3, x4, x5, x6⟩ := HX.out w' (by first | exact HK2.out.trans hR | exact HK1.out.trans hR | exact HK0.out.trans hR); go_simp; first | done | with_reducible rfl) rfl ?_
    try simp only [Act.put, pB, pC, pD]
    refine kt 6 (bl 32 127) rfl (fun w' hR => by obtain ⟨x0, x1, x2, x3, x4, x5, x6⟩ := HX.out w' (by first | exact HK2.out.trans hR | exact HK1.out.trans hR | exact HK0.out.trans hR); go_simp; first | done | with_reducible rfl) rfl ?_
    try simp only [Act.put, pB, pC, pD]
    refine kt 7 (bl 32 255) rfl (fun w' hR => by obtain ⟨x0, x1, x2, x3, x4, x5, x6⟩ := HX.out w' (by first | exact HK2.out.trans hR | exact HK1.out.trans hR | exact HK0.out.trans hR); go_simp; first | done | with_reducible rfl) rfl ?_
    try simp only [Act.put, pB, pC, pD]
    refine kt 8 (bl 32 511) rfl (fun w' hR => by obtain ⟨x0, x1, x2, x3, x4, x5, x6⟩ := HX.out w' (by first | exact HK2.out.trans hR | exact HK1.out.trans hR | exact HK0.out.trans hR); go_simp; first | done | with_reducible rfl) rfl ?_
    try simp only [Act.put, pB, pC, pD]
    refine kt 9 (bl 32 1023) rfl (fun w' hR => by obtain ⟨x0, x1, x2, x3, x4, x5, x6⟩ := HX.out w' (by first | exact HK2.out.trans hR | exact HK1.out.trans hR | exact HK0.out.trans hR); go_simp; first | done | with_reducible rfl) rfl ?_
    try simp only [Act.put, pB, pC, pD]
    refine kt 10 (bl 32 2047) rfl (fun w' hR => by obtain ⟨x0, x1, x2, x3, x4, x5, x6⟩ := HX.out w' (by first | exact HK2.out.trans hR | exact HK1.out.trans hR | exact HK0.out.trans hR); go_simp; first | done | with_reducible rfl) rfl ?_
    try simp only [Act.put, pB, pC, pD]
    refine kt 11 (bl 32 4095) rfl (fun w' hR => by obtain ⟨x0, x1, x2, x3, x4, x5, x6⟩ := HX.out w' (by first | exact HK2.out.trans hR | exact HK1.out.trans hR | exact HK0.out.trans hR); go_simp; first | done | with_reducible rfl) rfl ?_
    try simp only [Act.put, pB, pC, pD]
    refine kt 12 (bl 32 8191) rfl (fun w' hR => by obtain ⟨x0, x1, x2, x3, x4, x5, x6⟩ := HX.out w' (by first | exact HK2.out.trans hR | exact HK1.out.trans hR | exact HK0.out.trans hR); go_simp; first | done | with_reducible rfl) rfl ?_
    try simp only [Act.put, pB, pC, pD]
    refine rk_step (fuel := 18) 13 rfl (by kernel_rfl) (listed' := (bl 32 16383)) (by kernel_rfl) (by kernel_rfl) (fun K' hK => ?_)
    go_wp2_with (go_at_call 124; refine (names_calls 3 _ ⟨by omega, by omega⟩).mono ?_; rintro _ w1 ⟨rfl, hb⟩; have HB1 := aM hb; have HK1 := aM (HK0.out.trans (Keep.of_below hb)); clear hb)
    refine hK.out _ _ (Keep.of_below HB1.out) ?_
    clear hK K'
    try simp only [Act.put, pB, pC, pD]
    refine rk_step (fuel := 17) 14 rfl (by kernel_rfl) (listed' := (bl 32 32767)) (by kernel_rfl) (by kernel_rfl) (fun K' hK => ?_)
    go_wp2_with (go_at_call 143; refine (zero_calls 3 op d a b n args A c (namesA 3) (names_small 3) w1).mono ?_; rintro _ w2 ⟨rfl, hb⟩; rw [HZP.out]; have HB2 := aM hb; have HK2 := aM (HK1.out.trans (Keep.of_below hb)); clear hb)
    refine hK.out _ _ (Keep.of_below HB2.out) ?_
    clear hK K'
    try simp only [Act.put, pB, pC, pD]
    refine kt 15 (bl 32 65535) rfl (fun w' hR => by obtain ⟨x0, x1, x2, x3, x4, x5, x6⟩ := HX.out w' (by first | exact HK2.out.trans hR | exact HK1.out.trans hR | exact HK0.out.trans hR); go_simp; first | done | with_reducible rfl) rfl ?_
    try simp only [Act.put, pB, pC, pD]
    refine kt 16 (bl 32 131071) rfl (fun w' hR => by obtain ⟨x0, x1, x2, x3, x4, x5, x6⟩ := HX.out w' (by first | exact HK2.out.trans hR | exact HK1.out.trans hR | exact HK0.out.trans hR); go_simp; first | done | with_reducible rfl) rfl ?_
    try simp only [Act.put, pB, pC, pD]
    refine kt 17 (bl 32 262143) rfl (fun w' hR => by obtain ⟨x0, x1, x2, x3, x4, x5, x6⟩ := HX.out w' (by first | exact HK2.out.trans hR | exact HK1.out.trans hR | exact HK0.out.trans hR); go_simp; first | done | with_reducible rfl) rfl ?_
    try simp only [Act.put, pB, pC, pD]
    refine kt 18 (bl 32 524287) rfl (fun w' hR => by obtain ⟨x0, x1, x2, x3, x4, x5, x6⟩ := HX.out w' (by first | exact HK2.out.trans hR | exact HK1.out.trans hR | exact HK0.out.trans hR); go_simp; first | done | with_reducible rfl) rfl ?_
    try simp only [Act.put, pB, pC, pD]
    refine kt 19 (bl 32 1048575) rfl (fun w' hR => by obtain ⟨x0, x1, x2, x3, x4, x5, x6⟩ := HX.out w' (by first | exact HK2.out.trans hR | exact HK1.out.trans hR | exact HK0.out.trans hR); go_simp; first | done | with_reducible rfl) rfl ?_
    try simp only [Act.put, pB, pC, pD]
    refine kt 20 (bl 32 2097151) rfl (fun w' hR => by obtain ⟨x0, x1, x2, x3, x4, x5, x6⟩ := HX.out w' (by first | exact HK2.out.trans hR | exact HK1.out.trans hR | exact HK0.out.trans hR); go_simp; first | done | with_reducible rfl) rfl ?_
    try simp only [Act.put, pB, pC, pD]
    refine kt 21 (bl 32 4194303) rfl (fun w' hR => by obtain ⟨x0, x1, x2, x3, x4, x5, x6⟩ := HX.out w' (by first | exact HK2.out.trans hR | exact HK1.out.trans hR | exact HK0.out.trans hR); go_simp; first | done | with_reducible rfl) rfl ?_
    try simp only [Act.put, pB, pC, pD]
    refine kt 22 (bl 32 8388607) rfl (fun w' hR => by obtain ⟨x0, x1, x2, x3, x4, x5, x6⟩ := HX.out w' (by first | exact HK2.out.trans hR | exact HK1.out.trans hR | exact HK0.out.trans hR); go_simp; first | done | with_reducible rfl) rfl ?_
    try simp only [Act.put, pB, pC, pD]
    refine kt 23 (bl 32 16777215) rfl (fun w' hR => by obtain ⟨x0, x1, x2, x3, x4, x5, x6⟩ := HX.out w' (by first | exact HK2.out.trans hR | exact HK1.out.trans hR | exact HK0.out.trans hR); go_simp; first | done | with_reducible rfl) rfl ?_
    try simp only [Act.put, pB, pC, pD]
    refine kt 24 (bl 32 33554431) rfl (fun w' hR => by obtain ⟨x0, x1, x2, x3, x4, x5, x6⟩ := HX.out w' (by first | exact HK2.out.trans hR | exact HK1.out.trans hR | exact HK0.out.trans hR); go_simp; first | done | with_reducible rfl) rfl ?_
    try simp only [Act.put, pB, pC, pD]
    refine kt 25 (bl 32 67108863) rfl (fun w' hR => by obtain ⟨x0, x1, x2, x3, x4, x5, x6⟩ := HX.out w' (by first | exact HK2.out.trans hR | exact HK1.out.trans hR | exact HK0.out.trans hR); go_simp; first | done | with_reducible rfl) rfl ?_
    try simp only [Act.put, pB, pC, pD]
    refine kt 26 (bl 32 134217727) rfl (fun w' hR => by obtain ⟨x0, x1, x2, x3, x4, x5, x6⟩ := HX.out w' (by first | exact HK2.out.trans hR | exact HK1.out.trans hR | exact HK0.out.trans hR); go_simp; first | done | with_reducible rfl) rfl ?_
    try simp only [Act.put, pB, pC, pD]
    refine kt 27 (bl 32 268435455) rfl (fun w' hR => by obtain ⟨x0, x1, x2, x3, x4, x5, x6⟩ := HX.out w' (by first | exact HK2.out.trans hR | exact HK1.out.trans hR | exact HK0.out.trans hR); go_simp; first | done | with_reducible rfl) rfl ?_
    try simp only [Act.put, pB, pC, pD]
    refine kt 28 (bl 32 536870911) rfl (fun w' hR => by obtain ⟨x0, x1, x2, x3, x4, x5, x6⟩ := HX.out w' (by first | exact HK2.out.trans hR | exact HK1.out.trans hR | exact HK0.out.trans hR); go_simp; first | done | with_reducible rfl) rfl ?_
    try simp only [Act.put, pB, pC, pD]
    refine kt 29 (bl 32 1073741823) rfl (fun w' hR => by obtain ⟨x0, x1, x2, x3, x4, x5, x6⟩ := HX.out w' (by first | exact HK2.out.trans hR | exact HK1.out.trans hR | exact HK0.out.trans hR); go_simp; first | done | with_reducible rfl) rfl ?_
    try simp only [Act.put, pB, pC, pD]
    refine kt 30 (bl 32 2147483647) rfl (fun w' hR => by obtain ⟨x0, x1, x2, x3, x4, x5, x6⟩ := HX.out w' (by first | exact HK2.out.trans hR | exact HK1.out.trans hR | exact HK0.out.trans hR); go_simp; first | done | with_reducible rfl) rfl ?_
    try simp only [Act.put, pB, pC, pD]
    refine kt 31 (bl 32 4294967295) rfl (fun w' hR => by obtain ⟨x0, x1, x2, x3, x4, x5, x6⟩ := HX.out w' (by first | exact HK2.out.trans hR | exact HK1.out.trans hR | exact HK0.out.trans hR); go_simp; first | done | with_reducible rfl) rfl ?_
    try simp only [Act.put, pB, pC, pD]
    refine rk_done (by kernel_rfl) ?_
    obtain ⟨c0, c1, c2, c3, c4, c5, c6⟩ := HX.out w2 HK2.out
    have HW2 := aM (HA.out.trans ((HK2.out.below (Nat.le_refl _) (fun _ _ h => h)).mono HA.out.size))
    by_cases hl : 3 < args.length
    · go_wp2
      go_ret
      exact ⟨ret_i (by rw [HMORE.out, if_pos hl]), HW2.out⟩
    have HMO := aM (HMORE.out.trans (if_neg hl))
    have hul := HUL.out (by omega)
    have HW2S := aM (show w.heap.size < w2.heap.size by have := HK2.out.size; rw [HSZ.out] at this; omega)
    have hw2s := HW2S.out
    have hg : givesB 3 = true := rfl
    have HG := aM hg
    have hal := HAL0.out
    rw [hg] at hal
    simp only [if_true] at hal
    have hll : L.length ≤ 4 := by rw [hal]; simp; omega
    have HAL := aM hal
    clear hg hal
    go_wp2_with (first | (go_at_call 112; refine (ruses_calls 3 op d a b n args A c _ (Kd.C_below HC.out (HW2.out.alloc HW2.out.size _)) hc).mono ?_; rintro _ w3 ⟨Au, cu, rfl, -, hCu, hb⟩; rw [HU.out] at hCu ⊢; have HCU := aM hCu; have HO0 := aM (Kd.R_mono (Kd.R_lower (Kd.R_bound (Kd.R_below (R_lit0 kI 3 w2) hb)) HW2.out.size) (ok' := fun k => w.heap.size < k) (fun k hk => by have := hk.2.1; have := HW2S.out; omega)); have HW3 := aM ((HW2.out.alloc HW2.out.size _).trans (hb.mono (HW2.out.alloc HW2.out.size _).size)); have HK3 := aM ((HK2.out.alloc (.cells #[] 3)).trans (Keep.of_below hb)); have HW3L := aM (show w.heap.size < w3.heap.size by have h1 := hb.size; simp only [World.size_alloc] at h1; have := HW2S.out; omega); clear c0 c1 c2 c3 c4 c5 c6 hb hCu) | ((with_reducible refine gate_builtin (b := .append) (xs := #[.tmp 48, .tmp 50]) rfl ?_); at_builtin; refine Kd.R_append_rows kI (w0 := w) w.heap.size rfl (.tmp 48) (.tmp 50) 31 3 (.int .i64 0) 8 rfl Try.underlying31 infoI rfl (by decide) (by omega) (.slice (some ⟨w2.heap.size, 0, none⟩) 0 0) ([] : List Int) U _ _ _ (fun k => w.heap.size < k) (fun _ => False) rfl rfl ?aO ?aR (fun _ _ h => h) (fun _ h => h.elim) ?aF ?aB ?aS ?aL ?_; (case aR => exact HCU.out); (case aB => exact HW3.out); (case aF => (intro k hk; have h1 := HK3.out.size; have h2 := HW2S.out; have h3 := HSZ.out; have h4 := HK2.out.size; have h5 := HW3L.out; omega)); (case aO => exact HO0.out); (case aS => exact HW3.out.size); (case aL => (simp only [List.length_nil]; omega)); (intro v4 w4 ho hb1 hg hat; rw [List.nil_append] at ho; obtain ⟨Al, cl, e, hcl⟩ := FIN.out _ _ _ ho; subst e; have HCL := aM hcl; have HO := aM ho; have HW4 := aM hb1; have HK4 := aM (hg.block w.heap.size (by have := HW3L.out; omega) (fun e => by have := HO0.out.1 w.heap.size e.symm; omega)); have HW4L := aM (show w.heap.size < w4.heap.size by have := hg.size; have := HW3L.out; omega); have hw4l := HW4L.out; obtain ⟨c0, c1, c2, c3, c4, c5, c6⟩ := BXC.out w3 w4 HK3.out HK4.out; clear ho hb1 hg hat hcl)) | (go_at_call 114; refine (rgives_calls _ _).mono ?_; rintro _ w9 ⟨rfl, hw9⟩; rw [hw9, HG.out]; clear hw9) | ((with_reducible refine gate_builtin (b := .append) (xs := #[.tmp 55, .tmp 58]) rfl ?_); at_builtin; refine Kd.R_append_rows kI (w0 := w) w.heap.size rfl (.tmp 55) (.tmp 58) 31 3 (.int .i64 0) 8 rfl Try.underlying31 infoI rfl (by decide) (by omega) (.slice Al U.length cl) U [d] _ _ _ (fun k => w.heap.size < k) (fun _ => False) rfl rfl ?aO ?aR (fun _ _ h => h) (fun _ h => h.elim) ?aF ?aB ?aS ?aL ?_; (case aR => exact (C_lit .i64 _ _ [d] 1 rfl (by decide))); (case aB => exact (HW4.out.alloc HW4.out.size _)); (case aF => (intro k hk; (try simp only [World.size_alloc] at hk); have := HW4L.out; omega)); (case aO => exact (Kd.R_below HO.out ((Below.refl _ _).alloc (Nat.le_refl _) _))); (case aS => ((try simp only [World.size_alloc]); have := HW4.out.size; omega)); (case aL => (first | omega | (simp; omega))); (intro v5 w5 ho hb1 hg hat; rw [← HAL.out] at ho; obtain ⟨Al, cl, e, hcl⟩ := FIN.out _ _ _ ho; subst e; have HCL := aM hcl; have HW5 := aM hb1; have HK5 := aM ((hg.block w.heap.size (by (try simp only [World.size_alloc]); have := HW4L.out; omega) (fun e => by have := HO.out.1 w.heap.size e.symm; omega)).trans (heap_alloc_old _ _ HW4L.out)); clear c0 c1 c2 c3 c4 c5 c6; obtain ⟨c0, c1, c2, c3, c4, c5, c6⟩ := BXC.out w3 w5 HK3.out (HK5.out.trans HK4.out); clear ho hb1 hg hat hcl)))
    go_loopw [9] (fun vi wr => wr = w5 ∧ ∃ j : Nat, j ≤ L.length ∧ vi = .int .i64 j ∧ Aside0 ((L.take j).any (outB v) = false)) (fun vi _ => L.length - (intOf vi).toNat)
    case atStart => exact ⟨rfl, 0, by omega, rfl, ⟨by simp⟩⟩
    case round =>
     obtain ⟨rfl, j, hj, rfl, HN⟩ := hrel
     by_cases hjl : j < L.length
     · obtain ⟨x, hx⟩ : ∃ x, L[j]? = some x := ⟨_, List.getElem?_eq_getElem hjl⟩
       obtain ⟨ad, rfl⟩ : ∃ ad, Al = some ad := by obtain ⟨ad, e, _⟩ := HCL.out.2.2 (by omega); exact ⟨ad, e⟩
       have hcx := C_cell HCL.out hx
       have HT := aM (show (L.take (j + 1)).any (outB v) = outB v x by rw [List.take_add_one, hx, List.any_append, HN.out]; simp)
       have HY := aM (show outB v x = true → L.any (outB v) = true from fun h => List.any_eq_true.2 ⟨x, List.mem_of_getElem? hx, h⟩)
       clear hx
       rcases (by omega : x < 0 ∨ (¬ x < 0 ∧ v ≤ x) ∨ (¬ x < 0 ∧ ¬ v ≤ x)) with hx0 | ⟨hx0, hx1⟩ | ⟨hx0, hx1⟩
       · go_wp2
         go_ret
         exact ⟨ret_i (by rw [HMO.out, HY.out (decide_eq_true (.inl hx0)), if_pos rfl, (by first | exact if_pos ht | exact if_neg (by omega) : (if t < 0 then (21 : Int) else 23) = _)]), HW5.out⟩
       · go_wp2
         go_ret
         exact ⟨ret_i (by rw [HMO.out, HY.out (decide_eq_true (.inr hx1)), if_pos rfl, (by first | exact if_pos ht | exact if_neg (by omega) : (if t < 0 then (21 : Int) else 23) = _)]), HW5.out⟩
       · have HN := aM (HT.out.trans (decide_eq_false (by omega)))
         go_wp2
         go_roundw
         case rel => exact ⟨by first | rfl | trivial, j + 1, by omega, by go_num, HN⟩
         case measure => simp [intOf]; omega
     · obtain rfl : j = L.length := by omega
       have hn := HN.out
       rw [List.take_length] at hn
       have HE0 := aM (HMO.out.trans (if_neg (by rw [hn]; exact Bool.false_ne_true)))
       clear hn hjl
       all_goals
        go_wp2
        go_ret
        refine ⟨ret_i ?_, HW5.out⟩
        rw [HE0.out]
        clear HE0 HMO HMORE
        (try simp only [beq_eq_false_iff_ne] at j1 j2)
        (try simp only [true_and, false_and, or_false, false_or])
        first | rfl | exact (if_pos (by omega)).symm | exact (if_neg (by omega)).symm | exact (e24_7 _ _ _ (by omega)).symm | exact (e0_7 _ _ _ (by omega)).symm | exact (e24_8 _ _ _ (by omega)).symm | exact (e0_8 _ _ _ (by omega)).symm | exact (e0_k _ _ _ _ (by omega) (by omega)).symm
 · have d1 := decide_eq_false h1
   have d2 := decide_eq_false h2
   have HMORE := aM (show E = if 3 < args.length then 25 else if (allL (k, op, d, a, b, n, args)).any (outB v) then (if t < 0 then 21 else 23) else if ((k : Int) = 7 ∧ (d < 0 ∨ t ≤ d)) ∨ ((k : Int) = 8 ∧ (a < 0 ∨ t ≤ a)) then 24 else 0 from by
    rw [← HE.out]
    refine rins_more (i := (k, op, d, a, b, n, args)) ?_
    rw [← HM.out]
    simp only [h3, Bool.true_eq_false, false_or]
    simp only [beq_eq_false_iff_ne] at h4; omega)
   have HZP := aM (show zeroB (k, op, d, a, b, n, args) (namesA k) = true from (zero_plain k op d a b n args (by rcases hMr with h | h <;> omega)).trans h3)
   clear h3
   obtain ⟨L, hL⟩ : ∃ L, allL (k, op, d, a, b, n, args) = L := ⟨_, rfl⟩
   obtain ⟨U, hU⟩ : ∃ U, usesL (k, op, d, a, b, n, args) = U := ⟨_, rfl⟩
   have HU := aM hU
   have hal : L = U ++ if givesB k then [d] else [] := by rw [← hL, ← hU]; rfl
   have HUL := aM (show args.length ≤ 3 → U.length ≤ 3 from fun h => by rw [← hU]; exact uses_len _ op d a b n args h)
   rw [hL] at HMORE
   have HAL0 := aM hal
   have FIN := aM (show ∀ (vl : Value) (wz : World) (L : List Int), kI.R 3 wz w.heap.size (fun k => w.heap.size < k) vl L → ∃ (Al : Option Addr) (cl : Nat), vl = .slice Al L.length cl ∧ kI.C wz Al L.length L from fun vl wz L h => by
    obtain ⟨Al, cl, e, -, hC⟩ := Kd.R_reads h
    exact ⟨Al, cl, e, hC⟩)
   clear hL hU hal
   rcases hMr with ⟨ht, rfl⟩ | ⟨ht, rfl⟩
   all_goals
    clear HE HM HBAD hbx ht3
    go_enter Try.func122, Try.ntmps122
    go_wp2_with fail
    refine rk_start (fun _ => False) (by kernel_rfl) (n := 32) (l := (bl 32 0)) (by kernel_rfl) (by kernel_rfl) ?_
    refine kt 0 (bl 32 1) rfl (fun w' hR => by obtain ⟨x0, x1, x2, x3, x4, x5, x6⟩ := HX.out w' (by first | exact HK2.out.trans hR | exact HK1.out.trans hR | exact HK0.out.trans hR); go_simp; first | done | with_reducible rfl) rfl ?_
    try simp only [Act.put, pB, pC, pD]
    refine kt 1 (bl 32 3) rfl (fun w' hR => by obtain ⟨x0, x1, x2, x3, x4, x5, x6⟩ := HX.out w' (by first | exact HK2.out.trans hR | exact HK1.out.trans hR | exact HK0.out.trans hR); go_simp; first | done | with_reducible rfl) rfl ?_
    try simp only [Act.put, pB, pC, pD]
    refine kt 2 (bl 32 7) rfl (fun w' hR => by obtain ⟨x0, x1, x2, x3, x4, x5, x6⟩ := HX.out w' (by first | exact HK2.out.trans hR | exact HK1.out.trans hR | exact HK0.out.trans hR); go_simp; first | done | with_reducible rfl) rfl ?_
    try simp only [Act.put, pB, pC, pD]
    refine kt 3 (bl 32 15) rfl (fun w' hR => by obtain ⟨x0, x1, x2, x3, x4, x5, x6⟩ := HX.out w' (by first | exact HK2.out.trans hR | exact HK1.out.trans hR | exact HK0.out.trans hR); go_simp; first | done | with_reducible rfl) rfl ?_
    try simp only [Act.put, pB, pC, pD]
    refine kt 4 (bl 32 31) rfl (fun w' hR => by obtain ⟨x0, x1, x2, x3, x4, x5, x6⟩ := HX.out w' (by first | exact HK2.out.trans hR | exact HK1.out.trans hR | exact HK0.out.trans hR); go_simp; first | done | with_reducible rfl) rfl ?_
    try simp only [Act.put, pB, pC, pD]
    refine kt 5 (bl 32 63) rfl (fun w' hR => by obtain ⟨x0, x1, x2, x3, x4, x5, x6⟩ := HX.out w' (by first | exact HK2.out.trans hR | exact HK1.out.trans hR | exact HK0.out.trans hR); go_simp; first | done | with_reducible rfl) rfl ?_
    try simp only [Act.put, pB, pC, pD]
    refine kt 6 (bl 32 127) rfl (fun w' hR => by obtain ⟨x0, x1, x2, x3, x4, x5, x6⟩ := HX.out w' (by first | exact HK2.out.trans hR | exact HK1.out.trans hR | exact HK0.out.trans hR); go_simp; first | done | with_reducible rfl) rfl ?_
    try simp only [Act.put, pB, pC, pD]
    refine kt 7 (bl 32 255) rfl (fun w' hR => by obtain ⟨x0, x1, x2, x3, x4, x5, x6⟩ := HX.out w' (by first | exact HK2.out.trans hR | exact HK1.out.trans hR | exact HK0.out.trans hR); go_simp; first | done | with_reducible rfl) rfl ?_
    try simp only [Act.put, pB, pC, pD]
    refine kt 8 (bl 32 511) rfl (fun w' hR => by obtain ⟨x0, x1, x2, x3, x4, x5, x6⟩ := HX.out w' (by first | exact HK2.out.trans hR | exact HK1.out.trans hR | exact HK0.out.trans hR); go_simp; first | done | with_reducible rfl) rfl ?_
    try simp only [Act.put, pB, pC, pD]
    refine kt 9 (bl 32 1023) rfl (fun w' hR => by obtain ⟨x0, x1, x2, x3, x4, x5, x6⟩ := HX.out w' (by first | exact HK2.out.trans hR | exact HK1.out.trans hR | exact HK0.out.trans hR); go_simp; first | done | with_reducible rfl) rfl ?_
    try simp only [Act.put, pB, pC, pD]
    refine kt 10 (bl 32 2047) rfl (fun w' hR => by obtain ⟨x0, x1, x2, x3, x4, x5, x6⟩ := HX.out w' (by first | exact HK2.out.trans hR | exact HK1.out.trans hR | exact HK0.out.trans hR); go_simp; first | done | with_reducible rfl) rfl ?_
    try simp only [Act.put, pB, pC, pD]
    refine kt 11 (bl 32 4095) rfl (fun w' hR => by obtain ⟨x0, x1, x2, x3, x4, x5, x6⟩ := HX.out w' (by first | exact HK2.out.trans hR | exact HK1.out.trans hR | exact HK0.out.trans hR); go_simp; first | done | with_reducible rfl) rfl ?_
    try simp only [Act.put, pB, pC, pD]
    refine kt 12 (bl 32 8191) rfl (fun w' hR => by obtain ⟨x0, x1, x2, x3, x4, x5, x6⟩ := HX.out w' (by first | exact HK2.out.trans hR | exact HK1.out.trans hR | exact HK0.out.trans hR); go_simp; first | done | with_reducible rfl) rfl ?_
    try simp only [Act.put, pB, pC, pD]
    refine rk_step (fuel := 18) 13 rfl (by kernel_rfl) (listed' := (bl 32 16383)) (by kernel_rfl) (by kernel_rfl) (fun K' hK => ?_)
    go_wp2_with (go_at_call 124; refine (names_calls k _ ⟨by omega, by omega⟩).mono ?_; rintro _ w1 ⟨rfl, hb⟩; have HB1 := aM hb; have HK1 := aM (HK0.out.trans (Keep.of_below hb)); clear hb)
    refine hK.out _ _ (Keep.of_below HB1.out) ?_
    clear hK K'
    try simp only [Act.put, pB, pC, pD]
    refine rk_step (fuel := 17) 14 rfl (by kernel_rfl) (listed' := (bl 32 32767)) (by kernel_rfl) (by kernel_rfl) (fun K' hK => ?_)
    go_wp2_with (go_at_call 143; refine (zero_calls k op d a b n args A c (namesA k) (names_small k) w1).mono ?_; rintro _ w2 ⟨rfl, hb⟩; rw [HZP.out]; have HB2 := aM hb; have HK2 := aM (HK1.out.trans (Keep.of_below hb)); clear hb)
    refine hK.out _ _ (Keep.of_below HB2.out) ?_
    clear hK K'
    try simp only [Act.put, pB, pC, pD]
    refine kt 15 (bl 32 65535) rfl (fun w' hR => by obtain ⟨x0, x1, x2, x3, x4, x5, x6⟩ := HX.out w' (by first | exact HK2.out.trans hR | exact HK1.out.trans hR | exact HK0.out.trans hR); go_simp; first | done | with_reducible rfl) rfl ?_
    try simp only [Act.put, pB, pC, pD]
    refine kt 16 (bl 32 131071) rfl (fun w' hR => by obtain ⟨x0, x1, x2, x3, x4, x5, x6⟩ := HX.out w' (by first | exact HK2.out.trans hR | exact HK1.out.trans hR | exact HK0.out.trans hR); go_simp; first | done | with_reducible rfl) rfl ?_
    try simp only [Act.put, pB, pC, pD]
    refine kt 17 (bl 32 262143) rfl (fun w' hR => by obtain ⟨x0, x1, x2, x3, x4, x5, x6⟩ := HX.out w' (by first | exact HK2.out.trans hR | exact HK1.out.trans hR | exact HK0.out.trans hR); go_simp; first | done | with_reducible rfl) rfl ?_
    try simp only [Act.put, pB, pC, pD]
    refine kt 18 (bl 32 524287) rfl (fun w' hR => by obtain ⟨x0, x1, x2, x3, x4, x5, x6⟩ := HX.out w' (by first | exact HK2.out.trans hR | exact HK1.out.trans hR | exact HK0.out.trans hR); go_simp; first | done | with_reducible rfl) rfl ?_
    try simp only [Act.put, pB, pC, pD]
    refine kt 19 (bl 32 1048575) rfl (fun w' hR => by obtain ⟨x0, x1, x2, x3, x4, x5, x6⟩ := HX.out w' (by first | exact HK2.out.trans hR | exact HK1.out.trans hR | exact HK0.out.trans hR); go_simp; first | done | with_reducible rfl) rfl ?_
    try simp only [Act.put, pB, pC, pD]
    refine kt 20 (bl 32 2097151) rfl (fun w' hR => by obtain ⟨x0, x1, x2, x3, x4, x5, x6⟩ := HX.out w' (by first | exact HK2.out.trans hR | exact HK1.out.trans hR | exact HK0.out.trans hR); go_simp; first | done | with_reducible rfl) rfl ?_
    try simp only [Act.put, pB, pC, pD]
    refine kt 21 (bl 32 4194303) rfl (fun w' hR => by obtain ⟨x0, x1, x2, x3, x4, x5, x6⟩ := HX.out w' (by first | exact HK2.out.trans hR | exact HK1.out.trans hR | exact HK0.out.trans hR); go_simp; first | done | with_reducible rfl) rfl ?_
    try simp only [Act.put, pB, pC, pD]
    refine kz 22 (bl 32 8388607) rfl rfl ?_
    try simp only [Act.put, pB, pC, pD]
    refine kz 23 (bl 32 16777215) rfl rfl ?_
    try simp only [Act.put, pB, pC, pD]
    refine kz 24 (bl 32 33554431) rfl rfl ?_
    try simp only [Act.put, pB, pC, pD]
    refine kz 25 (bl 32 67108863) rfl rfl ?_
    try simp only [Act.put, pB, pC, pD]
    refine kz 26 (bl 32 134217727) rfl rfl ?_
    try simp only [Act.put, pB, pC, pD]
    refine kz 27 (bl 32 268435455) rfl rfl ?_
    try simp only [Act.put, pB, pC, pD]
    refine kz 28 (bl 32 536870911) rfl rfl ?_
    try simp only [Act.put, pB, pC, pD]
    refine kz 29 (bl 32 1073741823) rfl rfl ?_
    try simp only [Act.put, pB, pC, pD]
    refine kt 30 (bl 32 2147483647) rfl (fun w' hR => by obtain ⟨x0, x1, x2, x3, x4, x5, x6⟩ := HX.out w' (by first | exact HK2.out.trans hR | exact HK1.out.trans hR | exact HK0.out.trans hR); go_simp; first | done | with_reducible rfl) rfl ?_
    try simp only [Act.put, pB, pC, pD]
    refine kt 31 (bl 32 4294967295) rfl (fun w' hR => by obtain ⟨x0, x1, x2, x3, x4, x5, x6⟩ := HX.out w' (by first | exact HK2.out.trans hR | exact HK1.out.trans hR | exact HK0.out.trans hR); go_simp; first | done | with_reducible rfl) rfl ?_
    try simp only [Act.put, pB, pC, pD]
    refine rk_done (by kernel_rfl) ?_
    obtain ⟨c0, c1, c2, c3, c4, c5, c6⟩ := HX.out w2 HK2.out
    have HW2 := aM (HA.out.trans ((HK2.out.below (Nat.le_refl _) (fun _ _ h => h)).mono HA.out.size))
    by_cases hl : 3 < args.length
    · go_wp2
      go_ret
      exact ⟨ret_i (by rw [HMORE.out, if_pos hl]), HW2.out⟩
    have HMO := aM (HMORE.out.trans (if_neg hl))
    have hul := HUL.out (by omega)
    have HW2S := aM (show w.heap.size < w2.heap.size by have := HK2.out.size; rw [HSZ.out] at this; omega)
    have hw2s := HW2S.out
    cases hg : givesB k with
    | false =>
     have HG := aM hg
     have hal := HAL0.out
     rw [hg] at hal
     simp only [Bool.false_eq_true, if_false, List.append_nil] at hal
     have HMO := aM (by have h := HMO.out; rw [hal] at h; exact h)
     have hll : U.length ≤ 4 := by omega
     clear hg hal
     go_wp2_with (first | (go_at_call 112; refine (ruses_calls k op d a b n args A c _ (Kd.C_below HC.out (HW2.out.alloc HW2.out.size _)) hc).mono ?_; rintro _ w3 ⟨Au, cu, rfl, -, hCu, hb⟩; rw [HU.out] at hCu ⊢; have HCU := aM hCu; have HO0 := aM (Kd.R_mono (Kd.R_lower (Kd.R_bound (Kd.R_below (R_lit0 kI 3 w2) hb)) HW2.out.size) (ok' := fun k => w.heap.size < k) (fun k hk => by have := hk.2.1; have := HW2S.out; omega)); have HW3 := aM ((HW2.out.alloc HW2.out.size _).trans (hb.mono (HW2.out.alloc HW2.out.size _).size)); have HK3 := aM ((HK2.out.alloc (.cells #[] 3)).trans (Keep.of_below hb)); have HW3L := aM (show w.heap.size < w3.heap.size by have h1 := hb.size; simp only [World.size_alloc] at h1; have := HW2S.out; omega); clear c0 c1 c2 c3 c4 c5 c6 hb hCu) | ((with_reducible refine gate_builtin (b := .append) (xs := #[.tmp 48, .tmp 50]) rfl ?_); at_builtin; refine Kd.R_append_rows kI (w0 := w) w.heap.size rfl (.tmp 48) (.tmp 50) 31 3 (.int .i64 0) 8 rfl Try.underlying31 infoI rfl (by decide) (by omega) (.slice (some ⟨w2.heap.size, 0, none⟩) 0 0) ([] : List Int) U _ _ _ (fun k => w.heap.size < k) (fun _ => False) rfl rfl ?aO ?aR (fun _ _ h => h) (fun _ h => h.elim) ?aF ?aB ?aS ?aL ?_; (case aR => exact HCU.out); (case aB => exact HW3.out); (case aF => (intro k hk; have h1 := HK3.out.size; have h2 := HW2S.out; have h3 := HSZ.out; have h4 := HK2.out.size; have h5 := HW3L.out; omega)); (case aO => exact HO0.out); (case aS => exact HW3.out.size); (case aL => (simp only [List.length_nil]; omega)); (intro v4 w4 ho hb1 hg hat; rw [List.nil_append] at ho; obtain ⟨Al, cl, e, hcl⟩ := FIN.out _ _ _ ho; subst e; have HCL := aM hcl; have HO := aM ho; have HW4 := aM hb1; have HK4 := aM (hg.block w.heap.size (by have := HW3L.out; omega) (fun e => by have := HO0.out.1 w.heap.size e.symm; omega)); have HW4L := aM (show w.heap.size < w4.heap.size by have := hg.size; have := HW3L.out; omega); have hw4l := HW4L.out; obtain ⟨c0, c1, c2, c3, c4, c5, c6⟩ := BXC.out w3 w4 HK3.out HK4.out; clear ho hb1 hg hat hcl)) | (go_at_call 114; refine (rgives_calls _ _).mono ?_; rintro _ w9 ⟨rfl, hw9⟩; rw [hw9, HG.out]; clear hw9))
     go_loopw [9] (fun vi wr => wr = w4 ∧ ∃ j : Nat, j ≤ U.length ∧ vi = .int .i64 j ∧ Aside0 ((U.take j).any (outB v) = false)) (fun vi _ => U.length - (intOf vi).toNat)
     case atStart => exact ⟨rfl, 0, by omega, rfl, ⟨by simp⟩⟩
     case round =>
      obtain ⟨rfl, j, hj, rfl, HN⟩ := hrel
      by_cases hjl : j < U.length
      · obtain ⟨x, hx⟩ : ∃ x, U[j]? = some x := ⟨_, List.getElem?_eq_getElem hjl⟩
        obtain ⟨ad, rfl⟩ : ∃ ad, Al = some ad := by obtain ⟨ad, e, _⟩ := HCL.out.2.2 (by omega); exact ⟨ad, e⟩
        have hcx := C_cell HCL.out hx
        have HT := aM (show (U.take (j + 1)).any (outB v) = outB v x by rw [List.take_add_one, hx, List.any_append, HN.out]; simp)
        have HY := aM (show outB v x = true → U.any (outB v) = true from fun h => List.any_eq_true.2 ⟨x, List.mem_of_getElem? hx, h⟩)
        clear hx
        rcases (by omega : x < 0 ∨ (¬ x < 0 ∧ v ≤ x) ∨ (¬ x < 0 ∧ ¬ v ≤ x)) with hx0 | ⟨hx0, hx1⟩ | ⟨hx0, hx1⟩
        · go_wp2
          go_ret
          exact ⟨ret_i (by rw [HMO.out, HY.out (decide_eq_true (.inl hx0)), if_pos rfl, (by first | exact if_pos ht | exact if_neg (by omega) : (if t < 0 then (21 : Int) else 23) = _)]), HW4.out⟩
        · go_wp2
          go_ret
          exact ⟨ret_i (by rw [HMO.out, HY.out (decide_eq_true (.inr hx1)), if_pos rfl, (by first | exact if_pos ht | exact if_neg (by omega) : (if t < 0 then (21 : Int) else 23) = _)]), HW4.out⟩
        · have HN := aM (HT.out.trans (decide_eq_false (by omega)))
          go_wp2
          go_roundw
          case rel => exact ⟨by first | rfl | trivial, j + 1, by omega, by go_num, HN⟩
          case measure => simp [intOf]; omega
      · obtain rfl : j = U.length := by omega
        have hn := HN.out
        rw [List.take_length] at hn
        have HE0 := aM (HMO.out.trans (if_neg (by rw [hn]; exact Bool.false_ne_true)))
        clear hn hjl
        rcases (by simp only [beq_eq_false_iff_ne]; omega : (k = 7 ∧ d < 0) ∨ (k = 7 ∧ ¬ d < 0 ∧ t ≤ d) ∨ (k = 7 ∧ ¬ d < 0 ∧ ¬ t ≤ d) ∨ (k = 8 ∧ a < 0) ∨ (k = 8 ∧ ¬ a < 0 ∧ t ≤ a) ∨ (k = 8 ∧ ¬ a < 0 ∧ ¬ t ≤ a) ∨ ((k == 7) = false ∧ (k == 8) = false)) with ⟨rfl, j1⟩ | ⟨rfl, j1, j2⟩ | ⟨rfl, j1, j2⟩ | ⟨rfl, j1⟩ | ⟨rfl, j1, j2⟩ | ⟨rfl, j1, j2⟩ | ⟨j1, j2⟩
        all_goals (try (exfalso; revert d2; decide))
        all_goals
         go_wp2
         go_ret
         refine ⟨ret_i ?_, HW4.out⟩
         rw [HE0.out]
         clear HE0 HMO HMORE
         (try simp only [beq_eq_false_iff_ne] at j1 j2)
         (try simp only [true_and, false_and, or_false, false_or])
         first | rfl | exact (if_pos (by omega)).symm | exact (if_neg (by omega)).symm | exact (e24_7 _ _ _ (by omega)).symm | exact (e0_7 _ _ _ (by omega)).symm | exact (e24_8 _ _ _ (by omega)).symm | exact (e0_8 _ _ _ (by omega)).symm | exact (e0_k _ _ _ _ (by omega) (by omega)).symm
    | true =>
     have HG := aM hg
     have hal := HAL0.out
     rw [hg] at hal
     simp only [if_true] at hal
     have hll : L.length ≤ 4 := by rw [hal]; simp; omega
     have HAL := aM hal
     clear hg hal
     go_wp2_with (first | (go_at_call 112; refine (ruses_calls k op d a b n args A c _ (Kd.C_below HC.out (HW2.out.alloc HW2.out.size _)) hc).mono ?_; rintro _ w3 ⟨Au, cu, rfl, -, hCu, hb⟩; rw [HU.out] at hCu ⊢; have HCU := aM hCu; have HO0 := aM (Kd.R_mono (Kd.R_lower (Kd.R_bound (Kd.R_below (R_lit0 kI 3 w2) hb)) HW2.out.size) (ok' := fun k => w.heap.size < k) (fun k hk => by have := hk.2.1; have := HW2S.out; omega)); have HW3 := aM ((HW2.out.alloc HW2.out.size _).trans (hb.mono (HW2.out.alloc HW2.out.size _).size)); have HK3 := aM ((HK2.out.alloc (.cells #[] 3)).trans (Keep.of_below hb)); have HW3L := aM (show w.heap.size < w3.heap.size by have h1 := hb.size; simp only [World.size_alloc] at h1; have := HW2S.out; omega); clear c0 c1 c2 c3 c4 c5 c6 hb hCu) | ((with_reducible refine gate_builtin (b := .append) (xs := #[.tmp 48, .tmp 50]) rfl ?_); at_builtin; refine Kd.R_append_rows kI (w0 := w) w.heap.size rfl (.tmp 48) (.tmp 50) 31 3 (.int .i64 0) 8 rfl Try.underlying31 infoI rfl (by decide) (by omega) (.slice (some ⟨w2.heap.size, 0, none⟩) 0 0) ([] : List Int) U _ _ _ (fun k => w.heap.size < k) (fun _ => False) rfl rfl ?aO ?aR (fun _ _ h => h) (fun _ h => h.elim) ?aF ?aB ?aS ?aL ?_; (case aR => exact HCU.out); (case aB => exact HW3.out); (case aF => (intro k hk; have h1 := HK3.out.size; have h2 := HW2S.out; have h3 := HSZ.out; have h4 := HK2.out.size; have h5 := HW3L.out; omega)); (case aO => exact HO0.out); (case aS => exact HW3.out.size); (case aL => (simp only [List.length_nil]; omega)); (intro v4 w4 ho hb1 hg hat; rw [List.nil_append] at ho; obtain ⟨Al, cl, e, hcl⟩ := FIN.out _ _ _ ho; subst e; have HCL := aM hcl; have HO := aM ho; have HW4 := aM hb1; have HK4 := aM (hg.block w.heap.size (by have := HW3L.out; omega) (fun e => by have := HO0.out.1 w.heap.size e.symm; omega)); have HW4L := aM (show w.heap.size < w4.heap.size by have := hg.size; have := HW3L.out; omega); have hw4l := HW4L.out; obtain ⟨c0, c1, c2, c3, c4, c5, c6⟩ := BXC.out w3 w4 HK3.out HK4.out; clear ho hb1 hg hat hcl)) | (go_at_call 114; refine (rgives_calls _ _).mono ?_; rintro _ w9 ⟨rfl, hw9⟩; rw [hw9, HG.out]; clear hw9) | ((with_reducible refine gate_builtin (b := .append) (xs := #[.tmp 55, .tmp 58]) rfl ?_); at_builtin; refine Kd.R_append_rows kI (w0 := w) w.heap.size rfl (.tmp 55) (.tmp 58) 31 3 (.int .i64 0) 8 rfl Try.underlying31 infoI rfl (by decide) (by omega) (.slice Al U.length cl) U [d] _ _ _ (fun k => w.heap.size < k) (fun _ => False) rfl rfl ?aO ?aR (fun _ _ h => h) (fun _ h => h.elim) ?aF ?aB ?aS ?aL ?_; (case aR => exact (C_lit .i64 _ _ [d] 1 rfl (by decide))); (case aB => exact (HW4.out.alloc HW4.out.size _)); (case aF => (intro k hk; (try simp only [World.size_alloc] at hk); have := HW4L.out; omega)); (case aO => exact (Kd.R_below HO.out ((Below.refl _ _).alloc (Nat.le_refl _) _))); (case aS => ((try simp only [World.size_alloc]); have := HW4.out.size; omega)); (case aL => (first | omega | (simp; omega))); (intro v5 w5 ho hb1 hg hat; rw [← HAL.out] at ho; obtain ⟨Al, cl, e, hcl⟩ := FIN.out _ _ _ ho; subst e; have HCL := aM hcl; have HW5 := aM hb1; have HK5 := aM ((hg.block w.heap.size (by (try simp only [World.size_alloc]); have := HW4L.out; omega) (fun e => by have := HO.out.1 w.heap.size e.symm; omega)).trans (heap_alloc_old _ _ HW4L.out)); clear c0 c1 c2 c3 c4 c5 c6; obtain ⟨c0, c1, c2, c3, c4, c5, c6⟩ := BXC.out w3 w5 HK3.out (HK5.out.trans HK4.out); clear ho hb1 hg hat hcl)))
     go_loopw [9] (fun vi wr => wr = w5 ∧ ∃ j : Nat, j ≤ L.length ∧ vi = .int .i64 j ∧ Aside0 ((L.take j).any (outB v) = false)) (fun vi _ => L.length - (intOf vi).toNat)
     case atStart => exact ⟨rfl, 0, by omega, rfl, ⟨by simp⟩⟩
     case round =>
      obtain ⟨rfl, j, hj, rfl, HN⟩ := hrel
      by_cases hjl : j < L.length
      · obtain ⟨x, hx⟩ : ∃ x, L[j]? = some x := ⟨_, List.getElem?_eq_getElem hjl⟩
        obtain ⟨ad, rfl⟩ : ∃ ad, Al = some ad := by obtain ⟨ad, e, _⟩ := HCL.out.2.2 (by omega); exact ⟨ad, e⟩
        have hcx := C_cell HCL.out hx
        have HT := aM (show (L.take (j + 1)).any (outB v) = outB v x by rw [List.take_add_one, hx, List.any_append, HN.out]; simp)
        have HY := aM (show outB v x = true → L.any (outB v) = true from fun h => List.any_eq_true.2 ⟨x, List.mem_of_getElem? hx, h⟩)
        clear hx
        rcases (by omega : x < 0 ∨ (¬ x < 0 ∧ v ≤ x) ∨ (¬ x < 0 ∧ ¬ v ≤ x)) with hx0 | ⟨hx0, hx1⟩ | ⟨hx0, hx1⟩
        · go_wp2
          go_ret
          exact ⟨ret_i (by rw [HMO.out, HY.out (decide_eq_true (.inl hx0)), if_pos rfl, (by first | exact if_pos ht | exact if_neg (by omega) : (if t < 0 then (21 : Int) else 23) = _)]), HW5.out⟩
        · go_wp2
          go_ret
          exact ⟨ret_i (by rw [HMO.out, HY.out (decide_eq_true (.inr hx1)), if_pos rfl, (by first | exact if_pos ht | exact if_neg (by omega) : (if t < 0 then (21 : Int) else 23) = _)]), HW5.out⟩
        · have HN := aM (HT.out.trans (decide_eq_false (by omega)))
          go_wp2
          go_roundw
          case rel => exact ⟨by first | rfl | trivial, j + 1, by omega, by go_num, HN⟩
          case measure => simp [intOf]; omega
      · obtain rfl : j = L.length := by omega
        have hn := HN.out
        rw [List.take_length] at hn
        have HE0 := aM (HMO.out.trans (if_neg (by rw [hn]; exact Bool.false_ne_true)))
        clear hn hjl
        rcases (by simp only [beq_eq_false_iff_ne]; omega : (k = 7 ∧ d < 0) ∨ (k = 7 ∧ ¬ d < 0 ∧ t ≤ d) ∨ (k = 7 ∧ ¬ d < 0 ∧ ¬ t ≤ d) ∨ (k = 8 ∧ a < 0) ∨ (k = 8 ∧ ¬ a < 0 ∧ t ≤ a) ∨ (k = 8 ∧ ¬ a < 0 ∧ ¬ t ≤ a) ∨ ((k == 7) = false ∧ (k == 8) = false)) with ⟨rfl, j1⟩ | ⟨rfl, j1, j2⟩ | ⟨rfl, j1, j2⟩ | ⟨rfl, j1⟩ | ⟨rfl, j1, j2⟩ | ⟨rfl, j1, j2⟩ | ⟨j1, j2⟩
        all_goals (try (exfalso; revert d2; decide))
        all_goals
         go_wp2
         go_ret
         refine ⟨ret_i ?_, HW5.out⟩
         rw [HE0.out]
         clear HE0 HMO HMORE
         (try simp only [beq_eq_false_iff_ne] at j1 j2)
         (try simp only [true_and, false_and, or_false, false_or])
         first | rfl | exact (if_pos (by omega)).symm | exact (if_neg (by omega)).symm | exact (e24_7 _ _ _ (by omega)).symm | exact (e0_7 _ _ _ (by omega)).symm | exact (e24_8 _ _ _ (by omega)).symm | exact (e0_8 _ _ _ (by omega)).symm | exact (e0_k _ _ _ _ (by omega) (by omega)).symm
end Go.Proofs.Ytnckonglodmfeaa.Ik
