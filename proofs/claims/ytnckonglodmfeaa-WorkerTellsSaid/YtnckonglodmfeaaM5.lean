/- Contracts and plain facts that the statements' proofs use (part 5). -/
import Derived.Test.YtnckonglodmfeaaM2
import Derived.Test.YtnckonglodmfeaaM3
import Derived.Test.YtnckonglodmfeaaM4
import Derived.Handy
set_option linter.unusedVariables false
set_option linter.unusedSimpArgs false
namespace Go.Proofs.Ytnckonglodmfeaa.Ik
open Ls Lc Go.RowKit Go.Proofs.YtnckonglodmfeaaW.PrintWords Go.Proofs.YtnckonglodmfeaaW.PrintLast Go.Proofs.YtnckonglodmfeaaW.PrintMore B R S Is
theorem nums_lit (g : Nat) (l ns : List Int) (N : Nat) (hN : ns.length = N) (w : World) (gb : Nat) (hW : Wtr w g l) (hgb : gb = w.heap.size) (hll : l.length + 10 * N ≤ 100000000) :
 Calls Try.prog 86 #[.pointer (some ⟨g, 0, none⟩), .slice (some ⟨gb, 0, none⟩) N N] (w.alloc (.cells (ns.map (Value.int .i64)).toArray 3)) fun r w' => r = .returned (.tuple #[]) ∧ ∃ m, m = l ++ fieldsL ns ∧ m.length ≤ l.length + 10 * N ∧ Wtr w' g m ∧ Keep (· = g) w w' := by
 subst hN hgb
 have hlt := hW.lt
 refine (nums_calls g l ns (some ⟨w.heap.size, 0, none⟩) ns.length _ (hW.keep ((Below.refl _ _).alloc (Nat.le_refl _) _)) (C_lit .i64 _ _ ns ns.length rfl (by simp [maxLen]; omega)) (fun _ a e => by injection e with e; subst e; show w.heap.size ≠ g; omega) hll).mono ?_
 rintro r w' ⟨h1, h2, h3⟩
 exact ⟨h1, _, rfl, by rw [List.length_append]; have := fields_len ns; omega, h2, ((Keep.refl _ _).alloc _).trans h3⟩
theorem box_keep {w W' : World} {g : Nat} {k op d a b n : Int} {s : Value} {e : Nat} (hg : g < w.heap.size) (h : Keep (· = g) (w.alloc (.cells #[.int .u8 k, .int .u8 op, .int .i64 d, .int .i64 a, .int .i64 b, .int .i64 n, s] e)) W') : BoxC W' w.heap.size k op d a b n s := by
 have h := (h.block w.heap.size (by rw [World.size_alloc]; omega) (fun e => by have e : w.heap.size = g := e; omega)).trans (heap_alloc_new w _)
 exact ⟨cell_at h 0 _ rfl, cell_at h 1 _ rfl, cell_at h 2 _ rfl, cell_at h 3 _ rfl, cell_at h 4 _ rfl, cell_at h 5 _ rfl, cell_at h 6 _ rfl⟩
set_option maxHeartbeats 1000000 in
set_option maxRecDepth 100000 in
theorem wins2 (g : Nat) (l : List Int) (k op d a b n : Int) (args : List Int) (A : Option Addr) (c : Nat) (w : World) (hW : Wtr w g l) (hC : kI.C w A args.length args) (hA : 0 < args.length → ∀ a, A = some a → a.block ≠ g) (hr : InsR (k, op, d, a, b, n, args)) (hll : l.length ≤ 10000000) (hal : args.length ≤ 100000) (hkk : k = 2) :
 Calls Try.prog 120 #[.pointer (some ⟨g, 0, none⟩), .agg #[.int .u8 k, .int .u8 op, .int .i64 d, .int .i64 a, .int .i64 b, .int .i64 n, .slice A args.length c]] w fun r w' => r = .returned (.tuple #[]) ∧ Wtr w' g (l ++ insL (k, op, d, a, b, n, args)) ∧ Keep (· = g) w w' := by
 have mixed : Try.prog.follows .mixedOrders = true := by kernel_rfl
 have HX := aM (fun W' h => box_keep (w := w) (W' := W') (g := g) (k := k) (op := op) (d := d) (a := a) (b := b) (n := n) (s := .slice A args.length c) (e := 92) hW.lt h)
 have HA := aM ((Keep.refl (· = g) w).alloc (.cells #[.int .u8 k, .int .u8 op, .int .i64 d, .int .i64 a, .int .i64 b, .int .i64 n, .slice A args.length c] 92))
 have HK := aM (Keep.refl (· = g) (w.alloc (.cells #[.int .u8 k, .int .u8 op, .int .i64 d, .int .i64 a, .int .i64 b, .int .i64 n, .slice A args.length c] 92)))
 have HW0 := aM (hW.keep ((Below.refl _ _).alloc (Nat.le_refl _) (.cells #[.int .u8 k, .int .u8 op, .int .i64 d, .int .i64 a, .int .i64 b, .int .i64 n, .slice A args.length c] 92)))
 have HC := aM (hC : kI.C w A args.length args)
 have HAB := aM hA
 obtain ⟨hk, hop, -, -, -, hn, -⟩ := hr
 simp only [U8, I64] at hk hop hn
 clear hW hC hA
 subst hkk
 go_enter Try.func120, Try.ntmps120
 go_wp2_with (first | (have HWc := HW0; clear HW0; go_at_call 86; refine (nums_lit g l [2] 1 rfl _ _ HWc.out (by first | rfl | exact (World.size_alloc _ _).symm) (by omega)).mono ?_; rintro _ w1 ⟨rfl, m1, hm, hml_1, hw, hk⟩; have HE_1 := aM hm; have HK := aM (HK.out.trans hk); obtain ⟨c0, c1, c2, c3, c4, c5, c6⟩ := HX.out w1 HK.out; have HW1 := aM hw; clear hm hw hk HWc) | (have HWc := HW1; clear HW1; go_at_call 86; refine (nums_lit g m1 [d, a] 2 rfl _ _ HWc.out (by first | rfl | exact (World.size_alloc _ _).symm) (by omega)).mono ?_; rintro _ w1 ⟨rfl, m2, hm, hml_2, hw, hk⟩; have HE_2 := aM hm; clear c0 c1 c2 c3 c4 c5 c6; have HK := aM (HK.out.trans hk); obtain ⟨c0, c1, c2, c3, c4, c5, c6⟩ := HX.out w1 HK.out; have HW2 := aM hw; clear hm hw hk HWc))
 go_returns
 refine ⟨rfl, ?_, HA.out.trans HK.out⟩
 have h := HW2.out
 rw [HE_2.out, HE_1.out] at h
 simpa [fieldsL, insL, List.append_assoc] using h
set_option maxHeartbeats 1000000 in
set_option maxRecDepth 100000 in
theorem wins4 (g : Nat) (l : List Int) (k op d a b n : Int) (args : List Int) (A : Option Addr) (c : Nat) (w : World) (hW : Wtr w g l) (hC : kI.C w A args.length args) (hA : 0 < args.length → ∀ a, A = some a → a.block ≠ g) (hr : InsR (k, op, d, a, b, n, args)) (hll : l.length ≤ 10000000) (hal : args.length ≤ 100000) (hkk : k = 4) :
 Calls Try.prog 120 #[.pointer (some ⟨g, 0, none⟩), .agg #[.int .u8 k, .int .u8 op, .int .i64 d, .int .i64 a, .int .i64 b, .int .i64 n, .slice A args.length c]] w fun r w' => r = .returned (.tuple #[]) ∧ Wtr w' g (l ++ insL (k, op, d, a, b, n, args)) ∧ Keep (· = g) w w' := by
 have mixed : Try.prog.follows .mixedOrders = true := by kernel_rfl
 have HX := aM (fun W' h => box_keep (w := w) (W' := W') (g := g) (k := k) (op := op) (d := d) (a := a) (b := b) (n := n) (s := .slice A args.length c) (e := 92) hW.lt h)
 have HA := aM ((Keep.refl (· = g) w).alloc (.cells #[.int .u8 k, .int .u8 op, .int .i64 d, .int .i64 a, .int .i64 b, .int .i64 n, .slice A args.length c] 92))
 have HK := aM (Keep.refl (· = g) (w.alloc (.cells #[.int .u8 k, .int .u8 op, .int .i64 d, .int .i64 a, .int .i64 b, .int .i64 n, .slice A args.length c] 92)))
 have HW0 := aM (hW.keep ((Below.refl _ _).alloc (Nat.le_refl _) (.cells #[.int .u8 k, .int .u8 op, .int .i64 d, .int .i64 a, .int .i64 b, .int .i64 n, .slice A args.length c] 92)))
 have HC := aM (hC : kI.C w A args.length args)
 have HAB := aM hA
 obtain ⟨hk, hop, -, -, -, hn, -⟩ := hr
 simp only [U8, I64] at hk hop hn
 clear hW hC hA
 subst hkk
 go_enter Try.func120, Try.ntmps120
 go_wp2_with (first | (have HWc := HW0; clear HW0; go_at_call 86; refine (nums_lit g l [4] 1 rfl _ _ HWc.out (by first | rfl | exact (World.size_alloc _ _).symm) (by omega)).mono ?_; rintro _ w1 ⟨rfl, m1, hm, hml_1, hw, hk⟩; have HE_1 := aM hm; have HK := aM (HK.out.trans hk); obtain ⟨c0, c1, c2, c3, c4, c5, c6⟩ := HX.out w1 HK.out; have HW1 := aM hw; clear hm hw hk HWc) | (have HWc := HW1; clear HW1; go_at_call 86; refine (nums_lit g m1 [d, a] 2 rfl _ _ HWc.out (by first | rfl | exact (World.size_alloc _ _).symm) (by omega)).mono ?_; rintro _ w1 ⟨rfl, m2, hm, hml_2, hw, hk⟩; have HE_2 := aM hm; clear c0 c1 c2 c3 c4 c5 c6; have HK := aM (HK.out.trans hk); obtain ⟨c0, c1, c2, c3, c4, c5, c6⟩ := HX.out w1 HK.out; have HW2 := aM hw; clear hm hw hk HWc))
 go_returns
 refine ⟨rfl, ?_, HA.out.trans HK.out⟩
 have h := HW2.out
 rw [HE_2.out, HE_1.out] at h
 simpa [fieldsL, insL, List.append_assoc] using h
set_option maxHeartbeats 1000000 in
set_option maxRecDepth 100000 in
theorem wins7 (g : Nat) (l : List Int) (k op d a b n : Int) (args : List Int) (A : Option Addr) (c : Nat) (w : World) (hW : Wtr w g l) (hC : kI.C w A args.length args) (hA : 0 < args.length → ∀ a, A = some a → a.block ≠ g) (hr : InsR (k, op, d, a, b, n, args)) (hll : l.length ≤ 10000000) (hal : args.length ≤ 100000) (hkk : k = 7) :
 Calls Try.prog 120 #[.pointer (some ⟨g, 0, none⟩), .agg #[.int .u8 k, .int .u8 op, .int .i64 d, .int .i64 a, .int .i64 b, .int .i64 n, .slice A args.length c]] w fun r w' => r = .returned (.tuple #[]) ∧ Wtr w' g (l ++ insL (k, op, d, a, b, n, args)) ∧ Keep (· = g) w w' := by
 have mixed : Try.prog.follows .mixedOrders = true := by kernel_rfl
 have HX := aM (fun W' h => box_keep (w := w) (W' := W') (g := g) (k := k) (op := op) (d := d) (a := a) (b := b) (n := n) (s := .slice A args.length c) (e := 92) hW.lt h)
 have HA := aM ((Keep.refl (· = g) w).alloc (.cells #[.int .u8 k, .int .u8 op, .int .i64 d, .int .i64 a, .int .i64 b, .int .i64 n, .slice A args.length c] 92))
 have HK := aM (Keep.refl (· = g) (w.alloc (.cells #[.int .u8 k, .int .u8 op, .int .i64 d, .int .i64 a, .int .i64 b, .int .i64 n, .slice A args.length c] 92)))
 have HW0 := aM (hW.keep ((Below.refl _ _).alloc (Nat.le_refl _) (.cells #[.int .u8 k, .int .u8 op, .int .i64 d, .int .i64 a, .int .i64 b, .int .i64 n, .slice A args.length c] 92)))
 have HC := aM (hC : kI.C w A args.length args)
 have HAB := aM hA
 obtain ⟨hk, hop, -, -, -, hn, -⟩ := hr
 simp only [U8, I64] at hk hop hn
 clear hW hC hA
 subst hkk
 go_enter Try.func120, Try.ntmps120
 go_wp2_with (first | (have HWc := HW0; clear HW0; go_at_call 86; refine (nums_lit g l [7] 1 rfl _ _ HWc.out (by first | rfl | exact (World.size_alloc _ _).symm) (by omega)).mono ?_; rintro _ w1 ⟨rfl, m1, hm, hml_1, hw, hk⟩; have HE_1 := aM hm; have HK := aM (HK.out.trans hk); obtain ⟨c0, c1, c2, c3, c4, c5, c6⟩ := HX.out w1 HK.out; have HW1 := aM hw; clear hm hw hk HWc) | (have HWc := HW1; clear HW1; go_at_call 86; refine (nums_lit g m1 [d, a] 2 rfl _ _ HWc.out (by first | rfl | exact (World.size_alloc _ _).symm) (by omega)).mono ?_; rintro _ w1 ⟨rfl, m2, hm, hml_2, hw, hk⟩; have HE_2 := aM hm; clear c0 c1 c2 c3 c4 c5 c6; have HK := aM (HK.out.trans hk); obtain ⟨c0, c1, c2, c3, c4, c5, c6⟩ := HX.out w1 HK.out; have HW2 := aM hw; clear hm hw hk HWc))
 go_returns
 refine ⟨rfl, ?_, HA.out.trans HK.out⟩
 have h := HW2.out
 rw [HE_2.out, HE_1.out] at h
 simpa [fieldsL, insL, List.append_assoc] using h
set_option maxHeartbeats 1000000 in
set_option maxRecDepth 100000 in
theorem wins8 (g : Nat) (l : List Int) (k op d a b n : Int) (args : List Int) (A : Option Addr) (c : Nat) (w : World) (hW : Wtr w g l) (hC : kI.C w A args.length args) (hA : 0 < args.length → ∀ a, A = some a → a.block ≠ g) (hr : InsR (k, op, d, a, b, n, args)) (hll : l.length ≤ 10000000) (hal : args.length ≤ 100000) (hkk : k = 8) :
 Calls Try.prog 120 #[.pointer (some ⟨g, 0, none⟩), .agg #[.int .u8 k, .int .u8 op, .int .i64 d, .int .i64 a, .int .i64 b, .int .i64 n, .slice A args.length c]] w fun r w' => r = .returned (.tuple #[]) ∧ Wtr w' g (l ++ insL (k, op, d, a, b, n, args)) ∧ Keep (· = g) w w' := by
 have mixed : Try.prog.follows .mixedOrders = true := by kernel_rfl
 have HX := aM (fun W' h => box_keep (w := w) (W' := W') (g := g) (k := k) (op := op) (d := d) (a := a) (b := b) (n := n) (s := .slice A args.length c) (e := 92) hW.lt h)
 have HA := aM ((Keep.refl (· = g) w).alloc (.cells #[.int .u8 k, .int .u8 op, .int .i64 d, .int .i64 a, .int .i64 b, .int .i64 n, .slice A args.length c] 92))
 have HK := aM (Keep.refl (· = g) (w.alloc (.cells #[.int .u8 k, .int .u8 op, .int .i64 d, .int .i64 a, .int .i64 b, .int .i64 n, .slice A args.length c] 92)))
 have HW0 := aM (hW.keep ((Below.refl _ _).alloc (Nat.le_refl _) (.cells #[.int .u8 k, .int .u8 op, .int .i64 d, .int .i64 a, .int .i64 b, .int .i64 n, .slice A args.length c] 92)))
 have HC := aM (hC : kI.C w A args.length args)
 have HAB := aM hA
 obtain ⟨hk, hop, -, -, -, hn, -⟩ := hr
 simp only [U8, I64] at hk hop hn
 clear hW hC hA
 subst hkk
 go_enter Try.func120, Try.ntmps120
 go_wp2_with (first | (have HWc := HW0; clear HW0; go_at_call 86; refine (nums_lit g l [8] 1 rfl _ _ HWc.out (by first | rfl | exact (World.size_alloc _ _).symm) (by omega)).mono ?_; rintro _ w1 ⟨rfl, m1, hm, hml_1, hw, hk⟩; have HE_1 := aM hm; have HK := aM (HK.out.trans hk); obtain ⟨c0, c1, c2, c3, c4, c5, c6⟩ := HX.out w1 HK.out; have HW1 := aM hw; clear hm hw hk HWc) | (have HWc := HW1; clear HW1; go_at_call 86; refine (nums_lit g m1 [d, a] 2 rfl _ _ HWc.out (by first | rfl | exact (World.size_alloc _ _).symm) (by omega)).mono ?_; rintro _ w1 ⟨rfl, m2, hm, hml_2, hw, hk⟩; have HE_2 := aM hm; clear c0 c1 c2 c3 c4 c5 c6; have HK := aM (HK.out.trans hk); obtain ⟨c0, c1, c2, c3, c4, c5, c6⟩ := HX.out w1 HK.out; have HW2 := aM hw; clear hm hw hk HWc))
 go_returns
 refine ⟨rfl, ?_, HA.out.trans HK.out⟩
 have h := HW2.out
 rw [HE_2.out, HE_1.out] at h
 simpa [fieldsL, insL, List.append_assoc] using h
set_option maxHeartbeats 1000000 in
set_option maxRecDepth 100000 in
theorem wins3 (g : Nat) (l : List Int) (k op d a b n : Int) (args : List Int) (A : Option Addr) (c : Nat) (w : World) (hW : Wtr w g l) (hC : kI.C w A args.length args) (hA : 0 < args.length → ∀ a, A = some a → a.block ≠ g) (hr : InsR (k, op, d, a, b, n, args)) (hll : l.length ≤ 10000000) (hal : args.length ≤ 100000) (hkk : k = 3) :
 Calls Try.prog 120 #[.pointer (some ⟨g, 0, none⟩), .agg #[.int .u8 k, .int .u8 op, .int .i64 d, .int .i64 a, .int .i64 b, .int .i64 n, .slice A args.length c]] w fun r w' => r = .returned (.tuple #[]) ∧ Wtr w' g (l ++ insL (k, op, d, a, b, n, args)) ∧ Keep (· = g) w w' := by
 have mixed : Try.prog.follows .mixedOrders = true := by kernel_rfl
 have HX := aM (fun W' h => box_keep (w := w) (W' := W') (g := g) (k := k) (op := op) (d := d) (a := a) (b := b) (n := n) (s := .slice A args.length c) (e := 92) hW.lt h)
 have HA := aM ((Keep.refl (· = g) w).alloc (.cells #[.int .u8 k, .int .u8 op, .int .i64 d, .int .i64 a, .int .i64 b, .int .i64 n, .slice A args.length c] 92))
 have HK := aM (Keep.refl (· = g) (w.alloc (.cells #[.int .u8 k, .int .u8 op, .int .i64 d, .int .i64 a, .int .i64 b, .int .i64 n, .slice A args.length c] 92)))
 have HW0 := aM (hW.keep ((Below.refl _ _).alloc (Nat.le_refl _) (.cells #[.int .u8 k, .int .u8 op, .int .i64 d, .int .i64 a, .int .i64 b, .int .i64 n, .slice A args.length c] 92)))
 have HC := aM (hC : kI.C w A args.length args)
 have HAB := aM hA
 obtain ⟨hk, hop, -, -, -, hn, -⟩ := hr
 simp only [U8, I64] at hk hop hn
 clear hW hC hA
 subst hkk
 go_enter Try.func120, Try.ntmps120
 go_wp2_with (first | (have HWc := HW0; clear HW0; go_at_call 86; refine (nums_lit g l [3] 1 rfl _ _ HWc.out (by first | rfl | exact (World.size_alloc _ _).symm) (by omega)).mono ?_; rintro _ w1 ⟨rfl, m1, hm, hml_1, hw, hk⟩; have HE_1 := aM hm; have HK := aM (HK.out.trans hk); obtain ⟨c0, c1, c2, c3, c4, c5, c6⟩ := HX.out w1 HK.out; have HW1 := aM hw; clear hm hw hk HWc) | (have HWc := HW1; clear HW1; go_at_call 86; refine (nums_lit g m1 [op, d, a, b] 4 rfl _ _ HWc.out (by first | rfl | exact (World.size_alloc _ _).symm) (by omega)).mono ?_; rintro _ w1 ⟨rfl, m2, hm, hml_2, hw, hk⟩; have HE_2 := aM hm; clear c0 c1 c2 c3 c4 c5 c6; have HK := aM (HK.out.trans hk); obtain ⟨c0, c1, c2, c3, c4, c5, c6⟩ := HX.out w1 HK.out; have HW2 := aM hw; clear hm hw hk HWc))
 go_returns
 refine ⟨rfl, ?_, HA.out.trans HK.out⟩
 have h := HW2.out
 rw [HE_2.out, HE_1.out] at h
 simpa [fieldsL, insL, List.append_assoc] using h
set_option maxHeartbeats 1000000 in
set_option maxRecDepth 100000 in
theorem wins5 (g : Nat) (l : List Int) (k op d a b n : Int) (args : List Int) (A : Option Addr) (c : Nat) (w : World) (hW : Wtr w g l) (hC : kI.C w A args.length args) (hA : 0 < args.length → ∀ a, A = some a → a.block ≠ g) (hr : InsR (k, op, d, a, b, n, args)) (hll : l.length ≤ 10000000) (hal : args.length ≤ 100000) (hkk : k = 5) :
 Calls Try.prog 120 #[.pointer (some ⟨g, 0, none⟩), .agg #[.int .u8 k, .int .u8 op, .int .i64 d, .int .i64 a, .int .i64 b, .int .i64 n, .slice A args.length c]] w fun r w' => r = .returned (.tuple #[]) ∧ Wtr w' g (l ++ insL (k, op, d, a, b, n, args)) ∧ Keep (· = g) w w' := by
 have mixed : Try.prog.follows .mixedOrders = true := by kernel_rfl
 have HX := aM (fun W' h => box_keep (w := w) (W' := W') (g := g) (k := k) (op := op) (d := d) (a := a) (b := b) (n := n) (s := .slice A args.length c) (e := 92) hW.lt h)
 have HA := aM ((Keep.refl (· = g) w).alloc (.cells #[.int .u8 k, .int .u8 op, .int .i64 d, .int .i64 a, .int .i64 b, .int .i64 n, .slice A args.length c] 92))
 have HK := aM (Keep.refl (· = g) (w.alloc (.cells #[.int .u8 k, .int .u8 op, .int .i64 d, .int .i64 a, .int .i64 b, .int .i64 n, .slice A args.length c] 92)))
 have HW0 := aM (hW.keep ((Below.refl _ _).alloc (Nat.le_refl _) (.cells #[.int .u8 k, .int .u8 op, .int .i64 d, .int .i64 a, .int .i64 b, .int .i64 n, .slice A args.length c] 92)))
 have HC := aM (hC : kI.C w A args.length args)
 have HAB := aM hA
 obtain ⟨hk, hop, -, -, -, hn, -⟩ := hr
 simp only [U8, I64] at hk hop hn
 clear hW hC hA
 subst hkk
 go_enter Try.func120, Try.ntmps120
 go_wp2_with (first | (have HWc := HW0; clear HW0; go_at_call 86; refine (nums_lit g l [5] 1 rfl _ _ HWc.out (by first | rfl | exact (World.size_alloc _ _).symm) (by omega)).mono ?_; rintro _ w1 ⟨rfl, m1, hm, hml_1, hw, hk⟩; have HE_1 := aM hm; have HK := aM (HK.out.trans hk); obtain ⟨c0, c1, c2, c3, c4, c5, c6⟩ := HX.out w1 HK.out; have HW1 := aM hw; clear hm hw hk HWc) | (have HWc := HW1; clear HW1; go_at_call 86; refine (nums_lit g m1 [a, b] 2 rfl _ _ HWc.out (by first | rfl | exact (World.size_alloc _ _).symm) (by omega)).mono ?_; rintro _ w1 ⟨rfl, m2, hm, hml_2, hw, hk⟩; have HE_2 := aM hm; clear c0 c1 c2 c3 c4 c5 c6; have HK := aM (HK.out.trans hk); obtain ⟨c0, c1, c2, c3, c4, c5, c6⟩ := HX.out w1 HK.out; have HW2 := aM hw; clear hm hw hk HWc))
 go_returns
 refine ⟨rfl, ?_, HA.out.trans HK.out⟩
 have h := HW2.out
 rw [HE_2.out, HE_1.out] at h
 simpa [fieldsL, insL, List.append_assoc] using h
set_option maxHeartbeats 1000000 in
set_option maxRecDepth 100000 in
theorem wins0 (g : Nat) (l : List Int) (k op d a b n : Int) (args : List Int) (A : Option Addr) (c : Nat) (w : World) (hW : Wtr w g l) (hC : kI.C w A args.length args) (hA : 0 < args.length → ∀ a, A = some a → a.block ≠ g) (hr : InsR (k, op, d, a, b, n, args)) (hll : l.length ≤ 10000000) (hal : args.length ≤ 100000) (h1 : (k == 1) = false) (h2 : (k == 2) = false) (h3 : (k == 3) = false) (h4 : (k == 4) = false) (h5 : (k == 5) = false) (h6 : (k == 6) = false) (h7 : (k == 7) = false) (h8 : (k == 8) = false) :
 Calls Try.prog 120 #[.pointer (some ⟨g, 0, none⟩), .agg #[.int .u8 k, .int .u8 op, .int .i64 d, .int .i64 a, .int .i64 b, .int .i64 n, .slice A args.length c]] w fun r w' => r = .returned (.tuple #[]) ∧ Wtr w' g (l ++ insL (k, op, d, a, b, n, args)) ∧ Keep (· = g) w w' := by
 have mixed : Try.prog.follows .mixedOrders = true := by kernel_rfl
 have HX := aM (fun W' h => box_keep (w := w) (W' := W') (g := g) (k := k) (op := op) (d := d) (a := a) (b := b) (n := n) (s := .slice A args.length c) (e := 92) hW.lt h)
 have HA := aM ((Keep.refl (· = g) w).alloc (.cells #[.int .u8 k, .int .u8 op, .int .i64 d, .int .i64 a, .int .i64 b, .int .i64 n, .slice A args.length c] 92))
 have HK := aM (Keep.refl (· = g) (w.alloc (.cells #[.int .u8 k, .int .u8 op, .int .i64 d, .int .i64 a, .int .i64 b, .int .i64 n, .slice A args.length c] 92)))
 have HW0 := aM (hW.keep ((Below.refl _ _).alloc (Nat.le_refl _) (.cells #[.int .u8 k, .int .u8 op, .int .i64 d, .int .i64 a, .int .i64 b, .int .i64 n, .slice A args.length c] 92)))
 have HC := aM (hC : kI.C w A args.length args)
 have HAB := aM hA
 obtain ⟨hk, hop, -, -, -, hn, -⟩ := hr
 simp only [U8, I64] at hk hop hn
 clear hW hC hA
 go_enter Try.func120, Try.ntmps120
 go_wp2_with (first | (have HWc := HW0; clear HW0; go_at_call 86; refine (nums_lit g l [k] 1 rfl _ _ HWc.out (by first | rfl | exact (World.size_alloc _ _).symm) (by omega)).mono ?_; rintro _ w1 ⟨rfl, m1, hm, hml_1, hw, hk⟩; have HE_1 := aM hm; have HK := aM (HK.out.trans hk); obtain ⟨c0, c1, c2, c3, c4, c5, c6⟩ := HX.out w1 HK.out; have HW1 := aM hw; clear hm hw hk HWc))
 go_returns
 refine ⟨rfl, ?_, HA.out.trans HK.out⟩
 have h := HW1.out
 rw [HE_1.out] at h
 simp at h1 h2 h3 h4 h5 h6 h7 h8
 simpa [fieldsL, insL, List.append_assoc, h1, h2, h3, h4, h5, h6, h7, h8] using h
set_option maxHeartbeats 1000000 in
set_option maxRecDepth 100000 in
theorem wins1 (g : Nat) (l : List Int) (k op d a b n : Int) (args : List Int) (A : Option Addr) (c : Nat) (w : World) (hW : Wtr w g l) (hC : kI.C w A args.length args) (hA : 0 < args.length → ∀ a, A = some a → a.block ≠ g) (hr : InsR (k, op, d, a, b, n, args)) (hll : l.length ≤ 10000000) (hal : args.length ≤ 100000) (hkk : k = 1) :
 Calls Try.prog 120 #[.pointer (some ⟨g, 0, none⟩), .agg #[.int .u8 k, .int .u8 op, .int .i64 d, .int .i64 a, .int .i64 b, .int .i64 n, .slice A args.length c]] w fun r w' => r = .returned (.tuple #[]) ∧ Wtr w' g (l ++ insL (k, op, d, a, b, n, args)) ∧ Keep (· = g) w w' := by
 have mixed : Try.prog.follows .mixedOrders = true := by kernel_rfl
 have HX := aM (fun W' h => box_keep (w := w) (W' := W') (g := g) (k := k) (op := op) (d := d) (a := a) (b := b) (n := n) (s := .slice A args.length c) (e := 92) hW.lt h)
 have HA := aM ((Keep.refl (· = g) w).alloc (.cells #[.int .u8 k, .int .u8 op, .int .i64 d, .int .i64 a, .int .i64 b, .int .i64 n, .slice A args.length c] 92))
 have HK := aM (Keep.refl (· = g) (w.alloc (.cells #[.int .u8 k, .int .u8 op, .int .i64 d, .int .i64 a, .int .i64 b, .int .i64 n, .slice A args.length c] 92)))
 have HW0 := aM (hW.keep ((Below.refl _ _).alloc (Nat.le_refl _) (.cells #[.int .u8 k, .int .u8 op, .int .i64 d, .int .i64 a, .int .i64 b, .int .i64 n, .slice A args.length c] 92)))
 have HC := aM (hC : kI.C w A args.length args)
 have HAB := aM hA
 obtain ⟨hk, hop, -, -, -, hn, -⟩ := hr
 simp only [U8, I64] at hk hop hn
 clear hW hC hA
 subst hkk
 go_enter Try.func120, Try.ntmps120
 go_wp2_with (first | (have HWc := HW0; clear HW0; go_at_call 86; refine (nums_lit g l [1] 1 rfl _ _ HWc.out (by first | rfl | exact (World.size_alloc _ _).symm) (by omega)).mono ?_; rintro _ w1 ⟨rfl, m1, hm, hml_1, hw, hk⟩; have HE_1 := aM hm; have HK := aM (HK.out.trans hk); obtain ⟨c0, c1, c2, c3, c4, c5, c6⟩ := HX.out w1 HK.out; have HW1 := aM hw; clear hm hw hk HWc) | (have HWc := HW1; clear HW1; go_at_call 86; refine (nums_lit g m1 [d] 1 rfl _ _ HWc.out (by first | rfl | exact (World.size_alloc _ _).symm) (by omega)).mono ?_; rintro _ wz ⟨rfl, m2, hm, hml_2, hw, hk⟩; have HE_2 := aM hm; clear c0 c1 c2 c3 c4 c5 c6; have HK := aM (HK.out.trans hk); obtain ⟨c0, c1, c2, c3, c4, c5, c6⟩ := HX.out wz HK.out; have HW2 := aM hw; clear hm hw hk HWc))
 obtain ⟨A9, cc9, hh9, hlc9, hne9, hC9⟩ := HW2.out
 have HC9 := aM hC9
 have HH9 := aM (show wz.drew.heap[g]? = _ from hh9)
 have HW9 := aM (HW2.out.keep (Below.refl _ _).drew)
 have HG := aM (show ∀ W', Keep (fun _ => False) wz.drew W' → W'.cell? ⟨g, 0, none⟩ = some (.slice A9 m2.length cc9) ∧ W'.cell? ⟨w.heap.size, 5, none⟩ = some (.int .i64 n) from fun W' h => ⟨cell_at ((h.block g (blk_lt hh9) id).trans hh9) 0 _ rfl, (HX.out W' (HK.out.drew.trans (h.mono (fun _ _ h => h.elim)))).2.2.2.2.2.1⟩)
 clear hh9 hne9 hC9
 refine re_start [10] (fun _ => False) (by kernel_rfl) (n := 11) (l := (bl 11 0)) (by kernel_rfl) (by kernel_rfl) ?_
 refine et 0 (bl 11 1) rfl (fun w' hR => by go_simp; first | done | with_reducible rfl) rfl ?_
 try simp only [Act.put, pB, pC, pD]
 refine et 1 (bl 11 3) rfl (fun w' hR => by go_simp; first | done | with_reducible rfl) rfl ?_
 try simp only [Act.put, pB, pC, pD]
 refine et 2 (bl 11 7) rfl (fun w' hR => by go_simp; first | done | with_reducible rfl) rfl ?_
 try simp only [Act.put, pB, pC, pD]
 refine et 3 (bl 11 15) rfl (fun w' hR => by go_simp; first | done | with_reducible rfl) rfl ?_
 try simp only [Act.put, pB, pC, pD]
 refine et 4 (bl 11 31) rfl (fun w' hR => by have x0 := (HG.out w' hR).1; go_simp; first | done | with_reducible rfl) rfl ?_
 try simp only [Act.put, pB, pC, pD]
 refine et 5 (bl 11 63) rfl (fun w' hR => by go_simp; first | done | with_reducible rfl) rfl ?_
 try simp only [Act.put, pB, pC, pD]
 refine et 6 (bl 11 127) rfl (fun w' hR => by have x0 := (HG.out w' hR).2; go_simp; first | done | with_reducible rfl) rfl ?_
 try simp only [Act.put, pB, pC, pD]
 refine re_step (fuel := 3) 7 rfl (by kernel_rfl) (listed' := (bl 11 255)) (by kernel_rfl) (by kernel_rfl) (fun K' hK => ?_)
 go_wp2_with (go_at_call 142; refine (putInt_calls A9 cc9 m2 n _ (Kd.C_below HC9.out (Below.refl _ _).drew) (by omega) hn.1 hn.2).mono ?_; rintro _ w2 ⟨v2, rfl, ho, hb⟩; obtain ⟨A8, cc8, rfl, hlc8, -⟩ := Kd.R_reads ho; have HB8 := aM hb; have hs := Wtr.set HW9.out hb ho hlc8; rw [List.length_append] at hs; have HS := aM hs; have hh := blk_below HH9.out hb; have q0 := cell_at hh 0 _ rfl; have q1 := blk_frozen hh 0; have HK8 := aM ((HK.out.drew.trans (Keep.of_below hb)).setCell ⟨g, 0, none⟩ (.slice A8 (m2.length + (putl (zig n).toNat).length) cc8) (fun _ => rfl)); clear ho hb hs hh)
 refine hK.out _ _ (Keep.of_below HB8.out) ?_
 clear hK K'
 try simp only [Act.put, pB, pC, pD]
 refine et 8 (bl 11 511) rfl (fun w' hR => by go_simp; first | done | with_reducible rfl) rfl ?_
 try simp only [Act.put, pB, pC, pD]
 refine et 9 (bl 11 1023) rfl (fun w' hR => by go_simp; first | done | with_reducible rfl) rfl ?_
 try simp only [Act.put, pB, pC, pD]
 refine re_free (fuel := 0) 10 rfl (by kernel_rfl) (listed' := (bl 11 2047)) (by kernel_rfl) (by kernel_rfl) (fun K' hK => ?_)
 go_wp2_with fail
 refine hK.out _ _ trivial ?_
 clear hK K'
 try simp only [Act.put, pB, pC, pD]
 refine re_done (by kernel_rfl) ?_
 generalize hwy : w2.setCell ⟨g, 0, none⟩ (.slice A8 (m2.length + (putl (zig n).toNat).length) cc8) = wy at HS HK8 ⊢
 clear hwy q0 q1
 go_wp2
 go_returns
 refine ⟨rfl, ?_, HA.out.trans HK8.out⟩
 have h := HS.out
 rw [HE_2.out, HE_1.out] at h
 simpa [fieldsL, insL, List.append_assoc] using h
set_option maxHeartbeats 1000000 in
set_option maxRecDepth 100000 in
theorem wins6 (g : Nat) (l : List Int) (k op d a b n : Int) (args : List Int) (A : Option Addr) (c : Nat) (w : World) (hW : Wtr w g l) (hC : kI.C w A args.length args) (hA : 0 < args.length → ∀ a, A = some a → a.block ≠ g) (hr : InsR (k, op, d, a, b, n, args)) (hll : l.length ≤ 10000000) (hal : args.length ≤ 100000) (hkk : k = 6) :
 Calls Try.prog 120 #[.pointer (some ⟨g, 0, none⟩), .agg #[.int .u8 k, .int .u8 op, .int .i64 d, .int .i64 a, .int .i64 b, .int .i64 n, .slice A args.length c]] w fun r w' => r = .returned (.tuple #[]) ∧ Wtr w' g (l ++ insL (k, op, d, a, b, n, args)) ∧ Keep (· = g) w w' := by
 have mixed : Try.prog.follows .mixedOrders = true := by kernel_rfl
 have HX := aM (fun W' h => box_keep (w := w) (W' := W') (g := g) (k := k) (op := op) (d := d) (a := a) (b := b) (n := n) (s := .slice A args.length c) (e := 92) hW.lt h)
 have HA := aM ((Keep.refl (· = g) w).alloc (.cells #[.int .u8 k, .int .u8 op, .int .i64 d, .int .i64 a, .int .i64 b, .int .i64 n, .slice A args.length c] 92))
 have HK := aM (Keep.refl (· = g) (w.alloc (.cells #[.int .u8 k, .int .u8 op, .int .i64 d, .int .i64 a, .int .i64 b, .int .i64 n, .slice A args.length c] 92)))
 have HW0 := aM (hW.keep ((Below.refl _ _).alloc (Nat.le_refl _) (.cells #[.int .u8 k, .int .u8 op, .int .i64 d, .int .i64 a, .int .i64 b, .int .i64 n, .slice A args.length c] 92)))
 have HC := aM (hC : kI.C w A args.length args)
 have HAB := aM hA
 obtain ⟨hk, hop, -, -, -, hn, -⟩ := hr
 simp only [U8, I64] at hk hop hn
 clear hW hC hA
 subst hkk
 go_enter Try.func120, Try.ntmps120
 go_wp2_with (first | (have HWc := HW0; clear HW0; go_at_call 86; refine (nums_lit g l [6] 1 rfl _ _ HWc.out (by first | rfl | exact (World.size_alloc _ _).symm) (by omega)).mono ?_; rintro _ w1 ⟨rfl, m1, hm, hml_1, hw, hk⟩; have HE_1 := aM hm; have HK := aM (HK.out.trans hk); obtain ⟨c0, c1, c2, c3, c4, c5, c6⟩ := HX.out w1 HK.out; have HW1 := aM hw; clear hm hw hk HWc) | (have HWc := HW1; clear HW1; go_at_call 86; refine (nums_lit g m1 [d] 1 rfl _ _ HWc.out (by first | rfl | exact (World.size_alloc _ _).symm) (by omega)).mono ?_; rintro _ wz ⟨rfl, m2, hm, hml_2, hw, hk⟩; have HE_2 := aM hm; clear c0 c1 c2 c3 c4 c5 c6; have HK := aM (HK.out.trans hk); obtain ⟨c0, c1, c2, c3, c4, c5, c6⟩ := HX.out wz HK.out; have HW2 := aM hw; clear hm hw hk HWc))
 obtain ⟨A9, cc9, hh9, hlc9, hne9, hC9⟩ := HW2.out
 have HC9 := aM hC9
 have HH9 := aM (show wz.drew.heap[g]? = _ from hh9)
 have HW9 := aM (HW2.out.keep (Below.refl _ _).drew)
 have HG := aM (show ∀ W', Keep (fun _ => False) wz.drew W' → W'.cell? ⟨g, 0, none⟩ = some (.slice A9 m2.length cc9) ∧ W'.cell? ⟨w.heap.size, 5, none⟩ = some (.int .i64 n) from fun W' h => ⟨cell_at ((h.block g (blk_lt hh9) id).trans hh9) 0 _ rfl, (HX.out W' (HK.out.drew.trans (h.mono (fun _ _ h => h.elim)))).2.2.2.2.2.1⟩)
 clear hh9 hne9 hC9
 refine re_start [10] (fun _ => False) (by kernel_rfl) (n := 11) (l := (bl 11 0)) (by kernel_rfl) (by kernel_rfl) ?_
 refine et 0 (bl 11 1) rfl (fun w' hR => by go_simp; first | done | with_reducible rfl) rfl ?_
 try simp only [Act.put, pB, pC, pD]
 refine et 1 (bl 11 3) rfl (fun w' hR => by go_simp; first | done | with_reducible rfl) rfl ?_
 try simp only [Act.put, pB, pC, pD]
 refine et 2 (bl 11 7) rfl (fun w' hR => by go_simp; first | done | with_reducible rfl) rfl ?_
 try simp only [Act.put, pB, pC, pD]
 refine et 3 (bl 11 15) rfl (fun w' hR => by go_simp; first | done | with_reducible rfl) rfl ?_
 try simp only [Act.put, pB, pC, pD]
 refine et 4 (bl 11 31) rfl (fun w' hR => by have x0 := (HG.out w' hR).1; go_simp; first | done | with_reducible rfl) rfl ?_
 try simp only [Act.put, pB, pC, pD]
 refine et 5 (bl 11 63) rfl (fun w' hR => by go_simp; first | done | with_reducible rfl) rfl ?_
 try simp only [Act.put, pB, pC, pD]
 refine et 6 (bl 11 127) rfl (fun w' hR => by have x0 := (HG.out w' hR).2; go_simp; first | done | with_reducible rfl) rfl ?_
 try simp only [Act.put, pB, pC, pD]
 refine re_step (fuel := 3) 7 rfl (by kernel_rfl) (listed' := (bl 11 255)) (by kernel_rfl) (by kernel_rfl) (fun K' hK => ?_)
 go_wp2_with (go_at_call 142; refine (putInt_calls A9 cc9 m2 n _ (Kd.C_below HC9.out (Below.refl _ _).drew) (by omega) hn.1 hn.2).mono ?_; rintro _ w2 ⟨v2, rfl, ho, hb⟩; obtain ⟨A8, cc8, rfl, hlc8, -⟩ := Kd.R_reads ho; have HB8 := aM hb; have hs := Wtr.set HW9.out hb ho hlc8; rw [List.length_append] at hs; have HS := aM hs; have hh := blk_below HH9.out hb; have q0 := cell_at hh 0 _ rfl; have q1 := blk_frozen hh 0; have HK8 := aM ((HK.out.drew.trans (Keep.of_below hb)).setCell ⟨g, 0, none⟩ (.slice A8 (m2.length + (putl (zig n).toNat).length) cc8) (fun _ => rfl)); clear ho hb hs hh)
 refine hK.out _ _ (Keep.of_below HB8.out) ?_
 clear hK K'
 try simp only [Act.put, pB, pC, pD]
 refine et 8 (bl 11 511) rfl (fun w' hR => by go_simp; first | done | with_reducible rfl) rfl ?_
 try simp only [Act.put, pB, pC, pD]
 refine et 9 (bl 11 1023) rfl (fun w' hR => by go_simp; first | done | with_reducible rfl) rfl ?_
 try simp only [Act.put, pB, pC, pD]
 refine re_free (fuel := 0) 10 rfl (by kernel_rfl) (listed' := (bl 11 2047)) (by kernel_rfl) (by kernel_rfl) (fun K' hK => ?_)
 go_wp2_with fail
 refine hK.out _ _ trivial ?_
 clear hK K'
 try simp only [Act.put, pB, pC, pD]
 refine re_done (by kernel_rfl) ?_
 generalize hwy : w2.setCell ⟨g, 0, none⟩ (.slice A8 (m2.length + (putl (zig n).toNat).length) cc8) = wy at HS HK8 ⊢
 clear hwy q0 q1
 clear c0 c1 c2 c3 c4 c5 c6
 have hzr := zig_range n hn.1 hn.2
 obtain ⟨m3, hm3, hml_3⟩ : ∃ m3, m3 = m2 ++ putl (zig n).toNat ∧ m3.length ≤ m2.length + 10 := ⟨_, rfl, by rw [List.length_append]; have := putl_ten (zig n).toNat (by omega); omega⟩
 rw [← hm3] at HS
 have HE_3 := aM hm3
 have HW3 := HS
 have HK := HK8
 clear hm3 HK8 hzr
 obtain ⟨c0, c1, c2, c3, c4, c5, c6⟩ := HX.out wy HK.out
 go_wp2_with (first | (have HWc := HW3; clear HW3; go_at_call 86; refine (nums_lit g m3 [(args.length : Int)] 1 rfl _ _ HWc.out (by first | rfl | exact (World.size_alloc _ _).symm) (by omega)).mono ?_; rintro _ w1 ⟨rfl, m4, hm, hml_4, hw, hk⟩; have HE_4 := aM hm; clear c0 c1 c2 c3 c4 c5 c6; have HK := aM (HK.out.trans hk); obtain ⟨c0, c1, c2, c3, c4, c5, c6⟩ := HX.out w1 HK.out; have HW4 := aM hw; clear hm hw hk HWc) | (have HWc := HW4; clear HW4; go_at_call 86; refine (nums_calls g m4 args A c _ HWc.out (C_keep HC.out (HA.out.trans HK.out) HAB.out) HAB.out (by omega)).mono ?_; rintro _ w5 ⟨rfl, hw, hk⟩; clear c0 c1 c2 c3 c4 c5 c6; have HK := aM (HK.out.trans hk); have HW5 := aM hw; clear hw hk HWc))
 go_returns
 refine ⟨rfl, ?_, HA.out.trans HK.out⟩
 have h := HW5.out
 rw [HE_4.out, HE_3.out, HE_2.out, HE_1.out] at h
 simpa [fieldsL, insL, List.append_assoc] using h
theorem wins_calls (g : Nat) (l : List Int) (k op d a b n : Int) (args : List Int) (A : Option Addr) (c : Nat) (w : World) (hW : Wtr w g l) (hC : kI.C w A args.length args) (hA : 0 < args.length → ∀ a, A = some a → a.block ≠ g) (hr : InsR (k, op, d, a, b, n, args)) (hll : l.length ≤ 10000000) (hal : args.length ≤ 100000) :
 Calls Try.prog 120 #[.pointer (some ⟨g, 0, none⟩), .agg #[.int .u8 k, .int .u8 op, .int .i64 d, .int .i64 a, .int .i64 b, .int .i64 n, .slice A args.length c]] w fun r w' => r = .returned (.tuple #[]) ∧ Wtr w' g (l ++ insL (k, op, d, a, b, n, args)) ∧ Keep (· = g) w w' := by
 rcases kinds k with h | h | h | h | h | h | h | h | ⟨h1, h2, h3, h4, h5, h6, h7, h8⟩
 · exact wins1 g l k op d a b n args A c w hW hC hA hr hll hal h
 · exact wins2 g l k op d a b n args A c w hW hC hA hr hll hal h
 · exact wins3 g l k op d a b n args A c w hW hC hA hr hll hal h
 · exact wins4 g l k op d a b n args A c w hW hC hA hr hll hal h
 · exact wins5 g l k op d a b n args A c w hW hC hA hr hll hal h
 · exact wins6 g l k op d a b n args A c w hW hC hA hr hll hal h
 · exact wins7 g l k op d a b n args A c w hW hC hA hr hll hal h
 · exact wins8 g l k op d a b n args A c w hW hC hA hr hll hal h
 · exact wins0 g l k op d a b n args A c w hW hC hA hr hll hal h1 h2 h3 h4 h5 h6 h7 h8
end Go.Proofs.Ytnckonglodmfeaa.Ik
namespace Go.Proofs.Ytnckonglodmfeaa.Ik
open Ls Lc Go.RowKit Go.Proofs.YtnckonglodmfeaaW.PrintWords Go.Proofs.YtnckonglodmfeaaW.PrintLast Go.Proofs.YtnckonglodmfeaaW.PrintMore B R S Is
theorem ins_len (i : Ins) (h : i.2.2.2.2.2.2.length ≤ 3) (hn : I64 i.2.2.2.2.2.1) : (insL i).length ≤ 100 := by
 obtain ⟨k, op, d, a, b, n, args⟩ := i
 have hz := zig_range n hn.1 hn.2
 have h1 := putl_ten (zig n).toNat (by omega)
 have h2 := field_len k
 have h3 := field_len d
 have h4 := fields_len args
 have h5 := field_len args.length
 have h6 := fields_len [d, a]
 have h7 := fields_len [op, d, a, b]
 have h8 := fields_len [a, b]
 simp only [List.length_cons, List.length_nil] at h4 h6 h7 h8 h
 simp only [insL, List.length_append]
 repeat' split
 all_goals (try simp only [List.length_append, List.length_nil]); omega
theorem insl_len (l : List Ins) (h : ∀ i ∈ l, InsR i ∧ i.2.2.2.2.2.2.length ≤ 3) : ((l.map insL).flatten).length ≤ 100 * l.length := by
 induction l with
 | nil => simp
 | cons x l ih =>
  obtain ⟨h1, h2⟩ := h x (by simp)
  have := ins_len x h2 (by obtain ⟨k, op, d, a, b, n, args⟩ := x; exact h1.2.2.2.2.2.1)
  have := ih (fun i hi => h i (by simp [hi]))
  simp only [List.map_cons, List.flatten_cons, List.length_append, List.length_cons]
  omega
theorem end_len (e : IEnd) : (endL e).length ≤ 40 := by
 obtain ⟨k, a, t, e⟩ := e
 have h2 := field_len k
 have h4 := fields_len [t]
 have h6 := fields_len [a, t, e]
 have h7 := fields_len [a]
 simp only [List.length_cons, List.length_nil] at h4 h6 h7
 simp only [endL, List.length_append]
 repeat' split
 all_goals omega
def OkB (b : Blk) : Prop := b.1.length ≤ 400 ∧ EndR b.2 ∧ ∀ i ∈ b.1, InsR i ∧ i.2.2.2.2.2.2.length ≤ 3
theorem map_take {α : Type} (f : α → List Int) {l : List α} {j : Nat} {x : α} (h : l[j]? = some x) : ((l.take (j + 1)).map f).flatten = ((l.take j).map f).flatten ++ f x := by
 rw [List.take_add_one, h]
 simp
set_option maxHeartbeats 4000000 in
set_option maxRecDepth 100000 in
theorem wblocks_calls (g : Nat) (l : List Int) (bs : List Blk) (A : Option Addr) (c : Nat) (w0 w : World) (hC : kBlk.C w0 A bs.length bs) (h0 : Below w0.heap.size w0 w) (hg : w0.heap.size ≤ g) (hW : Wtr w g l) (hl : l.length ≤ 100) (hn : bs.length ≤ 16) (hR : ∀ b ∈ bs, OkB b) :
 Calls Try.prog 87 #[.pointer (some ⟨g, 0, none⟩), .slice A bs.length c] w fun r w' => r = .returned (.tuple #[]) ∧ Wtr w' g (l ++ blksL bs) ∧ Keep (· = g) w w' := by
 have mixed : Try.prog.follows .mixedOrders = true := by kernel_rfl
 have HC := aM hC
 have HB0 := aM h0
 have HBL := aM (show ∀ W', Keep (· = g) w W' → Below w0.heap.size w0 W' from fun W' h => Keep.below_then h0 h h0.size (fun i hi e => by have e : i = g := e; omega))
 have HR := aM hR
 have hgw := hW.lt
 have HW0 := aM hW
 clear hC h0 hR hW
 go_enter Try.func87, Try.ntmps87
 go_wp2_with (have HWc := HW0; clear HW0; go_at_call 86; refine (nums_lit g l [(bs.length : Int)] 1 rfl w _ HWc.out (by first | rfl | exact (World.size_alloc _ _).symm) (by omega)).mono ?_; rintro _ w1 ⟨rfl, m0, hm, hml_m0, hw, hk⟩; have HE_m0 := aM hm; have HK := aM hk; have HW1 := aM hw; clear hm hw hk HWc)
 go_loopw [15] (fun vi wr => ∃ j : Nat, j ≤ bs.length ∧ vi = .int .i64 j ∧ ∃ m : List Int, m.length ≤ 200 + 50000 * j ∧ Aside0 (m = m0 ++ ((bs.take j).map blkL).flatten) ∧ Aside0 (Wtr wr g m) ∧ Aside0 (Keep (· = g) w wr)) (fun vi _ => bs.length - (intOf vi).toNat)
 case atStart => exact ⟨0, by omega, rfl, m0, by omega, ⟨by simp⟩, HW1, HK⟩
 case round =>
  clear HW1 HK
  obtain ⟨wo, hwo⟩ : ∃ wo, wo = wr := ⟨_, rfl⟩
  subst hwo
  obtain ⟨j, hj, rfl, m, hml, HM, HW, HK⟩ := hrel
  by_cases hjl : j < bs.length
  · obtain ⟨⟨is, k, a, t, e⟩, hx⟩ : ∃ x, bs[j]? = some x := ⟨_, List.getElem?_eq_getElem hjl⟩
    obtain ⟨hi4, hre, hri⟩ := HR.out _ (List.mem_of_getElem? hx)
    simp only at hi4
    obtain ⟨hk8, ha64, ht64, he64⟩ := hre
    simp only [U8] at hk8
    have HRI := aM hri
    have HMT := aM (map_take blkL hx)
    obtain ⟨ad, A1, n1, rfl, b0, b1, b2, b3, b4, hn1, hC1⟩ := blk_cells HC.out hx
    have hbl := HBL.out _ HK.out
    have b0 := pw_cell_below hbl b0
    have b1 := pw_cell_below hbl b1
    have b2 := pw_cell_below hbl b2
    have b3 := pw_cell_below hbl b3
    have b4 := pw_cell_below hbl b4
    have HC1 := aM hC1
    obtain ⟨WA, hWA⟩ : ∃ WA, WA = wo.alloc (.cells #[.slice A1 is.length n1, .int .u8 k, .int .i64 a, .int .i64 t, .int .i64 e] 84) := ⟨_, rfl⟩
    have HBA := aM (show Below wo.heap.size wo WA by rw [hWA]; exact (Below.refl _ _).alloc (Nat.le_refl _) _)
    have HSA := aM (show WA.heap.size = wo.heap.size + 1 by rw [hWA, World.size_alloc])
    have HGO := aM HW.out.lt
    have HBX := aM (show ∀ W', Keep (· = g) WA W' → W'.cell? ⟨wo.heap.size, 0, none⟩ = some (.slice A1 is.length n1) ∧ W'.cell? ⟨wo.heap.size, 1, none⟩ = some (.int .u8 k) ∧ W'.cell? ⟨wo.heap.size, 2, none⟩ = some (.int .i64 a) ∧ W'.cell? ⟨wo.heap.size, 3, none⟩ = some (.int .i64 t) ∧ W'.cell? ⟨wo.heap.size, 4, none⟩ = some (.int .i64 e) from fun W' h => by
     have h := h.block wo.heap.size (by rw [HSA.out]; omega) (fun e => by have e : wo.heap.size = g := e; have := HGO.out; omega)
     rw [hWA, heap_alloc_new] at h
     exact ⟨cell_at h 0 _ rfl, cell_at h 1 _ rfl, cell_at h 2 _ rfl, cell_at h 3 _ rfl, cell_at h 4 _ rfl⟩)
    have HWA := aM (HW.out.keep HBA.out)
    have HKA := aM (Keep.refl (· = g) WA)
    have HKW := aM (HK.out.trans (Keep.of_below HBA.out))
    clear hx hbl hC1 hri
    go_upto_region 4 with fail
    rw [← hWA]
    clear hWA b0 b1 b2 b3 b4
    obtain ⟨b0, b1, b2, b3, b4⟩ := HBX.out WA HKA.out
    go_wp2_with (have HWc := HWA; clear HWA; go_at_call 86; refine (nums_lit g m [(is.length : Int)] 1 rfl WA _ HWc.out (by first | rfl | exact (World.size_alloc _ _).symm) (by omega)).mono ?_; rintro _ w1 ⟨rfl, m1, hm, hml_m1, hw, hk⟩; have HE_m1 := aM hm; clear b0 b1 b2 b3 b4; have HKA := aM (HKA.out.trans hk); obtain ⟨b0, b1, b2, b3, b4⟩ := HBX.out w1 HKA.out; have HW2 := aM hw; clear hm hw hk HWc)
    go_loopw [28] (fun vi wi => ∃ i : Nat, i ≤ is.length ∧ vi = .int .i64 i ∧ ∃ mi : List Int, mi.length ≤ m1.length + 100 * i ∧ Aside0 (mi = m1 ++ ((is.take i).map insL).flatten) ∧ Aside0 (Wtr wi g mi) ∧ Aside0 (Keep (· = g) WA wi)) (fun vi _ => is.length - (intOf vi).toNat)
    case atStart => exact ⟨0, by omega, rfl, m1, by omega, ⟨by simp⟩, HW2, HKA⟩
    case round =>
     clear HW2 b0 b1 b2 b3 b4 HKA
     obtain ⟨wi, hwi⟩ : ∃ wi, wi = wr := ⟨_, rfl⟩
     subst hwi
     obtain ⟨i, hi, rfl, mi, hmi, HMI, HWI, HKA⟩ := hrel
     obtain ⟨b0, b1, b2, b3, b4⟩ := HBX.out wi HKA.out
     by_cases hil : i < is.length
     · obtain ⟨⟨k1, op, d, a1, bb, nn, args⟩, hq⟩ : ∃ q, is[i]? = some q := ⟨_, List.getElem?_eq_getElem hil⟩
       obtain ⟨hq1, hq2⟩ := HRI.out _ (List.mem_of_getElem? hq)
       simp only at hq2
       have HQ1 := aM hq1
       have HQL := aM (ins_len (k1, op, d, a1, bb, nn, args) hq2 hq1.2.2.2.2.2.1)
       have HMT1 := aM (map_take insL hq)
       obtain ⟨ad2, A2, n2, rfl, i0, i1, i2, i3, i4, i5, i6, hn2, hC2⟩ := ins_cells HC1.out hq
       have hbl := HBL.out _ (HKW.out.trans HKA.out)
       have i0 := pw_cell_below hbl i0
       have i1 := pw_cell_below hbl i1
       have i2 := pw_cell_below hbl i2
       have i3 := pw_cell_below hbl i3
       have i4 := pw_cell_below hbl i4
       have i5 := pw_cell_below hbl i5
       have i6 := pw_cell_below hbl i6
       obtain ⟨WB, hWB⟩ : ∃ WB, WB = wi.alloc (.cells #[.int .u8 k1, .int .u8 op, .int .i64 d, .int .i64 a1, .int .i64 bb, .int .i64 nn, .slice A2 args.length n2] 92) := ⟨_, rfl⟩
       have HBW := aM (show Below wi.heap.size wi WB by rw [hWB]; exact (Below.refl _ _).alloc (Nat.le_refl _) _)
       have HAB := aM (show 0 < args.length → ∀ a, A2 = some a → a.block ≠ g from fun h a e => by have := C_lt hC2 h e; omega)
       have HC2 := aM (show kI.C WB A2 args.length args from Kd.C_below (Kd.C_below hC2 hbl) HBW.out)
       have hbox := box_cells (w := wi) (W' := WB) (k := k1) (op := op) (d := d) (a := a1) (b := bb) (n := nn) (s := .slice A2 args.length n2) (e := 92) (by rw [hWB]; exact Below.refl _ _)
       have HBOX := aM hbox
       have HWB := aM (HWI.out.keep HBW.out)
       clear hbox hq hq1 hC2 hbl
       go_upto_region 8 with fail
       rw [← hWB]
       clear hWB i0 i1 i2 i3 i4 i5 i6 b0 b1 b2 b3 b4
       obtain ⟨c0, c1, c2, c3, c4, c5, c6⟩ := HBOX.out
       go_wp2_with (have HWc := HWB; clear HWB; go_at_call 120; refine (wins_calls g mi k1 op d a1 bb nn args A2 n2 WB HWc.out HC2.out HAB.out HQ1.out (by omega) (by omega)).mono ?_; rintro _ w1 ⟨rfl, hw, hk⟩; have HWN := aM hw; have HKN := aM ((HKA.out.trans (Keep.of_below HBW.out)).trans hk); clear hw hk HWc c0 c1 c2 c3 c4 c5 c6)
       go_roundw
       case rel => exact ⟨i + 1, by omega, by go_num, mi ++ insL (k1, op, d, a1, bb, nn, args), by rw [List.length_append]; have := HQL.out; omega, ⟨by rw [HMI.out, HMT1.out, List.append_assoc]⟩, HWN, HKN⟩
       case measure => simp [intOf]; omega
     · obtain rfl : i = is.length := by omega
       have HMF := aM (show mi = m1 ++ (is.map insL).flatten by rw [HMI.out, List.take_length])
       rcases (by omega : k = 1 ∨ k = 2 ∨ (k ≠ 1 ∧ k ≠ 2)) with rfl | rfl | ⟨hk1, hk2⟩
       · go_wp2_with (first | (have HWc := HWI; clear HWI; go_at_call 86; refine (nums_lit g mi [1] 1 rfl wi _ HWc.out (by first | rfl | exact (World.size_alloc _ _).symm) (by omega)).mono ?_; rintro _ w1 ⟨rfl, m2, hm, hml_m2, hw, hk⟩; have HE_m2 := aM hm; clear b0 b1 b2 b3 b4; have HKA := aM (HKA.out.trans hk); obtain ⟨b0, b1, b2, b3, b4⟩ := HBX.out w1 HKA.out; have HW3 := aM hw; clear hm hw hk HWc) | (have HWc := HW3; clear HW3; go_at_call 86; refine (nums_lit g m2 [t] 1 rfl _ _ HWc.out (by first | rfl | exact (World.size_alloc _ _).symm) (by omega)).mono ?_; rintro _ w1 ⟨rfl, m3, hm, hml_m3, hw, hk⟩; have HE_m3 := aM hm; clear b0 b1 b2 b3 b4; have HKA := aM (HKA.out.trans hk); obtain ⟨b0, b1, b2, b3, b4⟩ := HBX.out w1 HKA.out; have HW4 := aM hw; clear hm hw hk HWc))
         go_roundw
         case rel => exact ⟨j + 1, by omega, by go_num, m3, by omega, ⟨by rw [HMT.out, HE_m3.out, HE_m2.out, HMF.out, HE_m1.out, HM.out]; simp [blkL, endL, fieldsL, List.append_assoc]⟩, HW4, ⟨HKW.out.trans HKA.out⟩⟩
         case measure => simp [intOf]; omega
       · go_wp2_with (first | (have HWc := HWI; clear HWI; go_at_call 86; refine (nums_lit g mi [2] 1 rfl wi _ HWc.out (by first | rfl | exact (World.size_alloc _ _).symm) (by omega)).mono ?_; rintro _ w1 ⟨rfl, m2, hm, hml_m2, hw, hk⟩; have HE_m2 := aM hm; clear b0 b1 b2 b3 b4; have HKA := aM (HKA.out.trans hk); obtain ⟨b0, b1, b2, b3, b4⟩ := HBX.out w1 HKA.out; have HW3 := aM hw; clear hm hw hk HWc) | (have HWc := HW3; clear HW3; go_at_call 86; refine (nums_lit g m2 [a, t, e] 3 rfl _ _ HWc.out (by first | rfl | exact (World.size_alloc _ _).symm) (by omega)).mono ?_; rintro _ w1 ⟨rfl, m3, hm, hml_m3, hw, hk⟩; have HE_m3 := aM hm; clear b0 b1 b2 b3 b4; have HKA := aM (HKA.out.trans hk); obtain ⟨b0, b1, b2, b3, b4⟩ := HBX.out w1 HKA.out; have HW4 := aM hw; clear hm hw hk HWc))
         go_roundw
         case rel => exact ⟨j + 1, by omega, by go_num, m3, by omega, ⟨by rw [HMT.out, HE_m3.out, HE_m2.out, HMF.out, HE_m1.out, HM.out]; simp [blkL, endL, fieldsL, List.append_assoc]⟩, HW4, ⟨HKW.out.trans HKA.out⟩⟩
         case measure => simp [intOf]; omega
       · have hb1 : (k == 1) = false := beq_eq_false_iff_ne.mpr hk1
         have hb2 : (k == 2) = false := beq_eq_false_iff_ne.mpr hk2
         have HK1 := aM hk1
         have HK2 := aM hk2
         clear hk1 hk2
         go_wp2_with (first | (have HWc := HWI; clear HWI; go_at_call 86; refine (nums_lit g mi [k] 1 rfl wi _ HWc.out (by first | rfl | exact (World.size_alloc _ _).symm) (by omega)).mono ?_; rintro _ w1 ⟨rfl, m2, hm, hml_m2, hw, hk⟩; have HE_m2 := aM hm; clear b0 b1 b2 b3 b4; have HKA := aM (HKA.out.trans hk); obtain ⟨b0, b1, b2, b3, b4⟩ := HBX.out w1 HKA.out; have HW3 := aM hw; clear hm hw hk HWc) | (have HWc := HW3; clear HW3; go_at_call 86; refine (nums_lit g m2 [a] 1 rfl _ _ HWc.out (by first | rfl | exact (World.size_alloc _ _).symm) (by omega)).mono ?_; rintro _ w1 ⟨rfl, m3, hm, hml_m3, hw, hk⟩; have HE_m3 := aM hm; clear b0 b1 b2 b3 b4; have HKA := aM (HKA.out.trans hk); obtain ⟨b0, b1, b2, b3, b4⟩ := HBX.out w1 HKA.out; have HW4 := aM hw; clear hm hw hk HWc))
         go_roundw
         case rel => exact ⟨j + 1, by omega, by go_num, m3, by omega, ⟨by rw [HMT.out, HE_m3.out, HE_m2.out, HMF.out, HE_m1.out, HM.out]; simp [blkL, endL, fieldsL, List.append_assoc, HK1.out, HK2.out]⟩, HW4, ⟨HKW.out.trans HKA.out⟩⟩
         case measure => simp [intOf]; omega
  · obtain rfl : j = bs.length := by omega
    go_wp2
    go_returns
    exact ⟨rfl, by have h := HW.out; rw [HM.out, List.take_length, HE_m0.out] at h; simpa [blksL, fieldsL, List.append_assoc] using h, HK.out⟩
end Go.Proofs.Ytnckonglodmfeaa.Ik
namespace Go.Proofs.Ytnckonglodmfeaa.Ik
open Go.RowKit Go.Proofs.YtnckonglodmfeaaW.PrintWords Go.Proofs.YtnckonglodmfeaaW.PrintLast Go.Proofs.YtnckonglodmfeaaW.PrintMore B R S Is
set_option maxRecDepth 100000 in
theorem rtakes_calls (k a t e : Int) (w : World) : Calls Try.prog 116 #[.agg #[.int .u8 k, .int .i64 a, .int .i64 t, .int .i64 e]] w fun r w' => r = .returned (.bool (takesB k)) ∧ Below w.heap.size w w' := by
 have mixed : Try.prog.follows .mixedOrders = true := by kernel_rfl
 have hk : k = 2 ∨ k = 3 ∨ ((k == 2) = false ∧ (k == 3) = false) := by simp only [beq_eq_false_iff_ne]; omega
 rcases hk with rfl | rfl | ⟨h1, h2⟩
 all_goals
  go_enter Try.func116, Try.ntmps116
  go_wp2
  go_ret
  refine ⟨?_, (Below.refl _ _).alloc (Nat.le_refl _) _⟩
  first | rfl | (simp at h1 h2; simp [takesB, h1, h2])
set_option maxRecDepth 100000 in
theorem rgives_calls (k : Int) (w : World) : Calls Try.prog 114 #[.int .u8 k] w fun r w' => r = .returned (.bool (givesB k)) ∧ w' = w := by
 have mixed : Try.prog.follows .mixedOrders = true := by kernel_rfl
 rcases kinds k with rfl | rfl | rfl | rfl | rfl | rfl | rfl | rfl | ⟨h1, h2, h3, h4, h5, h6, h7, h8⟩
 all_goals
  go_enter Try.func114, Try.ntmps114
  go_wp2
  go_ret
  refine ⟨?_, rfl⟩
  first | rfl | (simp at h1 h2 h3 h4 h5 h6 h7 h8; simp [givesB, h1, h2, h3, h4, h6, h8])
set_option maxHeartbeats 4000000 in
set_option maxRecDepth 100000 in
theorem rend_calls (k a t e v m x : Int) (w : World) : Calls Try.prog 123 #[.agg #[.int .u8 k, .int .i64 a, .int .i64 t, .int .i64 e], .int .i64 v, .int .i64 m, .int .i64 x] w fun r w' => r = .returned (.int .i64 (endErr v m x (k, a, t, e))) ∧ Below w.heap.size w w' := by
 have mixed : Try.prog.follows .mixedOrders = true := by kernel_rfl
 have hk : k = 1 ∨ k = 2 ∨ k = 3 ∨ (k < 1) ∨ (¬ k < 1 ∧ 3 < k) := by omega
 rcases hk with rfl | rfl | rfl | h1 | ⟨h1, h2⟩
 all_goals
  go_enter Try.func123, Try.ntmps123
  go_wp2_with (go_at_call 116; refine (rtakes_calls _ _ _ _ _).mono ?_; rintro _ w1 ⟨rfl, hb⟩; (first | rw [show takesB 1 = false from rfl] | rw [show takesB 2 = true from rfl] | rw [show takesB 3 = true from rfl] | skip); have hc0 := cell_at (below_cells hb) 0 _ rfl; have hc1 := cell_at (below_cells hb) 1 _ rfl; have hc2 := cell_at (below_cells hb) 2 _ rfl; have hc3 := cell_at (below_cells hb) 3 _ rfl; have HB := aM (((Below.refl w.heap.size w).alloc (Nat.le_refl _) _).trans (hb.mono (by rw [World.size_alloc]; omega))); clear hb)
  all_goals
   go_ret
   refine ⟨?_, by first | exact HB.out | exact (Below.refl _ _).alloc (Nat.le_refl _) _⟩
   have HE : ∀ x y : Int, x = y → Ending.returned (Value.int .i64 x) = .returned (.int .i64 y) := fun x y h => by rw [h]
   refine HE _ _ ?_
   simp only [endErr]
   repeat' split
   all_goals first | rfl | omega | (clear HE; (try clear HB hc0 hc1 hc2 hc3); simp only [true_and, and_true, false_or, or_false, false_and, and_false, or_true, true_or, not_true_eq_false, not_false_eq_true, bne_iff_ne, ne_eq, bne_eq_false_iff_eq, beq_iff_eq, takesB, decide_eq_true_eq, decide_eq_false_iff_not, Bool.not_eq_true'] at *; omega)
set_option maxHeartbeats 1000000 in
set_option maxRecDepth 100000 in
theorem ruses_calls (k op d a b n : Int) (args : List Int) (A : Option Addr) (c : Nat) (w : World) (hC : kI.C w A args.length args) (hc : args.length ≤ c) :
 Calls Try.prog 112 #[.agg #[.int .u8 k, .int .u8 op, .int .i64 d, .int .i64 a, .int .i64 b, .int .i64 n, .slice A args.length c]] w fun r w' => ∃ (A' : Option Addr) (c' : Nat), r = .returned (.slice A' (usesL (k, op, d, a, b, n, args)).length c') ∧ (usesL (k, op, d, a, b, n, args)).length ≤ c' ∧ kI.C w' A' (usesL (k, op, d, a, b, n, args)).length (usesL (k, op, d, a, b, n, args)) ∧ Below w.heap.size w w' := by
 rcases kinds k with rfl | rfl | rfl | rfl | rfl | rfl | rfl | rfl | ⟨h1, h2, h3, h4, h5, h6, h7, h8⟩
 rotate_right
 rw [show usesL (k, op, d, a, b, n, args) = [] from by
  simp at h1 h2 h3 h4 h5 h6 h7 h8
  simp only [usesL]
  rw [if_neg (by omega), if_neg (by omega), if_neg (by omega)]]
 all_goals
  have HC := aM hC
  clear hC
  go_enter Try.func112, Try.ntmps112
  go_wp2
  go_ret
  first
   | exact ⟨A, c, rfl, hc, Kd.C_below HC.out ((Below.refl _ _).alloc (Nat.le_refl _) _), (Below.refl _ _).alloc (Nat.le_refl _) _⟩
   | exact ⟨none, 0, rfl, Nat.le_refl _, C_nil .i64 _, (Below.refl _ _).alloc (Nat.le_refl _) _⟩
   | exact ⟨some ⟨w.heap.size + 1, 0, none⟩, 1, rfl, Nat.le_refl _, by rw [← World.size_alloc w _]; exact C_lit .i64 _ _ [a] 1 rfl (by decide), ((Below.refl _ _).alloc (Nat.le_refl _) _).alloc (by simp) _⟩
   | exact ⟨some ⟨w.heap.size + 1, 0, none⟩, 2, rfl, Nat.le_refl _, by rw [← World.size_alloc w _]; exact C_lit .i64 _ _ [a, b] 2 rfl (by decide), ((Below.refl _ _).alloc (Nat.le_refl _) _).alloc (by simp) _⟩
end Go.Proofs.Ytnckonglodmfeaa.Ik
namespace Go.Proofs.Ytnckonglodmfeaa.Ik
open Go.RowKit Go.Proofs.YtnckonglodmfeaaW.PrintWords Go.Proofs.YtnckonglodmfeaaW.PrintLast Go.Proofs.YtnckonglodmfeaaW.PrintMore B R S Is
def namesA (k : Int) : ByteArray := if k = 1 then ⟨#[68, 78]⟩ else if k = 3 then ⟨#[79, 68, 65, 66]⟩ else if k = 5 then ⟨#[65, 66]⟩ else if k = 6 then ⟨#[68, 78, 82]⟩ else ⟨#[68, 65]⟩
set_option maxHeartbeats 1000000 in
set_option maxRecDepth 100000 in
theorem names_calls (k : Int) (w : World) (hk : 1 ≤ k ∧ k ≤ 8) : Calls Try.prog 124 #[.int .u8 k] w fun r w' => r = .returned (.string (namesA k)) ∧ Below w.heap.size w w' := by
 have mixed : Try.prog.follows .mixedOrders = true := by kernel_rfl
 rcases (by omega : k = 1 ∨ k = 2 ∨ k = 3 ∨ k = 4 ∨ k = 5 ∨ k = 6 ∨ k = 7 ∨ k = 8) with rfl | rfl | rfl | rfl | rfl | rfl | rfl | rfl
 all_goals
  go_enter Try.func124, Try.ntmps124
  go_wp2
  go_ret
  exact ⟨rfl, (Below.refl _ _).alloc (Nat.le_refl _) _⟩
def setB : Ins → Nat → Bool
 | (k, op, d, a, b, n, args), j => if j = 0 then op != 0 else if j = 1 then d != 0 else if j = 2 then a != 0 else if j = 3 then b != 0 else if j = 4 then n != 0 else decide (0 < args.length)
def letter (j : Nat) : UInt8 := if j = 0 then 79 else if j = 1 then 68 else if j = 2 then 65 else if j = 3 then 66 else if j = 4 then 78 else 82
def zeroB (i : Ins) (s : ByteArray) : Bool := (List.range 6).all fun j => !setB i j || s.data.toList.contains (letter j)
theorem zero_plain (k op d a b n : Int) (args : List Int) (hk : 1 ≤ k ∧ k ≤ 8) : zeroB (k, op, d, a, b, n, args) (namesA k) = plainB (k, op, d, a, b, n, args) := by
 have hl : ∀ l : List Int, decide (0 < l.length) = !decide (l.length = 0) := fun l => by cases l <;> simp
 rcases (by omega : k = 1 ∨ k = 2 ∨ k = 3 ∨ k = 4 ∨ k = 5 ∨ k = 6 ∨ k = 7 ∨ k = 8) with rfl | rfl | rfl | rfl | rfl | rfl | rfl | rfl
 all_goals
  simp [zeroB, plainB, namesA, setB, letter, List.range, List.range.loop, Bool.decide_and, hl, bne] <;> rfl
end Go.Proofs.Ytnckonglodmfeaa.Ik
namespace Go.Proofs.Ytnckonglodmfeaa.Ik
open Go.RowKit Go.Proofs.YtnckonglodmfeaaW.PrintWords Go.Proofs.YtnckonglodmfeaaW.PrintLast Go.Proofs.YtnckonglodmfeaaW.PrintMore B R S Is
theorem u8_beq (a b : UInt8) : (((a.toNat : Nat) : Int) == ((b.toNat : Nat) : Int)) = (a == b) := by
 by_cases h : a = b
 · subst h; simp
 · have h2 : ((a.toNat : Nat) : Int) ≠ ((b.toNat : Nat) : Int) := fun e => h (UInt8.toNat_inj.1 (by omega))
   rw [beq_eq_false_iff_ne.2 h2, beq_eq_false_iff_ne.2 h]
theorem has_step (s : ByteArray) (j : Nat) (hj : j < s.size) (c : UInt8) : (s.data.toList.take (j + 1)).contains c = ((s.data.toList.take j).contains c || (s[j] == c)) := by
 have h : s.data.toList[j]? = some s[j] := by
  rw [List.getElem?_eq_getElem (by simpa using hj)]
  rfl
 rw [List.take_add_one, h, Bool.eq_iff_iff]
 simp only [Option.toList_some, List.contains_iff_mem, List.mem_append, Bool.or_eq_true, beq_iff_eq, List.mem_singleton]
 exact or_congr Iff.rfl eq_comm
theorem has_all (s : ByteArray) (c : UInt8) : (s.data.toList.take s.size).contains c = s.data.toList.contains c := by
 rw [List.take_of_length_le (by rw [Array.length_toList]; exact Nat.le_refl _)]
set_option maxHeartbeats 4000000 in
set_option maxRecDepth 100000 in
theorem zero_calls (k op d a b n : Int) (args : List Int) (A : Option Addr) (c : Nat) (s : ByteArray) (hs : s.size ≤ 100) (w : World) : Calls Try.prog 143 #[.agg #[.int .u8 k, .int .u8 op, .int .i64 d, .int .i64 a, .int .i64 b, .int .i64 n, .slice A args.length c], .string s] w fun r w' => r = .returned (.bool (zeroB (k, op, d, a, b, n, args) s)) ∧ Below w.heap.size w w' := by
 have mixed : Try.prog.follows .mixedOrders = true := by kernel_rfl
 have HX := aM (fun W' h => box_cells (w := w) (W' := W') (k := k) (op := op) (d := d) (a := a) (b := b) (n := n) (s := .slice A args.length c) (e := 92) h)
 go_enter Try.func143, Try.ntmps143
 go_wp2_with fail
 go_loopw [5] (fun vi wr => ∃ q : Nat, q ≤ 6 ∧ vi = .int .i64 q ∧ Aside0 (∀ p, p < q → (!setB (k, op, d, a, b, n, args) p || s.data.toList.contains (letter p)) = true) ∧ Aside0 (Below (w.heap.size + 1) (w.alloc (.cells #[.int .u8 k, .int .u8 op, .int .i64 d, .int .i64 a, .int .i64 b, .int .i64 n, .slice A args.length c] 92)) wr)) (fun vi _ => 6 - (intOf vi).toNat)
 case atStart => exact ⟨0, by omega, rfl, ⟨fun p h => by omega⟩, ⟨Below.refl _ _⟩⟩
 case round =>
  obtain ⟨q, hq, rfl, HP, HB⟩ := hrel
  obtain ⟨c0, c1, c2, c3, c4, c5, c6⟩ := HX.out wr HB.out
  rcases (by omega : q = 6 ∨ q = 0 ∨ q = 1 ∨ q = 2 ∨ q = 3 ∨ q = 4 ∨ q = 5) with rfl | rfl | rfl | rfl | rfl | rfl | rfl
  · go_wp2
    go_ret
    refine ⟨?_, ((Below.refl _ _).alloc (Nat.le_refl _) _).trans (HB.out.mono (by omega))⟩
    have hz : zeroB (k, op, d, a, b, n, args) s = true := by
     unfold zeroB
     rw [List.all_eq_true]
     exact fun p hp => HP.out p (by simpa using hp)
    rw [hz]
    rfl
  · go_wp2_with fail
    obtain ⟨wo, hwo⟩ : ∃ wo, wo = wr := ⟨_, rfl⟩
    subst hwo
    go_loopw [7, 8] (fun vx vj wr => wr = wo ∧ ∃ (x : Bool) (j : Nat), j ≤ s.size ∧ vx = .bool x ∧ vj = .int .i64 j ∧ Aside0 (x = (s.data.toList.take j).contains (letter 0))) (fun _ vj _ => s.size - (intOf vj).toNat)
    case atStart => exact ⟨rfl, false, 0, by omega, rfl, rfl, ⟨rfl⟩⟩
    case round =>
     obtain ⟨rfl, x, j, hj, rfl, rfl, HJ⟩ := hrel
     by_cases hjs : j < s.size
     · have HT := aM (has_step s j hjs (letter 0))
       cases x
       · have HT2 := aM (HT.out.trans (by rw [← HJ.out]; rfl : _ = (s[j] == letter 0)))
         have HT3 := aM (u8_beq s[j] (letter 0))
         go_wp2_with fail
         go_roundw
         case rel => exact ⟨by first | rfl | trivial, _, j + 1, by omega, rfl, by go_num, ⟨HT3.out.trans HT2.out.symm⟩⟩
         case measure => simp [intOf]; omega
       · have HT2 := aM (HT.out.trans (by rw [← HJ.out]; rfl : _ = true))
         go_wp2_with fail
         go_roundw
         case rel => exact ⟨by first | rfl | trivial, true, j + 1, by omega, rfl, by go_num, ⟨HT2.out.symm⟩⟩
         case measure => simp [intOf]; omega
     · obtain rfl : j = s.size := by omega
       have HJ2 := aM (HJ.out.trans (has_all s (letter 0)))
       have HS := aM (show w.heap.size + 1 ≤ wr.heap.size by have := HB.out.size; rw [World.size_alloc] at this; exact this)
       rcases (by simp only [beq_eq_false_iff_ne]; omega : (op = 0) ∨ ((op == 0) = false)) with rfl | hv
       · have HF := aM (show setB (k, 0, d, a, b, n, args) 0 = false from by simp [setB])
         cases x
         all_goals
          go_wp2_with fail
          go_roundw
          case rel => exact ⟨0 + 1, by omega, by go_num, ⟨fun p hp => by rcases Nat.lt_succ_iff_lt_or_eq.1 hp with h | rfl; exact HP.out p h; rw [HF.out]; rfl⟩, ⟨HB.out.alloc HS.out _⟩⟩
          case measure => simp [intOf]
       · have HF := aM (show setB (k, op, d, a, b, n, args) 0 = true from by simp only [beq_eq_false_iff_ne] at hv; simp [setB, hv])
         have hv2 : (op != 0) = true := by simp only [bne, hv]; rfl
         cases x
         · go_wp2_with fail
           go_ret
           refine ⟨?_, ((Below.refl _ _).alloc (Nat.le_refl _) _).trans ((HB.out.alloc HS.out _).mono (by omega))⟩
           have hz : zeroB (k, op, d, a, b, n, args) s = false := by
            unfold zeroB
            rw [List.all_eq_false]
            exact ⟨0, by simp, by rw [HF.out, ← HJ2.out]; simp⟩
           rw [hz]
           rfl
         · go_wp2_with fail
           go_roundw
           case rel => exact ⟨0 + 1, by omega, by go_num, ⟨fun p hp => by rcases Nat.lt_succ_iff_lt_or_eq.1 hp with h | rfl; exact HP.out p h; rw [← HJ2.out]; simp⟩, ⟨HB.out.alloc HS.out _⟩⟩
           case measure => simp [intOf]
  · go_wp2_with fail
    obtain ⟨wo, hwo⟩ : ∃ wo, wo = wr := ⟨_, rfl⟩
    subst hwo
    go_loopw [7, 8] (fun vx vj wr => wr = wo ∧ ∃ (x : Bool) (j : Nat), j ≤ s.size ∧ vx = .bool x ∧ vj = .int .i64 j ∧ Aside0 (x = (s.data.toList.take j).contains (letter 1))) (fun _ vj _ => s.size - (intOf vj).toNat)
    case atStart => exact ⟨rfl, false, 0, by omega, rfl, rfl, ⟨rfl⟩⟩
    case round =>
     obtain ⟨rfl, x, j, hj, rfl, rfl, HJ⟩ := hrel
     by_cases hjs : j < s.size
     · have HT := aM (has_step s j hjs (letter 1))
       cases x
       · have HT2 := aM (HT.out.trans (by rw [← HJ.out]; rfl : _ = (s[j] == letter 1)))
         have HT3 := aM (u8_beq s[j] (letter 1))
         go_wp2_with fail
         go_roundw
         case rel => exact ⟨by first | rfl | trivial, _, j + 1, by omega, rfl, by go_num, ⟨HT3.out.trans HT2.out.symm⟩⟩
         case measure => simp [intOf]; omega
       · have HT2 := aM (HT.out.trans (by rw [← HJ.out]; rfl : _ = true))
         go_wp2_with fail
         go_roundw
         case rel => exact ⟨by first | rfl | trivial, true, j + 1, by omega, rfl, by go_num, ⟨HT2.out.symm⟩⟩
         case measure => simp [intOf]; omega
     · obtain rfl : j = s.size := by omega
       have HJ2 := aM (HJ.out.trans (has_all s (letter 1)))
       have HS := aM (show w.heap.size + 1 ≤ wr.heap.size by have := HB.out.size; rw [World.size_alloc] at this; exact this)
       rcases (by simp only [beq_eq_false_iff_ne]; omega : (d = 0) ∨ ((d == 0) = false)) with rfl | hv
       · have HF := aM (show setB (k, op, 0, a, b, n, args) 1 = false from by simp [setB])
         cases x
         all_goals
          go_wp2_with fail
          go_roundw
          case rel => exact ⟨1 + 1, by omega, by go_num, ⟨fun p hp => by rcases Nat.lt_succ_iff_lt_or_eq.1 hp with h | rfl; exact HP.out p h; rw [HF.out]; rfl⟩, ⟨HB.out.alloc HS.out _⟩⟩
          case measure => simp [intOf]
       · have HF := aM (show setB (k, op, d, a, b, n, args) 1 = true from by simp only [beq_eq_false_iff_ne] at hv; simp [setB, hv])
         have hv2 : (d != 0) = true := by simp only [bne, hv]; rfl
         cases x
         · go_wp2_with fail
           go_ret
           refine ⟨?_, ((Below.refl _ _).alloc (Nat.le_refl _) _).trans ((HB.out.alloc HS.out _).mono (by omega))⟩
           have hz : zeroB (k, op, d, a, b, n, args) s = false := by
            unfold zeroB
            rw [List.all_eq_false]
            exact ⟨1, by simp, by rw [HF.out, ← HJ2.out]; simp⟩
           rw [hz]
           rfl
         · go_wp2_with fail
           go_roundw
           case rel => exact ⟨1 + 1, by omega, by go_num, ⟨fun p hp => by rcases Nat.lt_succ_iff_lt_or_eq.1 hp with h | rfl; exact HP.out p h; rw [← HJ2.out]; simp⟩, ⟨HB.out.alloc HS.out _⟩⟩
           case measure => simp [intOf]
  · go_wp2_with fail
    obtain ⟨wo, hwo⟩ : ∃ wo, wo = wr := ⟨_, rfl⟩
    subst hwo
    go_loopw [7, 8] (fun vx vj wr => wr = wo ∧ ∃ (x : Bool) (j : Nat), j ≤ s.size ∧ vx = .bool x ∧ vj = .int .i64 j ∧ Aside0 (x = (s.data.toList.take j).contains (letter 2))) (fun _ vj _ => s.size - (intOf vj).toNat)
    case atStart => exact ⟨rfl, false, 0, by omega, rfl, rfl, ⟨rfl⟩⟩
    case round =>
     obtain ⟨rfl, x, j, hj, rfl, rfl, HJ⟩ := hrel
     by_cases hjs : j < s.size
     · have HT := aM (has_step s j hjs (letter 2))
       cases x
       · have HT2 := aM (HT.out.trans (by rw [← HJ.out]; rfl : _ = (s[j] == letter 2)))
         have HT3 := aM (u8_beq s[j] (letter 2))
         go_wp2_with fail
         go_roundw
         case rel => exact ⟨by first | rfl | trivial, _, j + 1, by omega, rfl, by go_num, ⟨HT3.out.trans HT2.out.symm⟩⟩
         case measure => simp [intOf]; omega
       · have HT2 := aM (HT.out.trans (by rw [← HJ.out]; rfl : _ = true))
         go_wp2_with fail
         go_roundw
         case rel => exact ⟨by first | rfl | trivial, true, j + 1, by omega, rfl, by go_num, ⟨HT2.out.symm⟩⟩
         case measure => simp [intOf]; omega
     · obtain rfl : j = s.size := by omega
       have HJ2 := aM (HJ.out.trans (has_all s (letter 2)))
       have HS := aM (show w.heap.size + 1 ≤ wr.heap.size by have := HB.out.size; rw [World.size_alloc] at this; exact this)
       rcases (by simp only [beq_eq_false_iff_ne]; omega : (a = 0) ∨ ((a == 0) = false)) with rfl | hv
       · have HF := aM (show setB (k, op, d, 0, b, n, args) 2 = false from by simp [setB])
         cases x
         all_goals
          go_wp2_with fail
          go_roundw
          case rel => exact ⟨2 + 1, by omega, by go_num, ⟨fun p hp => by rcases Nat.lt_succ_iff_lt_or_eq.1 hp with h | rfl; exact HP.out p h; rw [HF.out]; rfl⟩, ⟨HB.out.alloc HS.out _⟩⟩
          case measure => simp [intOf]
       · have HF := aM (show setB (k, op, d, a, b, n, args) 2 = true from by simp only [beq_eq_false_iff_ne] at hv; simp [setB, hv])
         have hv2 : (a != 0) = true := by simp only [bne, hv]; rfl
         cases x
         · go_wp2_with fail
           go_ret
           refine ⟨?_, ((Below.refl _ _).alloc (Nat.le_refl _) _).trans ((HB.out.alloc HS.out _).mono (by omega))⟩
           have hz : zeroB (k, op, d, a, b, n, args) s = false := by
            unfold zeroB
            rw [List.all_eq_false]
            exact ⟨2, by simp, by rw [HF.out, ← HJ2.out]; simp⟩
           rw [hz]
           rfl
         · go_wp2_with fail
           go_roundw
           case rel => exact ⟨2 + 1, by omega, by go_num, ⟨fun p hp => by rcases Nat.lt_succ_iff_lt_or_eq.1 hp with h | rfl; exact HP.out p h; rw [← HJ2.out]; simp⟩, ⟨HB.out.alloc HS.out _⟩⟩
           case measure => simp [intOf]
  · go_wp2_with fail
    obtain ⟨wo, hwo⟩ : ∃ wo, wo = wr := ⟨_, rfl⟩
    subst hwo
    go_loopw [7, 8] (fun vx vj wr => wr = wo ∧ ∃ (x : Bool) (j : Nat), j ≤ s.size ∧ vx = .bool x ∧ vj = .int .i64 j ∧ Aside0 (x = (s.data.toList.take j).contains (letter 3))) (fun _ vj _ => s.size - (intOf vj).toNat)
    case atStart => exact ⟨rfl, false, 0, by omega, rfl, rfl, ⟨rfl⟩⟩
    case round =>
     obtain ⟨rfl, x, j, hj, rfl, rfl, HJ⟩ := hrel
     by_cases hjs : j < s.size
     · have HT := aM (has_step s j hjs (letter 3))
       cases x
       · have HT2 := aM (HT.out.trans (by rw [← HJ.out]; rfl : _ = (s[j] == letter 3)))
         have HT3 := aM (u8_beq s[j] (letter 3))
         go_wp2_with fail
         go_roundw
         case rel => exact ⟨by first | rfl | trivial, _, j + 1, by omega, rfl, by go_num, ⟨HT3.out.trans HT2.out.symm⟩⟩
         case measure => simp [intOf]; omega
       · have HT2 := aM (HT.out.trans (by rw [← HJ.out]; rfl : _ = true))
         go_wp2_with fail
         go_roundw
         case rel => exact ⟨by first | rfl | trivial, true, j + 1, by omega, rfl, by go_num, ⟨HT2.out.symm⟩⟩
         case measure => simp [intOf]; omega
     · obtain rfl : j = s.size := by omega
       have HJ2 := aM (HJ.out.trans (has_all s (letter 3)))
       have HS := aM (show w.heap.size + 1 ≤ wr.heap.size by have := HB.out.size; rw [World.size_alloc] at this; exact this)
       rcases (by simp only [beq_eq_false_iff_ne]; omega : (b = 0) ∨ ((b == 0) = false)) with rfl | hv
       · have HF := aM (show setB (k, op, d, a, 0, n, args) 3 = false from by simp [setB])
         cases x
         all_goals
          go_wp2_with fail
          go_roundw
          case rel => exact ⟨3 + 1, by omega, by go_num, ⟨fun p hp => by rcases Nat.lt_succ_iff_lt_or_eq.1 hp with h | rfl; exact HP.out p h; rw [HF.out]; rfl⟩, ⟨HB.out.alloc HS.out _⟩⟩
          case measure => simp [intOf]
       · have HF := aM (show setB (k, op, d, a, b, n, args) 3 = true from by simp only [beq_eq_false_iff_ne] at hv; simp [setB, hv])
         have hv2 : (b != 0) = true := by simp only [bne, hv]; rfl
         cases x
         · go_wp2_with fail
           go_ret
           refine ⟨?_, ((Below.refl _ _).alloc (Nat.le_refl _) _).trans ((HB.out.alloc HS.out _).mono (by omega))⟩
           have hz : zeroB (k, op, d, a, b, n, args) s = false := by
            unfold zeroB
            rw [List.all_eq_false]
            exact ⟨3, by simp, by rw [HF.out, ← HJ2.out]; simp⟩
           rw [hz]
           rfl
         · go_wp2_with fail
           go_roundw
           case rel => exact ⟨3 + 1, by omega, by go_num, ⟨fun p hp => by rcases Nat.lt_succ_iff_lt_or_eq.1 hp with h | rfl; exact HP.out p h; rw [← HJ2.out]; simp⟩, ⟨HB.out.alloc HS.out _⟩⟩
           case measure => simp [intOf]
  · go_wp2_with fail
    obtain ⟨wo, hwo⟩ : ∃ wo, wo = wr := ⟨_, rfl⟩
    subst hwo
    go_loopw [7, 8] (fun vx vj wr => wr = wo ∧ ∃ (x : Bool) (j : Nat), j ≤ s.size ∧ vx = .bool x ∧ vj = .int .i64 j ∧ Aside0 (x = (s.data.toList.take j).contains (letter 4))) (fun _ vj _ => s.size - (intOf vj).toNat)
    case atStart => exact ⟨rfl, false, 0, by omega, rfl, rfl, ⟨rfl⟩⟩
    case round =>
     obtain ⟨rfl, x, j, hj, rfl, rfl, HJ⟩ := hrel
     by_cases hjs : j < s.size
     · have HT := aM (has_step s j hjs (letter 4))
       cases x
       · have HT2 := aM (HT.out.trans (by rw [← HJ.out]; rfl : _ = (s[j] == letter 4)))
         have HT3 := aM (u8_beq s[j] (letter 4))
         go_wp2_with fail
         go_roundw
         case rel => exact ⟨by first | rfl | trivial, _, j + 1, by omega, rfl, by go_num, ⟨HT3.out.trans HT2.out.symm⟩⟩
         case measure => simp [intOf]; omega
       · have HT2 := aM (HT.out.trans (by rw [← HJ.out]; rfl : _ = true))
         go_wp2_with fail
         go_roundw
         case rel => exact ⟨by first | rfl | trivial, true, j + 1, by omega, rfl, by go_num, ⟨HT2.out.symm⟩⟩
         case measure => simp [intOf]; omega
     · obtain rfl : j = s.size := by omega
       have HJ2 := aM (HJ.out.trans (has_all s (letter 4)))
       have HS := aM (show w.heap.size + 1 ≤ wr.heap.size by have := HB.out.size; rw [World.size_alloc] at this; exact this)
       rcases (by simp only [beq_eq_false_iff_ne]; omega : (n = 0) ∨ ((n == 0) = false)) with rfl | hv
       · have HF := aM (show setB (k, op, d, a, b, 0, args) 4 = false from by simp [setB])
         cases x
         all_goals
          go_wp2_with fail
          go_roundw
          case rel => exact ⟨4 + 1, by omega, by go_num, ⟨fun p hp => by rcases Nat.lt_succ_iff_lt_or_eq.1 hp with h | rfl; exact HP.out p h; rw [HF.out]; rfl⟩, ⟨HB.out.alloc HS.out _⟩⟩
          case measure => simp [intOf]
       · have HF := aM (show setB (k, op, d, a, b, n, args) 4 = true from by simp only [beq_eq_false_iff_ne] at hv; simp [setB, hv])
         have hv2 : (n != 0) = true := by simp only [bne, hv]; rfl
         cases x
         · go_wp2_with fail
           go_ret
           refine ⟨?_, ((Below.refl _ _).alloc (Nat.le_refl _) _).trans ((HB.out.alloc HS.out _).mono (by omega))⟩
           have hz : zeroB (k, op, d, a, b, n, args) s = false := by
            unfold zeroB
            rw [List.all_eq_false]
            exact ⟨4, by simp, by rw [HF.out, ← HJ2.out]; simp⟩
           rw [hz]
           rfl
         · go_wp2_with fail
           go_roundw
           case rel => exact ⟨4 + 1, by omega, by go_num, ⟨fun p hp => by rcases Nat.lt_succ_iff_lt_or_eq.1 hp with h | rfl; exact HP.out p h; rw [← HJ2.out]; simp⟩, ⟨HB.out.alloc HS.out _⟩⟩
           case measure => simp [intOf]
  · go_wp2_with fail
    obtain ⟨wo, hwo⟩ : ∃ wo, wo = wr := ⟨_, rfl⟩
    subst hwo
    go_loopw [7, 8] (fun vx vj wr => wr = wo ∧ ∃ (x : Bool) (j : Nat), j ≤ s.size ∧ vx = .bool x ∧ vj = .int .i64 j ∧ Aside0 (x = (s.data.toList.take j).contains (letter 5))) (fun _ vj _ => s.size - (intOf vj).toNat)
    case atStart => exact ⟨rfl, false, 0, by omega, rfl, rfl, ⟨rfl⟩⟩
    case round =>
     obtain ⟨rfl, x, j, hj, rfl, rfl, HJ⟩ := hrel
     by_cases hjs : j < s.size
     · have HT := aM (has_step s j hjs (letter 5))
       cases x
       · have HT2 := aM (HT.out.trans (by rw [← HJ.out]; rfl : _ = (s[j] == letter 5)))
         have HT3 := aM (u8_beq s[j] (letter 5))
         go_wp2_with fail
         go_roundw
         case rel => exact ⟨by first | rfl | trivial, _, j + 1, by omega, rfl, by go_num, ⟨HT3.out.trans HT2.out.symm⟩⟩
         case measure => simp [intOf]; omega
       · have HT2 := aM (HT.out.trans (by rw [← HJ.out]; rfl : _ = true))
         go_wp2_with fail
         go_roundw
         case rel => exact ⟨by first | rfl | trivial, true, j + 1, by omega, rfl, by go_num, ⟨HT2.out.symm⟩⟩
         case measure => simp [intOf]; omega
     · obtain rfl : j = s.size := by omega
       have HJ2 := aM (HJ.out.trans (has_all s (letter 5)))
       have HS := aM (show w.heap.size + 1 ≤ wr.heap.size by have := HB.out.size; rw [World.size_alloc] at this; exact this)
       rcases (by cases args <;> simp : (args = []) ∨ (0 < args.length)) with rfl | hv
       · have HF := aM (show setB (k, op, d, a, b, n, []) 5 = false from by simp [setB])
         cases x
         all_goals
          go_wp2_with fail
          go_roundw
          case rel => exact ⟨5 + 1, by omega, by go_num, ⟨fun p hp => by rcases Nat.lt_succ_iff_lt_or_eq.1 hp with h | rfl; exact HP.out p h; rw [HF.out]; rfl⟩, ⟨HB.out.alloc HS.out _⟩⟩
          case measure => simp [intOf]
       · have HF := aM (show setB (k, op, d, a, b, n, args) 5 = true from by simpa [setB] using hv)
         have hv2 : 0 < args.length := hv
         cases x
         · go_wp2_with fail
           go_ret
           refine ⟨?_, ((Below.refl _ _).alloc (Nat.le_refl _) _).trans ((HB.out.alloc HS.out _).mono (by omega))⟩
           have hz : zeroB (k, op, d, a, b, n, args) s = false := by
            unfold zeroB
            rw [List.all_eq_false]
            exact ⟨5, by simp, by rw [HF.out, ← HJ2.out]; simp⟩
           rw [hz]
           rfl
         · go_wp2_with fail
           go_roundw
           case rel => exact ⟨5 + 1, by omega, by go_num, ⟨fun p hp => by rcases Nat.lt_succ_iff_lt_or_eq.1 hp with h | rfl; exact HP.out p h; rw [← HJ2.out]; simp⟩, ⟨HB.out.alloc HS.out _⟩⟩
           case measure => simp [intOf]
end Go.Proofs.Ytnckonglodmfeaa.Ik
namespace Go.Proofs.Ytnckonglodmfeaa.Ik
open Ls Go.RowKit Go.Proofs.YtnckonglodmfeaaW.PrintWords Go.Proofs.YtnckonglodmfeaaW.PrintLast Go.Proofs.YtnckonglodmfeaaW.PrintMore B R S Is Js
def Rq (w : World) (g b : Nat) (s : St) : Prop := Rdr 107 w g b s.1 s.2 ∧ By s.1 ∧ b < w.heap.size
theorem Rq.keep {w w' : World} {g b : Nat} {s : St} {S : Nat → Prop} (h : Rq w g b s) (hk : Keep S w w') (hg : ¬ S g) (hb : ¬ S b) : Rq w' g b s := ⟨h.1.keep hk hg hb h.2.2, h.2.1, Nat.lt_of_lt_of_le h.2.2 hk.size⟩
theorem Rq.below {w w' : World} {g b : Nat} {s : St} (h : Rq w g b s) (hk : Below w.heap.size w w') : Rq w' g b s := h.keep (S := fun _ => False) (Keep.of_below hk) id id
theorem Rq.code {w : World} {g b : Nat} {s : St} (h : Rq w g b s) : w.cell? ⟨g, 1, none⟩ = some (.int .i64 s.2) := h.1.code.1
theorem rq_below (g b : Nat) (s : St) (m : Int) (w : World) (h : Rq w g b s) (hm0 : -9223372036854775808 ≤ m) (hm1 : m ≤ 9223372036854775807) :
 Calls Try.prog 53 #[.pointer (some ⟨g, 0, none⟩), .int .i64 m] w fun e w' => e = .returned (.int .i64 (sBelow m s).1) ∧ Rq w' g b (sBelow m s).2 ∧ Keep (· = g) w w' ∧ w'.heap.size = w.heap.size := by
 refine (Lr.below_calls g b s.1 s.2 m w h.1 h.2.1 hm0 hm1).mono ?_
 rintro e w' ⟨h1, h2, h3, h4⟩
 exact ⟨h1, ⟨h2, sbelow_by h.2.1, by rw [h4]; exact h.2.2⟩, h3, h4⟩
theorem rq_num (g b : Nat) (s : St) (w : World) (h : Rq w g b s) :
 Calls Try.prog 43 #[.pointer (some ⟨g, 0, none⟩)] w fun e w' => e = .returned (.int .u64 (num s.1 s.2).1) ∧ Rq w' g b (sInt s).2 ∧ Keep (· = g) w w' ∧ w'.heap.size = w.heap.size := by
 refine (Lr.num_calls g b s.1 s.2 w h.1 h.2.1).mono ?_
 rintro e w' ⟨h1, h2, h3, h4⟩
 exact ⟨h1, ⟨h2, sint_by h.2.1, by rw [h4]; exact h.2.2⟩, h3, h4⟩
theorem rq_zag (s : St) (w : World) (h : By s.1) :
 Calls Try.prog 129 #[.int .u64 (num s.1 s.2).1] w fun e w' => e = .returned (.int .i64 (sInt s).1) ∧ w = w' := by
 have hr := num_range s.1 s.2 h
 exact Lr.zag_calls _ w hr.1 hr.2
theorem rq_fail (g b : Nat) (s : St) (n : Int) (w : World) (h : Rq w g b s) :
 Calls Try.prog 128 #[.pointer (some ⟨g, 0, none⟩), .int .i64 n] w fun e w' => e = .returned (.tuple #[]) ∧ Rq w' g b (sFail n s) ∧ Keep (· = g) w w' ∧ w'.heap.size = w.heap.size := by
 refine (Lr.fail_calls g b s.1 s.2 n w h.1).mono ?_
 rintro e w' ⟨h1, h2, h3, h4⟩
 exact ⟨h1, ⟨h2, h.2.1, by rw [h4]; exact h.2.2⟩, h3, h4⟩
theorem rq_end (g b : Nat) (s : St) (w : World) (h : Rq w g b s) :
 Calls Try.prog 97 #[.pointer (some ⟨g, 0, none⟩)] w fun e w' => e = .returned (.int .i64 (ended s.1 s.2)) ∧ Keep (· = g) w w' ∧ w'.heap.size = w.heap.size := by
 refine (Lr.end_calls g b s.1 s.2 w h.1).mono ?_
 rintro e w' ⟨h1, h2, h3, h4⟩
 exact ⟨h1, h3, h4⟩
structure QS (T : Nat) (wo W : World) (g b gb : Nat) (s : St) (F : Array Value) : Prop where
 rd : Rq W g b s
 bx : W.heap[gb]? = some (.cells F T (0, 0))
 keep : Keep (· = g) wo W
 base : wo.heap.size ≤ gb
 hg : g < wo.heap.size
 hb : b < wo.heap.size
section
variable {T : Nat} {wo W W' : World} {g b gb : Nat} {s s' : St} {F : Array Value}
theorem QS.move (h : QS T wo W g b gb s F) (hk : Keep (fun i => i = g ∨ gb < i) W W') (hr : Rq W' g b s') : QS T wo W' g b gb s' F := by
 have h1 := h.hg
 have h2 := h.base
 exact ⟨hr, (hk.block gb (blk_lt h.bx) (fun e => by omega)).trans h.bx, h.keep.then hk (fun i hi e => by omega), h2, h1, h.hb⟩
theorem QS.step (h : QS T wo W g b gb s F) (hk : Keep (· = g) W W') (hr : Rq W' g b s') : QS T wo W' g b gb s' F := h.move (hk.mono (fun i _ e => .inl e)) hr
theorem QS.set (h : QS T wo W g b gb s F) (j : Nat) (x : Value) : QS T wo (W.setCell ⟨gb, j, none⟩ x) g b gb s (F.setIfInBounds j x) := by
 have h1 := h.hg
 have h2 := h.base
 have h3 := h.hb
 have hk : Keep (· = gb) W (W.setCell ⟨gb, j, none⟩ x) := (Keep.refl _ _).setCell ⟨gb, j, none⟩ x (fun _ => rfl)
 exact ⟨h.rd.keep hk (by omega) (by omega), heap_setCell_same W gb j F _ _ h.bx, h.keep.setCell _ _ (fun hh => by have hh : gb < wo.heap.size := hh; omega), h2, h1, h3⟩
theorem QS.drew (h : QS T wo W g b gb s F) : QS T wo W.drew g b gb s F := ⟨⟨h.rd.1, h.rd.2⟩, h.bx, h.keep.drew, h.base, h.hg, h.hb⟩
theorem QS.cell (h : QS T wo W g b gb s F) (j : Nat) (x : Value) (hx : F[j]? = some x) : W.cell? ⟨gb, j, none⟩ = some x ∧ W.frozen? ⟨gb, j, none⟩ = false := ⟨cell_at h.bx j x hx, blk_frozen h.bx j⟩
theorem qs_below (h : QS T wo W g b gb s F) (m : Int) (hm0 : -9223372036854775808 ≤ m) (hm1 : m ≤ 9223372036854775807) :
 Calls Try.prog 53 #[.pointer (some ⟨g, 0, none⟩), .int .i64 m] W fun e w' => e = .returned (.int .i64 (sBelow m s).1) ∧ QS T wo w' g b gb (sBelow m s).2 F ∧ Keep (· = g) W w' := by
 refine (rq_below g b s m W h.rd hm0 hm1).mono ?_
 rintro e w' ⟨h1, h2, h3, -⟩
 exact ⟨h1, h.step h3 h2, h3⟩
theorem qs_num (h : QS T wo W g b gb s F) : Calls Try.prog 43 #[.pointer (some ⟨g, 0, none⟩)] W fun e w' => e = .returned (.int .u64 (num s.1 s.2).1) ∧ QS T wo w' g b gb (sInt s).2 F ∧ Keep (· = g) W w' := by
 refine (rq_num g b s W h.rd).mono ?_
 rintro e w' ⟨h1, h2, h3, -⟩
 exact ⟨h1, h.step h3 h2, h3⟩
theorem qs_fail (h : QS T wo W g b gb s F) (n : Int) :
 Calls Try.prog 128 #[.pointer (some ⟨g, 0, none⟩), .int .i64 n] W fun e w' => e = .returned (.tuple #[]) ∧ QS T wo w' g b gb (sFail n s) F ∧ Keep (· = g) W w' := by
 refine (rq_fail g b s n W h.rd).mono ?_
 rintro e w' ⟨h1, h2, h3, -⟩
 exact ⟨h1, h.step h3 h2, h3⟩
end
structure QB (wo W : World) (g b gb : Nat) (s : St) (F : Array Value) (vv : Value) (is : List Ins) : Prop where
 q : QS 84 wo W g b gb s F
 row : kIns.R 92 W (gb + 1) (fun k => gb < k) vv is
section
variable {wo W W' : World} {g b gb : Nat} {s s' : St} {F : Array Value} {vv : Value} {is : List Ins}
theorem QB.step (h : QB wo W g b gb s F vv is) (hk : Keep (· = g) W W') (hr : Rq W' g b s') : QB wo W' g b gb s' F vv is :=
 ⟨h.q.step hk hr, Kd.R_step h.row (fun k hk' hl => hk.block k hl (fun e => by have e : k = g := e; have := h.q.hg; have := h.q.base; omega))⟩
theorem QB.set (h : QB wo W g b gb s F vv is) (j : Nat) (x : Value) : QB wo (W.setCell ⟨gb, j, none⟩ x) g b gb s (F.setIfInBounds j x) vv is :=
 ⟨h.q.set j x, Kd.R_step h.row (fun k hk hl => Below.heap_setCell _ _ _ _ (show k ≠ gb by omega))⟩
theorem qb_below (h : QB wo W g b gb s F vv is) (m : Int) (hm0 : -9223372036854775808 ≤ m) (hm1 : m ≤ 9223372036854775807) :
 Calls Try.prog 53 #[.pointer (some ⟨g, 0, none⟩), .int .i64 m] W fun e w' => e = .returned (.int .i64 (sBelow m s).1) ∧ QB wo w' g b gb (sBelow m s).2 F vv is := by
 refine (rq_below g b s m W h.q.rd hm0 hm1).mono ?_
 rintro e w' ⟨h1, h2, h3, -⟩
 exact ⟨h1, h.step h3 h2⟩
theorem qb_fail (h : QB wo W g b gb s F vv is) (n : Int) :
 Calls Try.prog 128 #[.pointer (some ⟨g, 0, none⟩), .int .i64 n] W fun e w' => e = .returned (.tuple #[]) ∧ QB wo w' g b gb (sFail n s) F vv is := by
 refine (rq_fail g b s n W h.q.rd).mono ?_
 rintro e w' ⟨h1, h2, h3, -⟩
 exact ⟨h1, h.step h3 h2⟩
theorem qb_takes (h : QB wo W g b gb s F vv is) (k a t e : Int) :
 Calls Try.prog 116 #[.agg #[.int .u8 k, .int .i64 a, .int .i64 t, .int .i64 e]] W fun r w' => r = .returned (.bool (takesB k)) ∧ QB wo w' g b gb s F vv is := by
 refine (rtakes_calls k a t e W).mono ?_
 rintro r w' ⟨h1, h2⟩
 exact ⟨h1, h.step (Keep.of_below h2) (h.q.rd.below h2)⟩
theorem QB.cells {x0 x1 x2 x3 x4 : Value} (h : QB wo W g b gb s F vv is) (hF : F = #[x0, x1, x2, x3, x4]) :
 W.cell? ⟨gb, 0, none⟩ = some x0 ∧ W.cell? ⟨gb, 1, none⟩ = some x1 ∧ W.cell? ⟨gb, 2, none⟩ = some x2 ∧ W.cell? ⟨gb, 3, none⟩ = some x3 ∧ W.cell? ⟨gb, 4, none⟩ = some x4 ∧ W.frozen? ⟨gb, 1, none⟩ = false ∧ W.frozen? ⟨gb, 2, none⟩ = false ∧ W.frozen? ⟨gb, 3, none⟩ = false ∧ W.frozen? ⟨gb, 4, none⟩ = false ∧ W.cell? ⟨g, 1, none⟩ = some (.int .i64 s.2) ∧ ∀ j x, (W.setCell ⟨gb, j, none⟩ x).cell? ⟨g, 1, none⟩ = some (.int .i64 s.2) := by
 subst hF
 exact ⟨cell_at h.q.bx 0 _ rfl, cell_at h.q.bx 1 _ rfl, cell_at h.q.bx 2 _ rfl, cell_at h.q.bx 3 _ rfl, cell_at h.q.bx 4 _ rfl, blk_frozen h.q.bx 1, blk_frozen h.q.bx 2, blk_frozen h.q.bx 3, blk_frozen h.q.bx 4, h.q.rd.code, fun j x => (h.set j x).q.rd.code⟩
end
theorem names_at (k : Int) (hk : 1 ≤ k ∧ k ≤ 8) (j : Nat) (hj : j < (namesA k).size) : (letters k)[j]? = some (((namesA k)[j].toNat : Nat) : Int) ∧ ((namesA k)[j].toNat = 79 ∨ (namesA k)[j].toNat = 68 ∨ (namesA k)[j].toNat = 65 ∨ (namesA k)[j].toNat = 66 ∨ (namesA k)[j].toNat = 78 ∨ (namesA k)[j].toNat = 82) := by
 have key : ∀ k : Fin 9, 1 ≤ k.val → ∀ j : Fin 4, ∀ hj : j.val < (namesA (k.val : Int)).size, (letters (k.val : Int))[j.val]? = some (((namesA (k.val : Int))[j.val].toNat : Nat) : Int) ∧ ((namesA (k.val : Int))[j.val].toNat = 79 ∨ (namesA (k.val : Int))[j.val].toNat = 68 ∨ (namesA (k.val : Int))[j.val].toNat = 65 ∨ (namesA (k.val : Int))[j.val].toNat = 66 ∨ (namesA (k.val : Int))[j.val].toNat = 78 ∨ (namesA (k.val : Int))[j.val].toNat = 82) := by decide +kernel
 have h4 : (namesA k).size ≤ 4 := by
  simp only [namesA]
  repeat' split
  all_goals decide
 obtain ⟨n, rfl⟩ : ∃ n : Nat, k = (n : Int) := ⟨k.toNat, by omega⟩
 exact key ⟨n, by omega⟩ (by show 1 ≤ n; omega) ⟨j, by omega⟩ hj
theorem names_sz (k : Int) : (namesA k).size ≤ 4 := by
 simp only [namesA]
 repeat' split
 all_goals decide
theorem names_len (k : Int) (hk : 1 ≤ k ∧ k ≤ 8) : (letters k).length = (namesA k).size := by
 have key : ∀ k : Fin 9, 1 ≤ k.val → (letters (k.val : Int)).length = (namesA (k.val : Int)).size := by decide +kernel
 obtain ⟨n, rfl⟩ : ∃ n : Nat, k = (n : Int) := ⟨k.toNat, by omega⟩
 exact key ⟨n, by omega⟩ (by show 1 ≤ n; omega)
end Go.Proofs.Ytnckonglodmfeaa.Ik
namespace Go.Proofs.Ytnckonglodmfeaa.Ik
open Ls Go.RowKit Go.Proofs.YtnckonglodmfeaaW.PrintWords Go.Proofs.YtnckonglodmfeaaW.PrintLast Go.Proofs.YtnckonglodmfeaaW.PrintMore B R S Is Js
def fldL : Ins → Int → List Int
 | (k, op, d, a, b, n, args), c => if c = 79 then fieldL op else if c = 68 then fieldL d else if c = 65 then fieldL a else if c = 66 then fieldL b else if c = 78 then putl (zig n).toNat else fieldL args.length ++ fieldsL args
theorem ins_letters (i : Ins) (hk : 1 ≤ i.1 ∧ i.1 ≤ 8) : insL i = fieldL i.1 ++ ((letters i.1).map (fldL i)).flatten := by
 obtain ⟨k, op, d, a, b, n, args⟩ := i
 simp only at hk
 rcases (by omega : k = 1 ∨ k = 2 ∨ k = 3 ∨ k = 4 ∨ k = 5 ∨ k = 6 ∨ k = 7 ∨ k = 8) with rfl | rfl | rfl | rfl | rfl | rfl | rfl | rfl
 all_goals simp [insL, letters, fldL, fieldsL]
def Rb (w : World) (v : Value) (l : List Int) : Prop := ∃ (A : Option Addr) (c : Nat), v = .slice A l.length c ∧ l.length ≤ c ∧ kU8.C w A l.length l
theorem Rb.below {w w' : World} {v : Value} {l : List Int} (h : Rb w v l) (hb : Below w.heap.size w w') : Rb w' v l := by
 obtain ⟨A, c, h1, h2, h3⟩ := h
 exact ⟨A, c, h1, h2, Kd.C_below h3 hb⟩
theorem rput_field (l : List Int) (n : Nat) (hn : l.length = n) (A : Option Addr) (c : Nat) (x : Int) (w : World) (hC : kU8.C w A n l) (hll : n ≤ 100000000) :
 Calls Try.prog 41 #[.slice A n c, .int .u64 (IntKind.u64.wrap x)] w fun e w' => ∃ m A' n' c', e = .returned (.slice A' n' c') ∧ m = l ++ fieldL x ∧ m.length = n' ∧ n' ≤ n + 10 ∧ n' ≤ c' ∧ kU8.C w' A' n' m ∧ Below w.heap.size w w' := by
 subst hn
 have hw := wrap_u64 x
 refine (Lr.put_calls A c l (IntKind.u64.wrap x) w hC (by omega) hw.1 hw.2).mono ?_
 rintro e w' ⟨v, rfl, hr, hb⟩
 obtain ⟨A', c', rfl, h1, h2⟩ := Kd.R_reads hr
 have h10 := field_len x
 exact ⟨_, A', _, c', rfl, rfl, rfl, by rw [List.length_append]; exact Nat.add_le_add_left h10 _, h1, h2, hb⟩
theorem rput_zig (l : List Int) (n : Nat) (hn : l.length = n) (A : Option Addr) (c : Nat) (x : Int) (hx : I64 x) (w : World) (hC : kU8.C w A n l) (hll : n ≤ 100000000) :
 Calls Try.prog 41 #[.slice A n c, .int .u64 (zig x)] w fun e w' => ∃ m A' n' c', e = .returned (.slice A' n' c') ∧ m = l ++ putl (zig x).toNat ∧ m.length = n' ∧ n' ≤ n + 10 ∧ n' ≤ c' ∧ kU8.C w' A' n' m ∧ Below w.heap.size w w' := by
 subst hn
 have hw := zig_range x hx.1 hx.2
 refine (Lr.put_calls A c l (zig x) w hC (by omega) hw.1 hw.2).mono ?_
 rintro e w' ⟨v, rfl, hr, hb⟩
 obtain ⟨A', c', rfl, h1, h2⟩ := Kd.R_reads hr
 have h10 := putl_ten (zig x).toNat (by omega)
 exact ⟨_, A', _, c', rfl, rfl, rfl, by rw [List.length_append]; exact Nat.add_le_add_left h10 _, h1, h2, hb⟩
set_option maxHeartbeats 4000000 in
set_option maxRecDepth 100000 in
theorem rput_calls (l : List Int) (nl : Nat) (hnl : l.length = nl) (Al : Option Addr) (cl : Nat) (k op d a b n : Int) (args : List Int) (A : Option Addr) (c : Nat) (L : Nat) (hL : L = 79 ∨ L = 68 ∨ L = 65 ∨ L = 66 ∨ L = 78 ∨ L = 82) (w : World) (hl : kU8.C w Al nl l) (hlc : nl ≤ cl) (hC : kI.C w A args.length args) (ha : args.length ≤ 3) (hn : I64 n) (hll : nl ≤ 10000000) :
 Calls Try.prog 125 #[.slice Al nl cl, .agg #[.int .u8 k, .int .u8 op, .int .i64 d, .int .i64 a, .int .i64 b, .int .i64 n, .slice A args.length c], .int .u8 L] w fun e w' => ∃ m A' n' c', e = .returned (.slice A' n' c') ∧ m = l ++ fldL (k, op, d, a, b, n, args) L ∧ m.length = n' ∧ n' ≤ nl + 40 ∧ n' ≤ c' ∧ kU8.C w' A' n' m ∧ Below w.heap.size w w' := by
 have mixed : Try.prog.follows .mixedOrders = true := by kernel_rfl
 have HL := aM hl
 have HNL := aM hnl
 have HC := aM hC
 have HX := aM (fun W' h => box_cells (w := w) (W' := W') (k := k) (op := op) (d := d) (a := a) (b := b) (n := n) (s := .slice A args.length c) (e := 92) h)
 have HA := aM (show Below w.heap.size w (w.alloc (.cells #[.int .u8 k, .int .u8 op, .int .i64 d, .int .i64 a, .int .i64 b, .int .i64 n, .slice A args.length c] 92)) from (Below.refl _ _).alloc (Nat.le_refl _) _)
 have HSZ := aM (World.size_alloc w (.cells #[.int .u8 k, .int .u8 op, .int .i64 d, .int .i64 a, .int .i64 b, .int .i64 n, .slice A args.length c] 92))
 have HN := aM hn
 clear hl hnl hC hn
 rcases hL with rfl | rfl | rfl | rfl | rfl | rfl
 · go_enter Try.func125, Try.ntmps125
   go_wp2_with (go_at_call 41; refine (rput_field l nl HNL.out Al cl op _ (Kd.C_below HL.out HA.out) (by omega)).mono ?_; rintro _ w2 ⟨m, A', n', c', rfl, hm, hmn, hn', hc', hCm, hb⟩; have HM := aM hm; have HMN := aM hmn; have HCM := aM hCm; have HB := aM hb; clear hm hmn hCm hb)
   go_ret
   exact ⟨_, A', _, c', rfl, HM.out, HMN.out, by omega, hc', HCM.out, HA.out.trans (HB.out.mono HA.out.size)⟩
 · go_enter Try.func125, Try.ntmps125
   go_wp2_with (go_at_call 41; refine (rput_field l nl HNL.out Al cl d _ (Kd.C_below HL.out HA.out) (by omega)).mono ?_; rintro _ w2 ⟨m, A', n', c', rfl, hm, hmn, hn', hc', hCm, hb⟩; have HM := aM hm; have HMN := aM hmn; have HCM := aM hCm; have HB := aM hb; clear hm hmn hCm hb)
   go_ret
   exact ⟨_, A', _, c', rfl, HM.out, HMN.out, by omega, hc', HCM.out, HA.out.trans (HB.out.mono HA.out.size)⟩
 · go_enter Try.func125, Try.ntmps125
   go_wp2_with (go_at_call 41; refine (rput_field l nl HNL.out Al cl a _ (Kd.C_below HL.out HA.out) (by omega)).mono ?_; rintro _ w2 ⟨m, A', n', c', rfl, hm, hmn, hn', hc', hCm, hb⟩; have HM := aM hm; have HMN := aM hmn; have HCM := aM hCm; have HB := aM hb; clear hm hmn hCm hb)
   go_ret
   exact ⟨_, A', _, c', rfl, HM.out, HMN.out, by omega, hc', HCM.out, HA.out.trans (HB.out.mono HA.out.size)⟩
 · go_enter Try.func125, Try.ntmps125
   go_wp2_with (go_at_call 41; refine (rput_field l nl HNL.out Al cl b _ (Kd.C_below HL.out HA.out) (by omega)).mono ?_; rintro _ w2 ⟨m, A', n', c', rfl, hm, hmn, hn', hc', hCm, hb⟩; have HM := aM hm; have HMN := aM hmn; have HCM := aM hCm; have HB := aM hb; clear hm hmn hCm hb)
   go_ret
   exact ⟨_, A', _, c', rfl, HM.out, HMN.out, by omega, hc', HCM.out, HA.out.trans (HB.out.mono HA.out.size)⟩
 · have HNR := HN.out
   go_enter Try.func125, Try.ntmps125
   go_wp2_with (first | (go_at_call 144; refine (Lr.zig_calls n _ HNR.1 HNR.2).mono ?_; rintro _ w1 ⟨rfl, hw1⟩; rw [← hw1]; clear hw1) | (go_at_call 41; refine (rput_zig l nl HNL.out Al cl n HNR _ (Kd.C_below HL.out HA.out) (by omega)).mono ?_; rintro _ w2 ⟨m, A', n', c', rfl, hm, hmn, hn', hc', hCm, hb⟩; have HM := aM hm; have HMN := aM hmn; have HCM := aM hCm; have HB := aM hb; clear hm hmn hCm hb))
   go_ret
   exact ⟨_, A', _, c', rfl, HM.out, HMN.out, by omega, hc', HCM.out, HA.out.trans (HB.out.mono HA.out.size)⟩
 · have HW := aM (show IntKind.u64.wrap (args.length : Int) = args.length from wrU64 _ (by omega) (by omega))
   have HP0 := aM (show ∀ W, Below w.heap.size w W → Calls Try.prog 41 #[.slice Al nl cl, .int .u64 args.length] W fun e w' => ∃ m A' n' c', e = .returned (.slice A' n' c') ∧ m = l ++ fieldL args.length ∧ m.length = n' ∧ n' ≤ nl + 10 ∧ n' ≤ c' ∧ kU8.C w' A' n' m ∧ Below W.heap.size W w' from fun W hW => by
    have h := rput_field l nl HNL.out Al cl args.length W (Kd.C_below HL.out hW) (by omega)
    rw [HW.out] at h
    exact h)
   go_enter Try.func125, Try.ntmps125
   go_wp2_with (go_at_call 41; refine (HP0.out _ HA.out).mono ?_; rintro _ w2 ⟨m, A', n', c', rfl, hm, hmn, hn', hc', hCm, hb⟩; have HM := aM hm; have HMN := aM hmn; have HCM := aM hCm; have HB := aM (show Below (w.heap.size + 1) _ w2 from hb.mono (by rw [HSZ.out]; exact Nat.le_refl _)); clear hm hmn hCm hb)
   go_loopw [0, 7] (fun vb vi wr => ∃ (j : Nat) (m' : List Int) (A' : Option Addr) (n' c' : Nat), j ≤ args.length ∧ vi = .int .i64 j ∧ vb = .slice A' n' c' ∧ n' ≤ nl + 10 + 10 * j ∧ n' ≤ c' ∧ Aside0 (m'.length = n') ∧ Aside0 (m' = m ++ fieldsL (args.take j)) ∧ Aside0 (kU8.C wr A' n' m') ∧ Aside0 (Below (w.heap.size + 1) (w.alloc (.cells #[.int .u8 k, .int .u8 op, .int .i64 d, .int .i64 a, .int .i64 b, .int .i64 n, .slice A args.length c] 92)) wr)) (fun _ vi _ => args.length - (intOf vi).toNat)
   case atStart => exact ⟨0, m, A', n', c', by omega, rfl, rfl, by omega, hc', HMN, ⟨by simp [fieldsL]⟩, HCM, HB⟩
   case round =>
    clear HMN HCM HB
    obtain ⟨j, m', A1, n1, c1, hj, rfl, rfl, hn1, hc1, HMN, HME, HCM, HB⟩ := hrel
    obtain ⟨q0, q1, q2, q3, q4, q5, q6⟩ := HX.out wr HB.out
    by_cases hjl : j < args.length
    · obtain ⟨x, hx⟩ : ∃ x, args[j]? = some x := ⟨_, List.getElem?_eq_getElem hjl⟩
      obtain ⟨ad, rfl⟩ : ∃ ad, A = some ad := by obtain ⟨ad, e, _⟩ := HC.out.2.2 (by omega); exact ⟨ad, e⟩
      have hcx := C_cell (Kd.C_below HC.out (HA.out.trans (HB.out.mono (by omega)))) hx
      have HT := aM (fields_take hx)
      clear hx
      go_wp2_with (go_at_call 41; refine (rput_field m' n1 HMN.out A1 c1 x _ HCM.out (by omega)).mono ?_; rintro _ w3 ⟨m3, A3, n3, c3, rfl, hm3, hmn3, hn3, hc3, hCm3, hb3⟩; have HM3 := aM hm3; have HMN3 := aM hmn3; have HCM3 := aM hCm3; have HB3 := aM (HB.out.trans (hb3.mono (by have := HB.out.size; have := HSZ.out; omega))); clear hm3 hmn3 hCm3 hb3 hcx q0 q1 q2 q3 q4 q5 q6)
      go_roundw
      case rel => exact ⟨j + 1, m3, A3, n3, c3, by omega, by go_num, rfl, by omega, hc3, HMN3, ⟨by rw [HM3.out, HME.out, HT.out, List.append_assoc]⟩, HCM3, HB3⟩
      case measure => simp [intOf]; omega
    · obtain rfl : j = args.length := by omega
      go_wp2
      go_ret
      exact ⟨m', A1, n1, c1, rfl, by rw [HME.out, HM.out, List.take_length]; simp [fldL], HMN.out, by omega, hc1, HCM.out, HA.out.trans (HB.out.mono (by omega))⟩
end Go.Proofs.Ytnckonglodmfeaa.Ik
namespace Go.Proofs.Ytnckonglodmfeaa.Ik
open Ls Lc Go.RowKit Go.Proofs.YtnckonglodmfeaaW.PrintWords Go.Proofs.YtnckonglodmfeaaW.PrintLast Go.Proofs.YtnckonglodmfeaaW.PrintMore B R S Is
theorem fault_field (W : World) (e x y : Int) : Sem.run Try.prog (Instr.field 75 (.agg #[.int .i64 e, .int .i64 x, .int .i64 y]) 0) W = .ok (.int .i64 e) W := by
 simp [Instr.field, asAgg, go_sem]
theorem firstN_zero {l : List Int} (h : firstN l = 0) : ∀ x ∈ l, x = 0 := by
 induction l with
 | nil => intro x hx; cases hx
 | cons y l ih =>
  rw [firstN] at h
  by_cases hy : y = 0
  · rw [if_pos hy] at h
    intro x hx
    rcases List.mem_cons.1 hx with rfl | hx
    · exact hy
    · exact ih h x hx
  · rw [if_neg hy] at h
    exact absurd h hy
theorem ins_args {m s : Int} {i : Ins} (h : insErr m s i = 0) : i.2.2.2.2.2.2.length ≤ 3 := by
 refine Nat.le_of_not_lt (fun h3 => ?_)
 have h20 : ∀ (c : Prop) [Decidable c], (if c then (20 : Int) else 25) ≠ 0 := fun c _ => by split <;> decide
 unfold insErr at h
 rw [if_pos h3] at h
 exact h20 _ h
theorem blks_ok {m s : Int} {most : Nat} {l : List Blk} (hm : most ≤ 400) (h : blocksErr m s most l = 0) (hR : ∀ b ∈ l, BlkR b) : ∀ b ∈ l, OkB b := by
 intro b hb
 have h1 := firstN_zero h _ (List.mem_map_of_mem hb)
 unfold blkErr at h1
 split at h1
 · cases h1
 · refine ⟨by omega, (hR b hb).2, fun i hi => ⟨(hR b hb).1 i hi, ?_⟩⟩
   exact ins_args (m := m) (s := s) (firstN_zero h1 _ (List.mem_append_left _ (List.mem_map_of_mem hi)))
theorem fun_ok {p v : Int} {l : List Blk} (h : funcErr (p, v, l) = 0) (hR : ∀ b ∈ l, BlkR b) : l.length ≤ 16 ∧ ∀ b ∈ l, OkB b := by
 unfold funcErr at h
 split at h
 · cases h
 · rename_i h1
   simp only [not_or, Nat.not_lt] at h1
   exact ⟨h1.2.2.2.2.2, blks_ok (by decide) h hR⟩
def BytesOr (E : Int) (bad : Int) (l : List Int) (w' : World) (r : Ending) : Prop :=
 (E ≠ 0 → r = .returned (.tuple #[.slice none 0 0, .int .i64 bad])) ∧ (E = 0 → ∃ (A : Option Addr) (c : Nat), r = .returned (.tuple #[.slice A l.length c, .int .i64 0]) ∧ l.length ≤ c ∧ kU8.C w' A l.length l)
set_option maxHeartbeats 4000000 in
set_option maxRecDepth 100000 in
theorem wfunc_calls (p v : Int) (l : List Blk) (A : Option Addr) (c : Nat) (w : World) (hC : kBlk.C w A l.length l) (hR : ∀ b ∈ l, BlkR b) (hll : l.length ≤ 100000) :
 Calls Try.prog 37 #[.agg #[.int .i64 p, .int .i64 v, .slice A l.length c]] w fun r w' => BytesOr (funcErr (p, v, l)) 30 (funcL (p, v, l)) w' r ∧ Below w.heap.size w w' := by
 have mixed : Try.prog.follows .mixedOrders = true := by kernel_rfl
 have HC := aM hC
 have hff := fault_field
 have HOK := aM (fun h => fun_ok (p := p) (v := v) h hR)
 obtain ⟨E, hE⟩ : ∃ E, funcErr (p, v, l) = E := ⟨_, rfl⟩
 rw [hE] at HOK ⊢
 have HE := aM hE
 have HA := aM (show Below w.heap.size w (w.alloc (.cells #[.int .i64 p, .int .i64 v, .slice A l.length c] 25)) from (Below.refl _ _).alloc (Nat.le_refl _) _)
 have HSZ := aM (World.size_alloc w (.cells #[.int .i64 p, .int .i64 v, .slice A l.length c] 25))
 have HX := aM (show ∀ W', Below (w.heap.size + 1) (w.alloc (.cells #[.int .i64 p, .int .i64 v, .slice A l.length c] 25)) W' → W'.cell? ⟨w.heap.size, 0, none⟩ = some (.int .i64 p) ∧ W'.cell? ⟨w.heap.size, 1, none⟩ = some (.int .i64 v) ∧ W'.cell? ⟨w.heap.size, 2, none⟩ = some (.slice A l.length c) from fun W' h => by
  have g := below_cells (h.mono (by rw [World.size_alloc]; omega))
  exact ⟨cell_at g 0 _ rfl, cell_at g 1 _ rfl, cell_at g 2 _ rfl⟩)
 clear hC hR hE
 by_cases hE0 : E = 0
 · subst hE0
   have hl16 := (HOK.out rfl).1
   have HOKB := aM (HOK.out rfl).2
   go_enter Try.func37, Try.ntmps37
   go_upto_region 4 with (first | (go_at_call 85; refine (check_calls p v l A c _ (Kd.C_below HC.out HA.out) hll).mono ?_; rintro _ w1 ⟨⟨x1, y1, rfl⟩, hb⟩; rw [HE.out]; have HZ1 := aM (hb.mono (by rw [HSZ.out]; exact Nat.le_refl _)); obtain ⟨f0, f1, f2⟩ := HX.out w1 HZ1.out; clear hb))
   obtain ⟨WV, hWV⟩ : ∃ WV, WV = w1.alloc (.cells #[.slice none 0 0] 157) := ⟨_, rfl⟩
   rw [← hWV]
   have HG := aM (show w.heap.size + 1 ≤ w1.heap.size by have := HZ1.out.size; rw [HSZ.out] at this; exact this)
   have HWV := aM (show Wtr WV w1.heap.size [] by rw [hWV]; exact ⟨none, 0, heap_alloc_new _ _, Nat.le_refl _, fun a e => (by cases e), C_nil .u8 _⟩)
   have HZV := aM (HZ1.out.trans (show Below (w.heap.size + 1) w1 WV by rw [hWV]; exact (Below.refl _ _).alloc HG.out _))
   have HSV := aM (show WV.heap.size = w1.heap.size + 1 by rw [hWV, World.size_alloc])
   clear hWV f0 f1 f2
   obtain ⟨f0, f1, f2⟩ := HX.out WV HZV.out
   go_wp2_with (first | (have HWc := HWV; clear HWV; go_at_call 86; refine (nums_lit w1.heap.size [] [p, v] 2 rfl WV _ HWc.out rfl (by simp)).mono ?_; rintro _ w2 ⟨rfl, m1, hm, hml1, hw, hk⟩; have HE_1 := aM hm; have HZ2 := aM (Keep.below_then HZV.out hk (by rw [HSV.out]; have := HG.out; omega) (fun i hi e => by have e : i = w1.heap.size := e; have := HG.out; omega)); clear f0 f1 f2; obtain ⟨f0, f1, f2⟩ := HX.out w2 HZ2.out; have HW2 := aM hw; clear hm hw hk HWc) | (go_at_call 87; refine (wblocks_calls w1.heap.size m1 l A c w w2 HC.out (HA.out.trans (HZ2.out.mono (by omega))) (by have := HG.out; omega) HW2.out (by simp at hml1; omega) hl16 HOKB.out).mono ?_; rintro _ w3 ⟨rfl, hw, hk⟩; have HZ3 := aM (Keep.below_then HZ2.out hk (by have := HZ2.out.size; rw [HSZ.out] at this; exact this) (fun i hi e => by have e : i = w1.heap.size := e; have := HG.out; omega)); obtain ⟨m2, hm2⟩ : ∃ m2, m2 = m1 ++ blksL l := ⟨_, rfl⟩; rw [← hm2] at hw; have HM2 := aM hm2; obtain ⟨A9, c9, hh9, hlc9, -, hC9⟩ := hw; have hc9 := cell_at hh9 0 _ rfl; have HC9 := aM hC9; clear hk hm2 hh9 hC9 f0 f1 f2))
   go_returns
   refine ⟨⟨fun h => absurd rfl h, fun _ => ?_⟩, HA.out.trans (HZ3.out.mono (by omega))⟩
   have hm : m2 = funcL (p, v, l) := by rw [HM2.out, HE_1.out]; simp [funcL, fieldsL]
   subst hm
   exact ⟨_, _, rfl, hlc9, HC9.out⟩
 · have hEb : (E == 0) = false := beq_eq_false_iff_ne.mpr hE0
   have HEN := aM hE0
   clear hE0
   go_enter Try.func37, Try.ntmps37
   go_wp2_with (first | (go_at_call 85; refine (check_calls p v l A c _ (Kd.C_below HC.out HA.out) hll).mono ?_; rintro _ w1 ⟨⟨x1, y1, rfl⟩, hb⟩; rw [HE.out]; have HZ1 := aM (hb.mono (by rw [HSZ.out]; exact Nat.le_refl _)); obtain ⟨f0, f1, f2⟩ := HX.out w1 HZ1.out; clear hb))
   go_returns
   exact ⟨⟨fun _ => rfl, fun h => absurd h HEN.out⟩, HA.out.trans (HZ1.out.mono (by omega))⟩
end Go.Proofs.Ytnckonglodmfeaa.Ik
