/- The order of pairs as the program makes it: Compare, Or, order. -/
import Derived.Test.YtmkkebllmmafmaaPk
namespace Go.Proofs.Ytmkkebllmmafmaa.Pa
open Go.Sort Go.RowKit Go.Proofs.YtmkkebllmmafmaaW.PrintWords Go.Proofs.YtmkkebllmmafmaaW.PrintLast Go.Proofs.YtmkkebllmmafmaaW.PrintMore Go.Proofs.Ytmkkebllmmafmaa.B Go.Proofs.Ytmkkebllmmafmaa.Ps Go.Proofs.Ytmkkebllmmafmaa.R Go.Proofs.Ytmkkebllmmafmaa.Pk
set_option linter.unusedVariables false
set_option linter.unusedSimpArgs false
theorem isNaN_calls (x : Int) (w : World) : Calls Try.prog 44 #[.int .i64 x] w fun e w' => e = .returned (.bool false) ∧ w' = w := by
  go_enter Try.func44, Try.ntmps44
  go_wp2
  go_ret
  exact ⟨by simp, rfl⟩
theorem compare_calls (x y : Int) (w : World) : Calls Try.prog 41 #[.int .i64 x, .int .i64 y] w fun e w' => e = .returned (.int .i64 (cmpI x y)) ∧ w' = w := by
  go_enter Try.func41, Try.ntmps41
  rcases (by omega : x < y ∨ (¬ x < y ∧ y < x) ∨ (¬ x < y ∧ ¬ y < x)) with h | ⟨h, h2⟩ | ⟨h, h2⟩
  · go_wp2_with (first | (go_at_call 44; refine (isNaN_calls _ _).mono ?_; rintro e w2 ⟨rfl, rfl⟩))
    go_ret
    exact ⟨by simp [cmpI, h], rfl⟩
  · go_wp2_with (first | (go_at_call 44; refine (isNaN_calls _ _).mono ?_; rintro e w2 ⟨rfl, rfl⟩))
    go_ret
    exact ⟨by simp [cmpI, h, h2], rfl⟩
  · go_wp2_with (first | (go_at_call 44; refine (isNaN_calls _ _).mono ?_; rintro e w2 ⟨rfl, rfl⟩))
    go_ret
    exact ⟨by simp only [cmpI, if_neg (show ¬ x < y by omega), if_neg (show ¬ y < x by omega)]; rfl, rfl⟩
theorem or_calls (a b : Int) (g : Nat) (w : World) (h0 : w.cell? ⟨g, 0, none⟩ = some (.int .i64 a)) (h1 : w.cell? ⟨g, 1, none⟩ = some (.int .i64 b)) :
    Calls Try.prog 40 #[.slice (some ⟨g, 0, none⟩) 2 2] w fun e w' => e = .returned (.int .i64 (if a = 0 then b else a)) ∧ w' = w := by
  go_enter Try.func40, Try.ntmps40
  by_cases ha : a = 0
  · subst ha
    by_cases hb : b = 0
    · subst hb
      go_wp2_with fail
      refine wp_loop_rounds 3 ?_
      rw [rounds_succ]
      go_wp2_with fail
      rw [rounds_succ]
      go_wp2_with fail
      rw [rounds_succ]
      go_wp2_with fail
      go_ret
      exact ⟨rfl, rfl⟩
    · have hb2 : (b != 0) = true := bne_iff_ne.mpr hb
      go_wp2_with fail
      refine wp_loop_rounds 3 ?_
      rw [rounds_succ]
      go_wp2_with fail
      rw [rounds_succ]
      go_wp2_with fail
      go_ret
      exact ⟨rfl, rfl⟩
  · have ha2 : (a != 0) = true := bne_iff_ne.mpr ha
    go_wp2_with fail
    refine wp_loop_rounds 3 ?_
    rw [rounds_succ]
    go_wp2_with fail
    go_ret
    exact ⟨by simp [ha], rfl⟩
theorem or_n (a b r : Int) (hr : (if a = 0 then b else a) = r) (g : Nat) (w : World) (h0 : w.cell? ⟨g, 0, none⟩ = some (.int .i64 a)) (h1 : w.cell? ⟨g, 1, none⟩ = some (.int .i64 b)) :
    Calls Try.prog 40 #[.slice (some ⟨g, 0, none⟩) 2 2] w fun e w' => e = .returned (.int .i64 r) ∧ w' = w := by
  subst hr
  exact or_calls a b g w h0 h1
theorem order_calls (p q : Pr) (w : World) : Calls Try.prog 30 #[.agg #[.int .i64 p.1, .int .i64 p.2], .agg #[.int .i64 q.1, .int .i64 q.2]] w fun e w' => e = .returned (.int .i64 (cf p q)) ∧ ∃ n os, w' = grow (w.drewN n) os := by
  obtain ⟨W, hW⟩ : ∃ W, W = (w.alloc (.cells #[.int .i64 p.1, .int .i64 p.2] 25)).alloc (.cells #[.int .i64 q.1, .int .i64 q.2] 25) := ⟨_, rfl⟩
  have hF : ∀ w', Fut W.drew w' → w'.cell? ⟨w.heap.size, 0, none⟩ = some (.int .i64 p.1) ∧ w'.cell? ⟨w.heap.size, 1, none⟩ = some (.int .i64 p.2) ∧ w'.cell? ⟨w.heap.size + 1, 0, none⟩ = some (.int .i64 q.1) ∧ w'.cell? ⟨w.heap.size + 1, 1, none⟩ = some (.int .i64 q.2) := fun w' h => by
    have hs : W.drew.heap.size = w.heap.size + 2 := by
      rw [hW]
      show (World.alloc _ _).heap.size = _
      rw [World.size_alloc, World.size_alloc]
    have h0 := h.block w.heap.size (by omega)
    have h1 := h.block (w.heap.size + 1) (by omega)
    have e1 : W.drew.heap[w.heap.size + 1]? = some (.cells #[.int .i64 q.1, .int .i64 q.2] 25 (0, 0)) := by
      rw [hW]
      have := heap_alloc_new (w.alloc (.cells #[.int .i64 p.1, .int .i64 p.2] 25)) (.cells #[.int .i64 q.1, .int .i64 q.2] 25)
      rw [World.size_alloc] at this
      exact this
    have e0 : W.drew.heap[w.heap.size]? = some (.cells #[.int .i64 p.1, .int .i64 p.2] 25 (0, 0)) := by
      rw [hW]
      have := Below.heap_alloc (w.alloc (.cells #[.int .i64 p.1, .int .i64 p.2] 25)) (.cells #[.int .i64 q.1, .int .i64 q.2] 25) w.heap.size (by rw [World.size_alloc]; omega)
      exact this.trans (heap_alloc_new w _)
    rw [e0] at h0
    rw [e1] at h1
    simp [World.cell?, h0, h1]
  have HF := Aside0.mk hF
  have HW := Aside0.mk (show W = grow w _ from by rw [hW, alloc_eq_grow, alloc_eq_grow, grow_grow])
  have hN0 : ∀ (a b : Value) (t : TypeId), (W.alloc (.cells #[a, b] t)).drew.cell? ⟨W.heap.size, 0, none⟩ = some a := fun a b t => by
    show (W.alloc _).cell? _ = _
    rw [cell_of_row _ W.heap.size 0 _ t (0, 0) (heap_alloc_new _ _)]
    rfl
  have hN1 : ∀ (a b : Value) (t : TypeId), (W.alloc (.cells #[a, b] t)).drew.cell? ⟨W.heap.size, 1, none⟩ = some b := fun a b t => by
    show (W.alloc _).cell? _ = _
    rw [cell_of_row _ W.heap.size 1 _ t (0, 0) (heap_alloc_new _ _)]
    rfl
  clear hF
  go_enter Try.func30, Try.ntmps30
  go_wp2_with fail
  rw [← hW]
  clear hW
  refine rg_start (by kernel_rfl) (n := 13) (l := #[false, false, false, false, false, false, false, false, false, false, false, false, false]) (by kernel_rfl) (by kernel_rfl) ?_
  refine rg_take (fuel := 12) 0 rfl (by kernel_rfl) (listed' := #[true, false, false, false, false, false, false, false, false, false, false, false, false]) (by kernel_rfl) (fun _ _ _ h => h) (by kernel_rfl) (fun w' hR => by obtain ⟨x0, x1, x2, x3⟩ := HF.out w' hR; go_simp; first | done | with_reducible rfl) rfl ?_
  try simp only [Act.put, List.setIfInBounds_toArray, List.set_cons_zero, List.set_cons_succ]
  refine rg_take (fuel := 11) 1 rfl (by kernel_rfl) (listed' := #[true, true, false, false, false, false, false, false, false, false, false, false, false]) (by kernel_rfl) (fun _ _ _ h => h) (by kernel_rfl) (fun w' hR => by obtain ⟨x0, x1, x2, x3⟩ := HF.out w' hR; go_simp; first | done | with_reducible rfl) rfl ?_
  try simp only [Act.put, List.setIfInBounds_toArray, List.set_cons_zero, List.set_cons_succ]
  refine rg_take (fuel := 10) 2 rfl (by kernel_rfl) (listed' := #[true, true, true, false, false, false, false, false, false, false, false, false, false]) (by kernel_rfl) (fun _ _ _ h => h) (by kernel_rfl) (fun w' hR => by obtain ⟨x0, x1, x2, x3⟩ := HF.out w' hR; go_simp; first | done | with_reducible rfl) rfl ?_
  try simp only [Act.put, List.setIfInBounds_toArray, List.set_cons_zero, List.set_cons_succ]
  refine rg_take (fuel := 9) 3 rfl (by kernel_rfl) (listed' := #[true, true, true, true, false, false, false, false, false, false, false, false, false]) (by kernel_rfl) (fun _ _ _ h => h) (by kernel_rfl) (fun w' hR => by obtain ⟨x0, x1, x2, x3⟩ := HF.out w' hR; go_simp; first | done | with_reducible rfl) rfl ?_
  try simp only [Act.put, List.setIfInBounds_toArray, List.set_cons_zero, List.set_cons_succ]
  refine rg_take (fuel := 8) 5 rfl (by kernel_rfl) (listed' := #[true, true, true, true, false, true, false, false, false, false, false, false, false]) (by kernel_rfl) (fun _ _ _ h => h) (by kernel_rfl) (fun w' hR => by obtain ⟨x0, x1, x2, x3⟩ := HF.out w' hR; go_simp; first | done | with_reducible rfl) rfl ?_
  try simp only [Act.put, List.setIfInBounds_toArray, List.set_cons_zero, List.set_cons_succ]
  refine rg_take (fuel := 7) 6 rfl (by kernel_rfl) (listed' := #[true, true, true, true, false, true, true, false, false, false, false, false, false]) (by kernel_rfl) (fun _ _ _ h => h) (by kernel_rfl) (fun w' hR => by obtain ⟨x0, x1, x2, x3⟩ := HF.out w' hR; go_simp; first | done | with_reducible rfl) rfl ?_
  try simp only [Act.put, List.setIfInBounds_toArray, List.set_cons_zero, List.set_cons_succ]
  refine rg_take (fuel := 6) 7 rfl (by kernel_rfl) (listed' := #[true, true, true, true, false, true, true, true, false, false, false, false, false]) (by kernel_rfl) (fun _ _ _ h => h) (by kernel_rfl) (fun w' hR => by obtain ⟨x0, x1, x2, x3⟩ := HF.out w' hR; go_simp; first | done | with_reducible rfl) rfl ?_
  try simp only [Act.put, List.setIfInBounds_toArray, List.set_cons_zero, List.set_cons_succ]
  refine rg_take (fuel := 5) 8 rfl (by kernel_rfl) (listed' := #[true, true, true, true, false, true, true, true, true, false, false, false, false]) (by kernel_rfl) (fun _ _ _ h => h) (by kernel_rfl) (fun w' hR => by obtain ⟨x0, x1, x2, x3⟩ := HF.out w' hR; go_simp; first | done | with_reducible rfl) rfl ?_
  try simp only [Act.put, List.setIfInBounds_toArray, List.set_cons_zero, List.set_cons_succ]
  refine rg_step (fuel := 4) 4 rfl (by kernel_rfl) (listed' := #[true, true, true, true, true, true, true, true, true, false, false, false, false]) (by kernel_rfl) (by kernel_rfl) (fun K' hK => ?_)
  go_wp2_with (first | (go_at_call 41; refine (compare_calls _ _ _).mono ?_; rintro e w2 ⟨rfl, rfl⟩))
  refine hK.out _ _ (Fut.refl _) ?_
  clear hK K'
  try simp only [Act.put, List.setIfInBounds_toArray, List.set_cons_zero, List.set_cons_succ]
  refine rg_step (fuel := 3) 9 rfl (by kernel_rfl) (listed' := #[true, true, true, true, true, true, true, true, true, true, false, false, false]) (by kernel_rfl) (by kernel_rfl) (fun K' hK => ?_)
  go_wp2_with (first | (go_at_call 41; refine (compare_calls _ _ _).mono ?_; rintro e w2 ⟨rfl, rfl⟩))
  refine hK.out _ _ (Fut.refl _) ?_
  clear hK K'
  try simp only [Act.put, List.setIfInBounds_toArray, List.set_cons_zero, List.set_cons_succ]
  refine rg_step (fuel := 2) 10 rfl (by kernel_rfl) (listed' := #[true, true, true, true, true, true, true, true, true, true, true, false, false]) (by kernel_rfl) (by kernel_rfl) (fun K' hK => ?_)
  (go_wp2_with fail)
  refine hK.out _ _ ((Below.refl _ _).alloc (Nat.le_refl _) _) ?_
  clear hK K'
  try simp only [Act.put, List.setIfInBounds_toArray, List.set_cons_zero, List.set_cons_succ]
  refine rg_step (fuel := 1) 11 rfl (by kernel_rfl) (listed' := #[true, true, true, true, true, true, true, true, true, true, true, true, false]) (by kernel_rfl) (by kernel_rfl) (fun K' hK => ?_)
  go_wp2_with (first | (go_at_call 40; refine (or_n (cmpI p.1 q.1) (cmpI p.2 q.2) (cf p q) rfl _ _ (hN0 _ _ _) (hN1 _ _ _)).mono ?_; rintro e w2 ⟨rfl, rfl⟩))
  refine hK.out _ _ (Fut.refl _) ?_
  clear hK K'
  try simp only [Act.put, List.setIfInBounds_toArray, List.set_cons_zero, List.set_cons_succ]
  refine rg_take (fuel := 0) 12 rfl (by kernel_rfl) (listed' := #[true, true, true, true, true, true, true, true, true, true, true, true, true]) (by kernel_rfl) (fun _ _ _ h => h) (by kernel_rfl) (fun w' hR => by skip; go_simp; first | done | with_reducible rfl) rfl ?_
  try simp only [Act.put, List.setIfInBounds_toArray, List.set_cons_zero, List.set_cons_succ]
  refine rg_done (by kernel_rfl) ?_
  go_wp2
  go_ret
  exact ⟨rfl, 1, _, by rw [HW.out, alloc_eq_grow, grow_grow, drew_grow]; rfl⟩
end Go.Proofs.Ytmkkebllmmafmaa.Pa
