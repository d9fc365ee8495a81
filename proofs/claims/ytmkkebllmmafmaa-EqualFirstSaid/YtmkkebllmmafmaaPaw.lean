/- Law 13's fixed fact. -/
import Derived.Test.YtmkkebllmmafmaaPz
namespace Go.Proofs.Ytmkkebllmmafmaa.Pz
open Go.Sort Go.RowKit Go.Proofs.YtmkkebllmmafmaaW.PrintWords Go.Proofs.YtmkkebllmmafmaaW.PrintLast Go.Proofs.YtmkkebllmmafmaaW.PrintMore Go.Proofs.Ytmkkebllmmafmaa.B Go.Proofs.Ytmkkebllmmafmaa.O Go.Proofs.Ytmkkebllmmafmaa.Ps Go.Proofs.Ytmkkebllmmafmaa.R Go.Proofs.Ytmkkebllmmafmaa.Pk Go.Proofs.Ytmkkebllmmafmaa.Pa Go.Proofs.Ytmkkebllmmafmaa.Pm Go.Proofs.Ytmkkebllmmafmaa.Pw Go.Proofs.Ytmkkebllmmafmaa.Pd Go.Proofs.Ytmkkebllmmafmaa.Pg Go.Proofs.Ytmkkebllmmafmaa.Px Go.Proofs.Ytmkkebllmmafmaa.S
set_option linter.unusedVariables false
set_option linter.unusedSimpArgs false
theorem aw1 : Rise [((1 : Int), (0 : Int)), (2, 3)] := by simp [Rise, lt]
theorem aw2 : Rise [((1 : Int), (0 : Int)), (1, 3)] := by simp [Rise, lt]
theorem aw_copied {l : List Pr} (hr : Rise l) (hm : ∀ p, p ∈ l ↔ MemCopied [((1 : Int), (0 : Int)), (2, 3)] 3 0 p) : l = [(1, 0), (1, 3)] := by
  refine rise_ext hr aw2 fun p => ?_
  rw [hm p]
  obtain ⟨a, b⟩ := p
  simp only [MemCopied, List.mem_cons, List.not_mem_nil, or_false, and_true, Prod.mk.injEq]
  omega
theorem aw_given {l : List Pr} (hr : Rise l) (hm : ∀ p, p ∈ l ↔ MemGiven [((1 : Int), (0 : Int)), (1, 3)] 1 0 p) : l = [(1, 0)] := by
  refine rise_ext hr (rise_one _) fun p => ?_
  rw [hm p]
  obtain ⟨a, b⟩ := p
  simp only [MemGiven, List.mem_cons, List.not_mem_nil, or_false, and_true, Prod.mk.injEq]
  omega
/-- What rises, read. -/
theorem C_of_R {e : Nat} {w : World} {base : Nat} {ok : Nat → Prop} {A : Option Addr} {n c : Nat} {l : List Pr} (h : kP.R e w base ok (.slice A n c) l) : n = l.length ∧ kP.C w A n l := by
  obtain ⟨A2, c2, e1, -, h2⟩ := Kd.R_reads h
  injection e1 with e1 e2 e3
  subst e1 e2
  exact ⟨rfl, h2⟩
theorem lit2 (W : World) (a b c d : Int) : kP.C (W.alloc (.cells #[.int .i64 a, .int .i64 b, .int .i64 c, .int .i64 d] 25)) (some ⟨W.heap.size, 0, none⟩) 2 [(a, b), (c, d)] := C_litP 25 W [(a, b), (c, d)] (0, 0) (by simp)
theorem lit1 (W : World) (a b : Int) : kP.C (W.alloc (.cells #[.int .i64 a, .int .i64 b] 25)) (some ⟨W.heap.size, 0, none⟩) 1 [(a, b)] := C_litP 25 W [(a, b)] (0, 0) (by simp)
set_option maxHeartbeats 400000 in
set_option maxRecDepth 100000 in
theorem awake_calls (w : World) : Calls Try.prog 10 #[] w fun e w' => e = .returned (.bool true) ∧ Below w.heap.size w w' := by
  obtain ⟨W, hW⟩ : ∃ W, W = w.alloc (.cells #[.int .i64 1, .int .i64 0, .int .i64 2, .int .i64 3] 25) := ⟨_, rfl⟩
  have HL0 := Aside0.mk (show kP.C W (some ⟨w.heap.size, 0, none⟩) 2 [((1 : Int), (0 : Int)), (2, 3)] by rw [hW]; exact lit2 w 1 0 2 3)
  have HAL := Aside0.mk (show Below w.heap.size w W by rw [hW]; exact (Below.refl _ _).alloc (Nat.le_refl _) _)
  go_enter Try.func10, Try.ntmps10
  go_wp2_with (first
    | (rw [← hW]; go_at_call 17; refine (copied_calls _ 2 2 [((1 : Int), (0 : Int)), (2, 3)] rfl 3 0 W HL0.out aw1 (by decide)).mono ?_; rintro e w1 ⟨v1, l1, rfl, ho1, hr1, hm1, hb1⟩; obtain rfl := aw_copied hr1 hm1; obtain ⟨A1, c1, rfl, -, -⟩ := Kd.R_reads ho1; have HC1 := Aside0.mk (C_of_R ho1).2; have HB1 := Aside0.mk (HAL.out.trans (hb1.mono HAL.out.size)); clear ho1 hr1 hm1 hb1 HL0)
    | (go_at_call 22; refine (given_calls A1 2 c1 [((1 : Int), (0 : Int)), (1, 3)] rfl 1 0 w1 HC1.out aw2 (by decide)).mono ?_; rintro e w2 ⟨v2, l2, rfl, ho2, hr2, hm2, hb2⟩; obtain rfl := aw_given hr2 hm2; obtain ⟨A2, c2, rfl, -, -⟩ := Kd.R_reads ho2; have HD1 := Aside0.mk (Kd.C_below HC1.out hb2); have HD2 := Aside0.mk (C_of_R ho2).2; have HB2 := Aside0.mk (HB1.out.trans (hb2.mono HB1.out.size)); clear ho2 hr2 hm2 hb2 HC1)
    | (go_at_call 16; refine (same_calls A1 _ c1 _ [((1 : Int), (0 : Int)), (1, 3)] 2 rfl (by decide) _ (Kd.C_below HD1.out ((Below.refl _ _).alloc (Nat.le_refl _) _)) (lit2 w2 1 0 1 3)).mono ?_; rintro e w3 ⟨rfl, hb3⟩; have HB3 := Aside0.mk ((HB2.out.alloc HB2.out.size _).trans (hb3.mono (HB2.out.alloc HB2.out.size _).size)); have HD3 := Aside0.mk (Kd.C_below (Kd.C_below HD2.out ((Below.refl _ _).alloc (Nat.le_refl _) _)) hb3); clear hb3 HD1 HD2)
    | (go_at_call 16; refine (same_calls A2 _ c2 _ [((1 : Int), (0 : Int))] 1 rfl (by decide) _ (Kd.C_below HD3.out ((Below.refl _ _).alloc (Nat.le_refl _) _)) (lit1 w3 1 0)).mono ?_; rintro e w4 ⟨rfl, hb4⟩; have HB4 := Aside0.mk ((HB3.out.alloc HB3.out.size _).trans (hb4.mono (HB3.out.alloc HB3.out.size _).size)); clear hb4 HD3))
  go_ret
  exact ⟨rfl, HB4.out⟩
theorem flatP_set (l : List Pr) (j : Nat) (p : Pr) : flatP (l.set j p) = ((flatP l).set (j * 2) (.int .i64 p.1)).set (j * 2 + 1) (.int .i64 p.2) := by
  induction l generalizing j with
  | nil => simp [flatP]
  | cons q l ih =>
    cases j with
    | zero => simp [flatP, encP]
    | succ j =>
      have e : (j + 1) * 2 = j * 2 + 2 := by omega
      rw [List.set_cons_succ]
      show encP q ++ flatP (l.set j p) = ((encP q ++ flatP l).set ((j + 1) * 2) _).set ((j + 1) * 2 + 1) _
      rw [ih j, e]
      simp [encP]
/-- A store of a pair into a row of one's own. -/
theorem P_set {e : Nat} {w : World} {base : Nat} {ok : Nat → Prop} {g n c : Nat} {xs : List Pr} (h : kP.R e w base ok (.slice (some ⟨g, 0, none⟩) n c) xs) (j : Nat) (hj : j < xs.length) (p : Pr) :
    kP.R e ((w.setCell ⟨g, j * 2, none⟩ (.int .i64 p.1)).setCell ⟨g, j * 2 + 1, none⟩ (.int .i64 p.2)) base ok (.slice (some ⟨g, 0, none⟩) n c) (xs.set j p) := by
  have hok := h.1
  obtain ⟨g', cur, e1, hb, hh, hn, hnc, hcm, hcs, ht⟩ := P_head h (by omega)
  injection e1 with e1
  injection e1 with e1
  subst e1
  subst hn
  refine P_of_own ⟨by simp [flatP_len], .inr ⟨g, c, _, by rw [List.length_set], hb, heap_setCell_same _ g (j * 2 + 1) _ e _ (heap_setCell_same w g (j * 2) cur e _ hh), by rw [List.length_set]; exact hnc, hcm, by simpa using hcs, ?_⟩⟩ hok
  rw [List.length_set, flatP_set, ← ht]
  simp [List.take_set]
end Go.Proofs.Ytmkkebllmmafmaa.Pz
