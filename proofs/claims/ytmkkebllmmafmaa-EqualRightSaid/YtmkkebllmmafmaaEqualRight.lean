/- EqualRight: any pairs; such as rise, with one turned. No condition. -/
import Derived.Test.YtmkkebllmmafmaaRows
import Derived.ProofKit
import Derived.OpenShut
import Derived.ShutString
import Derived.ChangeOld
import Derived.SizedLaws
import Derived.Test.YtmkkebllmmafmaaWSized
import Derived.Test.YtmkkebllmmafmaaPaw
import Derived.Test.YtmkkebllmmafmaaPr
namespace Go.Proofs.Ytmkkebllmmafmaa.EqualRight
open Go.ChangeShapes Go.WideShapes Go.ChangeAt Go.RowKit Go.Proofs.YtmkkebllmmafmaaW.PrintWords Go.Proofs.YtmkkebllmmafmaaW.PrintLast Go.Proofs.YtmkkebllmmafmaaW.PrintMore Go.Proofs.Ytmkkebllmmafmaa.B Go.Proofs.Ytmkkebllmmafmaa.O Go.Proofs.Ytmkkebllmmafmaa.Ps Go.Proofs.Ytmkkebllmmafmaa.R Go.Proofs.Ytmkkebllmmafmaa.Pk Go.Proofs.Ytmkkebllmmafmaa.Pa Go.Proofs.Ytmkkebllmmafmaa.Pm Go.Proofs.Ytmkkebllmmafmaa.Pw Go.Proofs.Ytmkkebllmmafmaa.Pd Go.Proofs.Ytmkkebllmmafmaa.Pg Go.Proofs.Ytmkkebllmmafmaa.Px Go.Proofs.Ytmkkebllmmafmaa.Pz Go.Proofs.Ytmkkebllmmafmaa.S
set_option linter.unusedVariables false
set_option linter.unusedSimpArgs false
theorem ex_bool (p : Prop) : ∃ b : Bool, b = true ↔ p := by
  classical exact ⟨decide p, by simp⟩
set_option maxHeartbeats 4000000 in
set_option maxRecDepth 100000 in
/-- Behind the store. -/
theorem walk (w : World) (A : Option Addr) (c : Nat) (l : List Pr) (hC : kP.C w A l.length l) (hc : l.length ≤ c) (hok : (∀ v ∈ l, (Lit.int .i64 v.1).wf = true ∧ (Lit.int .i64 v.2).wf = true) ∧ l.length ≤ 9223372036854775807) (_ : ∀ a, A = some a → a.block < w.heap.size)
    (x : Int) (hx : (Lit.int .u64 x).wf = true) (a : Int) (ha : (Lit.int .u8 a).wf = true) (cs : Array Value) (p : Pr) (hK : kP.K w p cs.toList) (hp : (Lit.int .i64 p.1).wf = true ∧ (Lit.int .i64 p.2).wf = true)
    (V : Int) (hV : (Lit.int .i64 V).wf = true) (M : Int) (hM : (Lit.int .i64 M).wf = true) :
    Calls Try.prog 3 #[.slice A l.length c, .int .u64 x, .int .u8 a, .agg cs, .int .i64 V, .int .i64 M] w fun e w' => e = .returned (.bool true) ∧ Below w.heap.size w w' := by
  obtain ⟨hx0, hx1⟩ := wf_u64 hx
  obtain ⟨ha0, ha1⟩ := wf_u8 ha
  have hcs : cs = #[.int .i64 p.1, .int .i64 p.2] := Array.toList_inj.1 (by rw [kP_K.1 hK]; rfl)
  subst hcs
  clear hx ha hK hp hV hM
  obtain ⟨n, hn⟩ : ∃ n, l.length = n := ⟨_, rfl⟩
  have hn9 : n ≤ 9223372036854775807 := by rw [← hn]; exact hok.2
  rw [hn] at hC hc
  have HC := Aside0.mk hC
  have HN := Aside0.mk hn
  rw [hn]
  obtain ⟨W, hW⟩ : ∃ W, W = w.alloc (.cells #[.int .i64 p.1, .int .i64 p.2] 25) := ⟨_, rfl⟩
  have hal : Below w.heap.size w W := by rw [hW]; exact (Below.refl _ _).alloc (Nat.le_refl _) _
  have HAL := Aside0.mk hal
  have HBX := Aside0.mk (show ∀ W2, Below W.heap.size W W2 → W2.cell? ⟨w.heap.size, 0, none⟩ = some (.int .i64 p.1) ∧ W2.cell? ⟨w.heap.size, 1, none⟩ = some (.int .i64 p.2) from fun W2 h => by
    have h1 : W.heap[w.heap.size]? = some (.cells #[.int .i64 p.1, .int .i64 p.2] 25 (0, 0)) := by rw [hW]; exact heap_alloc_new _ _
    have h2 := (h.block w.heap.size (Array.getElem?_eq_some_iff.1 h1).1).trans h1
    exact ⟨by simp [World.cell?, h2], by simp [World.cell?, h2]⟩)
  clear hC hc hn hok hal
  by_cases hbig : 500 < n
  · have d0 : decide ((500 : Int) < n) = true := decide_eq_true (by omega)
    go_enter Try.func3, Try.ntmps3
    go_wp2_with (first | (rw [← hW]; go_at_call 10; refine (awake_calls W).mono ?_; rintro e w1 ⟨rfl, hb1⟩; have HB1 := Aside0.mk (HAL.out.trans (hb1.mono HAL.out.size)); clear hb1))
    go_ret
    exact ⟨rfl, HB1.out⟩
  have d0 : decide ((500 : Int) < n) = false := decide_eq_false (by omega)
  obtain ⟨m, hm⟩ : ∃ m, m = (madeL x).length := ⟨_, rfl⟩
  have hm48 : m ≤ 48 := by rw [hm]; exact madeL_len x
  obtain ⟨b1, hb1⟩ := ex_bool (RightP l V M)
  obtain ⟨b2, hb2⟩ := ex_bool (RightP (madeL x) V M)
  obtain ⟨b3, hb3⟩ := ex_bool (RightP ((madeL x).set (a % (m : Int)).toNat p) 6 8)
  have HB1 := Aside0.mk hb1
  have HB2 := Aside0.mk hb2
  have HB3 := Aside0.mk hb3
  have HM := Aside0.mk hm
  clear hb1 hb2 hb3 hm
  go_enter Try.func3, Try.ntmps3
  by_cases hm0 : m = 0
  · have d1 : decide ((0 : Int) < (m : Int)) = false := decide_eq_false (by omega)
    have d1' : decide (0 < m) = false := decide_eq_false (by omega)
    have HE := Aside0.mk (show (madeL x).set (a % (m : Int)).toNat p = madeL x from by rw [List.eq_nil_of_length_eq_zero (by rw [← HM.out]; exact hm0 : (madeL x).length = 0)]; rfl)
    rw [HE.out] at HB3
    clear HE
    have HM0 := Aside0.mk hm0
    clear hm0
    go_wp2_with (first
      | (rw [← hW]; go_at_call 10; refine (awake_calls W).mono ?_; rintro e w1 ⟨rfl, hb1⟩; have HQ1 := Aside0.mk hb1; clear hb1)
      | (go_at_call 11; refine (made_calls x hx0 hx1 w1).mono ?_; rintro e w2 ⟨v2, rfl, ho2, hb2⟩; obtain ⟨A2, c2, rfl, -, -⟩ := Kd.R_reads ho2; rw [← HM.out]; rw [← HM.out] at ho2; have HX2 := Aside0.mk (C_of_R ho2).2; have HQ2 := Aside0.mk (HQ1.out.trans (hb2.mono HQ1.out.size)); clear ho2 hb2 HQ1)
      | (go_at_call 12; refine (right_calls A2 c2 (madeL x) m HM.out.symm (by omega) 6 8 true (by simp only [true_iff]; exact right_of (V := 6) (N := 8) (madeL_box x) (madeL_rise x)) w2 HX2.out).mono ?_; rintro e w3 ⟨rfl, hb3⟩; have HQ3 := Aside0.mk (HQ2.out.trans (hb3.mono HQ2.out.size)); have HX3 := Aside0.mk (Kd.C_below HX2.out hb3); clear hb3 HX2 HQ2)
      | ((with_reducible refine gate_builtin (b := .append) (xs := #[.tmp 25, .tmp 26]) rfl ?_); at_builtin; refine Kd.R_append_rows kP (Rr := kP.K w3) (w0 := w3) w3.heap.size rfl (.tmp 25) (.tmp 26) 22 25 (.agg #[.int .i64 0, .int .i64 0]) 16 rfl Try.underlying22 infoP rfl (show 0 < 2 by decide) (by decide) (.slice (some ⟨w3.heap.size, 0, none⟩) 0 0) [] (madeL x) A2 m c2 (fun _ => True) (fun _ => False) rfl rfl (R_lit0 kP 25 w3) (ReadsRow.imp_ HX3.out ((Below.refl _ _).alloc (Nat.le_refl _) _) (fun _ _ h => h)) (fun x cs h => kP_M.2 (kP_K.1 h)) (fun _ h => h.elim) (fun _ _ => trivial) ((Below.refl _ _).alloc (Nat.le_refl _) _) (by simp) (by simp only [List.length_nil]; omega) ?_; intro v4 U0 ho4 hb4 hg hat; rw [List.nil_append] at ho4; obtain ⟨AY, cY, rfl, -, -⟩ := Kd.R_reads ho4; rw [← HM.out]; rw [← HM.out] at ho4; have HOY := Aside0.mk ho4; have HQa := Aside0.mk (HQ3.out.trans (hb4.mono HQ3.out.size)); have HX0 := Aside0.mk (Kd.C_below HX3.out hb4); have HL0 := Aside0.mk (Kd.C_below (Kd.C_below HC.out HAL.out) (HQ3.out.trans (hb4.mono HQ3.out.size))); have HY0 := Aside0.mk (C_of_R ho4).2; have HYN := Aside0.mk (C_of_R ho4).1.symm; clear ho4 hb4 hg hat HX3 HQ3)
      | (go_at_call 12; refine (right_calls A c l n HN.out (by omega) V M b1 HB1.out U0 HL0.out).mono ?_; rintro e U1 ⟨rfl, hb⟩; have HQb := Aside0.mk (HQa.out.trans (hb.mono HQa.out.size)); have HL1 := Aside0.mk (Kd.C_below HL0.out hb); have HX1 := Aside0.mk (Kd.C_below HX0.out hb); have HY1 := Aside0.mk (Kd.C_below HY0.out hb); clear hb HL0 HX0 HY0)
      | (go_at_call 13; refine (rright_calls A c l n HN.out (by omega) V M b1 HB1.out U1 HL1.out).mono ?_; rintro e U2 ⟨rfl, hb⟩; have HQc := Aside0.mk (HQb.out.trans (hb.mono HQb.out.size)); have HX2 := Aside0.mk (Kd.C_below HX1.out hb); have HY2 := Aside0.mk (Kd.C_below HY1.out hb); clear hb HL1 HX1 HY1)
      | (go_at_call 12; refine (right_calls A2 c2 (madeL x) m HM.out.symm (by omega) V M b2 HB2.out U2 HX2.out).mono ?_; rintro e U3 ⟨rfl, hb⟩; have HQd := Aside0.mk (HQc.out.trans (hb.mono HQc.out.size)); have HX3 := Aside0.mk (Kd.C_below HX2.out hb); have HY3 := Aside0.mk (Kd.C_below HY2.out hb); clear hb HX2 HY2)
      | (go_at_call 13; refine (rright_calls A2 c2 (madeL x) m HM.out.symm (by omega) V M b2 HB2.out U3 HX3.out).mono ?_; rintro e U4 ⟨rfl, hb⟩; have HQe := Aside0.mk (HQd.out.trans (hb.mono HQd.out.size)); have HY4 := Aside0.mk (Kd.C_below HY3.out hb); clear hb HX3 HY3)
      | (go_at_call 12; refine (right_calls AY cY (madeL x) m HYN.out (by omega) 6 8 b3 HB3.out U4 HY4.out).mono ?_; rintro e U5 ⟨rfl, hb⟩; have HQf := Aside0.mk (HQe.out.trans (hb.mono HQe.out.size)); have HY5 := Aside0.mk (Kd.C_below HY4.out hb); clear hb HY4)
      | (go_at_call 13; refine (rright_calls AY cY (madeL x) m HYN.out (by omega) 6 8 b3 HB3.out U5 HY5.out).mono ?_; rintro e U6 ⟨rfl, hb⟩; have HQg := Aside0.mk (HQf.out.trans (hb.mono HQf.out.size)); clear hb HY5))
    go_ret
    exact ⟨rfl, HAL.out.trans (HQg.out.mono HAL.out.size)⟩
  · have d1 : decide ((0 : Int) < (m : Int)) = true := decide_eq_true (by omega)
    have d1' : decide (0 < m) = true := decide_eq_true (by omega)
    obtain ⟨j, hj⟩ : ∃ j, j = (a % (m : Int)).toNat := ⟨_, rfl⟩
    have hjm : j < m := by
      have := Int.emod_lt_of_pos a (show (0 : Int) < m by omega)
      have := Int.emod_nonneg a (show (m : Int) ≠ 0 by omega)
      omega
    have r1 : a % (m : Int) = (j : Int) := by
      have := Int.emod_nonneg a (show (m : Int) ≠ 0 by omega)
      omega
    have r2 : a.tmod (m : Int) = (j : Int) := by rw [Int.tmod_eq_emod_of_nonneg ha0]; exact r1
    have r3 : ((m : Int) = 0) = False := by simp; omega
    have r4 : (m = 0) = False := by simp; omega
    rw [← hj] at HB3
    have wk := wrI64 a (by omega) (by omega)
    clear hj hm0
    go_wp2_with (first
      | (rw [← hW]; go_at_call 10; refine (awake_calls W).mono ?_; rintro e w1 ⟨rfl, hb1⟩; have HQ1 := Aside0.mk hb1; clear hb1)
      | (go_at_call 11; refine (made_calls x hx0 hx1 w1).mono ?_; rintro e w2 ⟨v2, rfl, ho2, hb2⟩; obtain ⟨A2, c2, rfl, -, -⟩ := Kd.R_reads ho2; rw [← HM.out]; rw [← HM.out] at ho2; have HX2 := Aside0.mk (C_of_R ho2).2; have HQ2 := Aside0.mk (HQ1.out.trans (hb2.mono HQ1.out.size)); clear ho2 hb2 HQ1)
      | (go_at_call 12; refine (right_calls A2 c2 (madeL x) m HM.out.symm (by omega) 6 8 true (by simp only [true_iff]; exact right_of (V := 6) (N := 8) (madeL_box x) (madeL_rise x)) w2 HX2.out).mono ?_; rintro e w3 ⟨rfl, hb3⟩; have HQ3 := Aside0.mk (HQ2.out.trans (hb3.mono HQ2.out.size)); have HX3 := Aside0.mk (Kd.C_below HX2.out hb3); clear hb3 HX2 HQ2)
      | ((with_reducible refine gate_builtin (b := .append) (xs := #[.tmp 25, .tmp 26]) rfl ?_); at_builtin; refine Kd.R_append_rows kP (Rr := kP.K w3) (w0 := w3) w3.heap.size rfl (.tmp 25) (.tmp 26) 22 25 (.agg #[.int .i64 0, .int .i64 0]) 16 rfl Try.underlying22 infoP rfl (show 0 < 2 by decide) (by decide) (.slice (some ⟨w3.heap.size, 0, none⟩) 0 0) [] (madeL x) A2 m c2 (fun _ => True) (fun _ => False) rfl rfl (R_lit0 kP 25 w3) (ReadsRow.imp_ HX3.out ((Below.refl _ _).alloc (Nat.le_refl _) _) (fun _ _ h => h)) (fun x cs h => kP_M.2 (kP_K.1 h)) (fun _ h => h.elim) (fun _ _ => trivial) ((Below.refl _ _).alloc (Nat.le_refl _) _) (by simp) (by simp only [List.length_nil]; omega) ?_; intro v4 WY ho4 hb4 hg hat; rw [List.nil_append] at ho4; obtain ⟨A4, c4, rfl, -, -⟩ := Kd.R_reads ho4; rw [← HM.out]; rw [← HM.out] at ho4; have HO4 := Aside0.mk ho4; have HQ4 := Aside0.mk (HQ3.out.trans (hb4.mono HQ3.out.size)); obtain ⟨gy, rfl, hgy, hgl⟩ : ∃ gy, A4 = some ⟨gy, 0, none⟩ ∧ w3.heap.size ≤ gy ∧ gy < WY.heap.size := (by obtain ⟨g, cur, e, h1, h2, -⟩ := P_head ho4 (by rw [← HM.out]; omega); exact ⟨g, e, h1, (Array.getElem?_eq_some_iff.1 h2).1⟩); have HBW := Aside0.mk hb4; have HL3 := Aside0.mk (Kd.C_below (Kd.C_below HC.out HAL.out) HQ3.out); clear ho4 hb4 hg hat))
    obtain ⟨q, hq⟩ : ∃ q, (madeL x)[j]? = some q := ⟨_, List.getElem?_eq_getElem (by rw [← HM.out]; exact hjm)⟩
    obtain ⟨y0, y1⟩ := P_at HO4.out hq
    obtain ⟨g9, cur9, e9, -, hh9, -⟩ := P_head HO4.out (by rw [← HM.out]; omega)
    injection e9 with e9
    injection e9 with e9
    subst e9
    have hz0 := blk_frozen hh9 (j * 2)
    have hz1 := blk_frozen hh9 (j * 2 + 1)
    have hsz : W.heap.size ≤ w3.heap.size := HQ3.out.size
    have HF := Aside0.mk (show ∀ W2, Keep (· = gy) WY.drew W2 → W2.cell? ⟨w.heap.size, 0, none⟩ = some (.int .i64 p.1) ∧ W2.cell? ⟨w.heap.size, 1, none⟩ = some (.int .i64 p.2) from fun W2 h => HBX.out W2 (Keep.below_then HQ4.out.drew h HQ4.out.size (fun i hi e => by omega)))
    have HPUT := Aside0.mk (P_set HO4.out j (by rw [← HM.out]; exact hjm) p)
    have HHJ := Aside0.mk (And.intro hgy hgl)
    clear hq hh9 hsz hgy hgl
    refine rk_start ((· = gy)) (by kernel_rfl) (n := 9) (l := #[false, false, false, false, false, false, false, false, false]) (by kernel_rfl) (by kernel_rfl) ?_
    refine rk_take (fuel := 8) 0 rfl (by kernel_rfl) (listed' := #[true, false, false, false, false, false, false, false, false]) (by kernel_rfl) (fun _ _ _ h => h) (by kernel_rfl) (fun w' hR => by obtain ⟨x0, x1⟩ := HF.out w' hR; go_simp; first | done | with_reducible rfl) rfl ?_
    try simp only [Act.put, List.setIfInBounds_toArray, List.set_cons_zero, List.set_cons_succ]
    refine rk_take (fuel := 7) 1 rfl (by kernel_rfl) (listed' := #[true, true, false, false, false, false, false, false, false]) (by kernel_rfl) (fun _ _ _ h => h) (by kernel_rfl) (fun w' hR => by obtain ⟨x0, x1⟩ := HF.out w' hR; go_simp; first | done | with_reducible rfl) rfl ?_
    try simp only [Act.put, List.setIfInBounds_toArray, List.set_cons_zero, List.set_cons_succ]
    refine rk_take (fuel := 6) 2 rfl (by kernel_rfl) (listed' := #[true, true, true, false, false, false, false, false, false]) (by kernel_rfl) (fun _ _ _ h => h) (by kernel_rfl) (fun w' hR => by obtain ⟨x0, x1⟩ := HF.out w' hR; go_simp; first | done | with_reducible rfl) rfl ?_
    try simp only [Act.put, List.setIfInBounds_toArray, List.set_cons_zero, List.set_cons_succ]
    refine rk_take (fuel := 5) 3 rfl (by kernel_rfl) (listed' := #[true, true, true, true, false, false, false, false, false]) (by kernel_rfl) (fun _ _ _ h => h) (by kernel_rfl) (fun w' hR => by obtain ⟨x0, x1⟩ := HF.out w' hR; go_simp; first | done | with_reducible rfl) rfl ?_
    try simp only [Act.put, List.setIfInBounds_toArray, List.set_cons_zero, List.set_cons_succ]
    refine rk_take (fuel := 4) 4 rfl (by kernel_rfl) (listed' := #[true, true, true, true, true, false, false, false, false]) (by kernel_rfl) (fun _ _ _ h => h) (by kernel_rfl) (fun w' hR => by obtain ⟨x0, x1⟩ := HF.out w' hR; go_simp; first | done | with_reducible rfl) rfl ?_
    try simp only [Act.put, List.setIfInBounds_toArray, List.set_cons_zero, List.set_cons_succ]
    refine rk_take (fuel := 3) 5 rfl (by kernel_rfl) (listed' := #[true, true, true, true, true, true, false, false, false]) (by kernel_rfl) (fun _ _ _ h => h) (by kernel_rfl) (fun w' hR => by obtain ⟨x0, x1⟩ := HF.out w' hR; go_simp; first | done | with_reducible rfl) rfl ?_
    try simp only [Act.put, List.setIfInBounds_toArray, List.set_cons_zero, List.set_cons_succ]
    refine rk_take (fuel := 2) 6 rfl (by kernel_rfl) (listed' := #[true, true, true, true, true, true, true, false, false]) (by kernel_rfl) (fun _ _ _ h => h) (by kernel_rfl) (fun w' hR => by obtain ⟨x0, x1⟩ := HF.out w' hR; go_simp; first | done | with_reducible rfl) rfl ?_
    try simp only [Act.put, List.setIfInBounds_toArray, List.set_cons_zero, List.set_cons_succ]
    refine rk_take (fuel := 1) 7 rfl (by kernel_rfl) (listed' := #[true, true, true, true, true, true, true, true, false]) (by kernel_rfl) (fun _ _ _ h => h) (by kernel_rfl) (fun w' hR => by obtain ⟨x0, x1⟩ := HF.out w' hR; go_simp; first | done | with_reducible rfl) rfl ?_
    try simp only [Act.put, List.setIfInBounds_toArray, List.set_cons_zero, List.set_cons_succ]
    refine rk_step (fuel := 0) 8 rfl (by kernel_rfl) (listed' := #[true, true, true, true, true, true, true, true, true]) (by kernel_rfl) (by kernel_rfl) (fun K' hK => ?_)
    (go_wp2_with fail)
    refine hK.out _ _ (Keep.setCell (Keep.setCell (Keep.refl (· = gy) WY.drew) ⟨gy, j * 2, none⟩ _ (fun _ => rfl)) ⟨gy, j * 2 + 1, none⟩ _ (fun _ => rfl)) ?_
    clear hK K'
    try simp only [Act.put, List.setIfInBounds_toArray, List.set_cons_zero, List.set_cons_succ]
    refine rk_done (by kernel_rfl) ?_
    obtain ⟨U0, hU0⟩ : ∃ U0, U0 = (WY.drew.setCell ⟨gy, j * 2, none⟩ (.int .i64 p.1)).setCell ⟨gy, j * 2 + 1, none⟩ (.int .i64 p.2) := ⟨_, rfl⟩
    have hU2 : ((WY.setCell ⟨gy, j * 2, none⟩ (.int .i64 p.1)).setCell ⟨gy, j * 2 + 1, none⟩ (.int .i64 p.2)).drew = U0 := by rw [hU0]; rfl
    have hkp : Keep (· = gy) WY U0 := by rw [hU0]; exact Keep.setCell (Keep.setCell (Keep.drew (Keep.refl (· = gy) WY)) ⟨gy, j * 2, none⟩ _ (fun _ => rfl)) ⟨gy, j * 2 + 1, none⟩ _ (fun _ => rfl)
    have hbu : Below w3.heap.size w3 U0 := Keep.below_then HBW.out hkp HBW.out.size (fun i hi e => by have := HHJ.out; omega)
    have HX0 := Aside0.mk (Kd.C_below HX3.out hbu)
    have HL0 := Aside0.mk (Kd.C_below HL3.out hbu)
    have HQa := Aside0.mk (HQ3.out.trans (hbu.mono HQ3.out.size))
    have hro : kP.R 25 U0 w3.heap.size (fun _ => True) (.slice (some ⟨gy, 0, none⟩) m c4) ((madeL x).set j p) := Kd.R_step HPUT.out (fun k _ _ => by rw [hU0]; rfl)
    have HYN := Aside0.mk (C_of_R hro).1.symm
    have HY0 := Aside0.mk (C_of_R hro).2
    rw [hU2]
    clear hro hbu hkp hU2 hU0 y0 y1 hz0 hz1
    go_wp2_with (first
      | (go_at_call 12; refine (right_calls A c l n HN.out (by omega) V M b1 HB1.out U0 HL0.out).mono ?_; rintro e U1 ⟨rfl, hb⟩; have HQb := Aside0.mk (HQa.out.trans (hb.mono HQa.out.size)); have HL1 := Aside0.mk (Kd.C_below HL0.out hb); have HX1 := Aside0.mk (Kd.C_below HX0.out hb); have HY1 := Aside0.mk (Kd.C_below HY0.out hb); clear hb HL0 HX0 HY0)
      | (go_at_call 13; refine (rright_calls A c l n HN.out (by omega) V M b1 HB1.out U1 HL1.out).mono ?_; rintro e U2 ⟨rfl, hb⟩; have HQc := Aside0.mk (HQb.out.trans (hb.mono HQb.out.size)); have HX2 := Aside0.mk (Kd.C_below HX1.out hb); have HY2 := Aside0.mk (Kd.C_below HY1.out hb); clear hb HL1 HX1 HY1)
      | (go_at_call 12; refine (right_calls A2 c2 (madeL x) m HM.out.symm (by omega) V M b2 HB2.out U2 HX2.out).mono ?_; rintro e U3 ⟨rfl, hb⟩; have HQd := Aside0.mk (HQc.out.trans (hb.mono HQc.out.size)); have HX3 := Aside0.mk (Kd.C_below HX2.out hb); have HY3 := Aside0.mk (Kd.C_below HY2.out hb); clear hb HX2 HY2)
      | (go_at_call 13; refine (rright_calls A2 c2 (madeL x) m HM.out.symm (by omega) V M b2 HB2.out U3 HX3.out).mono ?_; rintro e U4 ⟨rfl, hb⟩; have HQe := Aside0.mk (HQd.out.trans (hb.mono HQd.out.size)); have HY4 := Aside0.mk (Kd.C_below HY3.out hb); clear hb HX3 HY3)
      | (go_at_call 12; refine (right_calls _ _ ((madeL x).set j p) m HYN.out (by omega) 6 8 b3 HB3.out U4 HY4.out).mono ?_; rintro e U5 ⟨rfl, hb⟩; have HQf := Aside0.mk (HQe.out.trans (hb.mono HQe.out.size)); have HY5 := Aside0.mk (Kd.C_below HY4.out hb); clear hb HY4)
      | (go_at_call 13; refine (rright_calls _ _ ((madeL x).set j p) m HYN.out (by omega) 6 8 b3 HB3.out U5 HY5.out).mono ?_; rintro e U6 ⟨rfl, hb⟩; have HQg := Aside0.mk (HQf.out.trans (hb.mono HQf.out.size)); clear hb HY5))
    go_ret
    exact ⟨rfl, HAL.out.trans (HQg.out.mono HAL.out.size)⟩
theorem own : ownKnob Try.prog.godebug = none := by kernel_rfl
theorem laidOut : laidOutB Try.prog = true := by kernel_rfl
def IsRow (k : IntKind) (w : World) (a : Option Addr) (len cap : Nat) (zs : List Int) : Prop :=
  (a = none ∧ len = 0 ∧ cap = 0 ∧ zs = []) ∨
  ∃ x, a = some x ∧ len ≤ cap ∧ cap ≤ maxLen ∧ zs.length = cap ∧ (∀ i, i < zs.length → w.cell? (x.add i) = some (.int k (zs.getD i 0))) ∧ ∀ n ∈ zs, (Lit.int k n).wf = true
set_option maxRecDepth 100000 in
theorem lifted (os : Os) (started : os.Started) (H : Type) (enc : TypeId × Value → H) :
    ReturnsInHanded {} Try.checked os 3 .any (Rows.equalRightSpec.pre6 enc Try.prog Try.f3 Rows.equalRightRow.domain false) (Rows.equalRightSpec.post enc Try.prog Try.f3 false true false false) := by
  refine returnsInHanded_of_change_sized (C := Try.checked) own started (by kernel_rfl) Try.func3
    (ChangeSpec.witness6 (enc := enc) (C := Try.checked) false ⟨#[], #[.slice none 0 0, .int .u64 0, .int .u8 0, .agg #[.int .i64 0, .int .i64 0], .int .i64 0, .int .i64 0], []⟩ 8 (by kernel_rfl) (by kernel_rfl) (by kernel_rfl) (by kernel_rfl)) ?_
  intro W base args ds gs before hval0 hW hcnd hsz0 _
  have hsz : (DataW.weightsEach Try.prog (Try.f3.params.toList ++ Rows.equalRightSpec.plain.varTypes Try.prog) (ds ++ gs)).all (· ≤ reachBytes) = true := hsz0
  have hval : ∀ (j : Nat) t v, Try.f3.params[j]? = some t → args[j]? = some v → Value.okWide Try.prog W .any base t v := hval0
  have hW' := hW
  obtain ⟨p, q, hA0, hV, rfl, hfz, hnd⟩ := hW
  have hA : DataW.TrodAll enc Try.prog W 0 (fun _ => true) true Try.f3.params.toList args.toList ds p := hA0
  rw [Try.params3] at hA hval hsz
  obtain ⟨v0, vs0, d0, ds0, p0, q0, hargs, rfl, rfl, h0, r0⟩ := trodAll_cons hA
  obtain ⟨v1, vs1, d1, ds1, p1, q1, rfl, rfl, rfl, h1, r1⟩ := trodAll_cons r0
  obtain ⟨v2, vs2, d2, ds2, p2, q2, rfl, rfl, rfl, h2, r2⟩ := trodAll_cons r1
  obtain ⟨v3, vs3, d3, ds3, p3, q3, rfl, rfl, rfl, h3, r3⟩ := trodAll_cons r2
  obtain ⟨v4, vs4, d4, ds4, p4, q4, rfl, rfl, rfl, h4, r4⟩ := trodAll_cons r3
  obtain ⟨v5, vs5, d5, ds5, p5, q5, rfl, rfl, rfl, h5, r5⟩ := trodAll_cons r4
  obtain ⟨rfl, rfl, rfl⟩ := trodAll_nil r5
  obtain rfl : args = #[v0, v1, v2, v3, v4, v5] := by cases args; simp_all
  obtain ⟨rfl, rfl⟩ := trodVars_none hV
  obtain ⟨a0, len0, cap0, rfl⟩ := okWide_slice Try.underlying22 (hval 0 22 v0 rfl rfl)
  have k0 := h0
  have alt0 := okWide_alt Try.underlying22 (hval 0 22 _ rfl rfl)
  have lt0 : ∀ x ∈ p0, x.block < W.heap.size := by obtain ⟨m, hm⟩ := k0; exact DataW.trod_lt m _ _ _ hm
  obtain ⟨l0, rfl, hcap0, hC0, hok0⟩ := opens_arg opens_pairs h0
  obtain ⟨a1, rfl, rfl, rfl, w1⟩ := open_int Try.underlying23 (hval 1 23 v1 rfl rfl) h1
  obtain ⟨a2, rfl, rfl, rfl, w2⟩ := open_int Try.underlying5 (hval 2 5 v2 rfl rfl) h2
  obtain ⟨c3, rfl, hcs3⟩ := okWide_struct Try.underlying25 (hval 3 25 v3 rfl rfl)
  have k3 := h3
  have lt3 : ∀ x ∈ p3, x.block < W.heap.size := by obtain ⟨m, hm⟩ := k3; exact DataW.trod_lt m _ _ _ hm
  obtain ⟨fuel3, hf3⟩ := h3
  obtain ⟨x3, hK3, hok3⟩ := opens_pair _ _ _ _ _ _ _ _ _ hf3
  obtain ⟨a4, rfl, rfl, rfl, w4⟩ := open_int Try.underlying3 (hval 4 3 v4 rfl rfl) h4
  obtain ⟨a5, rfl, rfl, rfl, w5⟩ := open_int Try.underlying3 (hval 5 3 v5 rfl rfl) h5
  clear hA0 hval0 hsz0 hsz
  refine (walk W _ _ l0 hC0 hcap0 hok0 alt0 a1 w1 a2 w2 c3 x3 hK3 hok3 a4 w4 a5 w5).mono fun e W' ⟨he, bel⟩ => ?_
  subst he
  exact ⟨_, rfl, _, _, _, [], _, [], hW', trodAll_mk1 (shut_bool Try.underlying4 _), (trodAll_cons_mk (Below.trod laidOut (by kernel_rfl) (of_decide_eq_true (by kernel_rfl)) k0 bel lt0) (trodAll_cons_mk (shut_int Try.underlying23 w1) (trodAll_cons_mk (shut_int Try.underlying5 w2) (trodAll_cons_mk (Below.trod laidOut (by kernel_rfl) (of_decide_eq_true (by kernel_rfl)) k3 bel lt3) (trodAll_cons_mk (shut_int Try.underlying3 w4) (trodAll_cons_mk (shut_int Try.underlying3 w5) trodAll_mk0)))))), rfl, bel.frame _, fun h => by cases h⟩
theorem over : Rows.equalRightRow.holds Try.pinned (OpenSpec.ofChange Rows.equalRightSpec) :=
  OpenClaim.holds_of_wide 3 Try.f3 rfl rfl rfl rfl rfl rfl rfl ⟨rfl, rfl, rfl, rfl, rfl⟩ rfl rfl rfl rfl rfl (by kernel_rfl) Try.func3 (by kernel_rfl)
    (of_decide_eq_true (by kernel_rfl)) (by unfold Func.isWrapper; first | (rw [if_pos (by decide +kernel)]; kernel_rfl) | (rw [if_neg (by decide +kernel)]; exact ⟨rfl, rfl⟩))
    (fun os started H enc _ => lifted os started H enc)
end Go.Proofs.Ytmkkebllmmafmaa.EqualRight
namespace Go.Proofs.Ytmkkebllmmafmaa
/-- The statement. -/
theorem equalRight_holds : Rows.EqualRightSaid := EqualRight.over
#print axioms equalRight_holds
end Go.Proofs.Ytmkkebllmmafmaa
