/- EqualRuns: numbers in vregs and places, changed step by step: the pairs that the steps tell always hold of them. No condition. -/
import Derived.Test.YtmkkebllmmafmaaRows
import Derived.ProofKit
import Derived.OpenShut
import Derived.ShutString
import Derived.ChangeOld
import Derived.SizedLaws
import Derived.Test.YtmkkebllmmafmaaWSized
import Derived.Test.YtmkkebllmmafmaaPaw
import Derived.Test.YtmkkebllmmafmaaPr
import Derived.Test.YtmkkebllmmafmaaPar
namespace Go.Proofs.Ytmkkebllmmafmaa.EqualRuns
open Go.ChangeShapes Go.WideShapes Go.ChangeAt Go.RowKit Go.Proofs.YtmkkebllmmafmaaW.PrintWords Go.Proofs.YtmkkebllmmafmaaW.PrintLast Go.Proofs.YtmkkebllmmafmaaW.PrintMore Go.Proofs.Ytmkkebllmmafmaa.B Go.Proofs.Ytmkkebllmmafmaa.O Go.Proofs.Ytmkkebllmmafmaa.Ps Go.Proofs.Ytmkkebllmmafmaa.R Go.Proofs.Ytmkkebllmmafmaa.Pk Go.Proofs.Ytmkkebllmmafmaa.Pa Go.Proofs.Ytmkkebllmmafmaa.Pm Go.Proofs.Ytmkkebllmmafmaa.Pw Go.Proofs.Ytmkkebllmmafmaa.Pd Go.Proofs.Ytmkkebllmmafmaa.Pg Go.Proofs.Ytmkkebllmmafmaa.Px Go.Proofs.Ytmkkebllmmafmaa.Pz Go.Proofs.Ytmkkebllmmafmaa.Pq Go.Proofs.Ytmkkebllmmafmaa.Pt Go.Proofs.Ytmkkebllmmafmaa.S
set_option linter.unusedVariables false
set_option linter.unusedSimpArgs false
set_option maxHeartbeats 4000000 in
set_option maxRecDepth 100000 in
theorem walk (w : World) (a : Int) (ha : (Lit.int .u8 a).wf = true)
    (A : Option Addr) (c : Nat) (st : List (Int × (Int × Int))) (hC : kT.C w A st.length st) (hc : st.length ≤ c) (hok : (∀ v ∈ st, TOk v) ∧ st.length ≤ 9223372036854775807) (_ : ∀ a, A = some a → a.block < w.heap.size)
    (A2 : Option Addr) (c2 : Nat) (ar : List Int) (hC2 : (Kd.int .i64).C w A2 ar.length ar) (hc2 : ar.length ≤ c2) (hm2 : ar.length * 8 ≤ 140737488351232) (hwf2 : ∀ x ∈ ar, (Lit.int .i64 x).wf = true) :
    Calls Try.prog 7 #[.int .u8 a, .slice A st.length c, .slice A2 ar.length c2] w fun e w' => e = .returned (.bool true) ∧ Below w.heap.size w w' := by
  obtain ⟨ha0, ha1⟩ := wf_u8 ha
  obtain ⟨p, hp⟩ : ∃ p : Nat, a % 3 = (p : Int) := ⟨(a % 3).toNat, by omega⟩
  have ep : a.tmod 3 = (p : Int) := by rw [Int.tmod_eq_emod_of_nonneg ha0]; exact hp
  have hp2 : p ≤ 2 := by omega
  have wp := wrI64 (p : Int) (by omega) (by omega)
  obtain ⟨n, hn⟩ : ∃ n, st.length = n := ⟨_, rfl⟩
  obtain ⟨m, hm⟩ : ∃ m, ar.length = m := ⟨_, rfl⟩
  rw [hn] at hC
  rw [hm] at hC2
  have HC := Aside0.mk hC
  have HC2 := Aside0.mk hC2
  have HN := Aside0.mk hn
  have HM := Aside0.mk hm
  have HOK := Aside0.mk hok.1
  have hn9 : n ≤ 9223372036854775807 := by rw [← hn]; exact hok.2
  have hm9 : m ≤ 140737488351232 := by omega
  rw [hn, hm]
  clear ha ha0 ha1 hC hc hok hC2 hc2 hm2 hwf2 hn hm
  go_enter Try.func7, Try.ntmps7
  go_upto_region 4 with (first | (go_at_call 10; refine (awake_calls w).mono ?_; rintro e U1 ⟨rfl, hb⟩; have HB1 := Aside0.mk hb; clear hb))
  go_upto_region 6 with fail
  obtain ⟨gv, hgv⟩ : ∃ gv, gv = U1.heap.size := ⟨_, rfl⟩
  obtain ⟨WA, hWA⟩ : ∃ WA, WA = (U1.alloc (.cells #[.int .i64 0, .int .i64 0, .int .i64 0, .int .i64 0, .int .i64 0, .int .i64 0] 46)).alloc (.cells #[.int .i64 0, .int .i64 0, .int .i64 0, .int .i64 0, .int .i64 0, .int .i64 0, .int .i64 0, .int .i64 0] 47) := ⟨_, rfl⟩
  have HV0 := Aside0.mk (show ArrAt WA gv 6 46 (fun _ => 0) by
    rw [hWA, hgv]
    exact (Below.heap_alloc _ _ U1.heap.size (by rw [World.size_alloc]; omega)).trans (heap_alloc_new U1 _))
  have HP0 := Aside0.mk (show ArrAt WA (gv + 1) 8 47 (fun _ => 0) by
    have := heap_alloc_new (U1.alloc (.cells #[.int .i64 0, .int .i64 0, .int .i64 0, .int .i64 0, .int .i64 0, .int .i64 0] 46)) (.cells #[.int .i64 0, .int .i64 0, .int .i64 0, .int .i64 0, .int .i64 0, .int .i64 0, .int .i64 0, .int .i64 0] 47)
    rw [World.size_alloc] at this
    rw [hWA, hgv]
    exact this)
  have HB0 := Aside0.mk (show Below w.heap.size w WA by
    rw [hWA]
    exact (HB1.out.alloc HB1.out.size _).alloc (Nat.le_trans HB1.out.size (by rw [World.size_alloc]; omega)) _)
  have HG := Aside0.mk (show w.heap.size ≤ gv by rw [hgv]; exact HB1.out.size)
  rw [← hgv, ← hWA]
  clear hWA hgv HB1
  go_wp2_with fail
  go_loopw [25] (fun vi wr => ∃ (k : Nat) (fv fp : Nat → Int), k ≤ p ∧ vi = .int .i64 k ∧ Aside0 (ArrAt wr gv 6 46 fv) ∧ Aside0 (ArrAt wr (gv + 1) 8 47 fp) ∧ Aside0 (Below w.heap.size w wr) ∧ Aside0 ((∀ i, i < k → fv i = fp (3 + i)) ∧ (∀ i, k ≤ i → i < 6 → fv i = 0) ∧ (∀ l, l < 8 → l < 3 ∨ 3 + k ≤ l → fp l = 0))) (fun vi _ => p - (intOf vi).toNat)
  case atStart => exact ⟨0, fun _ => 0, fun _ => 0, by omega, rfl, HV0, HP0, HB0, ⟨fun _ _ => rfl, fun _ _ _ => rfl, fun _ _ _ => rfl⟩⟩
  case round =>
    clear HV0 HP0 HB0
    obtain ⟨k, fv, fp, hk, rfl, HV, HP, HB, HI⟩ := hrel
    by_cases hgo : k < p
    · have d0 : decide ((k : Int) < p) = true := decide_eq_true (by omega)
      have y0 := HV.out.at (show k < 6 by omega)
      have z0 := HV.out.frozen k
      obtain ⟨k3, hk3⟩ : ∃ k3 : Nat, (3 : Int) + (k : Int) = (k3 : Int) := ⟨3 + k, by omega⟩
      have hk38 : k3 < 8 := by omega
      have hk6 : k < 6 := by omega
      have y1 := HP.out.at hk38
      have z1 := HP.out.frozen k3
      have HK3 := Aside0.mk (show k3 = 3 + k by omega)
      have hne : gv ≠ gv + 1 := by omega
      have fin : ∀ x : Int, ∃ (k' : Nat) (fv fp : Nat → Int), k' ≤ p ∧ (Value.int .i64 ((k + 1 : Nat) : Int)) = .int .i64 k' ∧ Aside0 (ArrAt ((wr.setCell ⟨gv, k, none⟩ (.int .i64 x)).setCell ⟨gv + 1, k3, none⟩ (.int .i64 x)) gv 6 46 fv) ∧ Aside0 (ArrAt ((wr.setCell ⟨gv, k, none⟩ (.int .i64 x)).setCell ⟨gv + 1, k3, none⟩ (.int .i64 x)) (gv + 1) 8 47 fp) ∧ Aside0 (Below w.heap.size w ((wr.setCell ⟨gv, k, none⟩ (.int .i64 x)).setCell ⟨gv + 1, k3, none⟩ (.int .i64 x))) ∧ Aside0 ((∀ i, i < k' → fv i = fp (3 + i)) ∧ (∀ i, k' ≤ i → i < 6 → fv i = 0) ∧ (∀ l, l < 8 → l < 3 ∨ 3 + k' ≤ l → fp l = 0)) := fun x => by
        refine ⟨k + 1, fun j => if j = k then x else fv j, fun j => if j = k3 then x else fp j, by omega, rfl, ⟨(HV.out.set k x).far _ hne⟩, ⟨(HP.out.far _ hne.symm).set k3 x⟩, ⟨(HB.out.setCell (p := ⟨gv, k, none⟩) HG.out _).setCell (p := ⟨gv + 1, k3, none⟩) (by have := HG.out; show w.heap.size ≤ gv + 1; omega) _⟩, ⟨fun i hi => ?_, fun i hi h6 => ?_, fun l hl h => ?_⟩⟩
        · rw [HK3.out]
          by_cases e : i = k
          · subst e; simp
          · simp only [if_neg e, if_neg (show ¬ 3 + i = 3 + k by omega)]
            exact HI.out.1 i (by omega)
        · simp only [if_neg (show ¬ i = k by omega)]
          exact HI.out.2.1 i (by omega) h6
        · rw [HK3.out]
          simp only [if_neg (show ¬ l = 3 + k by omega)]
          exact HI.out.2.2 l hl (by omega)
      have FIN := Aside0.mk fin
      clear fin
      by_cases hkm : k < m
      · have d1 : decide ((k : Int) < m) = true := decide_eq_true (by omega)
        have d1' : decide (k < m) = true := decide_eq_true hkm
        obtain ⟨x, hx⟩ : ∃ x, ar[k]? = some x := ⟨_, List.getElem?_eq_getElem (by rw [HM.out]; exact hkm)⟩
        have hC3 := Kd.C_below HC2.out HB.out
        obtain ⟨ad2, rfl⟩ := C_some hC3 (by omega)
        have x0 := C_cell hC3 hx
        clear hC3 hx
        go_wp2_with fail
        go_roundw
        case rel =>
          obtain ⟨k', fv', fp', h1, h2, h3⟩ := FIN.out x
          exact ⟨k', fv', fp', h1, by rw [← h2]; go_num, h3⟩
        case measure => simp [intOf]; omega
      · have d1 : decide ((k : Int) < m) = false := decide_eq_false (by omega)
        have d1' : decide (k < m) = false := decide_eq_false hkm
        go_wp2_with fail
        go_roundw
        case rel =>
          obtain ⟨k', fv', fp', h1, h2, h3⟩ := FIN.out ((k : Int) + 5)
          exact ⟨k', fv', fp', h1, by rw [← h2]; go_num, h3⟩
        case measure => simp [intOf]; omega
    · have d0 : decide ((k : Int) < p) = false := decide_eq_false (by omega)
      obtain rfl : k = p := by omega
      have HH := Aside0.mk (holds_first hp2 HI.out.1 HI.out.2.1 HI.out.2.2)
      clear HI
      go_wp2_with (first | (go_at_call 23; refine (first_calls k 6 3 5 8 rfl (by decide) (by omega) (by decide) (by decide) wr).mono ?_; rintro e U2 ⟨v2, rfl, ho, hb⟩; obtain ⟨Al, ml, cl, rfl, hA⟩ := LF.of_R (f := fFirst k 3) ho rfl; have HL0 := Aside0.mk hA; have HV0 := Aside0.mk (HV.out.below hb); have HP0 := Aside0.mk (HP.out.below hb); have HB0 := Aside0.mk (HB.out.trans (hb.mono HB.out.size)); clear ho hb hA HV HP HB))
      go_loopw [12, 50] (fun vl vi wr => ∃ (j : Nat) (A : Option Addr) (m c : Nat) (f : F) (fv fp : Nat → Int), j ≤ n ∧ vi = .int .i64 j ∧ vl = .slice A m c ∧ Aside0 (LF wr A m f) ∧ Aside0 (ArrAt wr gv 6 46 fv) ∧ Aside0 (ArrAt wr (gv + 1) 8 47 fp) ∧ Aside0 (Holds2 f fv fp) ∧ Aside0 (Below w.heap.size w wr)) (fun _ vi _ => n - (intOf vi).toNat)
      case atStart => exact ⟨0, Al, ml, cl, fFirst k 3, fv, fp, by omega, rfl, rfl, HL0, HV0, HP0, HH, HB0⟩
      case round =>
        clear HL0 HV0 HP0 HB0 HH
        obtain ⟨j, Al, ml, cl, f, fv, fp, hj, rfl, rfl, HL, HV, HP, HH, HB⟩ := hrel
        by_cases hgo2 : j < n
        · have e0 : decide ((j : Int) < n) = true := decide_eq_true (by omega)
          obtain ⟨⟨s0, s1, s2⟩, hst⟩ : ∃ s, st[j]? = some s := ⟨_, List.getElem?_eq_getElem (by rw [HN.out]; exact hgo2)⟩
          obtain ⟨hs0, hs1, hs2⟩ := HOK.out _ (List.mem_of_getElem? hst)
          obtain ⟨ad, rfl, x0, x1, x2⟩ := T_get (Kd.C_below HC.out HB.out) hst
          simp only at hs0 hs1 hs2 x0 x1 x2
          obtain ⟨WB, hWB⟩ : ∃ WB, WB = wr.alloc (.cells #[.int .u8 s0, .int .u8 s1, .int .u8 s2] 48) := ⟨_, rfl⟩
          have hal : Below wr.heap.size wr WB := by rw [hWB]; exact (Below.refl _ _).alloc (Nat.le_refl _) _
          have hnw : WB.heap[wr.heap.size]? = some (.cells #[.int .u8 s0, .int .u8 s1, .int .u8 s2] 48 (0, 0)) := by rw [hWB]; exact heap_alloc_new _ _
          have HAL := Aside0.mk hal
          have HF := Aside0.mk (show ∀ W2, Below WB.heap.size WB W2 → W2.cell? ⟨wr.heap.size, 0, none⟩ = some (.int .u8 s0) ∧ W2.cell? ⟨wr.heap.size, 1, none⟩ = some (.int .u8 s1) ∧ W2.cell? ⟨wr.heap.size, 2, none⟩ = some (.int .u8 s2) from fun W2 h => by
            have h2 := (h.block wr.heap.size (Array.getElem?_eq_some_iff.1 hnw).1).trans hnw
            exact ⟨by simp [World.cell?, h2], by simp [World.cell?, h2], by simp [World.cell?, h2]⟩)
          go_upto_region 18 with fail
          rw [← hWB]
          clear hWB hal hnw x0 x1 x2 hst
          by_cases h60 : 60 < j
          · have e1 : decide ((60 : Int) < j) = true := decide_eq_true (by omega)
            have e1' : decide (60 < j) = true := decide_eq_true h60
            go_wp2_with fail
            go_ret
            exact ⟨rfl, HB.out.trans (HAL.out.mono HB.out.size)⟩
          · have e1 : decide ((60 : Int) < j) = false := decide_eq_false (by omega)
            have e1' : decide (60 < j) = false := decide_eq_false h60
            obtain ⟨hs00, hs01⟩ := wf_u8 hs0
            obtain ⟨hs10, hs11⟩ := wf_u8 hs1
            obtain ⟨hs20, hs21⟩ := wf_u8 hs2
            obtain ⟨t, ht⟩ : ∃ t : Nat, s1 % 8 = (t : Int) := ⟨(s1 % 8).toNat, by omega⟩
            obtain ⟨s, hs⟩ : ∃ s : Nat, s2 % 8 = (s : Int) := ⟨(s2 % 8).toNat, by omega⟩
            have ht8 : t < 8 := by omega
            have hs8 : s < 8 := by omega
            have et : s1.tmod 8 = (t : Int) := by rw [Int.tmod_eq_emod_of_nonneg hs10]; exact ht
            have es : s2.tmod 8 = (s : Int) := by rw [Int.tmod_eq_emod_of_nonneg hs20]; exact hs
            have wt := wrI64 (t : Int) (by omega) (by omega)
            have ws := wrI64 (s : Int) (by omega) (by omega)
            have hq4 : s0 % 4 = 0 ∨ s0 % 4 = 1 ∨ s0 % 4 = 2 ∨ s0 % 4 = 3 := by omega
            clear hs0 hs1 hs2 hs10 hs11 hs20 hs21
            go_wp2_with fail
            refine rg_start (by kernel_rfl) (n := 10) (l := #[false, false, false, false, false, false, false, false, false, false]) (by kernel_rfl) (by kernel_rfl) ?_
            refine rg_take (fuel := 9) 0 rfl (by kernel_rfl) (listed' := #[true, false, false, false, false, false, false, false, false, false]) (by kernel_rfl) (fun _ _ _ h => h) (by kernel_rfl) (fun w' hR => by obtain ⟨x0, x1, x2⟩ := HF.out w' ((Below.refl _ _).drew.trans hR); go_simp; first | done | with_reducible rfl) rfl ?_
            try simp only [Act.put, List.setIfInBounds_toArray, List.set_cons_zero, List.set_cons_succ]
            refine rg_take (fuel := 8) 1 rfl (by kernel_rfl) (listed' := #[true, true, false, false, false, false, false, false, false, false]) (by kernel_rfl) (fun _ _ _ h => h) (by kernel_rfl) (fun w' hR => by obtain ⟨x0, x1, x2⟩ := HF.out w' ((Below.refl _ _).drew.trans hR); go_simp; first | done | with_reducible rfl) rfl ?_
            try simp only [Act.put, List.setIfInBounds_toArray, List.set_cons_zero, List.set_cons_succ]
            refine rg_take (fuel := 7) 2 rfl (by kernel_rfl) (listed' := #[true, true, true, false, false, false, false, false, false, false]) (by kernel_rfl) (fun _ _ _ h => h) (by kernel_rfl) (fun w' hR => by obtain ⟨x0, x1, x2⟩ := HF.out w' ((Below.refl _ _).drew.trans hR); go_simp; first | done | with_reducible rfl) rfl ?_
            try simp only [Act.put, List.setIfInBounds_toArray, List.set_cons_zero, List.set_cons_succ]
            refine rg_take (fuel := 6) 3 rfl (by kernel_rfl) (listed' := #[true, true, true, true, false, false, false, false, false, false]) (by kernel_rfl) (fun _ _ _ h => h) (by kernel_rfl) (fun w' hR => by obtain ⟨x0, x1, x2⟩ := HF.out w' ((Below.refl _ _).drew.trans hR); go_simp; first | done | with_reducible rfl) rfl ?_
            try simp only [Act.put, List.setIfInBounds_toArray, List.set_cons_zero, List.set_cons_succ]
            refine rg_take (fuel := 5) 4 rfl (by kernel_rfl) (listed' := #[true, true, true, true, true, false, false, false, false, false]) (by kernel_rfl) (fun _ _ _ h => h) (by kernel_rfl) (fun w' hR => by obtain ⟨x0, x1, x2⟩ := HF.out w' ((Below.refl _ _).drew.trans hR); go_simp; first | done | with_reducible rfl) rfl ?_
            try simp only [Act.put, List.setIfInBounds_toArray, List.set_cons_zero, List.set_cons_succ]
            refine rg_take (fuel := 4) 5 rfl (by kernel_rfl) (listed' := #[true, true, true, true, true, true, false, false, false, false]) (by kernel_rfl) (fun _ _ _ h => h) (by kernel_rfl) (fun w' hR => by obtain ⟨x0, x1, x2⟩ := HF.out w' ((Below.refl _ _).drew.trans hR); go_simp; first | done | with_reducible rfl) rfl ?_
            try simp only [Act.put, List.setIfInBounds_toArray, List.set_cons_zero, List.set_cons_succ]
            refine rg_take (fuel := 3) 6 rfl (by kernel_rfl) (listed' := #[true, true, true, true, true, true, true, false, false, false]) (by kernel_rfl) (fun _ _ _ h => h) (by kernel_rfl) (fun w' hR => by obtain ⟨x0, x1, x2⟩ := HF.out w' ((Below.refl _ _).drew.trans hR); go_simp; first | done | with_reducible rfl) rfl ?_
            try simp only [Act.put, List.setIfInBounds_toArray, List.set_cons_zero, List.set_cons_succ]
            refine rg_take (fuel := 2) 7 rfl (by kernel_rfl) (listed' := #[true, true, true, true, true, true, true, true, false, false]) (by kernel_rfl) (fun _ _ _ h => h) (by kernel_rfl) (fun w' hR => by obtain ⟨x0, x1, x2⟩ := HF.out w' ((Below.refl _ _).drew.trans hR); go_simp; first | done | with_reducible rfl) rfl ?_
            try simp only [Act.put, List.setIfInBounds_toArray, List.set_cons_zero, List.set_cons_succ]
            refine rg_take (fuel := 1) 8 rfl (by kernel_rfl) (listed' := #[true, true, true, true, true, true, true, true, true, false]) (by kernel_rfl) (fun _ _ _ h => h) (by kernel_rfl) (fun w' hR => by obtain ⟨x0, x1, x2⟩ := HF.out w' ((Below.refl _ _).drew.trans hR); go_simp; first | done | with_reducible rfl) rfl ?_
            try simp only [Act.put, List.setIfInBounds_toArray, List.set_cons_zero, List.set_cons_succ]
            refine rg_take (fuel := 0) 9 rfl (by kernel_rfl) (listed' := #[true, true, true, true, true, true, true, true, true, true]) (by kernel_rfl) (fun _ _ _ h => h) (by kernel_rfl) (fun w' hR => by obtain ⟨x0, x1, x2⟩ := HF.out w' ((Below.refl _ _).drew.trans hR); go_simp; first | done | with_reducible rfl) rfl ?_
            try simp only [Act.put, List.setIfInBounds_toArray, List.set_cons_zero, List.set_cons_succ]
            refine rg_done (by kernel_rfl) ?_
            have x0 := (HF.out WB.drew (Below.refl _ _).drew).1
            have hWB : Below w.heap.size w WB.drew := (HB.out.trans (HAL.out.mono HB.out.size)).drew
            have HLw := Aside0.mk ((HL.out.below HAL.out).below (Below.refl _ _).drew)
            have HVw := Aside0.mk ((HV.out.below HAL.out).below (Below.refl _ _).drew)
            have HPw := Aside0.mk ((HP.out.below HAL.out).below (Below.refl _ _).drew)
            have HBw := Aside0.mk hWB
            have x00 := x0
            clear HL HV HP HB HAL HF hWB x00
            generalize WB.drew = W0 at *
            obtain ⟨t6, ht6⟩ : ∃ t6 : Nat, (t : Int) % 6 = (t6 : Int) := ⟨t % 6, by omega⟩
            obtain ⟨s6, hs6⟩ : ∃ s6 : Nat, (s : Int) % 6 = (s6 : Int) := ⟨s % 6, by omega⟩
            have ht66 : t6 < 6 := by omega
            have hs66 : s6 < 6 := by omega
            have et6 : (t : Int).tmod 6 = (t6 : Int) := by rw [Int.tmod_eq_emod_of_nonneg (by omega)]; exact ht6
            have es6 : (s : Int).tmod 6 = (s6 : Int) := by rw [Int.tmod_eq_emod_of_nonneg (by omega)]; exact hs6
            have wt6 := wrI64 (t6 : Int) (by omega) (by omega)
            have ws6 := wrI64 (s6 : Int) (by omega) (by omega)
            have hsI : (s : Int) < 8 := by omega
            have htI : (t : Int) < 8 := by omega
            have hs6I : (s6 : Int) < 6 := by omega
            have ht6I : (t6 : Int) < 6 := by omega
            rcases hq4 with h4 | h4 | h4 | h4
            · have h4' : s0.tmod 4 = 0 := by rw [Int.tmod_eq_emod_of_nonneg hs00]; exact h4
              go_upto_region 25 with fail
              have HF2 := Aside0.mk (show ∀ W2, Keep (fun _ => False) W0.drew W2 → W2.cell? ⟨gv + 1, s, none⟩ = some (.int .i64 (fp s)) ∧ gv + 1 < W2.heap.size from fun W2 h => ⟨((HPw.out.keep (S := fun _ => False) (Keep.drew (Keep.refl _ _)) (fun h => h)).keep h (fun h => h)).at hs8, by have := h.size; have := HPw.out.lt; simp only [World.drew] at *; omega⟩)
              have HLd := Aside0.mk (HLw.out.below (Below.refl W0.heap.size W0).drew)
              refine re_start [10] (fun _ => False) (by kernel_rfl) (n := 11) (l := #[false, false, false, false, false, false, false, false, false, false, false]) (by kernel_rfl) (by kernel_rfl) ?_
              refine re_take (fuel := 10) 0 rfl (by kernel_rfl) (listed' := #[true, false, false, false, false, false, false, false, false, false, false]) (by kernel_rfl) (fun _ _ _ h => h) (by kernel_rfl) (fun w' hR => by obtain ⟨x8, x9⟩ := HF2.out w' hR; go_simp; first | done | with_reducible rfl) rfl ?_
              try simp only [Act.put, List.setIfInBounds_toArray, List.set_cons_zero, List.set_cons_succ]
              refine re_take (fuel := 9) 1 rfl (by kernel_rfl) (listed' := #[true, true, false, false, false, false, false, false, false, false, false]) (by kernel_rfl) (fun _ _ _ h => h) (by kernel_rfl) (fun w' hR => by obtain ⟨x8, x9⟩ := HF2.out w' hR; go_simp; first | done | with_reducible rfl) rfl ?_
              try simp only [Act.put, List.setIfInBounds_toArray, List.set_cons_zero, List.set_cons_succ]
              refine re_take (fuel := 8) 2 rfl (by kernel_rfl) (listed' := #[true, true, true, false, false, false, false, false, false, false, false]) (by kernel_rfl) (fun _ _ _ h => h) (by kernel_rfl) (fun w' hR => by obtain ⟨x8, x9⟩ := HF2.out w' hR; go_simp; first | done | with_reducible rfl) rfl ?_
              try simp only [Act.put, List.setIfInBounds_toArray, List.set_cons_zero, List.set_cons_succ]
              refine re_take (fuel := 7) 3 rfl (by kernel_rfl) (listed' := #[true, true, true, true, false, false, false, false, false, false, false]) (by kernel_rfl) (fun _ _ _ h => h) (by kernel_rfl) (fun w' hR => by obtain ⟨x8, x9⟩ := HF2.out w' hR; go_simp; first | done | with_reducible rfl) rfl ?_
              try simp only [Act.put, List.setIfInBounds_toArray, List.set_cons_zero, List.set_cons_succ]
              refine re_take (fuel := 6) 5 rfl (by kernel_rfl) (listed' := #[true, true, true, true, false, true, false, false, false, false, false]) (by kernel_rfl) (fun _ _ _ h => h) (by kernel_rfl) (fun w' hR => by obtain ⟨x8, x9⟩ := HF2.out w' hR; go_simp; first | done | with_reducible rfl) rfl ?_
              try simp only [Act.put, List.setIfInBounds_toArray, List.set_cons_zero, List.set_cons_succ]
              refine re_take (fuel := 5) 6 rfl (by kernel_rfl) (listed' := #[true, true, true, true, false, true, true, false, false, false, false]) (by kernel_rfl) (fun _ _ _ h => h) (by kernel_rfl) (fun w' hR => by obtain ⟨x8, x9⟩ := HF2.out w' hR; go_simp; first | done | with_reducible rfl) rfl ?_
              try simp only [Act.put, List.setIfInBounds_toArray, List.set_cons_zero, List.set_cons_succ]
              refine re_take (fuel := 4) 7 rfl (by kernel_rfl) (listed' := #[true, true, true, true, false, true, true, true, false, false, false]) (by kernel_rfl) (fun _ _ _ h => h) (by kernel_rfl) (fun w' hR => by obtain ⟨x8, x9⟩ := HF2.out w' hR; go_simp; first | done | with_reducible rfl) rfl ?_
              try simp only [Act.put, List.setIfInBounds_toArray, List.set_cons_zero, List.set_cons_succ]
              refine re_step (fuel := 3) 4 rfl (by kernel_rfl) (listed' := #[true, true, true, true, true, true, true, true, false, false, false]) (by kernel_rfl) (by kernel_rfl) (fun K' hK => ?_)
              go_wp2_with (first | (go_at_call 17; refine (copied_LF2 cl t s ht8 hs8 HLd.out).mono ?_; rintro e U5 ⟨Az, mz, cz, rfl, h_1, h_2, hb⟩; have HL5 := Aside0.mk h_1; have HN5 := Aside0.mk h_2; have HB5 := Aside0.mk hb; have HK5 := Aside0.mk (Keep.of_below (S := fun _ => False) hb); have HV5 := Aside0.mk ((HVw.out.below (Below.refl W0.heap.size W0).drew).below hb); have HP5 := Aside0.mk ((HPw.out.below (Below.refl W0.heap.size W0).drew).below hb); have y9 := HP5.out.at ht8; have z9 := HP5.out.frozen t; have l9 := HP5.out.lt; clear h_1 h_2 hb))
              refine hK.out _ _ HK5.out ?_
              clear hK K'
              try simp only [Act.put, List.setIfInBounds_toArray, List.set_cons_zero, List.set_cons_succ]
              refine re_take (fuel := 2) 8 rfl (by kernel_rfl) (listed' := #[true, true, true, true, true, true, true, true, true, false, false]) (by kernel_rfl) (fun _ _ _ h => h) (by kernel_rfl) (fun w' hR => by skip; go_simp; first | done | with_reducible rfl) rfl ?_
              try simp only [Act.put, List.setIfInBounds_toArray, List.set_cons_zero, List.set_cons_succ]
              refine re_take (fuel := 1) 9 rfl (by kernel_rfl) (listed' := #[true, true, true, true, true, true, true, true, true, true, false]) (by kernel_rfl) (fun _ _ _ h => h) (by kernel_rfl) (fun w' hR => by skip; go_simp; first | done | with_reducible rfl) rfl ?_
              try simp only [Act.put, List.setIfInBounds_toArray, List.set_cons_zero, List.set_cons_succ]
              refine re_free (fuel := 0) 10 rfl (by kernel_rfl) (listed' := #[true, true, true, true, true, true, true, true, true, true, true]) (by kernel_rfl) (by kernel_rfl) (fun K' hK => ?_)
              (go_wp2_with fail)
              refine hK.out _ _ trivial ?_
              clear hK K'
              try simp only [Act.put, List.setIfInBounds_toArray, List.set_cons_zero, List.set_cons_succ]
              refine re_done (by kernel_rfl) ?_
              have HHX := Aside0.mk (holds_copied HH.out t s hs8)
              obtain ⟨WX, hWX⟩ : ∃ WX, WX = U5.setCell ⟨gv + 1, t, none⟩ (.int .i64 (fp s)) := ⟨_, rfl⟩
              obtain ⟨fz, hfz⟩ : ∃ fz, fz = fCopied f t s 6 := ⟨_, rfl⟩
              obtain ⟨fpz, hfpz⟩ : ∃ fpz : Nat → Int, fpz = fun j => if j = t then fp s else fp j := ⟨_, rfl⟩
              obtain ⟨fvz, hfvz⟩ : ∃ fvz : Nat → Int, fvz = fv := ⟨_, rfl⟩
              rw [← hfz, ← hfpz, ← hfvz] at HHX
              have HLX := Aside0.mk (show LF WX Az mz fz by rw [hWX, hfz]; exact HL5.out.blk fun a e => Below.heap_setCell _ _ _ _ (by have h1 := HN5.out a e; have h2 := HPw.out.lt; have h3 : W0.drew.heap.size = W0.heap.size := rfl; show a.block ≠ gv + 1; omega))
              have HVX := Aside0.mk (show ArrAt WX gv 6 46 fvz by rw [hWX, hfvz]; exact HV5.out.far _ (by show gv ≠ gv + 1; omega))
              have HPX := Aside0.mk (show ArrAt WX (gv + 1) 8 47 fpz by rw [hWX, hfpz]; exact HP5.out.set t (fp s))
              have HBX := Aside0.mk (show Below w.heap.size w WX by rw [hWX]; exact (HBw.out.drew.trans (HB5.out.mono HBw.out.drew.size)).setCell (p := ⟨gv + 1, t, none⟩) (by have := HG.out; show w.heap.size ≤ gv + 1; omega) _)
              rw [← hWX]
              clear hWX hfz hfpz hfvz HF2 HLd HL5 HN5 HB5 HK5 HV5 HP5 y9 z9 l9
              clear HLw HVw HPw HBw
              have hmz : mz ≤ 48 := HLX.out.le
              go_wp2_with fail
              go_loopw [113] (fun vx wz => ∃ x : Nat, x ≤ mz ∧ vx = .int .i64 x ∧ Aside0 (Below WX.heap.size WX wz)) (fun vx _ => mz - (intOf vx).toNat)
              case atStart => exact ⟨0, by omega, rfl, ⟨Below.refl _ _⟩⟩
              case round =>
                obtain ⟨x, hx, rfl, HBZ⟩ := hrel
                by_cases hgo3 : x < mz
                · have f0 : decide ((x : Int) < mz) = true := decide_eq_true (by omega)
                  have f0' : decide (x < mz) = true := decide_eq_true hgo3
                  obtain ⟨q, hq⟩ : ∃ q, (lst fz)[x]? = some q := ⟨_, List.getElem?_eq_getElem (by rw [HLX.out.len]; exact hgo3)⟩
                  obtain ⟨v, l, hv, hl, rfl, hfq⟩ := mem_pairsOf.1 (List.mem_of_getElem? hq)
                  obtain ⟨adz, rfl, y0, y1⟩ := P_get (Kd.C_below HLX.out.C HBZ.out) hq
                  have heq := HHX.out v l hv hl hfq
                  have y2 := (HVX.out.below HBZ.out).at hv
                  have y3 := (HPX.out.below HBZ.out).at hl
                  rw [heq] at y2
                  have lv := (HVX.out.below HBZ.out).lt
                  have lp := (HPX.out.below HBZ.out).lt
                  obtain ⟨WC, hWC⟩ : ∃ WC, WC = wr.alloc (.cells #[.int .i64 v, .int .i64 l] 25) := ⟨_, rfl⟩
                  have hal : Below wr.heap.size wr WC := by rw [hWC]; exact (Below.refl _ _).alloc (Nat.le_refl _) _
                  have hnw : WC.heap[wr.heap.size]? = some (.cells #[.int .i64 v, .int .i64 l] 25 (0, 0)) := by rw [hWC]; exact heap_alloc_new _ _
                  have z0 : WC.cell? ⟨wr.heap.size, 0, none⟩ = some (.int .i64 v) := by simp [World.cell?, hnw]
                  have z1 : WC.cell? ⟨wr.heap.size, 1, none⟩ = some (.int .i64 l) := by simp [World.cell?, hnw]
                  have z2 := pw_cell_below hal y2
                  have z3 := pw_cell_below hal y3
                  have HALZ := Aside0.mk (HBZ.out.trans (hal.mono HBZ.out.size))
                  go_upto_region 31 with fail
                  simp only at y0 y1
                  rw [← hWC]
                  clear hWC hal hnw hq hfq heq y0 y1 y2 y3
                  go_quiet (fail)
                  go_wp2
                  go_roundw
                  case rel => exact ⟨x + 1, by omega, by go_num, ⟨belowN HALZ.out _⟩⟩
                  case measure => simp [intOf]; omega
                · have f0 : decide ((x : Int) < mz) = false := decide_eq_false (by omega)
                  have f0' : decide (x < mz) = false := decide_eq_false hgo3
                  have HLZ := Aside0.mk (HLX.out.below HBZ.out)
                  go_wp2_with (first | (go_at_call 12; refine (right_LF cz HLZ.out).mono ?_; rintro e UR ⟨rfl, hb⟩; have HBR := Aside0.mk (HBZ.out.trans (hb.mono HBZ.out.size)); clear hb))
                  go_roundw
                  case rel => exact ⟨j + 1, Az, mz, cz, fz, fvz, fpz, by omega, by go_num, rfl, ⟨HLX.out.below HBR.out⟩, ⟨HVX.out.below HBR.out⟩, ⟨HPX.out.below HBR.out⟩, HHX, ⟨HBX.out.trans (HBR.out.mono HBX.out.size)⟩⟩
                  case measure => simp [intOf]; omega
            · have h4' : s0.tmod 4 = 1 := by rw [Int.tmod_eq_emod_of_nonneg hs00]; exact h4
              go_upto_region 25 with fail
              have HF2 := Aside0.mk (show ∀ W2, Keep (fun _ => False) W0.drew W2 → W2.cell? ⟨gv + 1, s, none⟩ = some (.int .i64 (fp s)) ∧ gv + 1 < W2.heap.size from fun W2 h => ⟨((HPw.out.keep (S := fun _ => False) (Keep.drew (Keep.refl _ _)) (fun h => h)).keep h (fun h => h)).at hs8, by have := h.size; have := HPw.out.lt; simp only [World.drew] at *; omega⟩)
              have HLd := Aside0.mk (HLw.out.below (Below.refl W0.heap.size W0).drew)
              refine re_start [10] (fun _ => False) (by kernel_rfl) (n := 11) (l := #[false, false, false, false, false, false, false, false, false, false, false]) (by kernel_rfl) (by kernel_rfl) ?_
              refine re_take (fuel := 10) 0 rfl (by kernel_rfl) (listed' := #[true, false, false, false, false, false, false, false, false, false, false]) (by kernel_rfl) (fun _ _ _ h => h) (by kernel_rfl) (fun w' hR => by obtain ⟨x8, x9⟩ := HF2.out w' hR; go_simp; first | done | with_reducible rfl) rfl ?_
              try simp only [Act.put, List.setIfInBounds_toArray, List.set_cons_zero, List.set_cons_succ]
              refine re_take (fuel := 9) 1 rfl (by kernel_rfl) (listed' := #[true, true, false, false, false, false, false, false, false, false, false]) (by kernel_rfl) (fun _ _ _ h => h) (by kernel_rfl) (fun w' hR => by obtain ⟨x8, x9⟩ := HF2.out w' hR; go_simp; first | done | with_reducible rfl) rfl ?_
              try simp only [Act.put, List.setIfInBounds_toArray, List.set_cons_zero, List.set_cons_succ]
              refine re_take (fuel := 8) 2 rfl (by kernel_rfl) (listed' := #[true, true, true, false, false, false, false, false, false, false, false]) (by kernel_rfl) (fun _ _ _ h => h) (by kernel_rfl) (fun w' hR => by obtain ⟨x8, x9⟩ := HF2.out w' hR; go_simp; first | done | with_reducible rfl) rfl ?_
              try simp only [Act.put, List.setIfInBounds_toArray, List.set_cons_zero, List.set_cons_succ]
              refine re_take (fuel := 7) 3 rfl (by kernel_rfl) (listed' := #[true, true, true, true, false, false, false, false, false, false, false]) (by kernel_rfl) (fun _ _ _ h => h) (by kernel_rfl) (fun w' hR => by obtain ⟨x8, x9⟩ := HF2.out w' hR; go_simp; first | done | with_reducible rfl) rfl ?_
              try simp only [Act.put, List.setIfInBounds_toArray, List.set_cons_zero, List.set_cons_succ]
              refine re_take (fuel := 6) 5 rfl (by kernel_rfl) (listed' := #[true, true, true, true, false, true, false, false, false, false, false]) (by kernel_rfl) (fun _ _ _ h => h) (by kernel_rfl) (fun w' hR => by obtain ⟨x8, x9⟩ := HF2.out w' hR; go_simp; first | done | with_reducible rfl) rfl ?_
              try simp only [Act.put, List.setIfInBounds_toArray, List.set_cons_zero, List.set_cons_succ]
              refine re_take (fuel := 5) 6 rfl (by kernel_rfl) (listed' := #[true, true, true, true, false, true, true, false, false, false, false]) (by kernel_rfl) (fun _ _ _ h => h) (by kernel_rfl) (fun w' hR => by obtain ⟨x8, x9⟩ := HF2.out w' hR; go_simp; first | done | with_reducible rfl) rfl ?_
              try simp only [Act.put, List.setIfInBounds_toArray, List.set_cons_zero, List.set_cons_succ]
              refine re_take (fuel := 4) 7 rfl (by kernel_rfl) (listed' := #[true, true, true, true, false, true, true, true, false, false, false]) (by kernel_rfl) (fun _ _ _ h => h) (by kernel_rfl) (fun w' hR => by obtain ⟨x8, x9⟩ := HF2.out w' hR; go_simp; first | done | with_reducible rfl) rfl ?_
              try simp only [Act.put, List.setIfInBounds_toArray, List.set_cons_zero, List.set_cons_succ]
              refine re_step (fuel := 3) 4 rfl (by kernel_rfl) (listed' := #[true, true, true, true, true, true, true, true, false, false, false]) (by kernel_rfl) (by kernel_rfl) (fun K' hK => ?_)
              go_wp2_with (first | (go_at_call 17; refine (copied_LF2 cl t s ht8 hs8 HLd.out).mono ?_; rintro e U5 ⟨Az, mz, cz, rfl, h_1, h_2, hb⟩; have HL5 := Aside0.mk h_1; have HN5 := Aside0.mk h_2; have HB5 := Aside0.mk hb; have HK5 := Aside0.mk (Keep.of_below (S := fun _ => False) hb); have HV5 := Aside0.mk ((HVw.out.below (Below.refl W0.heap.size W0).drew).below hb); have HP5 := Aside0.mk ((HPw.out.below (Below.refl W0.heap.size W0).drew).below hb); have y9 := HP5.out.at ht8; have z9 := HP5.out.frozen t; have l9 := HP5.out.lt; clear h_1 h_2 hb))
              refine hK.out _ _ HK5.out ?_
              clear hK K'
              try simp only [Act.put, List.setIfInBounds_toArray, List.set_cons_zero, List.set_cons_succ]
              refine re_take (fuel := 2) 8 rfl (by kernel_rfl) (listed' := #[true, true, true, true, true, true, true, true, true, false, false]) (by kernel_rfl) (fun _ _ _ h => h) (by kernel_rfl) (fun w' hR => by skip; go_simp; first | done | with_reducible rfl) rfl ?_
              try simp only [Act.put, List.setIfInBounds_toArray, List.set_cons_zero, List.set_cons_succ]
              refine re_take (fuel := 1) 9 rfl (by kernel_rfl) (listed' := #[true, true, true, true, true, true, true, true, true, true, false]) (by kernel_rfl) (fun _ _ _ h => h) (by kernel_rfl) (fun w' hR => by skip; go_simp; first | done | with_reducible rfl) rfl ?_
              try simp only [Act.put, List.setIfInBounds_toArray, List.set_cons_zero, List.set_cons_succ]
              refine re_free (fuel := 0) 10 rfl (by kernel_rfl) (listed' := #[true, true, true, true, true, true, true, true, true, true, true]) (by kernel_rfl) (by kernel_rfl) (fun K' hK => ?_)
              (go_wp2_with fail)
              refine hK.out _ _ trivial ?_
              clear hK K'
              try simp only [Act.put, List.setIfInBounds_toArray, List.set_cons_zero, List.set_cons_succ]
              refine re_done (by kernel_rfl) ?_
              have HHX := Aside0.mk (holds_copied HH.out t s hs8)
              obtain ⟨WX, hWX⟩ : ∃ WX, WX = U5.setCell ⟨gv + 1, t, none⟩ (.int .i64 (fp s)) := ⟨_, rfl⟩
              obtain ⟨fz, hfz⟩ : ∃ fz, fz = fCopied f t s 6 := ⟨_, rfl⟩
              obtain ⟨fpz, hfpz⟩ : ∃ fpz : Nat → Int, fpz = fun j => if j = t then fp s else fp j := ⟨_, rfl⟩
              obtain ⟨fvz, hfvz⟩ : ∃ fvz : Nat → Int, fvz = fv := ⟨_, rfl⟩
              rw [← hfz, ← hfpz, ← hfvz] at HHX
              have HLX := Aside0.mk (show LF WX Az mz fz by rw [hWX, hfz]; exact HL5.out.blk fun a e => Below.heap_setCell _ _ _ _ (by have h1 := HN5.out a e; have h2 := HPw.out.lt; have h3 : W0.drew.heap.size = W0.heap.size := rfl; show a.block ≠ gv + 1; omega))
              have HVX := Aside0.mk (show ArrAt WX gv 6 46 fvz by rw [hWX, hfvz]; exact HV5.out.far _ (by show gv ≠ gv + 1; omega))
              have HPX := Aside0.mk (show ArrAt WX (gv + 1) 8 47 fpz by rw [hWX, hfpz]; exact HP5.out.set t (fp s))
              have HBX := Aside0.mk (show Below w.heap.size w WX by rw [hWX]; exact (HBw.out.drew.trans (HB5.out.mono HBw.out.drew.size)).setCell (p := ⟨gv + 1, t, none⟩) (by have := HG.out; show w.heap.size ≤ gv + 1; omega) _)
              rw [← hWX]
              clear hWX hfz hfpz hfvz HF2 HLd HL5 HN5 HB5 HK5 HV5 HP5 y9 z9 l9
              clear HLw HVw HPw HBw
              have hmz : mz ≤ 48 := HLX.out.le
              go_wp2_with fail
              go_loopw [113] (fun vx wz => ∃ x : Nat, x ≤ mz ∧ vx = .int .i64 x ∧ Aside0 (Below WX.heap.size WX wz)) (fun vx _ => mz - (intOf vx).toNat)
              case atStart => exact ⟨0, by omega, rfl, ⟨Below.refl _ _⟩⟩
              case round =>
                obtain ⟨x, hx, rfl, HBZ⟩ := hrel
                by_cases hgo3 : x < mz
                · have f0 : decide ((x : Int) < mz) = true := decide_eq_true (by omega)
                  have f0' : decide (x < mz) = true := decide_eq_true hgo3
                  obtain ⟨q, hq⟩ : ∃ q, (lst fz)[x]? = some q := ⟨_, List.getElem?_eq_getElem (by rw [HLX.out.len]; exact hgo3)⟩
                  obtain ⟨v, l, hv, hl, rfl, hfq⟩ := mem_pairsOf.1 (List.mem_of_getElem? hq)
                  obtain ⟨adz, rfl, y0, y1⟩ := P_get (Kd.C_below HLX.out.C HBZ.out) hq
                  have heq := HHX.out v l hv hl hfq
                  have y2 := (HVX.out.below HBZ.out).at hv
                  have y3 := (HPX.out.below HBZ.out).at hl
                  rw [heq] at y2
                  have lv := (HVX.out.below HBZ.out).lt
                  have lp := (HPX.out.below HBZ.out).lt
                  obtain ⟨WC, hWC⟩ : ∃ WC, WC = wr.alloc (.cells #[.int .i64 v, .int .i64 l] 25) := ⟨_, rfl⟩
                  have hal : Below wr.heap.size wr WC := by rw [hWC]; exact (Below.refl _ _).alloc (Nat.le_refl _) _
                  have hnw : WC.heap[wr.heap.size]? = some (.cells #[.int .i64 v, .int .i64 l] 25 (0, 0)) := by rw [hWC]; exact heap_alloc_new _ _
                  have z0 : WC.cell? ⟨wr.heap.size, 0, none⟩ = some (.int .i64 v) := by simp [World.cell?, hnw]
                  have z1 : WC.cell? ⟨wr.heap.size, 1, none⟩ = some (.int .i64 l) := by simp [World.cell?, hnw]
                  have z2 := pw_cell_below hal y2
                  have z3 := pw_cell_below hal y3
                  have HALZ := Aside0.mk (HBZ.out.trans (hal.mono HBZ.out.size))
                  go_upto_region 31 with fail
                  simp only at y0 y1
                  rw [← hWC]
                  clear hWC hal hnw hq hfq heq y0 y1 y2 y3
                  go_quiet (fail)
                  go_wp2
                  go_roundw
                  case rel => exact ⟨x + 1, by omega, by go_num, ⟨belowN HALZ.out _⟩⟩
                  case measure => simp [intOf]; omega
                · have f0 : decide ((x : Int) < mz) = false := decide_eq_false (by omega)
                  have f0' : decide (x < mz) = false := decide_eq_false hgo3
                  have HLZ := Aside0.mk (HLX.out.below HBZ.out)
                  go_wp2_with (first | (go_at_call 12; refine (right_LF cz HLZ.out).mono ?_; rintro e UR ⟨rfl, hb⟩; have HBR := Aside0.mk (HBZ.out.trans (hb.mono HBZ.out.size)); clear hb))
                  go_roundw
                  case rel => exact ⟨j + 1, Az, mz, cz, fz, fvz, fpz, by omega, by go_num, rfl, ⟨HLX.out.below HBR.out⟩, ⟨HVX.out.below HBR.out⟩, ⟨HPX.out.below HBR.out⟩, HHX, ⟨HBX.out.trans (HBR.out.mono HBX.out.size)⟩⟩
                  case measure => simp [intOf]; omega
            · have h4' : s0.tmod 4 = 2 := by rw [Int.tmod_eq_emod_of_nonneg hs00]; exact h4
              go_upto_region 27 with fail
              have HF2 := Aside0.mk (show ∀ W2, Keep (fun _ => False) W0.drew W2 → W2.cell? ⟨gv, s6, none⟩ = some (.int .i64 (fv s6)) ∧ gv < W2.heap.size from fun W2 h => ⟨((HVw.out.keep (S := fun _ => False) (Keep.drew (Keep.refl _ _)) (fun h => h)).keep h (fun h => h)).at hs66, by have := h.size; have := HVw.out.lt; simp only [World.drew] at *; omega⟩)
              have HLd := Aside0.mk (HLw.out.below (Below.refl W0.heap.size W0).drew)
              refine re_start [14] (fun _ => False) (by kernel_rfl) (n := 15) (l := #[false, false, false, false, false, false, false, false, false, false, false, false, false, false, false]) (by kernel_rfl) (by kernel_rfl) ?_
              refine re_take (fuel := 14) 0 rfl (by kernel_rfl) (listed' := #[true, false, false, false, false, false, false, false, false, false, false, false, false, false, false]) (by kernel_rfl) (fun _ _ _ h => h) (by kernel_rfl) (fun w' hR => by obtain ⟨x8, x9⟩ := HF2.out w' hR; go_simp; first | done | with_reducible rfl) rfl ?_
              try simp only [Act.put, List.setIfInBounds_toArray, List.set_cons_zero, List.set_cons_succ]
              refine re_take (fuel := 13) 1 rfl (by kernel_rfl) (listed' := #[true, true, false, false, false, false, false, false, false, false, false, false, false, false, false]) (by kernel_rfl) (fun _ _ _ h => h) (by kernel_rfl) (fun w' hR => by obtain ⟨x8, x9⟩ := HF2.out w' hR; go_simp; first | done | with_reducible rfl) rfl ?_
              try simp only [Act.put, List.setIfInBounds_toArray, List.set_cons_zero, List.set_cons_succ]
              refine re_take (fuel := 12) 2 rfl (by kernel_rfl) (listed' := #[true, true, true, false, false, false, false, false, false, false, false, false, false, false, false]) (by kernel_rfl) (fun _ _ _ h => h) (by kernel_rfl) (fun w' hR => by obtain ⟨x8, x9⟩ := HF2.out w' hR; go_simp; first | done | with_reducible rfl) rfl ?_
              try simp only [Act.put, List.setIfInBounds_toArray, List.set_cons_zero, List.set_cons_succ]
              refine re_take (fuel := 11) 3 rfl (by kernel_rfl) (listed' := #[true, true, true, true, false, false, false, false, false, false, false, false, false, false, false]) (by kernel_rfl) (fun _ _ _ h => h) (by kernel_rfl) (fun w' hR => by obtain ⟨x8, x9⟩ := HF2.out w' hR; go_simp; first | done | with_reducible rfl) rfl ?_
              try simp only [Act.put, List.setIfInBounds_toArray, List.set_cons_zero, List.set_cons_succ]
              refine re_take (fuel := 10) 4 rfl (by kernel_rfl) (listed' := #[true, true, true, true, true, false, false, false, false, false, false, false, false, false, false]) (by kernel_rfl) (fun _ _ _ h => h) (by kernel_rfl) (fun w' hR => by obtain ⟨x8, x9⟩ := HF2.out w' hR; go_simp; first | done | with_reducible rfl) rfl ?_
              try simp only [Act.put, List.setIfInBounds_toArray, List.set_cons_zero, List.set_cons_succ]
              refine re_take (fuel := 9) 5 rfl (by kernel_rfl) (listed' := #[true, true, true, true, true, true, false, false, false, false, false, false, false, false, false]) (by kernel_rfl) (fun _ _ _ h => h) (by kernel_rfl) (fun w' hR => by obtain ⟨x8, x9⟩ := HF2.out w' hR; go_simp; first | done | with_reducible rfl) rfl ?_
              try simp only [Act.put, List.setIfInBounds_toArray, List.set_cons_zero, List.set_cons_succ]
              refine re_take (fuel := 8) 6 rfl (by kernel_rfl) (listed' := #[true, true, true, true, true, true, true, false, false, false, false, false, false, false, false]) (by kernel_rfl) (fun _ _ _ h => h) (by kernel_rfl) (fun w' hR => by obtain ⟨x8, x9⟩ := HF2.out w' hR; go_simp; first | done | with_reducible rfl) rfl ?_
              try simp only [Act.put, List.setIfInBounds_toArray, List.set_cons_zero, List.set_cons_succ]
              refine re_take (fuel := 7) 8 rfl (by kernel_rfl) (listed' := #[true, true, true, true, true, true, true, false, true, false, false, false, false, false, false]) (by kernel_rfl) (fun _ _ _ h => h) (by kernel_rfl) (fun w' hR => by obtain ⟨x8, x9⟩ := HF2.out w' hR; go_simp; first | done | with_reducible rfl) rfl ?_
              try simp only [Act.put, List.setIfInBounds_toArray, List.set_cons_zero, List.set_cons_succ]
              refine re_take (fuel := 6) 9 rfl (by kernel_rfl) (listed' := #[true, true, true, true, true, true, true, false, true, true, false, false, false, false, false]) (by kernel_rfl) (fun _ _ _ h => h) (by kernel_rfl) (fun w' hR => by obtain ⟨x8, x9⟩ := HF2.out w' hR; go_simp; first | done | with_reducible rfl) rfl ?_
              try simp only [Act.put, List.setIfInBounds_toArray, List.set_cons_zero, List.set_cons_succ]
              refine re_take (fuel := 5) 10 rfl (by kernel_rfl) (listed' := #[true, true, true, true, true, true, true, false, true, true, true, false, false, false, false]) (by kernel_rfl) (fun _ _ _ h => h) (by kernel_rfl) (fun w' hR => by obtain ⟨x8, x9⟩ := HF2.out w' hR; go_simp; first | done | with_reducible rfl) rfl ?_
              try simp only [Act.put, List.setIfInBounds_toArray, List.set_cons_zero, List.set_cons_succ]
              refine re_take (fuel := 4) 11 rfl (by kernel_rfl) (listed' := #[true, true, true, true, true, true, true, false, true, true, true, true, false, false, false]) (by kernel_rfl) (fun _ _ _ h => h) (by kernel_rfl) (fun w' hR => by obtain ⟨x8, x9⟩ := HF2.out w' hR; go_simp; first | done | with_reducible rfl) rfl ?_
              try simp only [Act.put, List.setIfInBounds_toArray, List.set_cons_zero, List.set_cons_succ]
              refine re_step (fuel := 3) 7 rfl (by kernel_rfl) (listed' := #[true, true, true, true, true, true, true, true, true, true, true, true, false, false, false]) (by kernel_rfl) (by kernel_rfl) (fun K' hK => ?_)
              go_wp2_with (first | (go_at_call 20; refine (moved_LF2 cl t6 s6 ht66 hs66 HLd.out).mono ?_; rintro e U5 ⟨Az, mz, cz, rfl, h_1, h_2, hb⟩; have HL5 := Aside0.mk h_1; have HN5 := Aside0.mk h_2; have HB5 := Aside0.mk hb; have HK5 := Aside0.mk (Keep.of_below (S := fun _ => False) hb); have HV5 := Aside0.mk ((HVw.out.below (Below.refl W0.heap.size W0).drew).below hb); have HP5 := Aside0.mk ((HPw.out.below (Below.refl W0.heap.size W0).drew).below hb); have y9 := HV5.out.at ht66; have z9 := HV5.out.frozen t6; have l9 := HV5.out.lt; clear h_1 h_2 hb))
              refine hK.out _ _ HK5.out ?_
              clear hK K'
              try simp only [Act.put, List.setIfInBounds_toArray, List.set_cons_zero, List.set_cons_succ]
              refine re_take (fuel := 2) 12 rfl (by kernel_rfl) (listed' := #[true, true, true, true, true, true, true, true, true, true, true, true, true, false, false]) (by kernel_rfl) (fun _ _ _ h => h) (by kernel_rfl) (fun w' hR => by skip; go_simp; first | done | with_reducible rfl) rfl ?_
              try simp only [Act.put, List.setIfInBounds_toArray, List.set_cons_zero, List.set_cons_succ]
              refine re_take (fuel := 1) 13 rfl (by kernel_rfl) (listed' := #[true, true, true, true, true, true, true, true, true, true, true, true, true, true, false]) (by kernel_rfl) (fun _ _ _ h => h) (by kernel_rfl) (fun w' hR => by skip; go_simp; first | done | with_reducible rfl) rfl ?_
              try simp only [Act.put, List.setIfInBounds_toArray, List.set_cons_zero, List.set_cons_succ]
              refine re_free (fuel := 0) 14 rfl (by kernel_rfl) (listed' := #[true, true, true, true, true, true, true, true, true, true, true, true, true, true, true]) (by kernel_rfl) (by kernel_rfl) (fun K' hK => ?_)
              (go_wp2_with fail)
              refine hK.out _ _ trivial ?_
              clear hK K'
              try simp only [Act.put, List.setIfInBounds_toArray, List.set_cons_zero, List.set_cons_succ]
              refine re_done (by kernel_rfl) ?_
              have HHX := Aside0.mk (holds_moved HH.out t6 s6 hs66)
              obtain ⟨WX, hWX⟩ : ∃ WX, WX = U5.setCell ⟨gv, t6, none⟩ (.int .i64 (fv s6)) := ⟨_, rfl⟩
              obtain ⟨fz, hfz⟩ : ∃ fz, fz = fMoved f t6 s6 8 := ⟨_, rfl⟩
              obtain ⟨fvz, hfvz⟩ : ∃ fvz : Nat → Int, fvz = fun j => if j = t6 then fv s6 else fv j := ⟨_, rfl⟩
              obtain ⟨fpz, hfpz⟩ : ∃ fpz : Nat → Int, fpz = fp := ⟨_, rfl⟩
              rw [← hfz, ← hfpz, ← hfvz] at HHX
              have HLX := Aside0.mk (show LF WX Az mz fz by rw [hWX, hfz]; exact HL5.out.blk fun a e => Below.heap_setCell _ _ _ _ (by have h1 := HN5.out a e; have h2 := HVw.out.lt; have h3 : W0.drew.heap.size = W0.heap.size := rfl; show a.block ≠ gv; omega))
              have HPX := Aside0.mk (show ArrAt WX (gv + 1) 8 47 fpz by rw [hWX, hfpz]; exact HP5.out.far _ (by show gv + 1 ≠ gv; omega))
              have HVX := Aside0.mk (show ArrAt WX gv 6 46 fvz by rw [hWX, hfvz]; exact HV5.out.set t6 (fv s6))
              have HBX := Aside0.mk (show Below w.heap.size w WX by rw [hWX]; exact (HBw.out.drew.trans (HB5.out.mono HBw.out.drew.size)).setCell (p := ⟨gv, t6, none⟩) HG.out _)
              rw [← hWX]
              clear hWX hfz hfpz hfvz HF2 HLd HL5 HN5 HB5 HK5 HV5 HP5 y9 z9 l9
              clear HLw HVw HPw HBw
              have hmz : mz ≤ 48 := HLX.out.le
              go_wp2_with fail
              go_loopw [113] (fun vx wz => ∃ x : Nat, x ≤ mz ∧ vx = .int .i64 x ∧ Aside0 (Below WX.heap.size WX wz)) (fun vx _ => mz - (intOf vx).toNat)
              case atStart => exact ⟨0, by omega, rfl, ⟨Below.refl _ _⟩⟩
              case round =>
                obtain ⟨x, hx, rfl, HBZ⟩ := hrel
                by_cases hgo3 : x < mz
                · have f0 : decide ((x : Int) < mz) = true := decide_eq_true (by omega)
                  have f0' : decide (x < mz) = true := decide_eq_true hgo3
                  obtain ⟨q, hq⟩ : ∃ q, (lst fz)[x]? = some q := ⟨_, List.getElem?_eq_getElem (by rw [HLX.out.len]; exact hgo3)⟩
                  obtain ⟨v, l, hv, hl, rfl, hfq⟩ := mem_pairsOf.1 (List.mem_of_getElem? hq)
                  obtain ⟨adz, rfl, y0, y1⟩ := P_get (Kd.C_below HLX.out.C HBZ.out) hq
                  have heq := HHX.out v l hv hl hfq
                  have y2 := (HVX.out.below HBZ.out).at hv
                  have y3 := (HPX.out.below HBZ.out).at hl
                  rw [heq] at y2
                  have lv := (HVX.out.below HBZ.out).lt
                  have lp := (HPX.out.below HBZ.out).lt
                  obtain ⟨WC, hWC⟩ : ∃ WC, WC = wr.alloc (.cells #[.int .i64 v, .int .i64 l] 25) := ⟨_, rfl⟩
                  have hal : Below wr.heap.size wr WC := by rw [hWC]; exact (Below.refl _ _).alloc (Nat.le_refl _) _
                  have hnw : WC.heap[wr.heap.size]? = some (.cells #[.int .i64 v, .int .i64 l] 25 (0, 0)) := by rw [hWC]; exact heap_alloc_new _ _
                  have z0 : WC.cell? ⟨wr.heap.size, 0, none⟩ = some (.int .i64 v) := by simp [World.cell?, hnw]
                  have z1 : WC.cell? ⟨wr.heap.size, 1, none⟩ = some (.int .i64 l) := by simp [World.cell?, hnw]
                  have z2 := pw_cell_below hal y2
                  have z3 := pw_cell_below hal y3
                  have HALZ := Aside0.mk (HBZ.out.trans (hal.mono HBZ.out.size))
                  go_upto_region 31 with fail
                  simp only at y0 y1
                  rw [← hWC]
                  clear hWC hal hnw hq hfq heq y0 y1 y2 y3
                  go_quiet (fail)
                  go_wp2
                  go_roundw
                  case rel => exact ⟨x + 1, by omega, by go_num, ⟨belowN HALZ.out _⟩⟩
                  case measure => simp [intOf]; omega
                · have f0 : decide ((x : Int) < mz) = false := decide_eq_false (by omega)
                  have f0' : decide (x < mz) = false := decide_eq_false hgo3
                  have HLZ := Aside0.mk (HLX.out.below HBZ.out)
                  go_wp2_with (first | (go_at_call 12; refine (right_LF cz HLZ.out).mono ?_; rintro e UR ⟨rfl, hb⟩; have HBR := Aside0.mk (HBZ.out.trans (hb.mono HBZ.out.size)); clear hb))
                  go_roundw
                  case rel => exact ⟨j + 1, Az, mz, cz, fz, fvz, fpz, by omega, by go_num, rfl, ⟨HLX.out.below HBR.out⟩, ⟨HVX.out.below HBR.out⟩, ⟨HPX.out.below HBR.out⟩, HHX, ⟨HBX.out.trans (HBR.out.mono HBX.out.size)⟩⟩
                  case measure => simp [intOf]; omega
            · have h4' : s0.tmod 4 = 3 := by rw [Int.tmod_eq_emod_of_nonneg hs00]; exact h4
              go_upto_region 28 with (first | (go_at_call 22; refine (given_LF2 cl t6 s ht66 hs8 HLw.out).mono ?_; rintro e U5 ⟨Az, mz, cz, rfl, h_1, h_2, hb⟩; have HL5 := Aside0.mk h_1; have HN5 := Aside0.mk h_2; have HB5 := Aside0.mk hb; have HV5 := Aside0.mk (HVw.out.below hb); have HP5 := Aside0.mk (HPw.out.below hb); have y9 := HV5.out.at ht66; have z9 := HV5.out.frozen t6; have l9 := HV5.out.lt; have y8 := HP5.out.at hs8; have z8 := HP5.out.frozen s; have l8 := HP5.out.lt; have hnn : gv ≠ gv + 1 := Nat.ne_of_lt (Nat.lt_succ_self gv); clear h_1 h_2 hb))
              have HHX := Aside0.mk (holds_given HH.out t6 s ((j : Int) * 77 + 9))
              obtain ⟨X, hX⟩ : ∃ X : Int, X = (j : Int) * 77 + 9 := ⟨_, rfl⟩
              rw [← hX] at HHX ⊢
              obtain ⟨WX, hWX⟩ : ∃ WX, WX = (U5.setCell ⟨gv, t6, none⟩ (.int .i64 X)).setCell ⟨gv + 1, s, none⟩ (.int .i64 X) := ⟨_, rfl⟩
              obtain ⟨fz, hfz⟩ : ∃ fz, fz = fGiven f t6 s := ⟨_, rfl⟩
              obtain ⟨fvz, hfvz⟩ : ∃ fvz : Nat → Int, fvz = fun j => if j = t6 then X else fv j := ⟨_, rfl⟩
              obtain ⟨fpz, hfpz⟩ : ∃ fpz : Nat → Int, fpz = fun j => if j = s then X else fp j := ⟨_, rfl⟩
              rw [← hfz, ← hfpz, ← hfvz] at HHX
              have HLX := Aside0.mk (show LF WX Az mz fz by rw [hWX, hfz]; exact HL5.out.blk fun a e => (Below.heap_setCell _ _ _ _ (by have h1 := HN5.out a e; have h2 := HPw.out.lt; show a.block ≠ gv + 1; omega)).trans (Below.heap_setCell _ _ _ _ (by have h1 := HN5.out a e; have h2 := HVw.out.lt; show a.block ≠ gv; omega)))
              have HPX := Aside0.mk (show ArrAt WX (gv + 1) 8 47 fpz by rw [hWX, hfpz]; exact (HP5.out.far _ (by show gv + 1 ≠ gv; omega)).set s X)
              have HVX := Aside0.mk (show ArrAt WX gv 6 46 fvz by rw [hWX, hfvz]; exact (HV5.out.set t6 X).far _ (by show gv ≠ gv + 1; omega))
              have HBX := Aside0.mk (show Below w.heap.size w WX by rw [hWX]; exact ((HBw.out.trans (HB5.out.mono HBw.out.size)).setCell (p := ⟨gv, t6, none⟩) HG.out _).setCell (p := ⟨gv + 1, s, none⟩) (by have := HG.out; show w.heap.size ≤ gv + 1; omega) _)
              rw [← hWX]
              clear hX hWX hfz hfpz hfvz HL5 HN5 HB5 HV5 HP5 y9 z9 l9 y8 z8 l8
              clear HLw HVw HPw HBw
              have hmz : mz ≤ 48 := HLX.out.le
              go_wp2_with fail
              go_loopw [113] (fun vx wz => ∃ x : Nat, x ≤ mz ∧ vx = .int .i64 x ∧ Aside0 (Below WX.heap.size WX wz)) (fun vx _ => mz - (intOf vx).toNat)
              case atStart => exact ⟨0, by omega, rfl, ⟨Below.refl _ _⟩⟩
              case round =>
                obtain ⟨x, hx, rfl, HBZ⟩ := hrel
                by_cases hgo3 : x < mz
                · have f0 : decide ((x : Int) < mz) = true := decide_eq_true (by omega)
                  have f0' : decide (x < mz) = true := decide_eq_true hgo3
                  obtain ⟨q, hq⟩ : ∃ q, (lst fz)[x]? = some q := ⟨_, List.getElem?_eq_getElem (by rw [HLX.out.len]; exact hgo3)⟩
                  obtain ⟨v, l, hv, hl, rfl, hfq⟩ := mem_pairsOf.1 (List.mem_of_getElem? hq)
                  obtain ⟨adz, rfl, y0, y1⟩ := P_get (Kd.C_below HLX.out.C HBZ.out) hq
                  have heq := HHX.out v l hv hl hfq
                  have y2 := (HVX.out.below HBZ.out).at hv
                  have y3 := (HPX.out.below HBZ.out).at hl
                  rw [heq] at y2
                  have lv := (HVX.out.below HBZ.out).lt
                  have lp := (HPX.out.below HBZ.out).lt
                  obtain ⟨WC, hWC⟩ : ∃ WC, WC = wr.alloc (.cells #[.int .i64 v, .int .i64 l] 25) := ⟨_, rfl⟩
                  have hal : Below wr.heap.size wr WC := by rw [hWC]; exact (Below.refl _ _).alloc (Nat.le_refl _) _
                  have hnw : WC.heap[wr.heap.size]? = some (.cells #[.int .i64 v, .int .i64 l] 25 (0, 0)) := by rw [hWC]; exact heap_alloc_new _ _
                  have z0 : WC.cell? ⟨wr.heap.size, 0, none⟩ = some (.int .i64 v) := by simp [World.cell?, hnw]
                  have z1 : WC.cell? ⟨wr.heap.size, 1, none⟩ = some (.int .i64 l) := by simp [World.cell?, hnw]
                  have z2 := pw_cell_below hal y2
                  have z3 := pw_cell_below hal y3
                  have HALZ := Aside0.mk (HBZ.out.trans (hal.mono HBZ.out.size))
                  go_upto_region 31 with fail
                  simp only at y0 y1
                  rw [← hWC]
                  clear hWC hal hnw hq hfq heq y0 y1 y2 y3
                  go_quiet (fail)
                  go_wp2
                  go_roundw
                  case rel => exact ⟨x + 1, by omega, by go_num, ⟨belowN HALZ.out _⟩⟩
                  case measure => simp [intOf]; omega
                · have f0 : decide ((x : Int) < mz) = false := decide_eq_false (by omega)
                  have f0' : decide (x < mz) = false := decide_eq_false hgo3
                  have HLZ := Aside0.mk (HLX.out.below HBZ.out)
                  go_wp2_with (first | (go_at_call 12; refine (right_LF cz HLZ.out).mono ?_; rintro e UR ⟨rfl, hb⟩; have HBR := Aside0.mk (HBZ.out.trans (hb.mono HBZ.out.size)); clear hb))
                  go_roundw
                  case rel => exact ⟨j + 1, Az, mz, cz, fz, fvz, fpz, by omega, by go_num, rfl, ⟨HLX.out.below HBR.out⟩, ⟨HVX.out.below HBR.out⟩, ⟨HPX.out.below HBR.out⟩, HHX, ⟨HBX.out.trans (HBR.out.mono HBX.out.size)⟩⟩
                  case measure => simp [intOf]; omega
        · have e0 : decide ((j : Int) < n) = false := decide_eq_false (by omega)
          go_wp2_with fail
          go_ret
          exact ⟨rfl, HB.out⟩
theorem own : ownKnob Try.prog.godebug = none := by kernel_rfl
theorem laidOut : laidOutB Try.prog = true := by kernel_rfl
def IsRow (k : IntKind) (w : World) (a : Option Addr) (len cap : Nat) (zs : List Int) : Prop :=
  (a = none ∧ len = 0 ∧ cap = 0 ∧ zs = []) ∨
  ∃ x, a = some x ∧ len ≤ cap ∧ cap ≤ maxLen ∧ zs.length = cap ∧ (∀ i, i < zs.length → w.cell? (x.add i) = some (.int k (zs.getD i 0))) ∧ ∀ n ∈ zs, (Lit.int k n).wf = true
set_option maxRecDepth 100000 in
theorem lifted (os : Os) (started : os.Started) (H : Type) (enc : TypeId × Value → H) :
    ReturnsInHanded {} Try.checked os 7 .any (Rows.equalRunsSpec.pre6 enc Try.prog Try.f7 Rows.equalRunsRow.domain false) (Rows.equalRunsSpec.post enc Try.prog Try.f7 false true false false) := by
  refine returnsInHanded_of_change_sized (C := Try.checked) own started (by kernel_rfl) Try.func7
    (ChangeSpec.witness6 (enc := enc) (C := Try.checked) false ⟨#[], #[.int .u8 0, .slice none 0 0, .slice none 0 0], []⟩ 8 (by kernel_rfl) (by kernel_rfl) (by kernel_rfl) (by kernel_rfl)) ?_
  intro W base args ds gs before hval0 hW hcnd hsz0 _
  have hsz : (DataW.weightsEach Try.prog (Try.f7.params.toList ++ Rows.equalRunsSpec.plain.varTypes Try.prog) (ds ++ gs)).all (· ≤ reachBytes) = true := hsz0
  have hval : ∀ (j : Nat) t v, Try.f7.params[j]? = some t → args[j]? = some v → Value.okWide Try.prog W .any base t v := hval0
  have hW' := hW
  obtain ⟨p, q, hA0, hV, rfl, hfz, hnd⟩ := hW
  have hA : DataW.TrodAll enc Try.prog W 0 (fun _ => true) true Try.f7.params.toList args.toList ds p := hA0
  rw [Try.params7] at hA hval hsz
  obtain ⟨v0, vs0, d0, ds0, p0, q0, hargs, rfl, rfl, h0, r0⟩ := trodAll_cons hA
  obtain ⟨v1, vs1, d1, ds1, p1, q1, rfl, rfl, rfl, h1, r1⟩ := trodAll_cons r0
  obtain ⟨v2, vs2, d2, ds2, p2, q2, rfl, rfl, rfl, h2, r2⟩ := trodAll_cons r1
  obtain ⟨rfl, rfl, rfl⟩ := trodAll_nil r2
  obtain rfl : args = #[v0, v1, v2] := by cases args; simp_all
  obtain ⟨rfl, rfl⟩ := trodVars_none hV
  obtain ⟨a0, rfl, rfl, rfl, w0⟩ := open_int Try.underlying5 (hval 0 5 v0 rfl rfl) h0
  obtain ⟨a1, len1, cap1, rfl⟩ := okWide_slice Try.underlying44 (hval 1 44 v1 rfl rfl)
  have k1 := h1
  have alt1 := okWide_alt Try.underlying44 (hval 1 44 _ rfl rfl)
  have lt1 : ∀ x ∈ p1, x.block < W.heap.size := by obtain ⟨m, hm⟩ := k1; exact DataW.trod_lt m _ _ _ hm
  obtain ⟨l1, rfl, hcap1, hC1, hok1⟩ := opens_arg opens_threes h1
  obtain ⟨a2, len2, cap2, rfl⟩ := okWide_slice Try.underlying45 (hval 2 45 v2 rfl rfl)
  have k2 := h2
  have lt2 : ∀ x ∈ p2, x.block < W.heap.size := by obtain ⟨m, hm⟩ := k2; exact DataW.trod_lt m _ _ _ hm
  obtain ⟨z2, w2⟩ : ∃ zs, IsRow .i64 W a2 len2 cap2 zs := by
    obtain ⟨fuel, hf⟩ := h2
    rcases open_ints Try.underlying45 Try.underlying2 (by kernel_rfl) hf with ⟨hcs, _⟩ | ⟨x, l, c, zs, hcs, _, hl, hm, hz, _, hcell, hwz⟩
    · simp [Value.cells] at hcs
      obtain ⟨rfl, rfl, rfl⟩ := hcs
      exact ⟨[], .inl ⟨rfl, rfl, rfl, rfl⟩⟩
    · simp [Value.cells] at hcs
      obtain ⟨rfl, rfl, rfl⟩ := hcs
      exact ⟨zs, .inr ⟨_, rfl, hl, hm, by simpa using hz, hcell, hwz⟩⟩
  have y2 : len2 * 8 ≤ 140737488351232 := sized_ints hsz (j := 2) (t := 45) rfl rfl Try.underlying45 Try.underlying2 (by kernel_rfl) (by kernel_rfl) h2
  obtain ⟨l2, rfl, hr2, hm2, hwf2, hcap2⟩ := ReadsInt.ofRowC w2
  clear hA0 hval0 hsz0 hsz
  refine (walk W a0 w0 _ _ l1 hC1 hcap1 hok1 alt1 _ _ l2 (Kd.C_of_reads (d := (0 : Int)) (h1 := fun _ => rfl) hr2) hcap2 y2 hwf2).mono fun e W' ⟨he, bel⟩ => ?_
  subst he
  exact ⟨_, rfl, _, _, _, [], _, [], hW', trodAll_mk1 (shut_bool Try.underlying4 _), (trodAll_cons_mk (shut_int Try.underlying5 w0) (trodAll_cons_mk (Below.trod laidOut (by kernel_rfl) (of_decide_eq_true (by kernel_rfl)) k1 bel lt1) (trodAll_cons_mk (Below.trod laidOut (by kernel_rfl) (of_decide_eq_true (by kernel_rfl)) k2 bel lt2) trodAll_mk0))), rfl, bel.frame _, fun h => by cases h⟩
theorem over : Rows.equalRunsRow.holds Try.pinned (OpenSpec.ofChange Rows.equalRunsSpec) :=
  OpenClaim.holds_of_wide 7 Try.f7 rfl rfl rfl rfl rfl rfl rfl ⟨rfl, rfl, rfl, rfl, rfl⟩ rfl rfl rfl rfl rfl (by kernel_rfl) Try.func7 (by kernel_rfl)
    (of_decide_eq_true (by kernel_rfl)) (by unfold Func.isWrapper; first | (rw [if_pos (by decide +kernel)]; kernel_rfl) | (rw [if_neg (by decide +kernel)]; exact ⟨rfl, rfl⟩))
    (fun os started H enc _ => lifted os started H enc)
end Go.Proofs.Ytmkkebllmmafmaa.EqualRuns
namespace Go.Proofs.Ytmkkebllmmafmaa
/-- The statement. -/
theorem equalRuns_holds : Rows.EqualRunsSaid := EqualRuns.over
#print axioms equalRuns_holds
end Go.Proofs.Ytmkkebllmmafmaa
