/- FrameApart: unlike frames have unlike bytes, and none is the beginning of another one. No condition. -/
import Derived.Test.YtmklopaleiennaaRows
import Derived.ProofKit
import Derived.OpenShut
import Derived.ShutString
import Derived.ChangeOld
import Derived.SizedLaws
import Derived.Test.YtmklopaleiennaaWSized
import Derived.Test.YtmklopaleiennaaGa
import Derived.Test.YtmklopaleiennaaK
import Derived.Test.YtmklopaleiennaaGo
namespace Go.Proofs.Ytmklopaleiennaa.FrameApart
open Go.ChangeShapes Go.WideShapes Go.ChangeAt Go.RowKit Go.Proofs.YtmklopaleiennaaW.PrintWords Go.Proofs.YtmklopaleiennaaW.PrintLast Go.Proofs.YtmklopaleiennaaW.PrintMore Go.Proofs.Ytmklopaleiennaa.B Go.Proofs.Ytmklopaleiennaa.Gs Go.Proofs.Ytmklopaleiennaa.Gc Go.Proofs.Ytmklopaleiennaa.Go1 Go.Proofs.Ytmklopaleiennaa.R Go.Proofs.Ytmklopaleiennaa.S
set_option linter.unusedVariables false
set_option linter.unusedSimpArgs false
set_option maxHeartbeats 4000000 in
set_option maxRecDepth 100000 in
theorem walk (w : World) (cs : Array Value) (x : Int × List Int) (hK : kF.K w x cs.toList) (hok : FrOk x) (cs' : Array Value) (x' : Int × List Int) (hK' : kF.K w x' cs'.toList) (hok' : FrOk x') :
    Calls Try.prog 11 #[.agg cs, .agg cs'] w fun e w' => e = .returned (.bool true) ∧ Below w.heap.size w w' := by
  obtain ⟨k, b⟩ := x
  obtain ⟨k', b'⟩ := x'
  obtain ⟨A, c, hcs, hc, hC⟩ := frame_K hK
  obtain ⟨A', c', hcs', hc', hC'⟩ := frame_K hK'
  obtain rfl : cs = #[.int .u8 k, .slice A b.length c] := by cases cs; simp_all
  obtain rfl : cs' = #[.int .u8 k', .slice A' b'.length c'] := by cases cs'; simp_all
  obtain ⟨⟨hk0, hk1⟩, hby⟩ := hok
  obtain ⟨⟨hk0', hk1'⟩, hby'⟩ := hok'
  simp only at hk0 hk1 hby hk0' hk1' hby'
  obtain ⟨W0, hW0⟩ : ∃ W0, W0 = (w.alloc (.cells #[.int .u8 k, .slice A b.length c] 62)).alloc (.cells #[.int .u8 k', .slice A' b'.length c'] 62) := ⟨_, rfl⟩
  have hB0 : Below w.heap.size w W0 := by rw [hW0]; exact ((Below.refl _ _).alloc (Nat.le_refl _) _).alloc (by simp) _
  have hz0 : W0.heap.size = w.heap.size + 2 := by rw [hW0]; simp
  have hn1 : W0.heap[w.heap.size]? = some (.cells #[.int .u8 k, .slice A b.length c] 62 (0, 0)) := by rw [hW0]; exact (Below.heap_alloc _ _ _ (by simp)).trans (heap_alloc_new _ _)
  have hn2 : W0.heap[w.heap.size + 1]? = some (.cells #[.int .u8 k', .slice A' b'.length c'] 62 (0, 0)) := by
    have h := heap_alloc_new (w.alloc (.cells #[.int .u8 k, .slice A b.length c] 62)) (.cells #[.int .u8 k', .slice A' b'.length c'] 62)
    rw [World.size_alloc, ← hW0] at h
    exact h
  have HF := Aside0.mk (show ∀ W, Below W0.heap.size W0 W → W.cell? ⟨w.heap.size, 0, none⟩ = some (.int .u8 k) ∧ W.cell? ⟨w.heap.size, 1, none⟩ = some (.slice A b.length c) ∧ W.cell? ⟨w.heap.size + 1, 0, none⟩ = some (.int .u8 k') ∧ W.cell? ⟨w.heap.size + 1, 1, none⟩ = some (.slice A' b'.length c') from fun W hW => by
    have h1 := (hW.block w.heap.size (by omega)).trans hn1
    have h2 := (hW.block (w.heap.size + 1) (by omega)).trans hn2
    exact ⟨by simp [World.cell?, h1], by simp [World.cell?, h1], by simp [World.cell?, h2], by simp [World.cell?, h2]⟩)
  have HB0 := Aside0.mk hB0
  have HC := Aside0.mk (Kd.C_below hC hB0)
  have HC' := Aside0.mk (Kd.C_below hC' hB0)
  have HY := Aside0.mk hby
  have HY' := Aside0.mk hby'
  clear hcs hcs' hK hK' hC hC' hby hby' hB0 hn1 hn2 hz0
  by_cases h1 : 2000 < b.length
  · go_enter Try.func11, Try.ntmps11
    go_upto_region 1 with fail
    rw [← hW0]
    clear hW0
    go_wp2_with (first | (go_at_call 27; refine (awake_calls _).mono ?_; rintro e w1 ⟨rfl, hb1⟩; obtain ⟨x0, x1, x2, x3⟩ := HF.out w1 hb1))
    go_ret
    exact ⟨rfl, HB0.out.trans (hb1.mono HB0.out.size)⟩
  by_cases h2 : 2000 < b'.length
  · go_enter Try.func11, Try.ntmps11
    go_upto_region 1 with fail
    rw [← hW0]
    clear hW0
    go_wp2_with (first | (go_at_call 27; refine (awake_calls _).mono ?_; rintro e w1 ⟨rfl, hb1⟩; obtain ⟨x0, x1, x2, x3⟩ := HF.out w1 hb1))
    go_ret
    exact ⟨rfl, HB0.out.trans (hb1.mono HB0.out.size)⟩
  have e1 : decide ((2000 : Int) < b.length) = false := by simp; omega
  have e2 : decide ((2000 : Int) < b'.length) = false := by simp; omega
  obtain ⟨fa, hfa⟩ : ∃ fa, layL k b = fa := ⟨_, rfl⟩
  obtain ⟨fb, hfb⟩ : ∃ fb, layL k' b' = fb := ⟨_, rfl⟩
  obtain ⟨na, hna⟩ : ∃ na, fa.length = na := ⟨_, rfl⟩
  obtain ⟨nb, hnb⟩ : ∃ nb, fb.length = nb := ⟨_, rfl⟩
  obtain ⟨mn, hmn⟩ : ∃ mn, min na nb = mn := ⟨_, rfl⟩
  have hmin : (if nb < na then (nb : Int) else (na : Int)) = (mn : Int) := by split <;> omega
  have hma : mn ≤ na := by omega
  have hmb : mn ≤ nb := by omega
  have hap := fun h : fa.take mn = fb.take mn => lay_apart (n := mn) (k := k) (k' := k') (b := b) (b' := b') (by omega) (by omega) (by rw [hfa, hfb, hna, hnb, hmn]) (by rw [hfa, hfb]; exact h)
  have HFAB := Aside0.mk (And.intro (show By fa by rw [← hfa]; exact lay_by ⟨hk0, hk1⟩ HY.out) (show By fb by rw [← hfb]; exact lay_by ⟨hk0', hk1'⟩ HY'.out))
  have HFA := Aside0.mk hfa
  have HFB := Aside0.mk hfb
  have HNA := Aside0.mk hna
  have HNB := Aside0.mk hnb
  clear hna hnb hmn
  by_cases hkk : k = k'
  case neg =>
    have hk : (k == k') = false := beq_eq_false_iff_ne.mpr hkk
    have hs : ((strOfNums (fa.take mn)).toList == (strOfNums (fb.take mn)).toList) = false := by
      rw [str_beq _ _ (HFAB.out.1.take _) (HFAB.out.2.take _)]
      exact beq_eq_false_iff_ne.mpr (fun h => hkk (hap h).1)
    clear hap hkk hfa hfb
    go_enter Try.func11, Try.ntmps11
    go_upto_region 1 with fail
    rw [← hW0]
    clear hW0
    go_wp2_with (first
      | (go_at_call 27; refine (awake_calls _).mono ?_; rintro e w1 ⟨rfl, hb1⟩; have HB1 := Aside0.mk hb1; obtain ⟨x0, x1, x2, x3⟩ := HF.out w1 hb1; clear hb1)
      | (go_at_call 28; refine (lay_n k hk0 hk1 A c b b.length rfl fa na HFA.out HNA.out _ (Kd.C_below HC.out HB1.out) hc HY.out (by omega)).mono ?_; rintro e w2 ⟨A2, c2, rfl, -, hC2, hc2, hb⟩; have HC2 := Aside0.mk hC2; have HB2 := Aside0.mk (HB1.out.trans (hb.mono HB1.out.size)); clear hC2 hb x0 x1 x2 x3 HB1; obtain ⟨x0, x1, x2, x3⟩ := HF.out w2 HB2.out)
      | (go_at_call 28; refine (lay_n k' hk0' hk1' A' c' b' b'.length rfl fb nb HFB.out HNB.out _ (Kd.C_below HC'.out HB2.out) hc' HY'.out (by omega)).mono ?_; rintro e w3 ⟨A3, c3, rfl, -, hC3, hc3, hb⟩; have HC3 := Aside0.mk hC3; have HC2b := Aside0.mk (Kd.C_below HC2.out hb); have HB3 := Aside0.mk (HB2.out.trans (hb.mono HB2.out.size)); clear hC3 hb x0 x1 x2 x3 HB2; obtain ⟨x0, x1, x2, x3⟩ := HF.out w3 HB3.out; have z1 := C_str (c := c) (Kd.C_below HC.out HB3.out); have z2 := C_str (c := c') (Kd.C_below HC'.out HB3.out)))
    have HW3 := Aside0.mk (show ∀ W, Keep (fun _ => False) w3.drew W → Below w3.heap.size w3 W from fun W hW => (Below.refl w3.heap.size w3).drew.trans (hW.below (Nat.le_refl _) (fun _ _ h => h)))
    have HCUR := Aside0.mk (Keep.refl (fun _ => False) w3.drew)
    obtain ⟨i5, hi5, -, hi5s, -⟩ := info_ex infoU8
    have hr2 : ∀ W : World, (Instr.slice 22 (.slice A2 na c2) none (some (.int .i64 (mn : Int))) none).run Try.prog W = .ok (.slice A2 mn c2) W := fun W => by
      simpa using cut_to (P := Try.prog) 22 5 .i64 Try.underlying22 hi5 A2 na c2 (mn : Int) (by omega) (by omega) hc2 W
    have hr3 : ∀ W : World, (Instr.slice 22 (.slice A3 nb c3) none (some (.int .i64 (mn : Int))) none).run Try.prog W = .ok (.slice A3 mn c3) W := fun W => by
      simpa using cut_to (P := Try.prog) 22 5 .i64 Try.underlying22 hi5 A3 nb c3 (mn : Int) (by omega) (by omega) hc3 W
    have HT2 := Aside0.mk (show kU8.C w3 A2 mn (fa.take mn) by
      have h0 := HC2b.out
      rw [← HNA.out] at h0
      have h := Kd.C_take (m := mn) h0 (by rw [HNA.out]; omega)
      rwa [show (fa.take mn).length = mn by rw [List.length_take, HNA.out]; omega] at h)
    have HT3 := Aside0.mk (show kU8.C w3 A3 mn (fb.take mn) by
      have h0 := HC3.out
      rw [← HNB.out] at h0
      have h := Kd.C_take (m := mn) h0 (by rw [HNB.out]; omega)
      rwa [show (fb.take mn).length = mn by rw [List.length_take, HNB.out]; omega] at h)
    clear hi5 hi5s x0 x1 x2 x3 z1 z2
    refine rk_start (fun _ => False) (by kernel_rfl) (n := 20) (l := #[false, false, false, false, false, false, false, false, false, false, false, false, false, false, false, false, false, false, false, false]) (by kernel_rfl) (by kernel_rfl) ?_
    refine rk_take (fuel := 19) 0 rfl (by kernel_rfl) (listed' := #[true, false, false, false, false, false, false, false, false, false, false, false, false, false, false, false, false, false, false, false]) (by kernel_rfl) (fun _ _ _ h => h) (by kernel_rfl) (fun w' hR => by go_simp; first | done | with_reducible rfl) rfl ?_
    try simp only [Act.put, List.setIfInBounds_toArray, List.set_cons_zero, List.set_cons_succ]
    refine rk_take (fuel := 18) 1 rfl (by kernel_rfl) (listed' := #[true, true, false, false, false, false, false, false, false, false, false, false, false, false, false, false, false, false, false, false]) (by kernel_rfl) (fun _ _ _ h => h) (by kernel_rfl) (fun w' hR => by go_simp; first | done | with_reducible rfl) rfl ?_
    try simp only [Act.put, List.setIfInBounds_toArray, List.set_cons_zero, List.set_cons_succ]
    refine rk_take (fuel := 17) 2 rfl (by kernel_rfl) (listed' := #[true, true, true, false, false, false, false, false, false, false, false, false, false, false, false, false, false, false, false, false]) (by kernel_rfl) (fun _ _ _ h => h) (by kernel_rfl) (fun w' hR => by go_simp; first | done | with_reducible rfl) rfl ?_
    try simp only [Act.put, List.setIfInBounds_toArray, List.set_cons_zero, List.set_cons_succ]
    refine rk_take (fuel := 16) 3 rfl (by kernel_rfl) (listed' := #[true, true, true, true, false, false, false, false, false, false, false, false, false, false, false, false, false, false, false, false]) (by kernel_rfl) (fun _ _ _ h => h) (by kernel_rfl) (fun w' hR => by go_simp; first | done | with_reducible rfl) rfl ?_
    try simp only [Act.put, List.setIfInBounds_toArray, List.set_cons_zero, List.set_cons_succ]
    refine rk_take (fuel := 15) 4 rfl (by kernel_rfl) (listed' := #[true, true, true, true, true, false, false, false, false, false, false, false, false, false, false, false, false, false, false, false]) (by kernel_rfl) (fun _ _ _ h => h) (by kernel_rfl) (fun w' hR => by go_simp; first | done | with_reducible rfl) rfl ?_
    try simp only [Act.put, List.setIfInBounds_toArray, List.set_cons_zero, List.set_cons_succ]
    refine rk_take (fuel := 14) 5 rfl (by kernel_rfl) (listed' := #[true, true, true, true, true, true, false, false, false, false, false, false, false, false, false, false, false, false, false, false]) (by kernel_rfl) (fun _ _ _ h => h) (by kernel_rfl) (fun w' hR => by go_simp; first | done | with_reducible rfl) rfl ?_
    try simp only [Act.put, List.setIfInBounds_toArray, List.set_cons_zero, List.set_cons_succ]
    refine rk_take (fuel := 13) 6 rfl (by kernel_rfl) (listed' := #[true, true, true, true, true, true, true, false, false, false, false, false, false, false, false, false, false, false, false, false]) (by kernel_rfl) (fun _ _ _ h => h) (by kernel_rfl) (fun w' hR => by go_simp; first | done | with_reducible rfl) rfl ?_
    try simp only [Act.put, List.setIfInBounds_toArray, List.set_cons_zero, List.set_cons_succ]
    refine rk_take (fuel := 12) 7 rfl (by kernel_rfl) (listed' := #[true, true, true, true, true, true, true, true, false, false, false, false, false, false, false, false, false, false, false, false]) (by kernel_rfl) (fun _ _ _ h => h) (by kernel_rfl) (fun w' hR => by go_simp; first | done | with_reducible rfl) rfl ?_
    try simp only [Act.put, List.setIfInBounds_toArray, List.set_cons_zero, List.set_cons_succ]
    refine rk_take (fuel := 11) 8 rfl (by kernel_rfl) (listed' := #[true, true, true, true, true, true, true, true, true, false, false, false, false, false, false, false, false, false, false, false]) (by kernel_rfl) (fun _ _ _ h => h) (by kernel_rfl) (fun w' hR => by go_simp; first | done | with_reducible rfl) rfl ?_
    try simp only [Act.put, List.setIfInBounds_toArray, List.set_cons_zero, List.set_cons_succ]
    refine rk_take (fuel := 10) 9 rfl (by kernel_rfl) (listed' := #[true, true, true, true, true, true, true, true, true, true, false, false, false, false, false, false, false, false, false, false]) (by kernel_rfl) (fun _ _ _ h => h) (by kernel_rfl) (fun w' hR => by go_simp; first | done | with_reducible rfl) rfl ?_
    try simp only [Act.put, List.setIfInBounds_toArray, List.set_cons_zero, List.set_cons_succ]
    refine rk_take (fuel := 9) 10 rfl (by kernel_rfl) (listed' := #[true, true, true, true, true, true, true, true, true, true, true, false, false, false, false, false, false, false, false, false]) (by kernel_rfl) (fun _ _ _ h => h) (by kernel_rfl) (fun w' hR => by have x0 := C_str (c := c2) (Kd.C_below HT2.out (HW3.out w' (HCUR.out.trans hR))); go_simp; first | done | with_reducible rfl) rfl ?_
    try simp only [Act.put, List.setIfInBounds_toArray, List.set_cons_zero, List.set_cons_succ]
    refine rk_take (fuel := 8) 11 rfl (by kernel_rfl) (listed' := #[true, true, true, true, true, true, true, true, true, true, true, true, false, false, false, false, false, false, false, false]) (by kernel_rfl) (fun _ _ _ h => h) (by kernel_rfl) (fun w' hR => by go_simp; first | done | with_reducible rfl) rfl ?_
    try simp only [Act.put, List.setIfInBounds_toArray, List.set_cons_zero, List.set_cons_succ]
    refine rk_take (fuel := 7) 12 rfl (by kernel_rfl) (listed' := #[true, true, true, true, true, true, true, true, true, true, true, true, true, false, false, false, false, false, false, false]) (by kernel_rfl) (fun _ _ _ h => h) (by kernel_rfl) (fun w' hR => by go_simp; first | done | with_reducible rfl) rfl ?_
    try simp only [Act.put, List.setIfInBounds_toArray, List.set_cons_zero, List.set_cons_succ]
    refine rk_take (fuel := 6) 13 rfl (by kernel_rfl) (listed' := #[true, true, true, true, true, true, true, true, true, true, true, true, true, true, false, false, false, false, false, false]) (by kernel_rfl) (fun _ _ _ h => h) (by kernel_rfl) (fun w' hR => by go_simp; first | done | with_reducible rfl) rfl ?_
    try simp only [Act.put, List.setIfInBounds_toArray, List.set_cons_zero, List.set_cons_succ]
    refine rk_take (fuel := 5) 14 rfl (by kernel_rfl) (listed' := #[true, true, true, true, true, true, true, true, true, true, true, true, true, true, true, false, false, false, false, false]) (by kernel_rfl) (fun _ _ _ h => h) (by kernel_rfl) (fun w' hR => by have x0 := C_str (c := c3) (Kd.C_below HT3.out (HW3.out w' (HCUR.out.trans hR))); go_simp; first | done | with_reducible rfl) rfl ?_
    try simp only [Act.put, List.setIfInBounds_toArray, List.set_cons_zero, List.set_cons_succ]
    refine rk_take (fuel := 4) 15 rfl (by kernel_rfl) (listed' := #[true, true, true, true, true, true, true, true, true, true, true, true, true, true, true, true, false, false, false, false]) (by kernel_rfl) (fun _ _ _ h => h) (by kernel_rfl) (fun w' hR => by go_simp; first | done | with_reducible rfl) rfl ?_
    try simp only [Act.put, List.setIfInBounds_toArray, List.set_cons_zero, List.set_cons_succ]
    refine rk_take (fuel := 3) 16 rfl (by kernel_rfl) (listed' := #[true, true, true, true, true, true, true, true, true, true, true, true, true, true, true, true, true, false, false, false]) (by kernel_rfl) (fun _ _ _ h => h) (by kernel_rfl) (fun w' hR => by go_simp; first | done | with_reducible rfl) rfl ?_
    try simp only [Act.put, List.setIfInBounds_toArray, List.set_cons_zero, List.set_cons_succ]
    refine rk_take (fuel := 2) 17 rfl (by kernel_rfl) (listed' := #[true, true, true, true, true, true, true, true, true, true, true, true, true, true, true, true, true, true, false, false]) (by kernel_rfl) (fun _ _ _ h => h) (by kernel_rfl) (fun w' hR => by go_simp; first | done | with_reducible rfl) rfl ?_
    try simp only [Act.put, List.setIfInBounds_toArray, List.set_cons_zero, List.set_cons_succ]
    refine rk_take (fuel := 1) 18 rfl (by kernel_rfl) (listed' := #[true, true, true, true, true, true, true, true, true, true, true, true, true, true, true, true, true, true, true, false]) (by kernel_rfl) (fun _ _ _ h => h) (by kernel_rfl) (fun w' hR => by go_simp; first | done | with_reducible rfl) rfl ?_
    try simp only [Act.put, List.setIfInBounds_toArray, List.set_cons_zero, List.set_cons_succ]
    refine rk_take (fuel := 0) 19 rfl (by kernel_rfl) (listed' := #[true, true, true, true, true, true, true, true, true, true, true, true, true, true, true, true, true, true, true, true]) (by kernel_rfl) (fun _ _ _ h => h) (by kernel_rfl) (fun w' hR => by go_simp; first | done | with_reducible rfl) rfl ?_
    try simp only [Act.put, List.setIfInBounds_toArray, List.set_cons_zero, List.set_cons_succ]
    refine rk_done (by kernel_rfl) ?_
    go_wp2
    go_ret
    exact ⟨rfl, (HB0.out.trans (HB3.out.mono HB0.out.size)).drew⟩
  by_cases hbb : b = b'
  case neg =>
    have hk : (k == k') = true := beq_iff_eq.mpr hkk
    have hs : ((strOfNums (fa.take mn)).toList == (strOfNums (fb.take mn)).toList) = false := by
      rw [str_beq _ _ (HFAB.out.1.take _) (HFAB.out.2.take _)]
      exact beq_eq_false_iff_ne.mpr (fun h => hbb (hap h).2)
    have ht : ((strOfNums b).toList == (strOfNums b').toList) = false := by
      rw [str_beq _ _ HY.out HY'.out]
      exact beq_eq_false_iff_ne.mpr hbb
    clear hap hkk hfa hfb hbb
    go_enter Try.func11, Try.ntmps11
    go_upto_region 1 with fail
    rw [← hW0]
    clear hW0
    go_wp2_with (first
      | (go_at_call 27; refine (awake_calls _).mono ?_; rintro e w1 ⟨rfl, hb1⟩; have HB1 := Aside0.mk hb1; obtain ⟨x0, x1, x2, x3⟩ := HF.out w1 hb1; clear hb1)
      | (go_at_call 28; refine (lay_n k hk0 hk1 A c b b.length rfl fa na HFA.out HNA.out _ (Kd.C_below HC.out HB1.out) hc HY.out (by omega)).mono ?_; rintro e w2 ⟨A2, c2, rfl, -, hC2, hc2, hb⟩; have HC2 := Aside0.mk hC2; have HB2 := Aside0.mk (HB1.out.trans (hb.mono HB1.out.size)); clear hC2 hb x0 x1 x2 x3 HB1; obtain ⟨x0, x1, x2, x3⟩ := HF.out w2 HB2.out)
      | (go_at_call 28; refine (lay_n k' hk0' hk1' A' c' b' b'.length rfl fb nb HFB.out HNB.out _ (Kd.C_below HC'.out HB2.out) hc' HY'.out (by omega)).mono ?_; rintro e w3 ⟨A3, c3, rfl, -, hC3, hc3, hb⟩; have HC3 := Aside0.mk hC3; have HC2b := Aside0.mk (Kd.C_below HC2.out hb); have HB3 := Aside0.mk (HB2.out.trans (hb.mono HB2.out.size)); clear hC3 hb x0 x1 x2 x3 HB2; obtain ⟨x0, x1, x2, x3⟩ := HF.out w3 HB3.out; have z1 := C_str (c := c) (Kd.C_below HC.out HB3.out); have z2 := C_str (c := c') (Kd.C_below HC'.out HB3.out)))
    have HW3 := Aside0.mk (show ∀ W, Keep (fun _ => False) w3.drew W → Below w3.heap.size w3 W from fun W hW => (Below.refl w3.heap.size w3).drew.trans (hW.below (Nat.le_refl _) (fun _ _ h => h)))
    have HCUR := Aside0.mk (Keep.refl (fun _ => False) w3.drew)
    obtain ⟨i5, hi5, -, hi5s, -⟩ := info_ex infoU8
    have hr2 : ∀ W : World, (Instr.slice 22 (.slice A2 na c2) none (some (.int .i64 (mn : Int))) none).run Try.prog W = .ok (.slice A2 mn c2) W := fun W => by
      simpa using cut_to (P := Try.prog) 22 5 .i64 Try.underlying22 hi5 A2 na c2 (mn : Int) (by omega) (by omega) hc2 W
    have hr3 : ∀ W : World, (Instr.slice 22 (.slice A3 nb c3) none (some (.int .i64 (mn : Int))) none).run Try.prog W = .ok (.slice A3 mn c3) W := fun W => by
      simpa using cut_to (P := Try.prog) 22 5 .i64 Try.underlying22 hi5 A3 nb c3 (mn : Int) (by omega) (by omega) hc3 W
    have HT2 := Aside0.mk (show kU8.C w3 A2 mn (fa.take mn) by
      have h0 := HC2b.out
      rw [← HNA.out] at h0
      have h := Kd.C_take (m := mn) h0 (by rw [HNA.out]; omega)
      rwa [show (fa.take mn).length = mn by rw [List.length_take, HNA.out]; omega] at h)
    have HT3 := Aside0.mk (show kU8.C w3 A3 mn (fb.take mn) by
      have h0 := HC3.out
      rw [← HNB.out] at h0
      have h := Kd.C_take (m := mn) h0 (by rw [HNB.out]; omega)
      rwa [show (fb.take mn).length = mn by rw [List.length_take, HNB.out]; omega] at h)
    clear hi5 hi5s x0 x1 x2 x3 z1 z2
    refine rk_start (fun _ => False) (by kernel_rfl) (n := 20) (l := #[false, false, false, false, false, false, false, false, false, false, false, false, false, false, false, false, false, false, false, false]) (by kernel_rfl) (by kernel_rfl) ?_
    refine rk_take (fuel := 19) 0 rfl (by kernel_rfl) (listed' := #[true, false, false, false, false, false, false, false, false, false, false, false, false, false, false, false, false, false, false, false]) (by kernel_rfl) (fun _ _ _ h => h) (by kernel_rfl) (fun w' hR => by go_simp; first | done | with_reducible rfl) rfl ?_
    try simp only [Act.put, List.setIfInBounds_toArray, List.set_cons_zero, List.set_cons_succ]
    refine rk_take (fuel := 18) 1 rfl (by kernel_rfl) (listed' := #[true, true, false, false, false, false, false, false, false, false, false, false, false, false, false, false, false, false, false, false]) (by kernel_rfl) (fun _ _ _ h => h) (by kernel_rfl) (fun w' hR => by go_simp; first | done | with_reducible rfl) rfl ?_
    try simp only [Act.put, List.setIfInBounds_toArray, List.set_cons_zero, List.set_cons_succ]
    refine rk_take (fuel := 17) 2 rfl (by kernel_rfl) (listed' := #[true, true, true, false, false, false, false, false, false, false, false, false, false, false, false, false, false, false, false, false]) (by kernel_rfl) (fun _ _ _ h => h) (by kernel_rfl) (fun w' hR => by go_simp; first | done | with_reducible rfl) rfl ?_
    try simp only [Act.put, List.setIfInBounds_toArray, List.set_cons_zero, List.set_cons_succ]
    refine rk_take (fuel := 16) 3 rfl (by kernel_rfl) (listed' := #[true, true, true, true, false, false, false, false, false, false, false, false, false, false, false, false, false, false, false, false]) (by kernel_rfl) (fun _ _ _ h => h) (by kernel_rfl) (fun w' hR => by go_simp; first | done | with_reducible rfl) rfl ?_
    try simp only [Act.put, List.setIfInBounds_toArray, List.set_cons_zero, List.set_cons_succ]
    refine rk_take (fuel := 15) 4 rfl (by kernel_rfl) (listed' := #[true, true, true, true, true, false, false, false, false, false, false, false, false, false, false, false, false, false, false, false]) (by kernel_rfl) (fun _ _ _ h => h) (by kernel_rfl) (fun w' hR => by go_simp; first | done | with_reducible rfl) rfl ?_
    try simp only [Act.put, List.setIfInBounds_toArray, List.set_cons_zero, List.set_cons_succ]
    refine rk_take (fuel := 14) 5 rfl (by kernel_rfl) (listed' := #[true, true, true, true, true, true, false, false, false, false, false, false, false, false, false, false, false, false, false, false]) (by kernel_rfl) (fun _ _ _ h => h) (by kernel_rfl) (fun w' hR => by go_simp; first | done | with_reducible rfl) rfl ?_
    try simp only [Act.put, List.setIfInBounds_toArray, List.set_cons_zero, List.set_cons_succ]
    refine rk_take (fuel := 13) 6 rfl (by kernel_rfl) (listed' := #[true, true, true, true, true, true, true, false, false, false, false, false, false, false, false, false, false, false, false, false]) (by kernel_rfl) (fun _ _ _ h => h) (by kernel_rfl) (fun w' hR => by go_simp; first | done | with_reducible rfl) rfl ?_
    try simp only [Act.put, List.setIfInBounds_toArray, List.set_cons_zero, List.set_cons_succ]
    refine rk_take (fuel := 12) 7 rfl (by kernel_rfl) (listed' := #[true, true, true, true, true, true, true, true, false, false, false, false, false, false, false, false, false, false, false, false]) (by kernel_rfl) (fun _ _ _ h => h) (by kernel_rfl) (fun w' hR => by go_simp; first | done | with_reducible rfl) rfl ?_
    try simp only [Act.put, List.setIfInBounds_toArray, List.set_cons_zero, List.set_cons_succ]
    refine rk_take (fuel := 11) 8 rfl (by kernel_rfl) (listed' := #[true, true, true, true, true, true, true, true, true, false, false, false, false, false, false, false, false, false, false, false]) (by kernel_rfl) (fun _ _ _ h => h) (by kernel_rfl) (fun w' hR => by go_simp; first | done | with_reducible rfl) rfl ?_
    try simp only [Act.put, List.setIfInBounds_toArray, List.set_cons_zero, List.set_cons_succ]
    refine rk_take (fuel := 10) 9 rfl (by kernel_rfl) (listed' := #[true, true, true, true, true, true, true, true, true, true, false, false, false, false, false, false, false, false, false, false]) (by kernel_rfl) (fun _ _ _ h => h) (by kernel_rfl) (fun w' hR => by go_simp; first | done | with_reducible rfl) rfl ?_
    try simp only [Act.put, List.setIfInBounds_toArray, List.set_cons_zero, List.set_cons_succ]
    refine rk_take (fuel := 9) 10 rfl (by kernel_rfl) (listed' := #[true, true, true, true, true, true, true, true, true, true, true, false, false, false, false, false, false, false, false, false]) (by kernel_rfl) (fun _ _ _ h => h) (by kernel_rfl) (fun w' hR => by have x0 := C_str (c := c2) (Kd.C_below HT2.out (HW3.out w' (HCUR.out.trans hR))); go_simp; first | done | with_reducible rfl) rfl ?_
    try simp only [Act.put, List.setIfInBounds_toArray, List.set_cons_zero, List.set_cons_succ]
    refine rk_take (fuel := 8) 11 rfl (by kernel_rfl) (listed' := #[true, true, true, true, true, true, true, true, true, true, true, true, false, false, false, false, false, false, false, false]) (by kernel_rfl) (fun _ _ _ h => h) (by kernel_rfl) (fun w' hR => by go_simp; first | done | with_reducible rfl) rfl ?_
    try simp only [Act.put, List.setIfInBounds_toArray, List.set_cons_zero, List.set_cons_succ]
    refine rk_take (fuel := 7) 12 rfl (by kernel_rfl) (listed' := #[true, true, true, true, true, true, true, true, true, true, true, true, true, false, false, false, false, false, false, false]) (by kernel_rfl) (fun _ _ _ h => h) (by kernel_rfl) (fun w' hR => by go_simp; first | done | with_reducible rfl) rfl ?_
    try simp only [Act.put, List.setIfInBounds_toArray, List.set_cons_zero, List.set_cons_succ]
    refine rk_take (fuel := 6) 13 rfl (by kernel_rfl) (listed' := #[true, true, true, true, true, true, true, true, true, true, true, true, true, true, false, false, false, false, false, false]) (by kernel_rfl) (fun _ _ _ h => h) (by kernel_rfl) (fun w' hR => by go_simp; first | done | with_reducible rfl) rfl ?_
    try simp only [Act.put, List.setIfInBounds_toArray, List.set_cons_zero, List.set_cons_succ]
    refine rk_take (fuel := 5) 14 rfl (by kernel_rfl) (listed' := #[true, true, true, true, true, true, true, true, true, true, true, true, true, true, true, false, false, false, false, false]) (by kernel_rfl) (fun _ _ _ h => h) (by kernel_rfl) (fun w' hR => by have x0 := C_str (c := c3) (Kd.C_below HT3.out (HW3.out w' (HCUR.out.trans hR))); go_simp; first | done | with_reducible rfl) rfl ?_
    try simp only [Act.put, List.setIfInBounds_toArray, List.set_cons_zero, List.set_cons_succ]
    refine rk_take (fuel := 4) 15 rfl (by kernel_rfl) (listed' := #[true, true, true, true, true, true, true, true, true, true, true, true, true, true, true, true, false, false, false, false]) (by kernel_rfl) (fun _ _ _ h => h) (by kernel_rfl) (fun w' hR => by go_simp; first | done | with_reducible rfl) rfl ?_
    try simp only [Act.put, List.setIfInBounds_toArray, List.set_cons_zero, List.set_cons_succ]
    refine rk_take (fuel := 3) 16 rfl (by kernel_rfl) (listed' := #[true, true, true, true, true, true, true, true, true, true, true, true, true, true, true, true, true, false, false, false]) (by kernel_rfl) (fun _ _ _ h => h) (by kernel_rfl) (fun w' hR => by go_simp; first | done | with_reducible rfl) rfl ?_
    try simp only [Act.put, List.setIfInBounds_toArray, List.set_cons_zero, List.set_cons_succ]
    refine rk_take (fuel := 2) 17 rfl (by kernel_rfl) (listed' := #[true, true, true, true, true, true, true, true, true, true, true, true, true, true, true, true, true, true, false, false]) (by kernel_rfl) (fun _ _ _ h => h) (by kernel_rfl) (fun w' hR => by go_simp; first | done | with_reducible rfl) rfl ?_
    try simp only [Act.put, List.setIfInBounds_toArray, List.set_cons_zero, List.set_cons_succ]
    refine rk_take (fuel := 1) 18 rfl (by kernel_rfl) (listed' := #[true, true, true, true, true, true, true, true, true, true, true, true, true, true, true, true, true, true, true, false]) (by kernel_rfl) (fun _ _ _ h => h) (by kernel_rfl) (fun w' hR => by go_simp; first | done | with_reducible rfl) rfl ?_
    try simp only [Act.put, List.setIfInBounds_toArray, List.set_cons_zero, List.set_cons_succ]
    refine rk_take (fuel := 0) 19 rfl (by kernel_rfl) (listed' := #[true, true, true, true, true, true, true, true, true, true, true, true, true, true, true, true, true, true, true, true]) (by kernel_rfl) (fun _ _ _ h => h) (by kernel_rfl) (fun w' hR => by go_simp; first | done | with_reducible rfl) rfl ?_
    try simp only [Act.put, List.setIfInBounds_toArray, List.set_cons_zero, List.set_cons_succ]
    refine rk_done (by kernel_rfl) ?_
    go_wp2
    go_ret
    exact ⟨rfl, (HB0.out.trans (HB3.out.mono HB0.out.size)).drew⟩
  have hk : (k == k') = true := beq_iff_eq.mpr hkk
  have hs : ((strOfNums (fa.take mn)).toList == (strOfNums (fb.take mn)).toList) = true := by
    rw [str_beq _ _ (HFAB.out.1.take _) (HFAB.out.2.take _), ← hfa, ← hfb, hkk, hbb]
    exact beq_self_eq_true _
  have ht : ((strOfNums b).toList == (strOfNums b').toList) = true := by rw [hbb]; exact beq_self_eq_true _
  clear hap hkk hfa hfb hbb
  go_enter Try.func11, Try.ntmps11
  go_upto_region 1 with fail
  rw [← hW0]
  clear hW0
  go_wp2_with (first
    | (go_at_call 27; refine (awake_calls _).mono ?_; rintro e w1 ⟨rfl, hb1⟩; have HB1 := Aside0.mk hb1; obtain ⟨x0, x1, x2, x3⟩ := HF.out w1 hb1; clear hb1)
    | (go_at_call 28; refine (lay_n k hk0 hk1 A c b b.length rfl fa na HFA.out HNA.out _ (Kd.C_below HC.out HB1.out) hc HY.out (by omega)).mono ?_; rintro e w2 ⟨A2, c2, rfl, -, hC2, hc2, hb⟩; have HC2 := Aside0.mk hC2; have HB2 := Aside0.mk (HB1.out.trans (hb.mono HB1.out.size)); clear hC2 hb x0 x1 x2 x3 HB1; obtain ⟨x0, x1, x2, x3⟩ := HF.out w2 HB2.out)
    | (go_at_call 28; refine (lay_n k' hk0' hk1' A' c' b' b'.length rfl fb nb HFB.out HNB.out _ (Kd.C_below HC'.out HB2.out) hc' HY'.out (by omega)).mono ?_; rintro e w3 ⟨A3, c3, rfl, -, hC3, hc3, hb⟩; have HC3 := Aside0.mk hC3; have HC2b := Aside0.mk (Kd.C_below HC2.out hb); have HB3 := Aside0.mk (HB2.out.trans (hb.mono HB2.out.size)); clear hC3 hb x0 x1 x2 x3 HB2; obtain ⟨x0, x1, x2, x3⟩ := HF.out w3 HB3.out; have z1 := C_str (c := c) (Kd.C_below HC.out HB3.out); have z2 := C_str (c := c') (Kd.C_below HC'.out HB3.out)))
  have HW3 := Aside0.mk (show ∀ W, Keep (fun _ => False) w3.drew W → Below w3.heap.size w3 W from fun W hW => (Below.refl w3.heap.size w3).drew.trans (hW.below (Nat.le_refl _) (fun _ _ h => h)))
  have HCUR := Aside0.mk (Keep.refl (fun _ => False) w3.drew)
  obtain ⟨i5, hi5, -, hi5s, -⟩ := info_ex infoU8
  have hr2 : ∀ W : World, (Instr.slice 22 (.slice A2 na c2) none (some (.int .i64 (mn : Int))) none).run Try.prog W = .ok (.slice A2 mn c2) W := fun W => by
    simpa using cut_to (P := Try.prog) 22 5 .i64 Try.underlying22 hi5 A2 na c2 (mn : Int) (by omega) (by omega) hc2 W
  have hr3 : ∀ W : World, (Instr.slice 22 (.slice A3 nb c3) none (some (.int .i64 (mn : Int))) none).run Try.prog W = .ok (.slice A3 mn c3) W := fun W => by
    simpa using cut_to (P := Try.prog) 22 5 .i64 Try.underlying22 hi5 A3 nb c3 (mn : Int) (by omega) (by omega) hc3 W
  have HT2 := Aside0.mk (show kU8.C w3 A2 mn (fa.take mn) by
    have h0 := HC2b.out
    rw [← HNA.out] at h0
    have h := Kd.C_take (m := mn) h0 (by rw [HNA.out]; omega)
    rwa [show (fa.take mn).length = mn by rw [List.length_take, HNA.out]; omega] at h)
  have HT3 := Aside0.mk (show kU8.C w3 A3 mn (fb.take mn) by
    have h0 := HC3.out
    rw [← HNB.out] at h0
    have h := Kd.C_take (m := mn) h0 (by rw [HNB.out]; omega)
    rwa [show (fb.take mn).length = mn by rw [List.length_take, HNB.out]; omega] at h)
  clear hi5 hi5s x0 x1 x2 x3 z1 z2
  refine rk_start (fun _ => False) (by kernel_rfl) (n := 20) (l := #[false, false, false, false, false, false, false, false, false, false, false, false, false, false, false, false, false, false, false, false]) (by kernel_rfl) (by kernel_rfl) ?_
  refine rk_take (fuel := 19) 0 rfl (by kernel_rfl) (listed' := #[true, false, false, false, false, false, false, false, false, false, false, false, false, false, false, false, false, false, false, false]) (by kernel_rfl) (fun _ _ _ h => h) (by kernel_rfl) (fun w' hR => by go_simp; first | done | with_reducible rfl) rfl ?_
  try simp only [Act.put, List.setIfInBounds_toArray, List.set_cons_zero, List.set_cons_succ]
  refine rk_take (fuel := 18) 1 rfl (by kernel_rfl) (listed' := #[true, true, false, false, false, false, false, false, false, false, false, false, false, false, false, false, false, false, false, false]) (by kernel_rfl) (fun _ _ _ h => h) (by kernel_rfl) (fun w' hR => by go_simp; first | done | with_reducible rfl) rfl ?_
  try simp only [Act.put, List.setIfInBounds_toArray, List.set_cons_zero, List.set_cons_succ]
  refine rk_take (fuel := 17) 2 rfl (by kernel_rfl) (listed' := #[true, true, true, false, false, false, false, false, false, false, false, false, false, false, false, false, false, false, false, false]) (by kernel_rfl) (fun _ _ _ h => h) (by kernel_rfl) (fun w' hR => by go_simp; first | done | with_reducible rfl) rfl ?_
  try simp only [Act.put, List.setIfInBounds_toArray, List.set_cons_zero, List.set_cons_succ]
  refine rk_take (fuel := 16) 3 rfl (by kernel_rfl) (listed' := #[true, true, true, true, false, false, false, false, false, false, false, false, false, false, false, false, false, false, false, false]) (by kernel_rfl) (fun _ _ _ h => h) (by kernel_rfl) (fun w' hR => by go_simp; first | done | with_reducible rfl) rfl ?_
  try simp only [Act.put, List.setIfInBounds_toArray, List.set_cons_zero, List.set_cons_succ]
  refine rk_take (fuel := 15) 4 rfl (by kernel_rfl) (listed' := #[true, true, true, true, true, false, false, false, false, false, false, false, false, false, false, false, false, false, false, false]) (by kernel_rfl) (fun _ _ _ h => h) (by kernel_rfl) (fun w' hR => by go_simp; first | done | with_reducible rfl) rfl ?_
  try simp only [Act.put, List.setIfInBounds_toArray, List.set_cons_zero, List.set_cons_succ]
  refine rk_take (fuel := 14) 5 rfl (by kernel_rfl) (listed' := #[true, true, true, true, true, true, false, false, false, false, false, false, false, false, false, false, false, false, false, false]) (by kernel_rfl) (fun _ _ _ h => h) (by kernel_rfl) (fun w' hR => by go_simp; first | done | with_reducible rfl) rfl ?_
  try simp only [Act.put, List.setIfInBounds_toArray, List.set_cons_zero, List.set_cons_succ]
  refine rk_take (fuel := 13) 6 rfl (by kernel_rfl) (listed' := #[true, true, true, true, true, true, true, false, false, false, false, false, false, false, false, false, false, false, false, false]) (by kernel_rfl) (fun _ _ _ h => h) (by kernel_rfl) (fun w' hR => by go_simp; first | done | with_reducible rfl) rfl ?_
  try simp only [Act.put, List.setIfInBounds_toArray, List.set_cons_zero, List.set_cons_succ]
  refine rk_take (fuel := 12) 7 rfl (by kernel_rfl) (listed' := #[true, true, true, true, true, true, true, true, false, false, false, false, false, false, false, false, false, false, false, false]) (by kernel_rfl) (fun _ _ _ h => h) (by kernel_rfl) (fun w' hR => by go_simp; first | done | with_reducible rfl) rfl ?_
  try simp only [Act.put, List.setIfInBounds_toArray, List.set_cons_zero, List.set_cons_succ]
  refine rk_take (fuel := 11) 8 rfl (by kernel_rfl) (listed' := #[true, true, true, true, true, true, true, true, true, false, false, false, false, false, false, false, false, false, false, false]) (by kernel_rfl) (fun _ _ _ h => h) (by kernel_rfl) (fun w' hR => by go_simp; first | done | with_reducible rfl) rfl ?_
  try simp only [Act.put, List.setIfInBounds_toArray, List.set_cons_zero, List.set_cons_succ]
  refine rk_take (fuel := 10) 9 rfl (by kernel_rfl) (listed' := #[true, true, true, true, true, true, true, true, true, true, false, false, false, false, false, false, false, false, false, false]) (by kernel_rfl) (fun _ _ _ h => h) (by kernel_rfl) (fun w' hR => by go_simp; first | done | with_reducible rfl) rfl ?_
  try simp only [Act.put, List.setIfInBounds_toArray, List.set_cons_zero, List.set_cons_succ]
  refine rk_take (fuel := 9) 10 rfl (by kernel_rfl) (listed' := #[true, true, true, true, true, true, true, true, true, true, true, false, false, false, false, false, false, false, false, false]) (by kernel_rfl) (fun _ _ _ h => h) (by kernel_rfl) (fun w' hR => by have x0 := C_str (c := c2) (Kd.C_below HT2.out (HW3.out w' (HCUR.out.trans hR))); go_simp; first | done | with_reducible rfl) rfl ?_
  try simp only [Act.put, List.setIfInBounds_toArray, List.set_cons_zero, List.set_cons_succ]
  refine rk_take (fuel := 8) 11 rfl (by kernel_rfl) (listed' := #[true, true, true, true, true, true, true, true, true, true, true, true, false, false, false, false, false, false, false, false]) (by kernel_rfl) (fun _ _ _ h => h) (by kernel_rfl) (fun w' hR => by go_simp; first | done | with_reducible rfl) rfl ?_
  try simp only [Act.put, List.setIfInBounds_toArray, List.set_cons_zero, List.set_cons_succ]
  refine rk_take (fuel := 7) 12 rfl (by kernel_rfl) (listed' := #[true, true, true, true, true, true, true, true, true, true, true, true, true, false, false, false, false, false, false, false]) (by kernel_rfl) (fun _ _ _ h => h) (by kernel_rfl) (fun w' hR => by go_simp; first | done | with_reducible rfl) rfl ?_
  try simp only [Act.put, List.setIfInBounds_toArray, List.set_cons_zero, List.set_cons_succ]
  refine rk_take (fuel := 6) 13 rfl (by kernel_rfl) (listed' := #[true, true, true, true, true, true, true, true, true, true, true, true, true, true, false, false, false, false, false, false]) (by kernel_rfl) (fun _ _ _ h => h) (by kernel_rfl) (fun w' hR => by go_simp; first | done | with_reducible rfl) rfl ?_
  try simp only [Act.put, List.setIfInBounds_toArray, List.set_cons_zero, List.set_cons_succ]
  refine rk_take (fuel := 5) 14 rfl (by kernel_rfl) (listed' := #[true, true, true, true, true, true, true, true, true, true, true, true, true, true, true, false, false, false, false, false]) (by kernel_rfl) (fun _ _ _ h => h) (by kernel_rfl) (fun w' hR => by have x0 := C_str (c := c3) (Kd.C_below HT3.out (HW3.out w' (HCUR.out.trans hR))); go_simp; first | done | with_reducible rfl) rfl ?_
  try simp only [Act.put, List.setIfInBounds_toArray, List.set_cons_zero, List.set_cons_succ]
  refine rk_take (fuel := 4) 15 rfl (by kernel_rfl) (listed' := #[true, true, true, true, true, true, true, true, true, true, true, true, true, true, true, true, false, false, false, false]) (by kernel_rfl) (fun _ _ _ h => h) (by kernel_rfl) (fun w' hR => by go_simp; first | done | with_reducible rfl) rfl ?_
  try simp only [Act.put, List.setIfInBounds_toArray, List.set_cons_zero, List.set_cons_succ]
  refine rk_take (fuel := 3) 16 rfl (by kernel_rfl) (listed' := #[true, true, true, true, true, true, true, true, true, true, true, true, true, true, true, true, true, false, false, false]) (by kernel_rfl) (fun _ _ _ h => h) (by kernel_rfl) (fun w' hR => by go_simp; first | done | with_reducible rfl) rfl ?_
  try simp only [Act.put, List.setIfInBounds_toArray, List.set_cons_zero, List.set_cons_succ]
  refine rk_take (fuel := 2) 17 rfl (by kernel_rfl) (listed' := #[true, true, true, true, true, true, true, true, true, true, true, true, true, true, true, true, true, true, false, false]) (by kernel_rfl) (fun _ _ _ h => h) (by kernel_rfl) (fun w' hR => by go_simp; first | done | with_reducible rfl) rfl ?_
  try simp only [Act.put, List.setIfInBounds_toArray, List.set_cons_zero, List.set_cons_succ]
  refine rk_take (fuel := 1) 18 rfl (by kernel_rfl) (listed' := #[true, true, true, true, true, true, true, true, true, true, true, true, true, true, true, true, true, true, true, false]) (by kernel_rfl) (fun _ _ _ h => h) (by kernel_rfl) (fun w' hR => by go_simp; first | done | with_reducible rfl) rfl ?_
  try simp only [Act.put, List.setIfInBounds_toArray, List.set_cons_zero, List.set_cons_succ]
  refine rk_take (fuel := 0) 19 rfl (by kernel_rfl) (listed' := #[true, true, true, true, true, true, true, true, true, true, true, true, true, true, true, true, true, true, true, true]) (by kernel_rfl) (fun _ _ _ h => h) (by kernel_rfl) (fun w' hR => by go_simp; first | done | with_reducible rfl) rfl ?_
  try simp only [Act.put, List.setIfInBounds_toArray, List.set_cons_zero, List.set_cons_succ]
  refine rk_done (by kernel_rfl) ?_
  go_wp2
  go_ret
  exact ⟨rfl, (HB0.out.trans (HB3.out.mono HB0.out.size)).drew⟩
theorem own : ownKnob Try.prog.godebug = none := by kernel_rfl
theorem laidOut : laidOutB Try.prog = true := by kernel_rfl
def IsRow (k : IntKind) (w : World) (a : Option Addr) (len cap : Nat) (zs : List Int) : Prop :=
  (a = none ∧ len = 0 ∧ cap = 0 ∧ zs = []) ∨
  ∃ x, a = some x ∧ len ≤ cap ∧ cap ≤ maxLen ∧ zs.length = cap ∧ (∀ i, i < zs.length → w.cell? (x.add i) = some (.int k (zs.getD i 0))) ∧ ∀ n ∈ zs, (Lit.int k n).wf = true
set_option maxRecDepth 100000 in
theorem lifted (os : Os) (started : os.Started) (H : Type) (enc : TypeId × Value → H) :
    ReturnsInHanded {} Try.checked os 11 .any (Rows.frameApartSpec.pre6 enc Try.prog Try.f11 Rows.frameApartRow.domain false) (Rows.frameApartSpec.post enc Try.prog Try.f11 false true false false) := by
  refine returnsInHanded_of_change_sized (C := Try.checked) own started (by kernel_rfl) Try.func11
    (ChangeSpec.witness6 (enc := enc) (C := Try.checked) false ⟨#[], #[.agg #[.int .u8 0, .slice none 0 0], .agg #[.int .u8 0, .slice none 0 0]], []⟩ 8 (by kernel_rfl) (by kernel_rfl) (by kernel_rfl) (by kernel_rfl)) ?_
  intro W base args ds gs before hval0 hW hcnd hsz0 _
  have hsz : (DataW.weightsEach Try.prog (Try.f11.params.toList ++ Rows.frameApartSpec.plain.varTypes Try.prog) (ds ++ gs)).all (· ≤ reachBytes) = true := hsz0
  have hval : ∀ (j : Nat) t v, Try.f11.params[j]? = some t → args[j]? = some v → Value.okWide Try.prog W .any base t v := hval0
  have hW' := hW
  obtain ⟨p, q, hA0, hV, rfl, hfz, hnd⟩ := hW
  have hA : DataW.TrodAll enc Try.prog W 0 (fun _ => true) true Try.f11.params.toList args.toList ds p := hA0
  rw [Try.params11] at hA hval hsz
  obtain ⟨v0, vs0, d0, ds0, p0, q0, hargs, rfl, rfl, h0, r0⟩ := trodAll_cons hA
  obtain ⟨v1, vs1, d1, ds1, p1, q1, rfl, rfl, rfl, h1, r1⟩ := trodAll_cons r0
  obtain ⟨rfl, rfl, rfl⟩ := trodAll_nil r1
  obtain rfl : args = #[v0, v1] := by cases args; simp_all
  obtain ⟨rfl, rfl⟩ := trodVars_none hV
  obtain ⟨c0, rfl, hcs0⟩ := okWide_struct Try.underlying62 (hval 0 62 v0 rfl rfl)
  have k0 := h0
  have lt0 : ∀ x ∈ p0, x.block < W.heap.size := by obtain ⟨m, hm⟩ := k0; exact DataW.trod_lt m _ _ _ hm
  obtain ⟨fuel0, hf0⟩ := h0
  obtain ⟨x0, hK0, hok0⟩ := opens_frame _ _ _ _ _ _ _ _ _ hf0
  obtain ⟨c1, rfl, hcs1⟩ := okWide_struct Try.underlying62 (hval 1 62 v1 rfl rfl)
  have k1 := h1
  have lt1 : ∀ x ∈ p1, x.block < W.heap.size := by obtain ⟨m, hm⟩ := k1; exact DataW.trod_lt m _ _ _ hm
  obtain ⟨fuel1, hf1⟩ := h1
  obtain ⟨x1, hK1, hok1⟩ := opens_frame _ _ _ _ _ _ _ _ _ hf1
  clear hA0 hval0 hsz0 hsz
  refine (walk W c0 x0 hK0 hok0 c1 x1 hK1 hok1).mono fun e W' ⟨he, bel⟩ => ?_
  subst he
  exact ⟨_, rfl, _, _, _, [], _, [], hW', trodAll_mk1 (shut_bool Try.underlying4 _), (trodAll_cons_mk (Below.trod laidOut (by kernel_rfl) (of_decide_eq_true (by kernel_rfl)) k0 bel lt0) (trodAll_cons_mk (Below.trod laidOut (by kernel_rfl) (of_decide_eq_true (by kernel_rfl)) k1 bel lt1) trodAll_mk0)), rfl, bel.frame _, fun h => by cases h⟩
theorem over : Rows.frameApartRow.holds Try.pinned (OpenSpec.ofChange Rows.frameApartSpec) :=
  OpenClaim.holds_of_wide 11 Try.f11 rfl rfl rfl rfl rfl rfl rfl ⟨rfl, rfl, rfl, rfl, rfl⟩ rfl rfl rfl rfl rfl (by kernel_rfl) Try.func11 (by kernel_rfl)
    (of_decide_eq_true (by kernel_rfl)) (by unfold Func.isWrapper; first | (rw [if_pos (by decide +kernel)]; kernel_rfl) | (rw [if_neg (by decide +kernel)]; exact ⟨rfl, rfl⟩))
    (fun os started H enc _ => lifted os started H enc)
end Go.Proofs.Ytmklopaleiennaa.FrameApart
namespace Go.Proofs.Ytmklopaleiennaa
/-- The statement. -/
theorem frameApart_holds : Rows.FrameApartSaid := FrameApart.over
#print axioms frameApart_holds
end Go.Proofs.Ytmklopaleiennaa
