/- Contracts and plain facts that the statements' proofs use (part 16). -/
import Derived.Test.YtnckonglodmfeaaM6
import Derived.Test.YtnckonglodmfeaaM10
import Derived.Test.YtnckonglodmfeaaM12
set_option linter.unusedVariables false
set_option linter.unusedSimpArgs false
namespace Go.Proofs.Ytnckonglodmfeaa.Ik
open Ls Go.RowKit Go.Proofs.YtnckonglodmfeaaW.PrintWords Go.Proofs.YtnckonglodmfeaaW.PrintLast Go.Proofs.YtnckonglodmfeaaW.PrintMore B R S Is Js
theorem cod_okk {p v sl : Int} {l : List Blk} (h : codeErr (p, v, sl, l) = 0) (hR : ∀ b ∈ l, BlkR b) : l.length ≤ 16 ∧ ∀ b ∈ l, OkK b := by
 unfold codeErr at h
 split at h
 · cases h
 · rename_i h1
   simp only [not_or, Nat.not_lt] at h1
   exact ⟨h1.2.2.2.2.2.2.2, blks_okk (by decide) h hR⟩
set_option maxHeartbeats 4000000 in
set_option maxRecDepth 100000 in
theorem rcbytes_calls (p v sl : Int) (l : List Blk) (A : Option Addr) (c : Nat) (w : World) (hC : kBlk.C w A l.length l) (hR : ∀ b ∈ l, BlkR b) (h0 : codeErr (p, v, sl, l) = 0) :
 Calls Try.prog 60 #[.agg #[.int .i64 p, .int .i64 v, .int .i64 sl, .slice A l.length c]] w fun e w' => ∃ m A' n' c', e = .returned (.slice A' n' c') ∧ m = codeL (p, v, sl, l) ∧ m.length = n' ∧ n' ≤ c' ∧ kU8.C w' A' n' m ∧ Below w.heap.size w w' := by
 have mixed : Try.prog.follows .mixedOrders = true := by kernel_rfl
 obtain ⟨h16, hok⟩ := cod_okk h0 hR
 have HC := aM hC
 have HOK := aM hok
 have HSZ := aM (World.size_alloc w (.cells #[.int .i64 p, .int .i64 v, .int .i64 sl, .slice A l.length c] 54))
 have HX := aM (show ∀ W', Keep (fun _ => False) (w.alloc (.cells #[.int .i64 p, .int .i64 v, .int .i64 sl, .slice A l.length c] 54)).drew W' → W'.cell? ⟨w.heap.size, 0, none⟩ = some (.int .i64 p) ∧ W'.cell? ⟨w.heap.size, 1, none⟩ = some (.int .i64 v) ∧ W'.cell? ⟨w.heap.size, 2, none⟩ = some (.int .i64 sl) ∧ W'.cell? ⟨w.heap.size, 3, none⟩ = some (.slice A l.length c) from fun W' h => by
  have g := new_cells h
  exact ⟨cell_at g 0 _ rfl, cell_at g 1 _ rfl, cell_at g 2 _ rfl, cell_at g 3 _ rfl⟩)
 have HA := aM (show Below w.heap.size w (w.alloc (.cells #[.int .i64 p, .int .i64 v, .int .i64 sl, .slice A l.length c] 54)).drew from ((Below.refl _ _).alloc (Nat.le_refl _) _).drew)
 clear hC hR h0 hok
 go_enter Try.func60, Try.ntmps60
 go_wp2_with fail
 refine rk_start (fun _ => False) (by kernel_rfl) (n := 9) (l := (bl 9 0)) (by kernel_rfl) (by kernel_rfl) ?_
 refine kt 0 (bl 9 1) rfl (fun w' hR => by go_simp; first | done | with_reducible rfl) rfl ?_
 try simp only [Act.put, pB, pC, pD]
 refine kt 1 (bl 9 3) rfl (fun w' hR => by obtain ⟨x0, x1, x2, x3⟩ := HX.out w' hR; go_simp; first | done | with_reducible rfl) rfl ?_
 try simp only [Act.put, pB, pC, pD]
 refine kt 2 (bl 9 7) rfl (fun w' hR => by go_simp; first | done | with_reducible rfl) rfl ?_
 try simp only [Act.put, pB, pC, pD]
 refine kt 4 (bl 9 23) rfl (fun w' hR => by go_simp; first | done | with_reducible rfl) rfl ?_
 try simp only [Act.put, pB, pC, pD]
 refine kt 5 (bl 9 55) rfl (fun w' hR => by obtain ⟨x0, x1, x2, x3⟩ := HX.out w' hR; go_simp; first | done | with_reducible rfl) rfl ?_
 try simp only [Act.put, pB, pC, pD]
 refine kt 6 (bl 9 119) rfl (fun w' hR => by go_simp; first | done | with_reducible rfl) rfl ?_
 try simp only [Act.put, pB, pC, pD]
 refine rk_step (fuel := 2) 3 rfl (by kernel_rfl) (listed' := (bl 9 127)) (by kernel_rfl) (by kernel_rfl) (fun K' hK => ?_)
 go_wp2_with (go_at_call 41; refine (rput_field [] 0 rfl none 0 p _ (C_nil .u8 _) (by omega)).mono ?_; rintro _ w1 ⟨m1, A1, n1, c1, rfl, hm1, hmn1, hn1, hc1, hCm1, hb1⟩; have HM1 := aM hm1; have HMN1 := aM hmn1; have HCM1 := aM hCm1; have HB1 := aM hb1; clear hm1 hmn1 hCm1 hb1)
 refine hK.out _ _ (Keep.of_below HB1.out) ?_
 clear hK K'
 try simp only [Act.put, pB, pC, pD]
 refine rk_step (fuel := 1) 7 rfl (by kernel_rfl) (listed' := (bl 9 255)) (by kernel_rfl) (by kernel_rfl) (fun K' hK => ?_)
 go_wp2_with (go_at_call 41; refine (rput_field m1 n1 HMN1.out A1 c1 v _ HCM1.out (by omega)).mono ?_; rintro _ w2 ⟨m2, A2, n2, c2, rfl, hm2, hmn2, hn2, hc2, hCm2, hb2⟩; have HM2 := aM hm2; have HMN2 := aM hmn2; have HCM2 := aM hCm2; have HB2 := aM hb2; clear hm2 hmn2 hCm2 hb2)
 refine hK.out _ _ (Keep.of_below HB2.out) ?_
 clear hK K'
 try simp only [Act.put, pB, pC, pD]
 refine kt 8 (bl 9 511) rfl (fun w' hR => by go_simp; first | done | with_reducible rfl) rfl ?_
 try simp only [Act.put, pB, pC, pD]
 refine rk_done (by kernel_rfl) ?_
 have HK2 := aM (show Keep (fun _ => False) (w.alloc (.cells #[.int .i64 p, .int .i64 v, .int .i64 sl, .slice A l.length c] 54)).drew w2 from (Keep.of_below HB1.out).trans (Keep.of_below HB2.out))
 have b1 := HA.out.trans (HB1.out.mono HA.out.size)
 have HA2 := aM (b1.trans (HB2.out.mono b1.size))
 clear b1 HA
 have HX2 := aM (show ∀ W', Keep (fun _ => False) w2.drew W' → W'.cell? ⟨w.heap.size, 2, none⟩ = some (.int .i64 sl) ∧ W'.cell? ⟨w.heap.size, 3, none⟩ = some (.slice A l.length c) from fun W' h => (HX.out W' ((HK2.out.trans (Keep.of_below ((Below.refl _ _).drew))).trans h)).2.2)
 clear HX
 go_wp2_with fail
 refine rk_start (fun _ => False) (by kernel_rfl) (n := 9) (l := (bl 9 0)) (by kernel_rfl) (by kernel_rfl) ?_
 refine kt 0 (bl 9 1) rfl (fun w' hR => by go_simp; first | done | with_reducible rfl) rfl ?_
 try simp only [Act.put, pB, pC, pD]
 refine kt 1 (bl 9 3) rfl (fun w' hR => by go_simp; first | done | with_reducible rfl) rfl ?_
 try simp only [Act.put, pB, pC, pD]
 refine kt 2 (bl 9 7) rfl (fun w' hR => by obtain ⟨x2, x3⟩ := HX2.out w' hR; go_simp; first | done | with_reducible rfl) rfl ?_
 try simp only [Act.put, pB, pC, pD]
 refine kt 3 (bl 9 15) rfl (fun w' hR => by go_simp; first | done | with_reducible rfl) rfl ?_
 try simp only [Act.put, pB, pC, pD]
 refine kt 5 (bl 9 47) rfl (fun w' hR => by go_simp; first | done | with_reducible rfl) rfl ?_
 try simp only [Act.put, pB, pC, pD]
 refine kt 6 (bl 9 111) rfl (fun w' hR => by obtain ⟨x2, x3⟩ := HX2.out w' hR; go_simp; first | done | with_reducible rfl) rfl ?_
 try simp only [Act.put, pB, pC, pD]
 refine rk_step (fuel := 2) 4 rfl (by kernel_rfl) (listed' := (bl 9 127)) (by kernel_rfl) (by kernel_rfl) (fun K' hK => ?_)
 go_wp2_with (go_at_call 41; refine (rput_field m2 n2 HMN2.out A2 c2 sl _ (Kd.C_below HCM2.out ((Below.refl _ _).drew)) (by omega)).mono ?_; rintro _ w3 ⟨m3, A3, n3, c3, rfl, hm3, hmn3, hn3, hc3, hCm3, hb3⟩; have HM3 := aM hm3; have HMN3 := aM hmn3; have HCM3 := aM hCm3; have HB3 := aM hb3; clear hm3 hmn3 hCm3 hb3)
 refine hK.out _ _ (Keep.of_below HB3.out) ?_
 clear hK K'
 try simp only [Act.put, pB, pC, pD]
 refine rk_step (fuel := 1) 7 rfl (by kernel_rfl) (listed' := (bl 9 255)) (by kernel_rfl) (by kernel_rfl) (fun K' hK => ?_)
 go_wp2_with (go_at_call 90; refine (rbytes_calls m3 n3 HMN3.out A3 c3 l A c _ HCM3.out hc3 (Kd.C_below HC.out ((HA2.out.drew).trans (HB3.out.mono HA2.out.size))) (by omega) h16 HOK.out).mono ?_; rintro _ w4 ⟨m4, A4, n4, c4, rfl, hm4, hmn4, hc4, hCm4, hb4⟩; have HM4 := aM hm4; have HMN4 := aM hmn4; have HCM4 := aM hCm4; have HB4 := aM hb4; clear hm4 hmn4 hCm4 hb4)
 refine hK.out _ _ (Keep.of_below HB4.out) ?_
 clear hK K'
 try simp only [Act.put, pB, pC, pD]
 refine kt 8 (bl 9 511) rfl (fun w' hR => by go_simp; first | done | with_reducible rfl) rfl ?_
 try simp only [Act.put, pB, pC, pD]
 refine rk_done (by kernel_rfl) ?_
 go_wp2
 go_ret
 have b2 := (HA2.out.drew).trans (HB3.out.mono HA2.out.size)
 exact ⟨m4, A4, n4, c4, rfl, by rw [HM4.out, HM3.out, HM2.out, HM1.out]; simp [codeL, fieldsL], HMN4.out, hc4, HCM4.out, b2.trans (HB4.out.mono b2.size)⟩
end Go.Proofs.Ytnckonglodmfeaa.Ik
namespace Go.Proofs.Ytnckonglodmfeaa.Ik
open Ls Lc Go.RowKit Go.Proofs.YtnckonglodmfeaaW.PrintWords Go.Proofs.YtnckonglodmfeaaW.PrintLast Go.Proofs.YtnckonglodmfeaaW.PrintMore B R S Is Js Gs Gc
set_option maxHeartbeats 4000000 in
set_option maxRecDepth 100000 in
theorem rtell_calls (j n p v sl : Int) (l : List Blk) (A : Option Addr) (c : Nat) (ct : Crt) (A' : Option Addr) (c' : Nat) (w : World) (hn0 : 0 ≤ n) (hn1 : n < 18446744073709551616) (hC : kBlk.C w A l.length l) (hR : ∀ b ∈ l, BlkR b) (hll : l.length ≤ 100000) (hCT : kPs.C w A' ct.length ct) (hlt : ∀ ps ∈ ct, ps.length ≤ 1000) :
 Calls Try.prog 23 #[.agg #[.int .i64 j, .int .u64 n, .int .i64 p, .int .i64 v, .int .i64 sl, .slice A l.length c, .slice A' ct.length c']] w fun e w' => BytesOr (tellErr (j, n, (p, v, sl, l), ct)) (tellErr (j, n, (p, v, sl, l), ct)) (tellL (j, n, (p, v, sl, l), ct)) w' e ∧ Below w.heap.size w w' := by
 have mixed : Try.prog.follows .mixedOrders = true := by kernel_rfl
 have hff := fault_field
 have HC := aM hC
 have HR := aM hR
 have HCT := aM hCT
 have HLT := aM hlt
 have HA := aM (show Below w.heap.size w (w.alloc (.cells #[.int .i64 j, .int .u64 n, .int .i64 p, .int .i64 v, .int .i64 sl, .slice A l.length c, .slice A' ct.length c'] 57)) from (Below.refl _ _).alloc (Nat.le_refl _) _)
 have HSZ := aM (World.size_alloc w (.cells #[.int .i64 j, .int .u64 n, .int .i64 p, .int .i64 v, .int .i64 sl, .slice A l.length c, .slice A' ct.length c'] 57))
 have HX := aM (fun W' (h : Below (w.heap.size + 1) (w.alloc (.cells #[.int .i64 j, .int .u64 n, .int .i64 p, .int .i64 v, .int .i64 sl, .slice A l.length c, .slice A' ct.length c'] 57)) W') => tell_box h)
 obtain ⟨FE, hFE⟩ : ∃ FE, codeErr (p, v, sl, l) = FE := ⟨_, rfl⟩
 have HFE := aM hFE
 obtain ⟨CE, hCE⟩ : ∃ CE, certErr ct = CE := ⟨_, rfl⟩
 have HCE := aM hCE
 clear hC hR hCT hlt
 by_cases hf : FE = 0
 case neg =>
  have HE := aM (show tellErr (j, n, (p, v, sl, l), ct) = 30 from tell_e1 (by rw [hFE]; exact hf))
  rw [HE.out]
  have hfb : (FE == 0) = false := beq_eq_false_iff_ne.mpr hf
  have hfn : (FE != 0) = true := bne_iff_ne.mpr hf
  clear hFE hCE hf
  go_enter Try.func23, Try.ntmps23
  go_wp2_with (go_at_call 58; refine (rcode_calls p v sl l A c _ (Kd.C_below HC.out HA.out) hll).mono ?_; rintro _ w1 ⟨⟨z1, z2, rfl⟩, hb⟩; rw [HFE.out]; have HB1 := aM (show Below (w.heap.size + 1) (w.alloc (.cells #[.int .i64 j, .int .u64 n, .int .i64 p, .int .i64 v, .int .i64 sl, .slice A l.length c, .slice A' ct.length c'] 57)) w1 from hb.mono (by rw [HSZ.out]; exact Nat.le_refl _)); clear hb; obtain ⟨x0, x1, x2, x3, x4, x5, x6⟩ := HX.out w1 HB1.out)
  go_returns
  exact ⟨⟨fun _ => rfl, fun h => by cases h⟩, HA.out.trans (HB1.out.mono (by omega))⟩
 subst hf
 by_cases hce : CE = 0
 case neg =>
  have HE := aM (show tellErr (j, n, (p, v, sl, l), ct) = CE from (tell_e2 hFE (by rw [hCE]; exact hce)).trans hCE)
  rw [HE.out]
  have hcb : (CE != 0) = true := bne_iff_ne.mpr hce
  have hcb2 : (CE == 0) = false := beq_eq_false_iff_ne.mpr hce
  have HCN := aM hce
  clear hFE hCE hce
  go_enter Try.func23, Try.ntmps23
  go_wp2_with (first | (go_at_call 58; refine (rcode_calls p v sl l A c _ (Kd.C_below HC.out HA.out) hll).mono ?_; rintro _ w1 ⟨⟨z1, z2, rfl⟩, hb⟩; rw [HFE.out]; have HB1 := aM (show Below (w.heap.size + 1) (w.alloc (.cells #[.int .i64 j, .int .u64 n, .int .i64 p, .int .i64 v, .int .i64 sl, .slice A l.length c, .slice A' ct.length c'] 57)) w1 from hb.mono (by rw [HSZ.out]; exact Nat.le_refl _)); clear hb; obtain ⟨x0, x1, x2, x3, x4, x5, x6⟩ := HX.out w1 HB1.out) | ((go_at_call 59; refine (rcert_calls ct A' c' _ (Kd.C_below HCT.out (HA.out.trans (HB1.out.mono (by omega)))) HLT.out).mono ?_; rintro _ w2 ⟨hbo, hb⟩; have HB2 := aM (show Below (w.heap.size + 1) (w.alloc (.cells #[.int .i64 j, .int .u64 n, .int .i64 p, .int .i64 v, .int .i64 sl, .slice A l.length c, .slice A' ct.length c'] 57)) w2 from HB1.out.trans (hb.mono (by have h := HB1.out.size; rw [HSZ.out] at h; exact h))); have HK2 := aM hb; rw [HCE.out] at hbo; clear hb); obtain rfl := hbo.1 HCN.out; clear hbo x0 x1 x2 x3 x4 x5 x6; obtain ⟨x0, x1, x2, x3, x4, x5, x6⟩ := HX.out w2 HB2.out))
  go_returns
  exact ⟨⟨fun _ => rfl, fun h => absurd h HCN.out⟩, HA.out.trans (HB2.out.mono (by omega))⟩
 subst hce
 by_cases hbad : j < 0 ∨ 16 ≤ j
 · rw [tell_e3 hFE hCE hbad]
   have hbd : (j < 0) ∨ (¬ j < 0 ∧ 15 < j) := by omega
   clear hbad hFE hCE
   rcases hbd with h1 | ⟨h1, h2⟩
   all_goals
    go_enter Try.func23, Try.ntmps23
    go_wp2_with (first | (go_at_call 58; refine (rcode_calls p v sl l A c _ (Kd.C_below HC.out HA.out) hll).mono ?_; rintro _ w1 ⟨⟨z1, z2, rfl⟩, hb⟩; rw [HFE.out]; have HB1 := aM (show Below (w.heap.size + 1) (w.alloc (.cells #[.int .i64 j, .int .u64 n, .int .i64 p, .int .i64 v, .int .i64 sl, .slice A l.length c, .slice A' ct.length c'] 57)) w1 from hb.mono (by rw [HSZ.out]; exact Nat.le_refl _)); clear hb; obtain ⟨x0, x1, x2, x3, x4, x5, x6⟩ := HX.out w1 HB1.out) | ((go_at_call 59; refine (rcert_calls ct A' c' _ (Kd.C_below HCT.out (HA.out.trans (HB1.out.mono (by omega)))) HLT.out).mono ?_; rintro _ w2 ⟨hbo, hb⟩; have HB2 := aM (show Below (w.heap.size + 1) (w.alloc (.cells #[.int .i64 j, .int .u64 n, .int .i64 p, .int .i64 v, .int .i64 sl, .slice A l.length c, .slice A' ct.length c'] 57)) w2 from HB1.out.trans (hb.mono (by have h := HB1.out.size; rw [HSZ.out] at h; exact h))); have HK2 := aM hb; rw [HCE.out] at hbo; clear hb); obtain ⟨A2, c2, rfl, hlc2, hC2⟩ := hbo.2 rfl; obtain ⟨n2, hn2'⟩ : ∃ n2, (certL ct).length = n2 := ⟨_, rfl⟩; rw [hn2'] at hC2 hlc2 ⊢; clear hbo hC2 hlc2 hn2' x0 x1 x2 x3 x4 x5 x6; obtain ⟨x0, x1, x2, x3, x4, x5, x6⟩ := HX.out w2 HB2.out))
    go_returns
    exact ⟨⟨fun _ => rfl, fun h => by cases h⟩, HA.out.trans (HB2.out.mono (by omega))⟩
 · have hj0 : 0 ≤ j := by omega
   have hj1 : j < 16 := by omega
   have HFL := aM (code_len p v sl l hFE HR.out)
   have HCL := aM (cert_len ct hCE HLT.out)
   have h1 : ¬ j < 0 := by omega
   have h2 : ¬ 15 < j := by omega
   have HF0 := aM hFE
   obtain ⟨TE, hTE⟩ : ∃ TE, tellErr (j, n, (p, v, sl, l), ct) = TE := ⟨_, rfl⟩
   have HTE := aM (show TE = if 65536 < (tellB (j, n, (p, v, sl, l), ct)).length then 4 else 0 from by
    rw [← hTE]
    split
    · rename_i h; exact tell_e4 hFE hCE hbad h
    · rename_i h; exact tell_e0 hFE hCE hbad h)
   rw [hTE]
   clear hbad hFE hCE hTE
   go_enter Try.func23, Try.ntmps23
   go_upto_region 9 with (first | (go_at_call 58; refine (rcode_calls p v sl l A c _ (Kd.C_below HC.out HA.out) hll).mono ?_; rintro _ w1 ⟨⟨z1, z2, rfl⟩, hb⟩; rw [HFE.out]; have HB1 := aM (show Below (w.heap.size + 1) (w.alloc (.cells #[.int .i64 j, .int .u64 n, .int .i64 p, .int .i64 v, .int .i64 sl, .slice A l.length c, .slice A' ct.length c'] 57)) w1 from hb.mono (by rw [HSZ.out]; exact Nat.le_refl _)); clear hb; obtain ⟨x0, x1, x2, x3, x4, x5, x6⟩ := HX.out w1 HB1.out) | ((go_at_call 59; refine (rcert_calls ct A' c' _ (Kd.C_below HCT.out (HA.out.trans (HB1.out.mono (by omega)))) HLT.out).mono ?_; rintro _ w2 ⟨hbo, hb⟩; have HB2 := aM (show Below (w.heap.size + 1) (w.alloc (.cells #[.int .i64 j, .int .u64 n, .int .i64 p, .int .i64 v, .int .i64 sl, .slice A l.length c, .slice A' ct.length c'] 57)) w2 from HB1.out.trans (hb.mono (by have h := HB1.out.size; rw [HSZ.out] at h; exact h))); have HK2 := aM hb; rw [HCE.out] at hbo; clear hb); obtain ⟨A2, c2, rfl, hlc2, hC2⟩ := hbo.2 rfl; obtain ⟨n2, hn2'⟩ : ∃ n2, (certL ct).length = n2 := ⟨_, rfl⟩; rw [hn2'] at hC2 hlc2 ⊢; have HC2 := aM hC2; have HN2 := aM hn2'; clear hbo hC2 hn2' x0 x1 x2 x3 x4 x5 x6; obtain ⟨x0, x1, x2, x3, x4, x5, x6⟩ := HX.out w2 HB2.out) | (go_at_call 60; refine (rcbytes_calls p v sl l A c _ (Kd.C_below HC.out (HA.out.trans (HB2.out.mono (by omega)))) HR.out HF0.out).mono ?_; rintro _ wq ⟨mq, A1, n1, c1, rfl, hmq, hmnq, hlc1, hCq, hbq⟩; rw [hmq] at hmnq hCq; clear hmq; have HN1 := aM hmnq; have HC1 := aM hCq; have HBQ := aM (show Below (w.heap.size + 1) (w.alloc (.cells #[.int .i64 j, .int .u64 n, .int .i64 p, .int .i64 v, .int .i64 sl, .slice A l.length c, .slice A' ct.length c'] 57)) wq from HB2.out.trans (hbq.mono (by have h := HB2.out.size; rw [HSZ.out] at h; exact h))); have HC2q := aM (Kd.C_below HC2.out hbq); clear hmnq hCq hbq HC2 x0 x1 x2 x3 x4 x5 x6; have HC2 := HC2q; obtain ⟨x0, x1, x2, x3, x4, x5, x6⟩ := HX.out wq HBQ.out))
   have HXK := aM (show ∀ W', Keep (fun _ => False) wq.drew W' → TellC W' w.heap.size j n p v sl (.slice A l.length c) (.slice A' ct.length c') from fun W' h => HX.out W' (Keep.below_then HBQ.out.drew h (by have h1 := HBQ.out.size; rw [HSZ.out] at h1; exact h1) (fun _ _ => id)))
   have hn17 : n1 ≤ 700000 := by have := HFL.out; have := HN1.out; omega
   have hn27 : n2 ≤ 400000 := by have := HCL.out; have := HN2.out; omega
   clear x0 x1 x2 x3 x4 x5 x6
   refine rk_start (fun _ => False) (by kernel_rfl) (n := 12) (l := (bl 12 0)) (by kernel_rfl) (by kernel_rfl) ?_
   refine kt 0 (bl 12 1) rfl (fun w' hR => by go_simp; first | done | with_reducible rfl) rfl ?_
   try simp only [Act.put, pB, pC, pD]
   refine kt 1 (bl 12 3) rfl (fun w' hR => by obtain ⟨x0, x1, x2, x3, x4, x5, x6⟩ := HXK.out w' hR; go_simp; first | done | with_reducible rfl) rfl ?_
   try simp only [Act.put, pB, pC, pD]
   refine kt 2 (bl 12 7) rfl (fun w' hR => by have x9 := wrU64 j (by omega) (by omega); go_simp; first | done | with_reducible rfl) rfl ?_
   try simp only [Act.put, pB, pC, pD]
   refine kt 4 (bl 12 23) rfl (fun w' hR => by go_simp; first | done | with_reducible rfl) rfl ?_
   try simp only [Act.put, pB, pC, pD]
   refine kt 5 (bl 12 55) rfl (fun w' hR => by obtain ⟨x0, x1, x2, x3, x4, x5, x6⟩ := HXK.out w' hR; go_simp; first | done | with_reducible rfl) rfl ?_
   try simp only [Act.put, pB, pC, pD]
   refine kt 7 (bl 12 183) rfl (fun w' hR => by go_simp; first | done | with_reducible rfl) rfl ?_
   try simp only [Act.put, pB, pC, pD]
   refine kt 8 (bl 12 439) rfl (fun w' hR => by go_simp; first | done | with_reducible rfl) rfl ?_
   try simp only [Act.put, pB, pC, pD]
   refine kt 9 (bl 12 951) rfl (fun w' hR => by have x9 := wrU64 (n1 : Int) (by omega) (by omega); go_simp; first | done | with_reducible rfl) rfl ?_
   try simp only [Act.put, pB, pC, pD]
   refine rk_step (fuel := 3) 3 rfl (by kernel_rfl) (listed' := (bl 12 959)) (by kernel_rfl) (by kernel_rfl) (fun K' hK => ?_)
   go_wp2_with (go_at_call 41; refine (rput_num [] 0 rfl none 0 j (by omega) (by omega) _ (C_nil .u8 _) (by omega)).mono ?_; rintro _ w3 ⟨m3, A3, n3, c3, rfl, hm3, hmn3, hn3, hc3, hC3, hb3⟩; have HM3 := aM hm3; have HMN3 := aM hmn3; have HC3 := aM hC3; have HB3 := aM hb3; clear hm3 hmn3 hC3 hb3)
   refine hK.out _ _ (Keep.of_below HB3.out) ?_
   clear hK K'
   try simp only [Act.put, pB, pC, pD]
   refine rk_step (fuel := 2) 6 rfl (by kernel_rfl) (listed' := (bl 12 1023)) (by kernel_rfl) (by kernel_rfl) (fun K' hK => ?_)
   go_wp2_with (go_at_call 41; refine (rput_num m3 n3 HMN3.out A3 c3 n hn0 hn1 _ HC3.out (by omega)).mono ?_; rintro _ w4 ⟨m4, A4, n4, c4, rfl, hm4, hmn4, hn4, hc4, hC4, hb4⟩; have HM4 := aM hm4; have HMN4 := aM hmn4; have HC4 := aM hC4; have HB4 := aM hb4; clear hm4 hmn4 hC4 hb4)
   refine hK.out _ _ (Keep.of_below HB4.out) ?_
   clear hK K'
   try simp only [Act.put, pB, pC, pD]
   refine rk_step (fuel := 1) 10 rfl (by kernel_rfl) (listed' := (bl 12 2047)) (by kernel_rfl) (by kernel_rfl) (fun K' hK => ?_)
   go_wp2_with (go_at_call 41; refine (rputR_num m4 n4 HMN4.out A4 c4 n1 (by omega) (by omega) _ HC4.out (by omega)).mono ?_; rintro _ w5 ⟨m5, A5, n5, c5, rfl, hm5, hmn5, hn5, hc5, hR5, hb5⟩; have HM5 := aM hm5; have HMN5 := aM hmn5; have HR5 := aM hR5; have HB5 := aM hb5; clear hm5 hmn5 hR5 hb5)
   refine hK.out _ _ (Keep.of_below HB5.out) ?_
   clear hK K'
   try simp only [Act.put, pB, pC, pD]
   refine kt 11 (bl 12 4095) rfl (fun w' hR => by go_simp; first | done | with_reducible rfl) rfl ?_
   try simp only [Act.put, pB, pC, pD]
   refine rk_done (by kernel_rfl) ?_
   have HW2 := aM (HA.out.trans (HBQ.out.mono (by omega)))
   have HV3 := aM (show Below wq.heap.size wq w3 from (Below.refl _ _).drew.trans HB3.out)
   have HV4 := aM (HV3.out.trans (HB4.out.mono HV3.out.size))
   have HV5 := aM (HV4.out.trans (HB5.out.mono HV4.out.size))
   have HR5' := aM (Kd.R_lower HR5.out HV4.out.size)
   have HC15 := aM (Kd.C_below HC1.out HV5.out)
   obtain ⟨cb, hcb⟩ : ∃ cb, codeL (p, v, sl, l) = cb := ⟨_, rfl⟩
   obtain ⟨lb, hlb⟩ : ∃ lb, certL ct = lb := ⟨_, rfl⟩
   obtain ⟨AL, hAL⟩ : ∃ AL, tellB (j, n, (p, v, sl, l), ct) = AL := ⟨_, rfl⟩
   have HALB := aM (show By AL by rw [← hAL]; exact tell_byB _)
   have HAL := aM (show m5 ++ cb ++ lb = AL by rw [← hAL, HM5.out, HM4.out, HM3.out, ← hcb, ← hlb]; simp [tellB, field_num n hn0 hn1, HN1.out, List.append_assoc])
   have HTL := aM (show tellL (j, n, (p, v, sl, l), ct) = layL 3 AL by rw [← hAL]; rfl)
   rw [hAL] at HTE
   rw [hcb] at HC15 HN1
   rw [hlb] at HC2 HN2
   obtain ⟨m6, hm6⟩ : ∃ m6, m5 ++ cb = m6 := ⟨_, rfl⟩
   have HM6 := aM hm6
   rw [hm6] at HAL
   obtain ⟨n6, hn6⟩ : ∃ n6, m6.length = n6 := ⟨_, rfl⟩
   have HN6 := aM hn6
   have hn6b : n6 ≤ 800000 := by rw [← hn6, ← hm6, List.length_append, HMN5.out, HN1.out]; omega
   obtain ⟨fl, hfl⟩ : ∃ fl, layL 3 AL = fl := ⟨_, rfl⟩
   obtain ⟨nf, hnf⟩ : ∃ nf, fl.length = nf := ⟨_, rfl⟩
   obtain ⟨na, hna⟩ : ∃ na, AL.length = na := ⟨_, rfl⟩
   have HNA := aM hna
   have HNF := aM hnf
   have HFLL := aM hfl
   clear hAL hfl hnf hna hcb hlb hm6 hn6
   by_cases hbig : 65536 < na
   · have HT4 := aM (show TE = 4 by rw [HTE.out]; exact if_pos (by rw [HNA.out]; exact hbig))
     go_wp2_with (first
      | ((with_reducible refine gate_builtin (b := .append) (xs := #[.tmp 44, .tmp 45]) rfl ?_); at_builtin; refine Kd.R_append_rows (Kd.int .u8) (w0 := wq) wq.heap.size rfl (.tmp 44) (.tmp 45) 28 5 (.int .u8 0) 1 rfl Try.underlying28 infoU8 rfl (by decide) (by omega) (.slice A5 n5 c5) m5 cb _ _ _ (fun _ => True) (fun _ => False) rfl rfl ?aO ?aR (fun _ _ h => h) (fun _ h => h.elim) ?aF ?aB ?aS ?aL ?_; (case aR => exact HC15.out); (case aB => exact HV5.out); (case aF => exact (fun _ _ => trivial)); (case aO => exact HR5'.out); (case aS => (have := HV5.out.size; omega)); (case aL => (have := HMN5.out; have := HN1.out; omega)); (intro v6 w6 ho hb6 hg hat; rw [HM6.out] at ho; obtain ⟨A6, c6, rfl, hlc6, -⟩ := Kd.R_reads ho; rw [HN6.out] at hlc6 ho ⊢; have HO6 := aM ho; have HB6 := aM hb6; have HC26 := aM (Kd.C_below HC2.out hb6); clear ho hb6 hg hat))
      | ((with_reducible refine gate_builtin (b := .append) (xs := #[.tmp 46, .tmp 47]) rfl ?_); at_builtin; refine Kd.R_append_rows (Kd.int .u8) (w0 := wq) wq.heap.size rfl (.tmp 46) (.tmp 47) 28 5 (.int .u8 0) 1 rfl Try.underlying28 infoU8 rfl (by decide) (by omega) (.slice A6 n6 c6) m6 lb _ _ _ (fun _ => True) (fun _ => False) rfl rfl ?aO ?aR (fun _ _ h => h) (fun _ h => h.elim) ?aF ?aB ?aS ?aL ?_; (case aR => exact HC26.out); (case aB => exact HB6.out); (case aF => exact (fun _ _ => trivial)); (case aO => exact HO6.out); (case aS => (have := HB6.out.size; omega)); (case aL => (have := HN6.out; have := HN2.out; omega)); (intro v7 w7 ho hb7 hg hat; rw [HAL.out] at ho; obtain ⟨A7, c7, rfl, hlc7, hC7⟩ := Kd.R_reads ho; rw [HNA.out] at hlc7 hC7 ⊢; have HC7 := aM hC7; have HB7 := aM hb7; clear ho hb7 hg hat hC7)))
     go_returns
     rw [HT4.out]
     exact ⟨⟨fun _ => rfl, fun h => by cases h⟩, HW2.out.trans (HB7.out.mono HW2.out.size)⟩
   · have HT0 := aM (show TE = 0 by rw [HTE.out]; exact if_neg (by rw [HNA.out]; exact hbig))
     go_wp2_with (first
      | ((with_reducible refine gate_builtin (b := .append) (xs := #[.tmp 44, .tmp 45]) rfl ?_); at_builtin; refine Kd.R_append_rows (Kd.int .u8) (w0 := wq) wq.heap.size rfl (.tmp 44) (.tmp 45) 28 5 (.int .u8 0) 1 rfl Try.underlying28 infoU8 rfl (by decide) (by omega) (.slice A5 n5 c5) m5 cb _ _ _ (fun _ => True) (fun _ => False) rfl rfl ?aO ?aR (fun _ _ h => h) (fun _ h => h.elim) ?aF ?aB ?aS ?aL ?_; (case aR => exact HC15.out); (case aB => exact HV5.out); (case aF => exact (fun _ _ => trivial)); (case aO => exact HR5'.out); (case aS => (have := HV5.out.size; omega)); (case aL => (have := HMN5.out; have := HN1.out; omega)); (intro v6 w6 ho hb6 hg hat; rw [HM6.out] at ho; obtain ⟨A6, c6, rfl, hlc6, -⟩ := Kd.R_reads ho; rw [HN6.out] at hlc6 ho ⊢; have HO6 := aM ho; have HB6 := aM hb6; have HC26 := aM (Kd.C_below HC2.out hb6); clear ho hb6 hg hat))
      | ((with_reducible refine gate_builtin (b := .append) (xs := #[.tmp 46, .tmp 47]) rfl ?_); at_builtin; refine Kd.R_append_rows (Kd.int .u8) (w0 := wq) wq.heap.size rfl (.tmp 46) (.tmp 47) 28 5 (.int .u8 0) 1 rfl Try.underlying28 infoU8 rfl (by decide) (by omega) (.slice A6 n6 c6) m6 lb _ _ _ (fun _ => True) (fun _ => False) rfl rfl ?aO ?aR (fun _ _ h => h) (fun _ h => h.elim) ?aF ?aB ?aS ?aL ?_; (case aR => exact HC26.out); (case aB => exact HB6.out); (case aF => exact (fun _ _ => trivial)); (case aO => exact HO6.out); (case aS => (have := HB6.out.size; omega)); (case aL => (have := HN6.out; have := HN2.out; omega)); (intro v7 w7 ho hb7 hg hat; rw [HAL.out] at ho; obtain ⟨A7, c7, rfl, hlc7, hC7⟩ := Kd.R_reads ho; rw [HNA.out] at hlc7 hC7 ⊢; have HC7 := aM hC7; have HB7 := aM hb7; clear ho hb7 hg hat hC7))
      | (go_at_call 17; refine (rlay_n 3 (by decide) (by decide) A7 c7 AL na HNA.out fl nf HFLL.out HNF.out _ HC7.out HALB.out (by omega)).mono ?_; rintro e w8 ⟨A8, c8, rfl, -, hC8, hc8, hb8⟩; have HC8 := aM hC8; have HB8 := aM (HB7.out.trans (hb8.mono HB7.out.size)); clear hC8 hb8))
     go_returns
     rw [HT0.out, HTL.out, HFLL.out]
     exact ⟨⟨fun h => absurd rfl h, fun _ => ⟨A8, c8, by rw [HNF.out]; rfl, by rw [HNF.out]; exact hc8, by rw [HNF.out]; exact HC8.out⟩⟩, HW2.out.trans (HB8.out.mono HW2.out.size)⟩
end Go.Proofs.Ytnckonglodmfeaa.Ik
