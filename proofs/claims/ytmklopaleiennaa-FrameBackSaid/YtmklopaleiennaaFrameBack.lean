/- FrameBack: frames are taken as they were laid, whatever stands behind; cut anywhere a frame is short; with a bit turned it is not taken as it was. No condition. -/
import Derived.Test.YtmklopaleiennaaRows
import Derived.ProofKit
import Derived.OpenShut
import Derived.ShutString
import Derived.ChangeOld
import Derived.SizedLaws
import Derived.Test.YtmklopaleiennaaWSized
import Derived.Test.YtmklopaleiennaaGa
import Derived.Test.YtmklopaleiennaaE
namespace Go.Proofs.Ytmklopaleiennaa.FrameBack
open Go.ChangeShapes Go.WideShapes Go.ChangeAt Go.RowKit Go.Proofs.YtmklopaleiennaaW.PrintWords Go.Proofs.YtmklopaleiennaaW.PrintLast Go.Proofs.YtmklopaleiennaaW.PrintMore Go.Proofs.Ytmklopaleiennaa.B Go.Proofs.Ytmklopaleiennaa.Gs Go.Proofs.Ytmklopaleiennaa.Gc Go.Proofs.Ytmklopaleiennaa.R Go.Proofs.Ytmklopaleiennaa.S
set_option linter.unusedVariables false
set_option linter.unusedSimpArgs false
set_option maxHeartbeats 4000000 in
set_option maxRecDepth 100000 in
theorem walk (w : World) (k : Int) (hk : (Lit.int .u8 k).wf = true) (A : Option Addr) (c : Nat) (b : List Int) (hC : kU8.C w A b.length b) (hc : b.length ≤ c) (hm : b.length * 1 ≤ 140737488351232) (hwf : ∀ x ∈ b, (Lit.int .u8 x).wf = true)
    (A' : Option Addr) (c' : Nat) (mo : List Int) (hC' : kU8.C w A' mo.length mo) (hc' : mo.length ≤ c') (hm' : mo.length * 1 ≤ 140737488351232) (hwf' : ∀ x ∈ mo, (Lit.int .u8 x).wf = true) (cut : Int) (hcut : (Lit.int .i64 cut).wf = true) (bit : Int) (hbit : (Lit.int .i64 bit).wf = true) :
    Calls Try.prog 10 #[.int .u8 k, .slice A b.length c, .slice A' mo.length c', .int .i64 cut, .int .i64 bit] w fun e w' => e = .returned (.bool true) ∧ Below w.heap.size w w' := by
  have HY := Aside0.mk (show By b from fun x hx => wf_u8 (hwf x hx))
  have HY' := Aside0.mk (show By mo from fun x hx => wf_u8 (hwf' x hx))
  have HC := Aside0.mk hC
  have HC' := Aside0.mk hC'
  obtain ⟨hk0, hk1⟩ := wf_u8 hk
  have hcr := wf_i64 hcut
  have hbr := wf_i64 hbit
  clear hwf hwf' hC hC' hk hm hm' hcut hbit
  by_cases h1 : 3000 < b.length
  · go_enter Try.func10, Try.ntmps10
    go_wp2_with (first | (go_at_call 27; refine (awake_calls _).mono ?_; rintro e w1 ⟨rfl, hb1⟩))
    go_ret
    exact ⟨rfl, hb1⟩
  by_cases h2 : 1000 < mo.length
  · go_enter Try.func10, Try.ntmps10
    go_wp2_with (first | (go_at_call 27; refine (awake_calls _).mono ?_; rintro e w1 ⟨rfl, hb1⟩))
    go_ret
    exact ⟨rfl, hb1⟩
  have e1 : decide ((3000 : Int) < b.length) = false := by simp; omega
  have e2 : decide ((1000 : Int) < mo.length) = false := by simp; omega
  obtain ⟨fl, hfl⟩ : ∃ fl, layL k b = fl := ⟨_, rfl⟩
  obtain ⟨n, hn⟩ : ∃ n, fl.length = n := ⟨_, rfl⟩
  have hpl := putl_three (n := b.length) (by omega)
  have hn1 : 7 ≤ n := by rw [← hn, ← hfl, lay_len]; omega
  have hn2 : n ≤ 3009 := by rw [← hn, ← hfl, lay_len]; omega
  have HFB := Aside0.mk (show By fl by rw [← hfl]; exact lay_by ⟨hk0, hk1⟩ HY.out)
  obtain ⟨n4, hn4⟩ : ∃ n4, (fl ++ mo).length = n4 := ⟨_, rfl⟩
  have hn4b : n4 ≤ 5000 := by rw [← hn4, List.length_append]; omega
  have HN4 := Aside0.mk hn4
  have HT1 := Aside0.mk (show takeL (fl ++ mo) = (k, b, (n : Int), 0) by rw [← hn, ← hfl]; exact take_lay (by omega))
  -- the cut
  obtain ⟨iu, hiu⟩ : ∃ x, IntKind.u64.wrap cut = x := ⟨_, rfl⟩
  have hiu0 := (wrU64_range cut).1
  rw [hiu] at hiu0
  have hpr := tmod_range hiu0 (show (0 : Int) < (n : Int) by omega)
  obtain ⟨p, hp⟩ : ∃ p : Nat, iu.tmod (n : Int) = (p : Int) := ⟨(iu.tmod (n : Int)).toNat, by omega⟩
  rw [hp] at hpr
  have hpn : p < n := by omega
  have y2 := wrU64 (n : Int) (by omega) (by omega)
  have y3 := wrI64 (p : Int) (by omega) (by omega)
  have y4 : ((n : Int) = 0) = False := by simp; omega
  obtain ⟨k2, b2, s2, e3, ht2⟩ : ∃ k2 b2 s2 e3, takeL (fl.take p) = (k2, b2, s2, e3) := ⟨_, _, _, _, rfl⟩
  have he3 : e3 = 3 := by
    have h := take_cut (k := k) (b := b) (by omega) (j := p) (by rw [hfl, hn]; exact hpn)
    rw [hfl, ht2] at h
    exact h
  subst he3
  have HT2 := Aside0.mk ht2
  have hpl2 : (fl.take p).length = p := by rw [List.length_take]; omega
  have HPL := Aside0.mk hpl2
  -- the bit
  obtain ⟨iu2, hiu2⟩ : ∃ x, IntKind.u64.wrap bit = x := ⟨_, rfl⟩
  have hiu20 := (wrU64_range bit).1
  rw [hiu2] at hiu20
  have hqr := tmod_range hiu20 (show (0 : Int) < 8 * (n : Int) by omega)
  obtain ⟨q, hq⟩ : ∃ q : Nat, iu2.tmod (8 * (n : Int)) = (q : Int) := ⟨(iu2.tmod (8 * (n : Int))).toNat, by omega⟩
  rw [hq] at hqr
  have hqn : q < 8 * n := by omega
  have y5 := wrU64 (8 * (n : Int)) (by omega) (by omega)
  have y6 := wrI64 (q : Int) (by omega) (by omega)
  have y7 : (8 * (n : Int) = 0) = False := by simp; omega
  have y8 := wrI64 (8 * (n : Int)) (by omega) (by omega)
  have HFL := Aside0.mk hfl
  have HN := Aside0.mk hn
  obtain ⟨i5, hi5, -, hi5s, -⟩ := info_ex infoU8
  clear hfl hn hpl hn4 hiu0 hpr hiu20 hqr ht2 hpl2 hi5s
  go_enter Try.func10, Try.ntmps10
  go_upto_region 11 with (first
    | (go_at_call 27; refine (awake_calls _).mono ?_; rintro e w1 ⟨rfl, hb1⟩; have HB1 := Aside0.mk hb1; clear hb1)
    | (go_at_call 28; refine (lay_n k hk0 hk1 A c b b.length rfl fl n HFL.out HN.out _ (Kd.C_below HC.out HB1.out) hc HY.out (by omega)).mono ?_; rintro e w2 ⟨A2, c2, rfl, ho2, hC2, hc2, hb⟩; have HU2 := Aside0.mk ((Buf.of_R ho2).mono (S' := fun i => w.heap.size ≤ i) (fun i hi _ => Nat.le_trans HB1.out.size hi.2.1)); obtain ⟨g2, rfl, hg2S, hg2l⟩ := HU2.out.head (by rw [HN.out]; omega); have HC2 := Aside0.mk hC2; have HB2 := Aside0.mk (HB1.out.trans (hb.mono HB1.out.size)); have hr2 : ∀ W : World, (Instr.slice 22 (.slice (some ⟨g2, 0, none⟩) n c2) none (some (.int .i64 (p : Int))) none).run Try.prog W = .ok (.slice (some ⟨g2, 0, none⟩) p c2) W := (fun W => by simpa using cut_to (P := Try.prog) 22 5 .i64 Try.underlying22 hi5 (some ⟨g2, 0, none⟩) n c2 (p : Int) (by omega) (by omega) hc2 W); clear hC2 hb ho2)
    | ((with_reducible refine gate_builtin (b := .append) (xs := #[.tmp 41, .tmp 42]) rfl ?_); at_builtin; refine Kd.R_append_rows (Kd.int .u8) (w0 := w2) w2.heap.size rfl (.tmp 41) (.tmp 42) 22 5 (.int .u8 0) 1 rfl Try.underlying22 infoU8 rfl (by decide) (by omega) (.slice (some ⟨w2.heap.size, 0, none⟩) 0 0) ([] : List Int) fl _ _ _ (fun _ => True) (fun _ => False) rfl rfl ?aO ?aR (fun _ _ h => h) (fun _ h => h.elim) ?aF ?aB ?aS ?aL ?_; (case aR => exact Kd.C_alloc HC2.out _); (case aB => exact (Below.refl _ _).alloc (Nat.le_refl _) _); (case aF => exact (fun _ _ => trivial)); (case aO => exact R_lit0 kU8 5 w2); (case aS => simp); (case aL => (simp only [List.length_nil]; omega)); (intro v3 w3 ho3 hb3 hg hat; rw [List.nil_append] at ho3; have HO3 := Aside0.mk ho3; have HB3 := Aside0.mk hb3; clear ho3 hb3 hg hat))
    | ((with_reducible refine gate_builtin (b := .append) (xs := #[.tmp 43, .tmp 44]) rfl ?_); at_builtin; refine Kd.R_append_rows (Kd.int .u8) (w0 := w2) w2.heap.size rfl (.tmp 43) (.tmp 44) 22 5 (.int .u8 0) 1 rfl Try.underlying22 infoU8 rfl (by decide) (by omega) v3 fl mo _ _ _ (fun _ => True) (fun _ => False) rfl rfl ?aO ?aR (fun _ _ h => h) (fun _ h => h.elim) ?aF ?aB ?aS ?aL ?_; (case aR => exact (Kd.C_below HC'.out (HB2.out.trans (HB3.out.mono HB2.out.size)))); (case aB => exact HB3.out); (case aF => exact (fun _ _ => trivial)); (case aO => exact HO3.out); (case aS => (exact HB3.out.size)); (case aL => (rw [HN.out]; omega)); (intro v4 w4 ho4 hb4 hg hat; obtain ⟨A4, c4, hv4, hc4, hC4⟩ := Kd.R_reads ho4; rw [HN4.out] at hv4 hc4 hC4; subst hv4; have HC4 := Aside0.mk hC4; have HB4 := Aside0.mk hb4; clear ho4 hb4 hg hat hC4 HO3))
    | (go_at_call 30; refine (take_n A4 c4 (fl ++ mo) n4 HN4.out k b n 0 HT1.out _ HC4.out hc4 (HFB.out.append HY'.out) (by omega)).mono ?_; rintro e w5 ⟨A5, c5, rfl, -, hC5, -, hb⟩; have HB5 := Aside0.mk (HB4.out.trans (hb.mono HB4.out.size)); have HW5 := Aside0.mk (HB2.out.trans (HB5.out.mono HB2.out.size)); have z1 := C_str (c := c5) hC5; have z2 := C_str (c := c) (Kd.C_below HC.out HW5.out); clear hC5 hb HC4)
    | (go_at_call 30; refine (take_n (some ⟨g2, 0, none⟩) c2 (fl.take p) p HPL.out k2 b2 s2 3 HT2.out _ (by have h0 := Kd.C_below HC2.out HB5.out; rw [← HN.out] at h0; have h := Kd.C_take (m := p) h0 (by rw [HN.out]; omega); rw [HPL.out] at h; exact h) (by omega) (HFB.out.take _) (by omega)).mono ?_; rintro e w6 ⟨A6, c6, rfl, -, -, -, hb⟩; have HB6 := Aside0.mk (HB5.out.trans (hb.mono HB5.out.size)); clear hb z1 z2))
  obtain ⟨d, hd⟩ : ∃ d, q / 8 = d := ⟨_, rfl⟩
  obtain ⟨j, hj⟩ : ∃ j, q % 8 = j := ⟨_, rfl⟩
  have hj8 : j < 8 := by omega
  have y9 : IntKind.i64.wrap ((q : Int) / 8) = (d : Int) := by rw [wrI64 _ (by omega) (by omega)]; omega
  have y10 : (q : Int) % 8 = (j : Int) := by omega
  have y11 : (q : Int).tmod 8 = (j : Int) := by rw [Int.tmod_eq_emod_of_nonneg (by omega)]; exact y10
  have hqd : d < fl.length := by rw [HN.out]; omega
  obtain ⟨z, hz, hcz, hfz⟩ := (HU2.out.below HB6.out).at hqd
  have hzr := HFB.out.at hz
  have HUset := fun x : Int => (HU2.out.below HB6.out).set d hqd x
  have HUS := Aside0.mk HUset
  have HZ := Aside0.mk hz
  have hg6 : g2 < w6.heap.size := Nat.lt_of_lt_of_le hg2l HB6.out.size
  have hgw : w.heap.size ≤ g2 := hg2S
  have HF := Aside0.mk (show ∀ W, Keep (fun _ => False) w6.drew W → W.cell? ⟨g2, d, none⟩ = some (.int .u8 z) ∧ W.frozen? ⟨g2, d, none⟩ = false from fun W hW => ⟨(World.cell?_of_block (a := ⟨g2, d, none⟩) (hW.block g2 hg6 (fun h => h))).trans hcz, (World.frozen?_of_block (a := ⟨g2, d, none⟩) (hW.block g2 hg6 (fun h => h))).trans hfz⟩)
  have HCUR := Aside0.mk (Keep.refl (fun _ => False) w6.drew)
  have d9 : d < n := by omega
  have d10 : (d : Int) < (n : Int) := by omega
  have HW6 := Aside0.mk (HB2.out.trans (HB6.out.mono HB2.out.size))
  clear hz HUset hqd hcz hfz hd hj
  refine re_start [10] (fun _ => False) (by kernel_rfl) (n := 11) (l := #[false, false, false, false, false, false, false, false, false, false, false]) (by kernel_rfl) (by kernel_rfl) ?_
  refine re_take (fuel := 10) 0 rfl (by kernel_rfl) (listed' := #[true, false, false, false, false, false, false, false, false, false, false]) (by kernel_rfl) (fun _ _ _ h => h) (by kernel_rfl) (fun w' hR => by go_simp; first | done | with_reducible rfl) rfl ?_
  try simp only [Act.put, List.setIfInBounds_toArray, List.set_cons_zero, List.set_cons_succ]
  refine re_take (fuel := 9) 1 rfl (by kernel_rfl) (listed' := #[true, true, false, false, false, false, false, false, false, false, false]) (by kernel_rfl) (fun _ _ _ h => h) (by kernel_rfl) (fun w' hR => by go_simp; first | done | with_reducible rfl) rfl ?_
  try simp only [Act.put, List.setIfInBounds_toArray, List.set_cons_zero, List.set_cons_succ]
  refine re_take (fuel := 8) 2 rfl (by kernel_rfl) (listed' := #[true, true, true, false, false, false, false, false, false, false, false]) (by kernel_rfl) (fun _ _ _ h => h) (by kernel_rfl) (fun w' hR => by go_simp; first | done | with_reducible rfl) rfl ?_
  try simp only [Act.put, List.setIfInBounds_toArray, List.set_cons_zero, List.set_cons_succ]
  refine re_take (fuel := 7) 3 rfl (by kernel_rfl) (listed' := #[true, true, true, true, false, false, false, false, false, false, false]) (by kernel_rfl) (fun _ _ _ h => h) (by kernel_rfl) (fun w' hR => by go_simp; first | done | with_reducible rfl) rfl ?_
  try simp only [Act.put, List.setIfInBounds_toArray, List.set_cons_zero, List.set_cons_succ]
  refine re_take (fuel := 6) 4 rfl (by kernel_rfl) (listed' := #[true, true, true, true, true, false, false, false, false, false, false]) (by kernel_rfl) (fun _ _ _ h => h) (by kernel_rfl) (fun w' hR => by obtain ⟨x0, x1⟩ := HF.out w' (HCUR.out.trans hR); go_simp; first | done | with_reducible rfl) rfl ?_
  try simp only [Act.put, List.setIfInBounds_toArray, List.set_cons_zero, List.set_cons_succ]
  refine re_take (fuel := 5) 5 rfl (by kernel_rfl) (listed' := #[true, true, true, true, true, true, false, false, false, false, false]) (by kernel_rfl) (fun _ _ _ h => h) (by kernel_rfl) (fun w' hR => by go_simp; first | done | with_reducible rfl) rfl ?_
  try simp only [Act.put, List.setIfInBounds_toArray, List.set_cons_zero, List.set_cons_succ]
  refine re_take (fuel := 4) 6 rfl (by kernel_rfl) (listed' := #[true, true, true, true, true, true, true, false, false, false, false]) (by kernel_rfl) (fun _ _ _ h => h) (by kernel_rfl) (fun w' hR => by go_simp; first | done | with_reducible rfl) rfl ?_
  try simp only [Act.put, List.setIfInBounds_toArray, List.set_cons_zero, List.set_cons_succ]
  refine re_take (fuel := 3) 7 rfl (by kernel_rfl) (listed' := #[true, true, true, true, true, true, true, true, false, false, false]) (by kernel_rfl) (fun _ _ _ h => h) (by kernel_rfl) (fun w' hR => by go_simp; first | done | with_reducible rfl) rfl ?_
  try simp only [Act.put, List.setIfInBounds_toArray, List.set_cons_zero, List.set_cons_succ]
  refine re_take (fuel := 2) 8 rfl (by kernel_rfl) (listed' := #[true, true, true, true, true, true, true, true, true, false, false]) (by kernel_rfl) (fun _ _ _ h => h) (by kernel_rfl) (fun w' hR => by go_simp; first | done | with_reducible rfl) rfl ?_
  try simp only [Act.put, List.setIfInBounds_toArray, List.set_cons_zero, List.set_cons_succ]
  refine re_take (fuel := 1) 9 rfl (by kernel_rfl) (listed' := #[true, true, true, true, true, true, true, true, true, true, false]) (by kernel_rfl) (fun _ _ _ h => h) (by kernel_rfl) (fun w' hR => by go_simp; first | done | with_reducible rfl) rfl ?_
  try simp only [Act.put, List.setIfInBounds_toArray, List.set_cons_zero, List.set_cons_succ]
  refine re_free (fuel := 0) 10 rfl (by kernel_rfl) (listed' := #[true, true, true, true, true, true, true, true, true, true, true]) (by kernel_rfl) (by kernel_rfl) (fun K' hK => ?_)
  obtain ⟨x0, x1⟩ := HF.out w6.drew (Keep.refl _ _); go_wp2_with fail
  refine hK.out _ _ trivial ?_
  clear hK K'
  try simp only [Act.put, List.setIfInBounds_toArray, List.set_cons_zero, List.set_cons_succ]
  refine re_done (by kernel_rfl) ?_
  have hxb := xor_bit z hzr.1 hzr.2 j hj8
  have hxr := xor8_range z ((2 : Int) ^ j % 256)
  generalize hyy : Go.bits .xor .u8 z ((2 : Int) ^ j % 256) = yy at hxb hxr ⊢
  clear hyy
  have hu7 := HUS.out yy
  obtain ⟨A7, c7, hv7, hc7, hC7, -⟩ := hu7.reads
  rw [List.length_set, HN.out] at hv7 hc7 hC7
  injection hv7 with hv7 _ hv7'
  subst hv7 hv7'
  obtain ⟨f2, hf2⟩ : ∃ f2, fl.set d yy = f2 := ⟨_, rfl⟩
  have hf2l : f2.length = n := by rw [← hf2, List.length_set, HN.out]
  have hf2b : By f2 := by
    rw [← hf2]
    intro x hx
    rcases List.mem_or_eq_of_mem_set hx with h | h
    · exact HFB.out x h
    · rw [h]; exact hxr
  obtain ⟨k3, b3, s3, e4, ht3⟩ : ∃ k3 b3 s3 e4, takeL f2 = (k3, b3, s3, e4) := ⟨_, _, _, _, rfl⟩
  have htn : e4 ≠ 0 ∨ (e4 = 0 ∧ k3 ≠ k) ∨ (e4 = 0 ∧ k3 = k ∧ b3 ≠ b) := by
    by_cases h1 : e4 = 0
    · by_cases h2 : k3 = k
      · refine .inr (.inr ⟨h1, h2, fun h3 => ?_⟩)
        subst h1 h2 h3
        have hfl := HFL.out
        refine take_turned (k := k3) (b := b3) (i := d) (y := yy) (z := z) (n := s3) (by rw [hfl]; exact HZ.out) hxb (by rw [hfl, hf2]; exact hf2b) ?_
        rw [hfl, hf2]
        exact ht3
      · exact .inr (.inl ⟨h1, h2⟩)
    · exact .inl h1
  rw [hf2] at hC7
  have HC7 := Aside0.mk (Kd.C_drew hC7)
  have HF2L := Aside0.mk hf2l
  have HT3 := Aside0.mk ht3
  have HF2B := Aside0.mk hf2b
  have HW7 := Aside0.mk (HW6.out.setCell (p := ⟨g2, d, none⟩) hgw (.int .u8 yy)).drew
  clear hC7 hf2l ht3 hf2b hf2 hu7 hxb hxr
  go_upto_region 13 with (first
    | (go_at_call 30; refine (take_n (some ⟨g2, 0, none⟩) c2 f2 n HF2L.out k3 b3 s3 e4 HT3.out _ HC7.out hc7 HF2B.out (by omega)).mono ?_; rintro e w8 ⟨A8, c8, rfl, -, hC8, -, hb⟩; have HB8 := Aside0.mk (HW7.out.trans (hb.mono HW7.out.size)); have HC8 := Aside0.mk hC8; clear hb hC8))
  rcases htn with h | ⟨rfl, h⟩ | ⟨rfl, rfl, h⟩
  · have he : (e4 != 0) = true := bne_iff_ne.mpr h
    clear h
    go_wp2
    go_ret
    exact ⟨rfl, HB8.out⟩
  · have he : ((0 : Int) != 0) = false := by decide
    have hkk : (k3 != k) = true := bne_iff_ne.mpr h
    clear h
    go_wp2
    go_ret
    exact ⟨rfl, HB8.out⟩
  · have he : ((0 : Int) != 0) = false := by decide
    have hkk : (k3 != k3) = false := by simp
    have z3 := C_str (c := c8) HC8.out
    have z4 := C_str (c := c) (Kd.C_below HC.out HB8.out)
    have hby3 : By b3 := by
      have hC := HT3.out
      exact (take_form HF2B.out hC).2.2.2.2.1
    have hs : ((strOfNums b3).toList == (strOfNums b).toList) = false := by
      rw [str_beq _ _ hby3 HY.out]
      exact beq_eq_false_iff_ne.mpr h
    have hs2 : ((strOfNums b3).toList != (strOfNums b).toList) = true := by rw [bne, hs]; rfl
    clear h hby3
    go_wp2
    go_ret
    exact ⟨rfl, HB8.out⟩
theorem own : ownKnob Try.prog.godebug = none := by kernel_rfl
theorem laidOut : laidOutB Try.prog = true := by kernel_rfl
def IsRow (k : IntKind) (w : World) (a : Option Addr) (len cap : Nat) (zs : List Int) : Prop :=
  (a = none ∧ len = 0 ∧ cap = 0 ∧ zs = []) ∨
  ∃ x, a = some x ∧ len ≤ cap ∧ cap ≤ maxLen ∧ zs.length = cap ∧ (∀ i, i < zs.length → w.cell? (x.add i) = some (.int k (zs.getD i 0))) ∧ ∀ n ∈ zs, (Lit.int k n).wf = true
set_option maxRecDepth 100000 in
theorem lifted (os : Os) (started : os.Started) (H : Type) (enc : TypeId × Value → H) :
    ReturnsInHanded {} Try.checked os 10 .any (Rows.frameBackSpec.pre6 enc Try.prog Try.f10 Rows.frameBackRow.domain false) (Rows.frameBackSpec.post enc Try.prog Try.f10 false true false false) := by
  refine returnsInHanded_of_change_sized (C := Try.checked) own started (by kernel_rfl) Try.func10
    (ChangeSpec.witness6 (enc := enc) (C := Try.checked) false ⟨#[], #[.int .u8 0, .slice none 0 0, .slice none 0 0, .int .i64 0, .int .i64 0], []⟩ 8 (by kernel_rfl) (by kernel_rfl) (by kernel_rfl) (by kernel_rfl)) ?_
  intro W base args ds gs before hval0 hW hcnd hsz0 _
  have hsz : (DataW.weightsEach Try.prog (Try.f10.params.toList ++ Rows.frameBackSpec.plain.varTypes Try.prog) (ds ++ gs)).all (· ≤ reachBytes) = true := hsz0
  have hval : ∀ (j : Nat) t v, Try.f10.params[j]? = some t → args[j]? = some v → Value.okWide Try.prog W .any base t v := hval0
  have hW' := hW
  obtain ⟨p, q, hA0, hV, rfl, hfz, hnd⟩ := hW
  have hA : DataW.TrodAll enc Try.prog W 0 (fun _ => true) true Try.f10.params.toList args.toList ds p := hA0
  rw [Try.params10] at hA hval hsz
  obtain ⟨v0, vs0, d0, ds0, p0, q0, hargs, rfl, rfl, h0, r0⟩ := trodAll_cons hA
  obtain ⟨v1, vs1, d1, ds1, p1, q1, rfl, rfl, rfl, h1, r1⟩ := trodAll_cons r0
  obtain ⟨v2, vs2, d2, ds2, p2, q2, rfl, rfl, rfl, h2, r2⟩ := trodAll_cons r1
  obtain ⟨v3, vs3, d3, ds3, p3, q3, rfl, rfl, rfl, h3, r3⟩ := trodAll_cons r2
  obtain ⟨v4, vs4, d4, ds4, p4, q4, rfl, rfl, rfl, h4, r4⟩ := trodAll_cons r3
  obtain ⟨rfl, rfl, rfl⟩ := trodAll_nil r4
  obtain rfl : args = #[v0, v1, v2, v3, v4] := by cases args; simp_all
  obtain ⟨rfl, rfl⟩ := trodVars_none hV
  obtain ⟨a0, rfl, rfl, rfl, w0⟩ := open_int Try.underlying5 (hval 0 5 v0 rfl rfl) h0
  obtain ⟨a1, len1, cap1, rfl⟩ := okWide_slice Try.underlying22 (hval 1 22 v1 rfl rfl)
  have k1 := h1
  have lt1 : ∀ x ∈ p1, x.block < W.heap.size := by obtain ⟨m, hm⟩ := k1; exact DataW.trod_lt m _ _ _ hm
  obtain ⟨z1, w1⟩ : ∃ zs, IsRow .u8 W a1 len1 cap1 zs := by
    obtain ⟨fuel, hf⟩ := h1
    rcases open_ints Try.underlying22 Try.underlying5 (by kernel_rfl) hf with ⟨hcs, _⟩ | ⟨x, l, c, zs, hcs, _, hl, hm, hz, _, hcell, hwz⟩
    · simp [Value.cells] at hcs
      obtain ⟨rfl, rfl, rfl⟩ := hcs
      exact ⟨[], .inl ⟨rfl, rfl, rfl, rfl⟩⟩
    · simp [Value.cells] at hcs
      obtain ⟨rfl, rfl, rfl⟩ := hcs
      exact ⟨zs, .inr ⟨_, rfl, hl, hm, by simpa using hz, hcell, hwz⟩⟩
  have y1 : len1 * 1 ≤ 140737488351232 := sized_ints hsz (j := 1) (t := 22) rfl rfl Try.underlying22 Try.underlying5 (by kernel_rfl) (by kernel_rfl) h1
  obtain ⟨l1, rfl, hr1, hm1, hwf1, hcap1⟩ := ReadsInt.ofRowC w1
  obtain ⟨a2, len2, cap2, rfl⟩ := okWide_slice Try.underlying22 (hval 2 22 v2 rfl rfl)
  have k2 := h2
  have lt2 : ∀ x ∈ p2, x.block < W.heap.size := by obtain ⟨m, hm⟩ := k2; exact DataW.trod_lt m _ _ _ hm
  obtain ⟨z2, w2⟩ : ∃ zs, IsRow .u8 W a2 len2 cap2 zs := by
    obtain ⟨fuel, hf⟩ := h2
    rcases open_ints Try.underlying22 Try.underlying5 (by kernel_rfl) hf with ⟨hcs, _⟩ | ⟨x, l, c, zs, hcs, _, hl, hm, hz, _, hcell, hwz⟩
    · simp [Value.cells] at hcs
      obtain ⟨rfl, rfl, rfl⟩ := hcs
      exact ⟨[], .inl ⟨rfl, rfl, rfl, rfl⟩⟩
    · simp [Value.cells] at hcs
      obtain ⟨rfl, rfl, rfl⟩ := hcs
      exact ⟨zs, .inr ⟨_, rfl, hl, hm, by simpa using hz, hcell, hwz⟩⟩
  have y2 : len2 * 1 ≤ 140737488351232 := sized_ints hsz (j := 2) (t := 22) rfl rfl Try.underlying22 Try.underlying5 (by kernel_rfl) (by kernel_rfl) h2
  obtain ⟨l2, rfl, hr2, hm2, hwf2, hcap2⟩ := ReadsInt.ofRowC w2
  obtain ⟨a3, rfl, rfl, rfl, w3⟩ := open_int Try.underlying3 (hval 3 3 v3 rfl rfl) h3
  obtain ⟨a4, rfl, rfl, rfl, w4⟩ := open_int Try.underlying3 (hval 4 3 v4 rfl rfl) h4
  clear hA0 hval0 hsz0 hsz
  refine (walk W a0 w0 _ _ l1 (Kd.C_of_reads (d := (0 : Int)) (h1 := fun _ => rfl) hr1) hcap1 y1 hwf1 _ _ l2 (Kd.C_of_reads (d := (0 : Int)) (h1 := fun _ => rfl) hr2) hcap2 y2 hwf2 a3 w3 a4 w4).mono fun e W' ⟨he, bel⟩ => ?_
  subst he
  exact ⟨_, rfl, _, _, _, [], _, [], hW', trodAll_mk1 (shut_bool Try.underlying4 _), (trodAll_cons_mk (shut_int Try.underlying5 w0) (trodAll_cons_mk (Below.trod laidOut (by kernel_rfl) (of_decide_eq_true (by kernel_rfl)) k1 bel lt1) (trodAll_cons_mk (Below.trod laidOut (by kernel_rfl) (of_decide_eq_true (by kernel_rfl)) k2 bel lt2) (trodAll_cons_mk (shut_int Try.underlying3 w3) (trodAll_cons_mk (shut_int Try.underlying3 w4) trodAll_mk0))))), rfl, bel.frame _, fun h => by cases h⟩
theorem over : Rows.frameBackRow.holds Try.pinned (OpenSpec.ofChange Rows.frameBackSpec) :=
  OpenClaim.holds_of_wide 10 Try.f10 rfl rfl rfl rfl rfl rfl rfl ⟨rfl, rfl, rfl, rfl, rfl⟩ rfl rfl rfl rfl rfl (by kernel_rfl) Try.func10 (by kernel_rfl)
    (of_decide_eq_true (by kernel_rfl)) (by unfold Func.isWrapper; first | (rw [if_pos (by decide +kernel)]; kernel_rfl) | (rw [if_neg (by decide +kernel)]; exact ⟨rfl, rfl⟩))
    (fun os started H enc _ => lifted os started H enc)
end Go.Proofs.Ytmklopaleiennaa.FrameBack
namespace Go.Proofs.Ytmklopaleiennaa
/-- The statement. -/
theorem frameBack_holds : Rows.FrameBackSaid := FrameBack.over
#print axioms frameBack_holds
end Go.Proofs.Ytmklopaleiennaa
