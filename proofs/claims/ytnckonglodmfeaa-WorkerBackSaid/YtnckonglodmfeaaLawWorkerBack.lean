/- WorkerBack: what is asked and told is taken as it was; cut anywhere, or with a byte more, it is refused; with a bit turned it isn't taken as it was. No condition. -/
import Derived.Test.YtnckonglodmfeaaN1
import Derived.Test.YtnckonglodmfeaaN3
import Derived.Test.YtnckonglodmfeaaN7
import Derived.Test.YtnckonglodmfeaaN9
import Derived.Test.YtnckonglodmfeaaN11
import Derived.Test.YtnckonglodmfeaaN13
import Derived.Test.YtnckonglodmfeaaRows
import Derived.ProofKit
import Derived.OpenShut
import Derived.ShutString
import Derived.ChangeOld
import Derived.SizedLaws
set_option linter.unusedVariables false
set_option linter.unusedSimpArgs false
namespace Go.Proofs.Ytnckonglodmfeaa.WorkerBack
open Go.ChangeShapes Go.WideShapes Go.ChangeAt Go.RowKit Go.Proofs.YtnckonglodmfeaaW.PrintWords Go.Proofs.YtnckonglodmfeaaW.PrintLast Go.Proofs.YtnckonglodmfeaaW.PrintMore B O R S Ls Is Js Gs Ik
open Gc hiding infoU8
set_option maxHeartbeats 8000000 in
set_option maxRecDepth 100000 in
theorem walk (w : World) (cs2 : Array Value) (y : Spc) (hK2 : kSpec.K w y cs2.toList) (hok2 : SpecOk y)
 (Am : Option Addr) (cm : Nat) (ms : List Int) (hCm : kU8.C w Am ms.length ms) (hcm : ms.length ≤ cm) (hmm : ms.length * 1 ≤ 140737488351232) (hwm : ∀ x ∈ ms, (Lit.int .u8 x).wf = true)
 (J : Int) (hJ' : (Lit.int .u8 J).wf = true) (n : Int) (hn' : (Lit.int .u64 n).wf = true) (cu : Int) (hcu' : (Lit.int .i64 cu).wf = true) (bi : Int) (hbi' : (Lit.int .i64 bi).wf = true) :
 Calls Try.prog 5 #[.agg cs2, .slice Am ms.length cm, .int .u8 J, .int .u64 n, .int .i64 cu, .int .i64 bi] w fun e w' => e = .returned (.bool true) ∧ Below w.heap.size w w' := by
 have mixed : Try.prog.follows .mixedOrders = true := by kernel_rfl
 have hJ := wf_u8 hJ'
 have hn := wf_u64 hn'
 have hcu : I64 cu := wf_i64 hcu'
 have hbi : I64 bi := wf_i64 hbi'
 clear hJ' hn' hcu' hbi'
 obtain ⟨P, V, Nb, sb⟩ := y
 obtain ⟨A1, c1, e1, hlc1, hC1⟩ := spec_K hK2
 obtain rfl : cs2 = #[.int .u8 P, .int .u8 V, .int .u8 Nb, .slice A1 sb.length c1] := by cases cs2; simp_all
 obtain ⟨hP, hV, hN, hbl⟩ := hok2
 simp only at hP hV hN hbl
 have HC1 := aM hC1
 have HCM := aM hCm
 have HBL := aM hbl
 have HYM := aM (show By ms from fun x hx => wf_u8 (hwm x hx))
 have HNN := aM hn
 have HBI := aM hbi
 have HCU := aM hcu
 have hs1 : (w.alloc (.cells #[.int .u8 P, .int .u8 V, .int .u8 Nb, .slice A1 sb.length c1] 30)).heap.size = w.heap.size + 1 := World.size_alloc _ _
 have HB1 := aM (show Below w.heap.size w (w.alloc (.cells #[.int .u8 P, .int .u8 V, .int .u8 Nb, .slice A1 sb.length c1] 30)) from (Below.refl _ _).alloc (Nat.le_refl _) _)
 have HS1 := aM hs1
 have HX := aM (show ∀ W', Below (w.heap.size + 1) (w.alloc (.cells #[.int .u8 P, .int .u8 V, .int .u8 Nb, .slice A1 sb.length c1] 30)) W' → W'.cell? ⟨w.heap.size, 0, none⟩ = some (.int .u8 P) ∧ W'.cell? ⟨w.heap.size, 1, none⟩ = some (.int .u8 V) ∧ W'.cell? ⟨w.heap.size, 2, none⟩ = some (.int .u8 Nb) ∧ W'.cell? ⟨w.heap.size, 3, none⟩ = some (.slice A1 sb.length c1) from fun W' h => by
  have g := below_cells (h.mono (by rw [World.size_alloc]; exact Nat.le_refl _))
  exact ⟨cell_at g 0 _ rfl, cell_at g 1 _ rfl, cell_at g 2 _ rfl, cell_at g 3 _ rfl⟩)
 clear hC1 hCm hbl hwm hs1 hK2 e1 hmm hn hbi hcu
 obtain ⟨W1, hW1⟩ : ∃ W1, W1 = w.alloc (.cells #[.int .u8 P, .int .u8 V, .int .u8 Nb, .slice A1 sb.length c1] 30) := ⟨_, rfl⟩
 rw [← hW1] at HS1 HB1 HX
 go_enter Try.func5, Try.ntmps5
 go_upto_region 1 with fail
 rw [← hW1]
 clear hW1
 go_upto_region 3 with (go_at_call 10; refine (awake_asks _).mono ?_; rintro _ w3 ⟨rfl, hb⟩; have HB3 := aM (show Below (w.heap.size + 1) W1 w3 from by rw [← HS1.out]; exact hb); clear hb)
 have hz3 : w.heap.size + 1 ≤ w3.heap.size := by have h1 := HB3.out.size; have h2 := HS1.out; omega
 have HA3 := aM (HB1.out.trans (HB3.out.mono (by omega)))
 obtain ⟨y0, y1, y2, y3⟩ := HX.out w3 HB3.out
 obtain ⟨jd, hjd⟩ : ∃ q, J % 16 = q := ⟨_, rfl⟩
 have hjd0 : 0 ≤ jd ∧ jd < 16 := by omega
 obtain ⟨rd, hrd⟩ : ∃ q, J / 16 % 9 = q := ⟨_, rfl⟩
 have hrd0 : 0 ≤ rd ∧ rd < 9 := by omega
 have HJD := aM hjd
 have HRD := aM hrd
 clear hjd hrd
 go_upto_region 4 with (go_at_call 12; refine (made_calls P V Nb A1 c1 sb _ hP hV hN (Kd.C_below HC1.out HA3.out) hlc1 HBL.out).mono ?_; rintro _ w5 ⟨v2, vb, bs, rfl, hRm, hG, hv2, hb⟩; obtain ⟨Aa, ca, rfl, hla, hCa⟩ := Kd.R_reads hRm; obtain ⟨na, hna⟩ : ∃ na, bs.length = na := ⟨_, rfl⟩; rw [hna] at hla hCa ⊢; obtain ⟨p4, hp4⟩ : ∃ q, P % 5 = q := ⟨_, rfl⟩; have HP4 := aM (show 0 ≤ p4 ∧ p4 < 5 from by omega); rw [hp4] at hG hv2 ⊢; have HNA := aM hna; have HCA := aM hCa; have HGA := aM hG; have HV2 := aM hv2; have HB5 := aM hb; clear hRm hna hCa hG hv2 hb hp4 y0 y1 y2 y3)
 rw [HJD.out, HRD.out]
 obtain ⟨ga, hga⟩ : ∃ g, w5.heap.size = g := ⟨_, rfl⟩
 obtain ⟨W5, hW5⟩ : ∃ V, V = w5.alloc (.cells #[.int .i64 jd, .int .u64 n, .int .i64 rd, .int .i64 p4, .int .i64 v2, .slice Aa na ca] 27) := ⟨_, rfl⟩
 have HK5 := aM (show Below w5.heap.size w5 W5 by rw [hW5]; exact (Below.refl _ _).alloc (Nat.le_refl _) _)
 have HAB5 := aM (show W5.heap[ga]? = some (.cells #[.int .i64 jd, .int .u64 n, .int .i64 rd, .int .i64 p4, .int .i64 v2, .slice Aa na ca] 27 (0, 0)) by rw [hW5, ← hga, heap_alloc_new])
 have HS5 := aM (show W5.heap.size = ga + 1 by rw [hW5, World.size_alloc, hga])
 have HX5 := aM (show Below (w.heap.size + 1) W1 W5 from HB3.out.trans ((HB5.out.trans (HK5.out.mono HB5.out.size)).mono hz3))
 have HA5 := aM (show Below w.heap.size w W5 from HB1.out.trans (HX5.out.mono (by omega)))
 have HCA5 := aM (Kd.C_below HCA.out HK5.out)
 rw [← hW5]
 rw [hga]
 clear hW5 hga HK5 HCA HB5 HA3
 obtain ⟨y0, y1, y2, y3⟩ := HX.out W5 HX5.out
 go_upto_region 5 with (go_at_call 21; refine (made5_calls P V Nb 2 2 A1 c1 sb Am cm ms W5 hP hV hN (by decide) (by decide) (Kd.C_below HC1.out HA5.out) hlc1 HBL.out (Kd.C_below HCM.out HA5.out) HYM.out).mono ?_; rintro _ w6 ⟨S, adB, capB, cs, rfl, hRm, hce, hbr, hl7, hb⟩; obtain ⟨p5, hp5⟩ : ∃ q, P % 5 = q := ⟨_, rfl⟩; rw [hp5] at hce ⊢; rw [show (3 + (2 : Int) % 6) = 5 from rfl] at hce ⊢; obtain ⟨nb, hnb⟩ : ∃ nb, cs.length = nb := ⟨_, rfl⟩; obtain ⟨A9, c9, e9, -, hC9⟩ := Kd.R_reads hRm; injection e9 with e91 e92 e93; subst e91; rw [hnb] at hC9 hl7 ⊢; have HNB := aM hnb; have HCB := aM hC9; have HCE := aM hce; have HBR := aM hbr; have HL7 := aM hl7; have HB6 := aM hb; clear hp5 hRm hce hbr hl7 hb hnb hC9 e92 e93 y0 y1 y2 y3)
 rw [HJD.out]
 have z1 : (w6.alloc (.cells #[.int .i64 1, .int .i64 0] 61)).heap.size = w6.heap.size + 1 := World.size_alloc _ _
 have z2 : ((w6.alloc (.cells #[.int .i64 1, .int .i64 0] 61)).alloc (.cells #[.slice (some ⟨w6.heap.size, 0, none⟩) 1 1, .slice none 0 0] 58)).heap.size = w6.heap.size + 1 + 1 := by rw [World.size_alloc, z1]
 obtain ⟨W7, hW7⟩ : ∃ V, V = (((w6.alloc (.cells #[.int .i64 1, .int .i64 0] 61)).alloc (.cells #[.slice (some ⟨w6.heap.size, 0, none⟩) 1 1, .slice none 0 0] 58)).alloc (.cells #[.int .i64 jd, .int .u64 n, .int .i64 p5, .int .i64 5, .int .i64 S, .slice (some adB) nb capB, .slice (some ⟨w6.heap.size + 1, 0, none⟩) 2 2] 57)) := ⟨_, rfl⟩
 have hz6 : ga + 1 ≤ w6.heap.size := by have h1 := HB6.out.size; have h2 := HS5.out; omega
 have HG1 := aM (show W7.heap[w6.heap.size]? = some (.cells #[.int .i64 1, .int .i64 0] 61 (0, 0)) by rw [hW7, heap_alloc_old _ _ (by rw [z2]; omega), heap_alloc_old _ _ (by rw [z1]; omega), heap_alloc_new])
 have HG2 := aM (show W7.heap[w6.heap.size + 1]? = some (.cells #[.slice (some ⟨w6.heap.size, 0, none⟩) 1 1, .slice none 0 0] 58 (0, 0)) by rw [hW7, heap_alloc_old _ _ (by rw [z2]; omega), ← z1, heap_alloc_new])
 have HGT := aM (show W7.heap[w6.heap.size + 1 + 1]? = some (.cells #[.int .i64 jd, .int .u64 n, .int .i64 p5, .int .i64 5, .int .i64 S, .slice (some adB) nb capB, .slice (some ⟨w6.heap.size + 1, 0, none⟩) 2 2] 57 (0, 0)) by rw [hW7, ← z2, heap_alloc_new])
 have HLC := aM (lit_cert1 HG1.out HG2.out)
 have HK7 := aM (show Below w6.heap.size w6 W7 by rw [hW7]; exact (((Below.refl _ _).alloc (Nat.le_refl _) _).alloc (by rw [z1]; omega) _).alloc (by rw [z2]; omega) _)
 have HS7 := aM (show W7.heap.size = w6.heap.size + 1 + 1 + 1 by rw [hW7, World.size_alloc, z2])
 rw [← hW7]
 clear hW7 z1 z2 HG1 HG2
 obtain ⟨adC, hadC⟩ : ∃ q : Addr, q = ⟨w6.heap.size + 1, 0, none⟩ := ⟨_, rfl⟩
 rw [← hadC] at HGT HLC
 obtain ⟨gt, hgt⟩ : ∃ g, w6.heap.size + 1 + 1 = g := ⟨_, rfl⟩
 rw [hgt] at HGT HS7 ⊢
 have HAB7 := aM ((HK7.out.block ga (by omega)).trans ((HB6.out.block ga (by have := HS5.out; omega)).trans HAB5.out))
 have HCA7 := aM (Kd.C_below (Kd.C_below HCA5.out HB6.out) HK7.out)
 have HCB7 := aM (Kd.C_below HCB.out HK7.out)
 have HA7 := aM (HA5.out.trans ((HB6.out.trans (HK7.out.mono HB6.out.size)).mono HA5.out.size))
 have hgt1 : ga < gt := by omega
 clear hadC hgt hz6 HAB5 HCA5 HCB HK7 HB6 HS5 HX5 HA5 HX HB1 HB3 HS1 HC1 HCM HYM HBL hz3
 have HT7 := aM (show ∀ W', Below W7.heap.size W7 W' → (W'.cell? ⟨ga, 0, none⟩ = some (.int .i64 jd) ∧ W'.cell? ⟨ga, 1, none⟩ = some (.int .u64 n) ∧ W'.cell? ⟨ga, 2, none⟩ = some (.int .i64 rd) ∧ W'.cell? ⟨ga, 3, none⟩ = some (.int .i64 p4) ∧ W'.cell? ⟨ga, 4, none⟩ = some (.int .i64 v2) ∧ W'.cell? ⟨ga, 5, none⟩ = some (.slice Aa na ca)) ∧ TellC W' gt jd n p5 5 S (.slice (some adB) nb capB) (.slice (some adC) crt1.length 2) from fun W' h => by
  have g1 := (h.block ga (by have := HS7.out; omega)).trans HAB7.out
  have g2 := (h.block gt (by have := HS7.out; omega)).trans HGT.out
  exact ⟨⟨cell_at g1 0 _ rfl, cell_at g1 1 _ rfl, cell_at g1 2 _ rfl, cell_at g1 3 _ rfl, cell_at g1 4 _ rfl, cell_at g1 5 _ rfl⟩, (cells7 g2).1⟩)
 obtain ⟨⟨x0, x1, x2, x3, x4, x5⟩, y0, y1, y2, y3, y4, y5, y6⟩ := HT7.out W7 (Below.refl _ _)
 have hgood : funcErr (p4, v2, bs) = 0 ∧ ∀ b ∈ bs, BlkR b := by
  have h := HGA.out
  have h2 := HV2.out
  have h3 := HP4.out
  exact good_fun h h3.1 (by omega) h2.2.1 h2.2.2.1 (by omega) (by omega)
 have hna7 : na ≤ 7 := by have h1 := HGA.out.1; have h2 := HNA.out; omega
 have HGD := aM hgood
 have HAE := aM (ask_fit (j := jd) (n := n) (r := rd) (f := (p4, v2, bs)) hgood.1 (by omega))
 have HAL := aM (show (askB (jd, n, rd, p4, v2, bs)).length ≤ 65536 from by
  have h1 := func_len p4 v2 bs hgood.1 hgood.2
  have h2 := field_len jd
  have h3 := putl_ten n.toNat (by have := HNN.out; omega)
  have h4 := field_len rd
  simp only [askB, List.length_append]
  omega)
 have HTB := aM (tellB_len (l := cs) (ct := crt1) (j := jd) HNN.out HCE.out HBR.out (by rw [HNB.out]; exact HL7.out) (by decide) (by decide))
 have HCE0 := aM crt1_err
 have HP0 := aM (show ∀ ps ∈ crt1, ps.length ≤ 1000 from by decide)
 have HLC' := aM (show kPs.C W7 (some adC) crt1.length crt1 from HLC.out)
 have y6' : W7.cell? ⟨gt, 6, none⟩ = some (.slice (some adC) crt1.length 2) := y6
 clear hgood y6 HLC
 obtain ⟨q0, hq0⟩ : ∃ q, crt1 = q := ⟨_, rfl⟩
 rw [hq0] at HCE0 HP0 HLC' HTB HT7 y6'
 clear hq0
 obtain rfl := HNA.out
 obtain rfl := HNB.out
 clear HNA HNB HGA HV2 HP4
 obtain ⟨X, hX⟩ : ∃ X, askL (jd, n, rd, p4, v2, bs) = X := ⟨_, rfl⟩
 obtain ⟨nx, hnx⟩ : ∃ nx, X.length = nx := ⟨_, rfl⟩
 obtain ⟨Y, hY⟩ : ∃ Y, tellL (jd, n, (p5, 5, S, cs), q0) = Y := ⟨_, rfl⟩
 obtain ⟨ny, hny⟩ : ∃ ny, Y.length = ny := ⟨_, rfl⟩
 have HXX := aM hX
 have HNX := aM hnx
 have HYY := aM hY
 have HNY := aM hny
 have hxb : 0 < nx ∧ nx ≤ 70000 := by
  have h1 := (putl_three (n := (askB (jd, n, rd, p4, v2, bs)).length) HAL.out).2
  have h2 := HAL.out
  have h3 := lay_len 2 (askB (jd, n, rd, p4, v2, bs))
  have h4 : (askL (jd, n, rd, p4, v2, bs)).length = nx := by rw [hX, hnx]
  unfold askL at h4
  omega
 have hyb : 0 < ny ∧ ny ≤ 70000 := by
  have h0 := HTB.out
  have h1 := (putl_three (n := (tellB (jd, n, (p5, 5, S, cs), q0)).length) (by omega)).2
  have h3 := lay_len 3 (tellB (jd, n, (p5, 5, S, cs), q0))
  have h4 : (tellL (jd, n, (p5, 5, S, cs), q0)).length = ny := by rw [hY, hny]
  unfold tellL at h4
  omega
 have HXB := aM (show By X from by rw [← hX]; exact lay_by (by decide) (ask_byB _))
 have HYB := aM (show By Y from by rw [← hY]; exact lay_by (by decide) (tell_byB _))
 have HRA := aM (show readAsk X = ((jd, n, rd, p4, v2, bs), 0) from by rw [← hX]; exact Ha.ask_fwd HAE.out HNN.out HGD.out.2 HAL.out)
 have HRT := aM (show readTell Y = ((jd, n, (p5, 5, S, cs), q0), 0) from by
  rw [← hY]
  exact Ha.tell_fwd (tell_e0 HCE.out HCE0.out (by omega) (by have := HTB.out; omega)) HNN.out (fun b hb => (HBR.out b hb).1) (fun ps hp => by have := HP0.out ps hp; omega))
 have HXC := aM (show ∀ k, k < nx → (readAsk (X.take k)).2 = 3 from fun k hk => by rw [← hX]; exact Ha.ask_cut HAL.out (by rw [hX, hnx]; exact hk))
 have HYM := aM (show readTell (Y ++ [0]) = (zeroTell, 5) from by rw [← hY]; exact Ha.tell_more (by have := HTB.out; omega) (by decide))
 have HYK := aM (show readAsk Y = (zeroAsk, 20) from by rw [← hY]; exact Ha.tell_asked (by have := HTB.out; omega))
 have HYT := aM (show ∀ (i : Nat) (y z : Int), Y[i]? = some z → y ≠ z → By (Y.set i y) → readTell (Y.set i y) ≠ ((jd, n, (p5, 5, S, cs), q0), 0) from fun i y z h1 h2 h3 => by rw [← hY] at h1 h3 ⊢; exact Ha.tell_turned h1 h2 h3)
 clear hX hnx hY hny
 have hll1 : bs.length ≤ 100000 := by omega
 have hll2 : cs.length ≤ 100000 := by have := HL7.out; omega
 go_upto_region 7 with (first
  | (go_at_call 13; refine (putask_calls jd n rd p4 v2 bs Aa ca W7 HNN.out.1 HNN.out.2 HCA7.out HGD.out.2 hll1).mono ?_; rintro _ w8 ⟨hr1, hb1⟩; obtain ⟨Ax, cx, rfl, hlx, hCx⟩ := hr1.2 HAE.out; rw [HXX.out, HNX.out] at hlx hCx ⊢; have HCX := aM hCx; have HB8 := aM hb1; clear hr1 hb1 hCx x0 x1 x2 x3 x4 x5 y0 y1 y2 y3 y4 y5 y6'; obtain ⟨⟨x0, x1, x2, x3, x4, x5⟩, y0, y1, y2, y3, y4, y5, y6⟩ := HT7.out w8 HB8.out)
  | (go_at_call 22; refine (puttell_own jd n p5 5 S cs (some adB) capB q0 (some adC) 2 w8 HNN.out.1 HNN.out.2 (Kd.C_below HCB7.out HB8.out) (fun b hb => (HBR.out b hb).1) hll2 (Kd.C_below HLC'.out HB8.out) HP0.out HCE.out HCE0.out hjd0.1 hjd0.2 (by have := HTB.out; omega)).mono ?_; rintro _ w9 ⟨Ay, cy, ny', rfl, hny', hRy, hb⟩; rw [HYY.out] at hny' hRy; obtain rfl : ny = ny' := (HNY.out.symm.trans hny'); have HRY := aM hRy; have HB9 := aM hb; clear hny' hRy hb x0 x1 x2 x3 x4 x5 y0 y1 y2 y3 y4 y5 y6))
 obtain ⟨Ay', cy', ey, hly, hCy⟩ := Kd.R_reads HRY.out
 injection ey with ey1 ey2 ey3
 subst ey1 ey3
 rw [HNY.out] at hly hCy
 have HCY := aM hCy
 clear hCy ey2
 have HX9 := aM (Kd.C_below HCX.out HB9.out)
 have HZ9 := aM (show Below W7.heap.size W7 w9 from HB8.out.trans (HB9.out.mono HB8.out.size))
 go_upto_region 9 with (first
  | (go_at_call 18; refine (takeask_calls Ax cx X nx HNX.out w9 HX9.out hlx HXB.out (by omega)).mono ?_; rintro _ w10 ⟨hr, hb⟩; rw [HRA.out] at hr; obtain ⟨a1, a2, a3, a4, a5, vb1, bs1, rfl, hR1, hx1⟩ := hr; simp only [Prod.mk.injEq] at hx1; obtain ⟨rfl, rfl, rfl, rfl, rfl, rfl⟩ := hx1; obtain ⟨Ab, cb, rfl, -, hCb⟩ := Kd.R_reads hR1; have HCb := aM hCb; have HB10 := aM hb; clear hR1 hCb hb)
  | (go_at_call 24; refine (taketell_calls Ay cy Y ny HNY.out _ (Kd.C_alloc (Kd.C_below HCY.out HB10.out) _) hly HYB.out (by omega)).mono ?_; rintro _ w11 ⟨hr, hb⟩; rw [HRT.out] at hr; obtain ⟨a1, a2, a3, a4, a5, vb1, bs1, vc1, ct1, rfl, hR1, hT1, hx1⟩ := hr; simp only [Prod.mk.injEq] at hx1; obtain ⟨rfl, rfl, ⟨rfl, rfl, rfl, rfl⟩, rfl⟩ := hx1; obtain ⟨Au, cu2, rfl, -, hCu⟩ := Kd.R_reads hR1; obtain ⟨Du, du, rfl, -, hDu⟩ := Kd.R_reads hT1; have HCU2 := aM hCu; have HDU := aM hDu; have HB11 := aM hb; clear hR1 hT1 hCu hDu hb))
 obtain ⟨W12, hW12⟩ : ∃ V, V = w11.alloc (.cells #[.int .i64 jd, .int .u64 n, .int .i64 p5, .int .i64 5, .int .i64 S, .slice Au cs.length cu2, .slice Du q0.length du] 57) := ⟨_, rfl⟩
 have HS10 := aM (World.size_alloc w10 (.cells #[.int .i64 jd, .int .u64 n, .int .i64 rd, .int .i64 p4, .int .i64 v2, .slice Ab bs.length cb] 27))
 have HB12 := aM (show Below (w10.heap.size + 1) (w10.alloc (.cells #[.int .i64 jd, .int .u64 n, .int .i64 rd, .int .i64 p4, .int .i64 v2, .slice Ab bs.length cb] 27)) W12 from by
  rw [hW12]
  have h := HB11.out.size
  rw [HS10.out] at h
  exact (HB11.out.mono (by rw [HS10.out]; exact Nat.le_refl _)).alloc h _)
 have HBb := aM ((HB12.out.block w10.heap.size (by omega)).trans (heap_alloc_new w10 (.cells #[.int .i64 jd, .int .u64 n, .int .i64 rd, .int .i64 p4, .int .i64 v2, .slice Ab bs.length cb] 27)))
 have HBu := aM (show W12.heap[w11.heap.size]? = some (.cells #[.int .i64 jd, .int .u64 n, .int .i64 p5, .int .i64 5, .int .i64 S, .slice Au cs.length cu2, .slice Du q0.length du] 57) from by rw [hW12]; exact heap_alloc_new _ _)
 have HK12 := aM (show Below w10.heap.size w10 W12 from ((Below.refl _ _).alloc (Nat.le_refl _) (.cells #[.int .i64 jd, .int .u64 n, .int .i64 rd, .int .i64 p4, .int .i64 v2, .slice Ab bs.length cb] 27)).trans (HB12.out.mono (by omega)))
 have HZ12 := aM (show Below w9.heap.size w9 W12 from HB10.out.trans (HK12.out.mono HB10.out.size))
 have HV12 := aM (show Below W7.heap.size W7 W12 from HZ9.out.trans (HZ12.out.mono HZ9.out.size))
 have HCb12 := aM (Kd.C_below HCb.out HK12.out)
 have HCu12 := aM (show kBlk.C W12 Au cs.length cs from by rw [hW12]; exact Kd.C_alloc HCU2.out _)
 have HDu12 := aM (show kPs.C W12 Du q0.length q0 from by rw [hW12]; exact Kd.C_alloc HDU.out _)
 rw [← hW12]
 clear hW12 HB11 HB12 HCb HCU2 HDU
 have HBX := aM (show ∀ W', Below W12.heap.size W12 W' → ((W'.cell? ⟨ga, 0, none⟩ = some (.int .i64 jd) ∧ W'.cell? ⟨ga, 1, none⟩ = some (.int .u64 n) ∧ W'.cell? ⟨ga, 2, none⟩ = some (.int .i64 rd) ∧ W'.cell? ⟨ga, 3, none⟩ = some (.int .i64 p4) ∧ W'.cell? ⟨ga, 4, none⟩ = some (.int .i64 v2) ∧ W'.cell? ⟨ga, 5, none⟩ = some (.slice Aa bs.length ca)) ∧ TellC W' gt jd n p5 5 S (.slice (some adB) cs.length capB) (.slice (some adC) q0.length 2)) ∧ (W'.cell? ⟨w10.heap.size, 0, none⟩ = some (.int .i64 jd) ∧ W'.cell? ⟨w10.heap.size, 1, none⟩ = some (.int .u64 n) ∧ W'.cell? ⟨w10.heap.size, 2, none⟩ = some (.int .i64 rd) ∧ W'.cell? ⟨w10.heap.size, 3, none⟩ = some (.int .i64 p4) ∧ W'.cell? ⟨w10.heap.size, 4, none⟩ = some (.int .i64 v2) ∧ W'.cell? ⟨w10.heap.size, 5, none⟩ = some (.slice Ab bs.length cb)) ∧ TellC W' w11.heap.size jd n p5 5 S (.slice Au cs.length cu2) (.slice Du q0.length du) from fun W' h => by
  have g1 := (h.block _ (blk_lt HBb.out)).trans HBb.out
  have g2 := (h.block _ (blk_lt HBu.out)).trans HBu.out
  exact ⟨HT7.out W' (HV12.out.trans (h.mono HV12.out.size)), ⟨cell_at g1 0 _ rfl, cell_at g1 1 _ rfl, cell_at g1 2 _ rfl, cell_at g1 3 _ rfl, cell_at g1 4 _ rfl, cell_at g1 5 _ rfl⟩, (cells7 g2).1⟩)
 obtain ⟨⟨⟨x0, x1, x2, x3, x4, x5⟩, y0, y1, y2, y3, y4, y5, y6⟩, ⟨u0, u1, u2, u3, u4, u5⟩, v0, v1, v2', v3, v4, v5, v6⟩ := HBX.out W12 (Below.refl _ _)
 go_upto_region 11 with (first
  | (go_at_call 20; refine (same_asks jd n rd p4 v2 bs bs.length rfl Aa Ab ca cb W12 (Kd.C_below HCA7.out HV12.out) HCb12.out).mono ?_; rintro _ w13 ⟨rfl, hb⟩; have HB13 := aM hb; clear hb x0 x1 x2 x3 x4 x5 y0 y1 y2 y3 y4 y5 y6 u0 u1 u2 u3 u4 u5 v0 v1 v2' v3 v4 v5 v6; obtain ⟨⟨⟨x0, x1, x2, x3, x4, x5⟩, y0, y1, y2, y3, y4, y5, y6⟩, ⟨u0, u1, u2, u3, u4, u5⟩, v0, v1, v2', v3, v4, v5, v6⟩ := HBX.out w13 HB13.out)
  | (go_at_call 26; refine (same_tells jd n p5 5 S cs cs.length rfl q0 q0.length rfl (some adB) Au capB cu2 (some adC) Du 2 du w13 (Kd.C_below (Kd.C_below HCB7.out HV12.out) HB13.out) (Kd.C_below HCu12.out HB13.out) (Kd.C_below (Kd.C_below HLC'.out HV12.out) HB13.out) (Kd.C_below HDu12.out HB13.out)).mono ?_; rintro _ w14 ⟨rfl, hb⟩; have HB14 := aM hb; clear hb x0 x1 x2 x3 x4 x5 y0 y1 y2 y3 y4 y5 y6 u0 u1 u2 u3 u4 u5 v0 v1 v2' v3 v4 v5 v6))
 have HZ14 := aM (show Below w9.heap.size w9 w14 from HZ12.out.trans ((HB13.out.trans (HB14.out.mono HB13.out.size)).mono HZ12.out.size))
 clear HBX HB13 HB14 HK12 HBb HBu HCb12 HCu12 HDu12 HS10 HB10 HZ12 HV12
 obtain ⟨uc, huc⟩ : ∃ i, IntKind.u64.wrap cu = i := ⟨_, rfl⟩
 have huc0 := (wrU64_range cu).1
 rw [huc] at huc0
 obtain ⟨kx, hkx⟩ : ∃ k : Nat, uc % (nx : Int) = (k : Int) := ⟨(uc % (nx : Int)).toNat, by have := Int.emod_nonneg uc (show (nx : Int) ≠ 0 by omega); omega⟩
 have hkxn : kx < nx := by have := Int.emod_lt_of_pos uc (show (0 : Int) < nx by omega); omega
 have hkx2 : uc.tmod (nx : Int) = (kx : Int) := by rw [Int.tmod_eq_emod_of_nonneg huc0]; exact hkx
 have hnx0 : ((nx : Int) = 0) = False := by simp; omega
 have hnx1 : (nx = 0) = False := by simp; omega
 have hwn := wrU64 (nx : Int) (by omega) (by omega)
 obtain ⟨i8, hi8, -, hi8s, -⟩ := info_ex infoU8
 have hs1 : (Instr.slice 28 (.slice Ax nx cx) none (some (.int .i64 (kx : Int))) none).run Try.prog w14 = .ok (.slice Ax kx cx) w14 := by
  rw [cut_to 28 5 .i64 Try.underlying28 hi8 Ax nx cx (kx : Int) (by omega) (by omega) hlx w14]
  rfl
 have HLK := aM (show (X.take kx).length = kx from by rw [List.length_take, HNX.out]; omega)
 have HX14 := aM (show kU8.C w14 Ax kx (X.take kx) from by
  have h := Kd.C_below HX9.out HZ14.out
  rw [← HNX.out] at h
  have h2 := Kd.C_take h (m := kx) (by rw [HNX.out]; omega)
  rw [HLK.out] at h2
  exact h2)
 obtain ⟨ra, hra⟩ : ∃ ra, readAsk (X.take kx) = (ra, 3) := ⟨_, by rw [← HXC.out kx hkxn]⟩
 have HRC := aM hra
 clear hra hi8 hi8s HXC
 go_upto_region 12 with (go_at_call 18; refine (takeask_calls Ax cx (X.take kx) kx HLK.out w14 HX14.out (by omega) (HXB.out.take kx) (by omega)).mono ?_; rintro _ w15 ⟨hr, hb⟩; rw [HRC.out] at hr; obtain ⟨a1, a2, a3, a4, a5, vb1, bs1, rfl, hR1, -⟩ := hr; obtain ⟨Aq1, cq1, rfl, -, -⟩ := Kd.R_reads hR1; obtain ⟨nq1, hq1⟩ : ∃ q, bs1.length = q := ⟨_, rfl⟩; rw [hq1]; have HB15 := aM hb; clear hb hR1 hq1)
 clear hs1 hkx hkx2 hnx0 hnx1 hwn huc
 obtain ⟨W16, hW16⟩ : ∃ V, V = w15.alloc (.cells #[.int .i64 a1, .int .u64 a2, .int .i64 a3, .int .i64 a4, .int .i64 a5, .slice Aq1 nq1 cq1] 27) := ⟨_, rfl⟩
 have HZ16 := aM (show Below w9.heap.size w9 W16 from by
  rw [hW16]
  have h := HZ14.out.trans (HB15.out.mono HZ14.out.size)
  exact h.alloc h.size _)
 rw [← hW16]
 clear hW16 HB15 HZ14 HX14
 have HC16 := aM (Kd.C_below HCY.out HZ16.out)
 go_upto_region 13 with (first
  | ((with_reducible refine gate_builtin (b := .append) (xs := #[.tmp 116, .tmp 117]) rfl ?_); at_builtin; refine Kd.R_append_rows (Kd.int .u8) (w0 := W16) W16.heap.size rfl (.tmp 116) (.tmp 117) 28 5 (.int .u8 0) 1 rfl Try.underlying28 infoU8 rfl (by decide) (by omega) (.slice (some ⟨W16.heap.size, 0, none⟩) 0 0) ([] : List Int) Y _ _ _ (fun _ => True) (fun _ => False) rfl rfl ?aO ?aR (fun _ _ h => h) (fun _ h => h.elim) ?aF ?aB ?aS ?aL ?_; (case aR => exact Kd.C_alloc HC16.out _); (case aB => exact (Below.refl _ _).alloc (Nat.le_refl _) _); (case aF => exact (fun _ _ => trivial)); (case aO => exact R_lit0 kU8 5 W16); (case aS => simp); (case aL => (have := HNY.out; simp only [List.length_nil]; omega)); (intro v17 w17 ho hb hg hat; rw [List.nil_append] at ho; obtain ⟨A17, c17, rfl, -, -⟩ := Kd.R_reads ho; rw [HNY.out] at ho ⊢; have HO17 := aM ho; have HB17 := aM hb; clear ho hb hg hat))
  | ((with_reducible refine gate_builtin (b := .append) (xs := #[.tmp 118, .tmp 119]) rfl ?_); at_builtin; refine Kd.R_append (Kd.int .u8) (w0 := W16) W16.heap.size rfl (.tmp 118) (.tmp 119) 28 5 (.int .u8 0) 1 rfl Try.underlying28 infoU8 rfl (by decide) (by omega) (.slice A17 ny c17) Y 0 [.int .u8 0] (fun _ => True) (fun _ => False) rfl rfl ?aP (fun _ hk => hk.elim) ?aF ?aO ?aB ?aS ?aL ?_; (case aP => exact rfl); (case aB => exact HB17.out); (case aF => exact (fun _ _ => trivial)); (case aO => exact HO17.out); (case aS => (exact HB17.out.size)); (case aL => (have := HNY.out; omega)); (intro v18 w18 ho hb hg hat; obtain ⟨A18, c18, rfl, hl18, hC18⟩ := Kd.R_reads ho; obtain ⟨n18, hn18⟩ : ∃ q, (Y ++ [0]).length = q := ⟨_, rfl⟩; rw [hn18] at hl18 hC18 ⊢; have HN18 := aM hn18; have HC18 := aM hC18; have HB18 := aM hb; clear ho hb hg hat hn18 hC18 HO17 HB17))
  | (go_at_call 24; refine (taketell_calls A18 c18 (Y ++ [0]) n18 HN18.out _ HC18.out hl18 (By.append HYB.out (by intro x hx; rw [List.mem_singleton] at hx; subst hx; decide)) (by have := HN18.out; rw [List.length_append, HNY.out] at this; simp only [List.length_cons, List.length_nil] at this; omega)).mono ?_; rintro _ w19 ⟨hr, hb⟩; rw [HYM.out] at hr; obtain ⟨d1, d2, d3, d4, d5, vb2, bs2, vc2, ct2, rfl, hR2, hT2, -⟩ := hr; obtain ⟨Aq2, cq2, rfl, -, -⟩ := Kd.R_reads hR2; obtain ⟨Dq2, dq2, rfl, -, -⟩ := Kd.R_reads hT2; obtain ⟨nq2, hq2⟩ : ∃ q, bs2.length = q := ⟨_, rfl⟩; obtain ⟨mq2, hm2⟩ : ∃ q, ct2.length = q := ⟨_, rfl⟩; rw [hq2, hm2]; have HB19 := aM hb; clear hb hR2 hT2 hq2 hm2))
 obtain ⟨W20, hW20⟩ : ∃ V, V = w19.alloc (.cells #[.int .i64 d1, .int .u64 d2, .int .i64 d3, .int .i64 d4, .int .i64 d5, .slice Aq2 nq2 cq2, .slice Dq2 mq2 dq2] 57) := ⟨_, rfl⟩
 have HZ20 := aM (show Below w9.heap.size w9 W20 from by
  rw [hW20]
  have h1 := HB18.out.trans (HB19.out.mono HB18.out.size)
  have h := HZ16.out.trans (h1.mono HZ16.out.size)
  exact h.alloc h.size _)
 rw [← hW20]
 clear hW20 HB18 HB19 HZ16 HC16 HC18 HN18
 go_upto_region 14 with (go_at_call 18; refine (takeask_calls Ay cy Y ny HNY.out W20 (Kd.C_below HCY.out HZ20.out) hly HYB.out (by omega)).mono ?_; rintro _ w21 ⟨hr, hb⟩; rw [HYK.out] at hr; obtain ⟨f1, f2, f3, f4, f5, vb3, bs3, rfl, hR3, -⟩ := hr; obtain ⟨Aq3, cq3, rfl, -, -⟩ := Kd.R_reads hR3; obtain ⟨nq3, hq3⟩ : ∃ q, bs3.length = q := ⟨_, rfl⟩; rw [hq3]; have HB21 := aM hb; clear hb hR3 hq3)
 obtain ⟨W22, hW22⟩ : ∃ V, V = w21.alloc (.cells #[.int .i64 f1, .int .u64 f2, .int .i64 f3, .int .i64 f4, .int .i64 f5, .slice Aq3 nq3 cq3] 27) := ⟨_, rfl⟩
 have HZ22 := aM (show Below w9.heap.size w9 W22 from by
  rw [hW22]
  have h := HZ20.out.trans (HB21.out.mono HZ20.out.size)
  exact h.alloc h.size _)
 rw [← hW22]
 clear hW22 HB21 HZ20
 have HU := aM (((Buf.of_R HRY.out).mono (S' := fun i => w8.heap.size ≤ i) (fun i hi _ => hi.2.1)).below HZ22.out)
 obtain ⟨gy, rfl, hgS, hgl⟩ := HU.out.head (by rw [HNY.out]; omega)
 obtain ⟨ub, hub⟩ : ∃ x, IntKind.u64.wrap bi = x := ⟨_, rfl⟩
 have hub0 := (wrU64_range bi).1
 rw [hub] at hub0
 have hqr := tmod_range hub0 (show (0 : Int) < 8 * (ny : Int) by omega)
 obtain ⟨q, hq⟩ : ∃ q : Nat, ub.tmod (8 * (ny : Int)) = (q : Int) := ⟨(ub.tmod (8 * (ny : Int))).toNat, by omega⟩
 rw [hq] at hqr
 have hqe : ub % (8 * (ny : Int)) = (q : Int) := by rw [← Int.tmod_eq_emod_of_nonneg hub0]; exact hq
 have hqn : q < 8 * ny := by omega
 have s5 := wrU64 (8 * (ny : Int)) (by omega) (by omega)
 have s6 := wrI64 (q : Int) (by omega) (by omega)
 have s7 : (8 * (ny : Int) = 0) = False := by simp; omega
 have s8 := wrI64 (8 * (ny : Int)) (by omega) (by omega)
 clear hqr hub0
 go_upto_region 15 with fail
 clear hub hqe hq s5 s7 s8
 obtain ⟨d, hd⟩ : ∃ d, q / 8 = d := ⟨_, rfl⟩
 obtain ⟨j, hj⟩ : ∃ j, q % 8 = j := ⟨_, rfl⟩
 have hj8 : j < 8 := by omega
 have s9 : IntKind.i64.wrap ((q : Int) / 8) = (d : Int) := by rw [wrI64 _ (by omega) (by omega)]; omega
 have s10 : (q : Int) % 8 = (j : Int) := by omega
 have s11 : (q : Int).tmod 8 = (j : Int) := by rw [Int.tmod_eq_emod_of_nonneg (by omega)]; exact s10
 have hqd : d < Y.length := by rw [HNY.out]; omega
 obtain ⟨z, hz, hcz, hfz⟩ := HU.out.at hqd
 have hzr := HYB.out.at hz
 have HUS := aM (fun x : Int => HU.out.set d hqd x)
 have HZ := aM hz
 have HF := aM (show ∀ W, Keep (fun _ => False) W22.drew W → W.cell? ⟨gy, d, none⟩ = some (.int .u8 z) ∧ W.frozen? ⟨gy, d, none⟩ = false from fun W hW => ⟨(World.cell?_of_block (a := ⟨gy, d, none⟩) (hW.block gy hgl (fun h => h))).trans hcz, (World.frozen?_of_block (a := ⟨gy, d, none⟩) (hW.block gy hgl (fun h => h))).trans hfz⟩)
 have d9 : d < ny := by omega
 have d10 : (d : Int) < (ny : Int) := by omega
 clear hz hqd hcz hfz hd hj
 refine re_start [10] (fun _ => False) (by kernel_rfl) (n := 11) (l := (bl 11 0)) (by kernel_rfl) (by kernel_rfl) ?_
 refine et 0 (bl 11 1) rfl (fun w' hR => by go_simp; first | done | with_reducible rfl) rfl ?_
 try simp only [Act.put, pB, pC, pD]
 refine et 1 (bl 11 3) rfl (fun w' hR => by go_simp; first | done | with_reducible rfl) rfl ?_
 try simp only [Act.put, pB, pC, pD]
 refine et 2 (bl 11 7) rfl (fun w' hR => by go_simp; first | done | with_reducible rfl) rfl ?_
 try simp only [Act.put, pB, pC, pD]
 refine et 3 (bl 11 15) rfl (fun w' hR => by go_simp; first | done | with_reducible rfl) rfl ?_
 try simp only [Act.put, pB, pC, pD]
 refine et 4 (bl 11 31) rfl (fun w' hR => by obtain ⟨x0, x1⟩ := HF.out w' hR; go_simp; first | done | with_reducible rfl) rfl ?_
 try simp only [Act.put, pB, pC, pD]
 refine et 5 (bl 11 63) rfl (fun w' hR => by go_simp; first | done | with_reducible rfl) rfl ?_
 try simp only [Act.put, pB, pC, pD]
 refine et 6 (bl 11 127) rfl (fun w' hR => by go_simp; first | done | with_reducible rfl) rfl ?_
 try simp only [Act.put, pB, pC, pD]
 refine et 7 (bl 11 255) rfl (fun w' hR => by go_simp; first | done | with_reducible rfl) rfl ?_
 try simp only [Act.put, pB, pC, pD]
 refine et 8 (bl 11 511) rfl (fun w' hR => by go_simp; first | done | with_reducible rfl) rfl ?_
 try simp only [Act.put, pB, pC, pD]
 refine et 9 (bl 11 1023) rfl (fun w' hR => by go_simp; first | done | with_reducible rfl) rfl ?_
 try simp only [Act.put, pB, pC, pD]
 refine re_free (fuel := 0) 10 rfl (by kernel_rfl) (listed' := (bl 11 2047)) (by kernel_rfl) (by kernel_rfl) (fun K' hK => ?_)
 obtain ⟨x0, x1⟩ := HF.out W22.drew (Keep.refl _ _); go_wp2_with fail
 refine hK.out _ _ trivial ?_
 clear hK K'
 try simp only [Act.put, pB, pC, pD]
 refine re_done (by kernel_rfl) ?_
 have hxb := xor_bit z hzr.1 hzr.2 j hj8
 have hxr := xor8_range z ((2 : Int) ^ j % 256)
 generalize hyy : Go.bits .xor .u8 z ((2 : Int) ^ j % 256) = yy at hxb hxr ⊢
 clear hyy s6 s9 s10 s11 HF x0 x1
 obtain ⟨A7, c7, hv7, hc7, hC7, -⟩ := (HUS.out yy).reads
 rw [List.length_set, HNY.out] at hv7 hc7 hC7
 injection hv7 with hv7 _ hv7'
 subst hv7 hv7'
 obtain ⟨Y2, hY2⟩ : ∃ Y2, Y.set d yy = Y2 := ⟨_, rfl⟩
 have hY2l : Y2.length = ny := by rw [← hY2, List.length_set, HNY.out]
 have hY2b : By Y2 := by
  rw [← hY2]
  intro x hx
  rcases List.mem_or_eq_of_mem_set hx with h | h
  · exact HYB.out x h
  · rw [h]; exact hxr
 have HTU := aM (show readTell Y2 ≠ ((jd, n, (p5, 5, S, cs), q0), 0) from by
  have h := HYT.out d yy z HZ.out hxb (by rw [hY2]; exact hY2b)
  rw [hY2] at h
  exact h)
 rw [hY2] at hC7
 obtain ⟨WS, hWS⟩ : ∃ V, V = (W22.setCell ⟨gy, d, none⟩ (.int .u8 yy)).drew := ⟨_, rfl⟩
 have HCS := aM (show kU8.C WS (some ⟨gy, 0, none⟩) ny Y2 from by rw [hWS]; exact Kd.C_drew hC7)
 have HVS := aM (show Below W7.heap.size W7 WS from by
  rw [hWS]
  have h := HZ9.out.trans (HZ22.out.mono HZ9.out.size)
  exact (h.setCell (p := ⟨gy, d, none⟩) (by show W7.heap.size ≤ gy; have h1 := HB8.out.size; omega) _).drew)
 have HL2 := aM hY2l
 have HY2B := aM hY2b
 rw [← hWS]
 clear hWS hY2 hY2l hY2b hC7 hc7 hxb hxr hzr HU HUS HZ HZ22 HYT HYK HYM HRY HCY HXB HNX HXX HX9 HCX HB9
 obtain ⟨tv, te, htv⟩ : ∃ tv te, readTell Y2 = (tv, te) := ⟨_, _, rfl⟩
 rw [htv] at HTU
 have HRV := aM htv
 clear htv
 by_cases hte : te = 0
 case neg =>
  obtain ⟨t1, t2⟩ := int_ne hte
  clear HTU hte
  go_wp2_with (go_at_call 24; refine (taketell_calls (some ⟨gy, 0, none⟩) cy Y2 ny HL2.out WS HCS.out hly HY2B.out (by omega)).mono ?_; rintro _ w23 ⟨hr, hb⟩; rw [HRV.out] at hr; obtain ⟨e1, e2, e3, e4, e5, vb4, ls, vc4, lt, rfl, hR4, hT4, hx4⟩ := hr; simp only at hx4; subst hx4; obtain ⟨Av, cv, rfl, -, hCv⟩ := Kd.R_reads hR4; obtain ⟨Dv, dv, rfl, -, hDv⟩ := Kd.R_reads hT4; have HCV := aM hCv; have HDV := aM hDv; have HB23 := aM hb; clear hb hR4 hT4 hCv hDv)
  go_ret
  refine ⟨rfl, HA7.out.trans (Below.mono (B := W7.heap.size) ?_ HA7.out.size)⟩
  have h := HVS.out.trans (HB23.out.mono HVS.out.size)
  exact h.alloc h.size _
 case pos =>
  subst hte
  go_upto_region 17 with (go_at_call 24; refine (taketell_calls (some ⟨gy, 0, none⟩) cy Y2 ny HL2.out WS HCS.out hly HY2B.out (by omega)).mono ?_; rintro _ w23 ⟨hr, hb⟩; rw [HRV.out] at hr; obtain ⟨e1, e2, e3, e4, e5, vb4, ls, vc4, lt, rfl, hR4, hT4, hx4⟩ := hr; simp only at hx4; subst hx4; obtain ⟨Av, cv, rfl, -, hCv⟩ := Kd.R_reads hR4; obtain ⟨Dv, dv, rfl, -, hDv⟩ := Kd.R_reads hT4; have HCV := aM hCv; have HDV := aM hDv; have HB23 := aM hb; clear hb hR4 hT4 hCv hDv)
  obtain ⟨W24, hW24⟩ : ∃ V, V = w23.alloc (.cells #[.int .i64 e1, .int .u64 e2, .int .i64 e3, .int .i64 e4, .int .i64 e5, .slice Av ls.length cv, .slice Dv lt.length dv] 57) := ⟨_, rfl⟩
  have HBv := aM (show W24.heap[w23.heap.size]? = some (.cells #[.int .i64 e1, .int .u64 e2, .int .i64 e3, .int .i64 e4, .int .i64 e5, .slice Av ls.length cv, .slice Dv lt.length dv] 57) from by rw [hW24]; exact heap_alloc_new _ _)
  have HV24 := aM (show Below W7.heap.size W7 W24 from by
   rw [hW24]
   have h := HVS.out.trans (HB23.out.mono HVS.out.size)
   exact h.alloc h.size _)
  have HCV24 := aM (show kBlk.C W24 Av ls.length ls from by rw [hW24]; exact Kd.C_alloc HCV.out _)
  have HDV24 := aM (show kPs.C W24 Dv lt.length lt from by rw [hW24]; exact Kd.C_alloc HDV.out _)
  rw [← hW24]
  clear hW24 HCV HDV HB23
  obtain ⟨-, y0, y1, y2, y3, y4, y5, y6⟩ := HT7.out W24 HV24.out
  obtain ⟨⟨v0, v1, v2', v3, v4, v5, v6⟩, -⟩ := cells7 HBv.out
  go_wp2_with (go_at_call 26; refine (same_tellsG jd n p5 5 S e1 e2 e3 e4 e5 cs ls cs.length ls.length rfl rfl q0 lt q0.length lt.length rfl rfl (some adB) Av capB cv (some adC) Dv 2 dv W24 (Kd.C_below HCB7.out HV24.out) HCV24.out (Kd.C_below HLC'.out HV24.out) HDV24.out).mono ?_; rintro _ w25 ⟨⟨bo, rfl, hbo⟩, hb⟩; have HBO := aM (show bo = false from by cases bo; rfl; exact absurd (by rw [hbo rfl]) HTU.out); have hbf := HBO.out; subst hbf; have HB25 := aM hb; clear hb hbo)
  go_ret
  exact ⟨rfl, HA7.out.trans (Below.mono (HV24.out.trans (HB25.out.mono HV24.out.size)) HA7.out.size)⟩
theorem own : ownKnob Try.prog.godebug = none := by kernel_rfl
theorem laidOut : laidOutB Try.prog = true := by kernel_rfl
def IsRow (k : IntKind) (w : World) (a : Option Addr) (len cap : Nat) (zs : List Int) : Prop :=
 (a = none ∧ len = 0 ∧ cap = 0 ∧ zs = []) ∨
 ∃ x, a = some x ∧ len ≤ cap ∧ cap ≤ maxLen ∧ zs.length = cap ∧ (∀ i, i < zs.length → w.cell? (x.add i) = some (.int k (zs.getD i 0))) ∧ ∀ n ∈ zs, (Lit.int k n).wf = true
set_option maxRecDepth 100000 in
theorem lifted (os : Os) (started : os.Started) (H : Type) (enc : TypeId × Value → H) :
 ReturnsInHanded {} Try.checked os 5 .any (Rows.workerBackSpec.pre6 enc Try.prog Try.f5 Rows.workerBackRow.domain false) (Rows.workerBackSpec.post enc Try.prog Try.f5 false true false false) := by
 refine returnsInHanded_of_change_sized (C := Try.checked) own started (by kernel_rfl) Try.func5
  (ChangeSpec.witness6 (enc := enc) (C := Try.checked) false ⟨#[], #[.agg #[.int .u8 0, .int .u8 0, .int .u8 0, .slice none 0 0], .slice none 0 0, .int .u8 0, .int .u64 0, .int .i64 0, .int .i64 0], []⟩ 8 (by kernel_rfl) (by kernel_rfl) (by kernel_rfl) (by kernel_rfl)) ?_
 intro W base args ds gs before hval0 hW hcnd hsz0 _
 have hsz : (DataW.weightsEach Try.prog (Try.f5.params.toList ++ Rows.workerBackSpec.plain.varTypes Try.prog) (ds ++ gs)).all (· ≤ reachBytes) = true := hsz0
 have hval : ∀ (j : Nat) t v, Try.f5.params[j]? = some t → args[j]? = some v → Value.okWide Try.prog W .any base t v := hval0
 have hW' := hW
 obtain ⟨p, q, hA0, hV, rfl, hfz, hnd⟩ := hW
 have hA : DataW.TrodAll enc Try.prog W 0 (fun _ => true) true Try.f5.params.toList args.toList ds p := hA0
 rw [Try.params5] at hA hval hsz
 obtain ⟨v0, vs0, d0, ds0, p0, q0, hargs, rfl, rfl, h0, r0⟩ := trodAll_cons hA
 obtain ⟨v1, vs1, d1, ds1, p1, q1, rfl, rfl, rfl, h1, r1⟩ := trodAll_cons r0
 obtain ⟨v2, vs2, d2, ds2, p2, q2, rfl, rfl, rfl, h2, r2⟩ := trodAll_cons r1
 obtain ⟨v3, vs3, d3, ds3, p3, q3, rfl, rfl, rfl, h3, r3⟩ := trodAll_cons r2
 obtain ⟨v4, vs4, d4, ds4, p4, q4, rfl, rfl, rfl, h4, r4⟩ := trodAll_cons r3
 obtain ⟨v5, vs5, d5, ds5, p5, q5, rfl, rfl, rfl, h5, r5⟩ := trodAll_cons r4
 obtain ⟨rfl, rfl, rfl⟩ := trodAll_nil r5
 obtain rfl : args = #[v0, v1, v2, v3, v4, v5] := by cases args; simp_all
 obtain ⟨rfl, rfl⟩ := trodVars_none hV
 obtain ⟨c0, rfl, hcs0⟩ := okWide_struct Try.underlying30 (hval 0 30 v0 rfl rfl)
 have k0 := h0
 have lt0 : ∀ x ∈ p0, x.block < W.heap.size := by obtain ⟨m, hm⟩ := k0; exact DataW.trod_lt m _ _ _ hm
 obtain ⟨fuel0, hf0⟩ := h0
 obtain ⟨x0, hK0, hok0⟩ := opens_spec _ _ _ _ _ _ _ _ _ hf0
 obtain ⟨a1, len1, cap1, rfl⟩ := okWide_slice Try.underlying28 (hval 1 28 v1 rfl rfl)
 have k1 := h1
 have lt1 : ∀ x ∈ p1, x.block < W.heap.size := by obtain ⟨m, hm⟩ := k1; exact DataW.trod_lt m _ _ _ hm
 obtain ⟨z1, w1⟩ : ∃ zs, IsRow .u8 W a1 len1 cap1 zs := by
  obtain ⟨fuel, hf⟩ := h1
  rcases open_ints Try.underlying28 Try.underlying5 (by kernel_rfl) hf with ⟨hcs, _⟩ | ⟨x, l, c, zs, hcs, _, hl, hm, hz, _, hcell, hwz⟩
  · simp [Value.cells] at hcs
    obtain ⟨rfl, rfl, rfl⟩ := hcs
    exact ⟨[], .inl ⟨rfl, rfl, rfl, rfl⟩⟩
  · simp [Value.cells] at hcs
    obtain ⟨rfl, rfl, rfl⟩ := hcs
    exact ⟨zs, .inr ⟨_, rfl, hl, hm, by simpa using hz, hcell, hwz⟩⟩
 have y1 : len1 * 1 ≤ 140737488351232 := sized_ints hsz (j := 1) (t := 28) rfl rfl Try.underlying28 Try.underlying5 (by kernel_rfl) (by kernel_rfl) h1
 obtain ⟨l1, rfl, hr1, hm1, hwf1, hcap1⟩ := ReadsInt.ofRowC w1
 obtain ⟨a2, rfl, rfl, rfl, w2⟩ := open_int Try.underlying5 (hval 2 5 v2 rfl rfl) h2
 obtain ⟨a3, rfl, rfl, rfl, w3⟩ := open_int Try.underlying22 (hval 3 22 v3 rfl rfl) h3
 obtain ⟨a4, rfl, rfl, rfl, w4⟩ := open_int Try.underlying3 (hval 4 3 v4 rfl rfl) h4
 obtain ⟨a5, rfl, rfl, rfl, w5⟩ := open_int Try.underlying3 (hval 5 3 v5 rfl rfl) h5
 clear hA0 hval0 hsz0 hsz
 refine (walk W c0 x0 hK0 hok0 _ _ l1 (Kd.C_of_reads (d := (0 : Int)) (h1 := fun _ => rfl) hr1) hcap1 y1 hwf1 a2 w2 a3 w3 a4 w4 a5 w5).mono fun e W' ⟨he, bel⟩ => ?_
 subst he
 exact ⟨_, rfl, _, _, _, [], _, [], hW', trodAll_mk1 (shut_bool Try.underlying4 _), (trodAll_cons_mk (Below.trod laidOut (by kernel_rfl) (of_decide_eq_true (by kernel_rfl)) k0 bel lt0) (trodAll_cons_mk (Below.trod laidOut (by kernel_rfl) (of_decide_eq_true (by kernel_rfl)) k1 bel lt1) (trodAll_cons_mk (shut_int Try.underlying5 w2) (trodAll_cons_mk (shut_int Try.underlying22 w3) (trodAll_cons_mk (shut_int Try.underlying3 w4) (trodAll_cons_mk (shut_int Try.underlying3 w5) trodAll_mk0)))))), rfl, bel.frame _, fun h => by cases h⟩
theorem over : Rows.workerBackRow.holds Try.pinned (OpenSpec.ofChange Rows.workerBackSpec) :=
 OpenClaim.holds_of_wide 5 Try.f5 rfl rfl rfl rfl rfl rfl rfl ⟨rfl, rfl, rfl, rfl, rfl⟩ rfl rfl rfl rfl rfl (by kernel_rfl) Try.func5 (by kernel_rfl)
  (of_decide_eq_true (by kernel_rfl)) (by unfold Func.isWrapper; first | (rw [if_pos (by decide +kernel)]; kernel_rfl) | (rw [if_neg (by decide +kernel)]; exact ⟨rfl, rfl⟩))
  (fun os started H enc _ => lifted os started H enc)
end Go.Proofs.Ytnckonglodmfeaa.WorkerBack
namespace Go.Proofs.Ytnckonglodmfeaa
theorem workerBack_holds : Rows.WorkerBackSaid := WorkerBack.over
#print axioms workerBack_holds
end Go.Proofs.Ytnckonglodmfeaa
