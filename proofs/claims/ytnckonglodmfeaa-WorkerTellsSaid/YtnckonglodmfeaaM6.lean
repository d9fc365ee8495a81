/- Contracts and plain facts that the statements' proofs use (part 6). -/
import Derived.Test.YtnckonglodmfeaaM2
import Derived.Test.YtnckonglodmfeaaM3
import Derived.Test.YtnckonglodmfeaaM4
import Derived.Test.YtnckonglodmfeaaM5
set_option linter.unusedVariables false
set_option linter.unusedSimpArgs false
namespace Go.Proofs.Ytnckonglodmfeaa.Ik
open Ls Go.RowKit Go.Proofs.YtnckonglodmfeaaW.PrintWords Go.Proofs.YtnckonglodmfeaaW.PrintLast Go.Proofs.YtnckonglodmfeaaW.PrintMore B R S Is Js
theorem rput_num (l : List Int) (n : Nat) (hn : l.length = n) (A : Option Addr) (c : Nat) (x : Int) (h0 : 0 ≤ x) (h1 : x < 18446744073709551616) (w : World) (hC : kU8.C w A n l) (hll : n ≤ 100000000) :
 Calls Try.prog 41 #[.slice A n c, .int .u64 x] w fun e w' => ∃ m A' n' c', e = .returned (.slice A' n' c') ∧ m = l ++ fieldL x ∧ m.length = n' ∧ n' ≤ n + 10 ∧ n' ≤ c' ∧ kU8.C w' A' n' m ∧ Below w.heap.size w w' := by
 have h := rput_field l n hn A c x w hC hll
 rw [wrU64 x h0 h1] at h
 exact h
def OkK (b : Blk) : Prop := OkB b ∧ (1 ≤ b.2.1 ∧ b.2.1 ≤ 3) ∧ ∀ i ∈ b.1, 1 ≤ i.1 ∧ i.1 ≤ 8
set_option maxHeartbeats 40000000 in
set_option maxRecDepth 100000 in
theorem rbytes_calls (l : List Int) (nl : Nat) (hnl : l.length = nl) (Al : Option Addr) (cl : Nat) (bs : List Blk) (A : Option Addr) (c : Nat) (w : World) (hl : kU8.C w Al nl l) (hlc : nl ≤ cl) (hC : kBlk.C w A bs.length bs) (hll : nl ≤ 100) (hb16 : bs.length ≤ 16) (hok : ∀ b ∈ bs, OkK b) :
 Calls Try.prog 90 #[.slice Al nl cl, .slice A bs.length c] w fun e w' => ∃ m A' n' c', e = .returned (.slice A' n' c') ∧ m = l ++ blksL bs ∧ m.length = n' ∧ n' ≤ c' ∧ kU8.C w' A' n' m ∧ Below w.heap.size w w' := by
 have mixed : Try.prog.follows .mixedOrders = true := by kernel_rfl
 have HMN := aM hnl
 have HCM := aM hl
 have HME := aM (rfl : l = l)
 have HB := aM (Below.refl w.heap.size w)
 have HC := aM hC
 have HOK := aM hok
 clear hnl hl hC hok
 go_enter Try.func90, Try.ntmps90
 go_wp2_with (go_at_call 41; (first | refine (rput_num _ _ HMN.out _ _ _ (by omega) (by omega) _ (by first | exact HCM.out | exact Kd.C_alloc HCM.out _) (by omega)).mono ?_ | refine (rput_field _ _ HMN.out _ _ _ _ (by first | exact HCM.out | exact Kd.C_alloc HCM.out _) (by omega)).mono ?_); rintro _ w3 ⟨m3, A3, n3, c3, rfl, hm3, hmn3, hn3, hc3, hCm3, hb3⟩; rw [HME.out] at hm3; have HB3 := aM (show Below w.heap.size w w3 from by first | exact HB.out.trans (hb3.mono HB.out.size) | exact (HB.out.alloc HB.out.size _).trans (hb3.mono (HB.out.alloc HB.out.size _).size)); clear HME HMN HCM HB; have HME := aM hm3; have HMN := aM hmn3; have HCM := aM hCm3; have HB := HB3; have HB3x := aM hb3; clear HB3 hm3 hmn3 hCm3 hb3)
 clear HB3x
 go_loopw [0, 5] (fun vb vi wr => ∃ (j : Nat) (m : List Int) (A' : Option Addr) (n' c' : Nat), j ≤ bs.length ∧ vi = .int .i64 j ∧ vb = .slice A' n' c' ∧ n' ≤ 200 + 50000 * j ∧ n' ≤ c' ∧ Aside0 (m.length = n') ∧ Aside0 (m = l ++ fieldL bs.length ++ ((bs.take j).map blkL).flatten) ∧ Aside0 (kU8.C wr A' n' m) ∧ Aside0 (Below w.heap.size w wr)) (fun _ vi _ => bs.length - (intOf vi).toNat)
 case atStart => exact ⟨0, m3, A3, n3, c3, by omega, rfl, rfl, by omega, hc3, HMN, ⟨by simpa using HME.out⟩, HCM, HB⟩
 case round =>
  clear HMN HCM HME HB
  obtain ⟨wo, hwo⟩ : ∃ wo, wo = wr := ⟨_, rfl⟩
  subst hwo
  obtain ⟨j, m, A0, n0, c0, hj, rfl, rfl, hn0, hc0, HMN, HME, HCM, HB⟩ := hrel
  by_cases hjl : j < bs.length
  · obtain ⟨⟨is, k, a, t, e⟩, hx⟩ : ∃ x, bs[j]? = some x := ⟨_, List.getElem?_eq_getElem hjl⟩
    obtain ⟨⟨hi4, hre, hri⟩, hk3, hkk⟩ := HOK.out _ (List.mem_of_getElem? hx)
    simp only at hi4 hk3
    have HK3 := aM hk3
    clear hk3
    have HRI := aM hri
    have HKK := aM hkk
    have HMT := aM (map_take blkL hx)
    obtain ⟨ad, A1, n1, rfl, b0, b1, b2, b3, b4, hn1, hC1⟩ := blk_cells HC.out hx
    have HC1 := aM hC1
    have HBX := aM (show ∀ W', Below w.heap.size w W' → W'.cell? (ad.add (j * 5)) = some (.slice A1 is.length n1) ∧ W'.cell? ⟨(ad.add (j * 5)).block, (ad.add (j * 5)).off + 1, none⟩ = some (.int .u8 k) ∧ W'.cell? ⟨(ad.add (j * 5)).block, (ad.add (j * 5)).off + 2, none⟩ = some (.int .i64 a) ∧ W'.cell? ⟨(ad.add (j * 5)).block, (ad.add (j * 5)).off + 3, none⟩ = some (.int .i64 t) ∧ W'.cell? ⟨(ad.add (j * 5)).block, (ad.add (j * 5)).off + 4, none⟩ = some (.int .i64 e) from fun W' h => ⟨pw_cell_below h b0, pw_cell_below h b1, pw_cell_below h b2, pw_cell_below h b3, pw_cell_below h b4⟩)
    clear hx hC1 b0 b1 b2 b3 b4 hri hkk hre
    obtain ⟨b0, b1, b2, b3, b4⟩ := HBX.out wo HB.out
    go_wp2_with ((go_at_call 41; (first | refine (rput_num _ _ HMN.out _ _ _ (by omega) (by omega) _ (by first | exact HCM.out | exact Kd.C_alloc HCM.out _) (by omega)).mono ?_ | refine (rput_field _ _ HMN.out _ _ _ _ (by first | exact HCM.out | exact Kd.C_alloc HCM.out _) (by omega)).mono ?_); rintro _ w3 ⟨m3, A3, n3, c3, rfl, hm3, hmn3, hn3, hc3, hCm3, hb3⟩; rw [HME.out] at hm3; have HB3 := aM (show Below w.heap.size w w3 from by first | exact HB.out.trans (hb3.mono HB.out.size) | exact (HB.out.alloc HB.out.size _).trans (hb3.mono (HB.out.alloc HB.out.size _).size)); clear HME HMN HCM HB; have HME := aM hm3; have HMN := aM hmn3; have HCM := aM hCm3; have HB := HB3; have HB3x := aM hb3; clear HB3 hm3 hmn3 hCm3 hb3); clear b0 b1 b2 b3 b4; obtain ⟨b0, b1, b2, b3, b4⟩ := HBX.out w3 HB.out)
    obtain ⟨E1, hE1⟩ : ∃ E1, l ++ fieldL bs.length ++ ((bs.take j).map blkL).flatten ++ fieldL is.length = E1 := ⟨_, rfl⟩
    rw [hE1] at HME
    have HE1 := aM hE1
    have HE1L := aM (show E1.length ≤ 200 + 50000 * j + 10 from by rw [← HME.out, HMN.out]; omega)
    clear HB3x hE1
    go_loopw [0, 6] (fun vb vi wi => ∃ (i : Nat) (m : List Int) (A' : Option Addr) (n' c' : Nat), i ≤ is.length ∧ vi = .int .i64 i ∧ vb = .slice A' n' c' ∧ n' ≤ 200 + 50000 * j + 10 + 100 * i ∧ n' ≤ c' ∧ Aside0 (m.length = n') ∧ Aside0 (m = E1 ++ ((is.take i).map insL).flatten) ∧ Aside0 (kU8.C wi A' n' m) ∧ Aside0 (Below w.heap.size w wi)) (fun _ vi _ => is.length - (intOf vi).toNat)
    case atStart => exact ⟨0, m3, A3, n3, c3, by omega, rfl, rfl, by omega, hc3, HMN, ⟨by simpa using HME.out⟩, HCM, HB⟩
    case round =>
     clear HMN HCM HME HB b0 b1 b2 b3 b4 hc3 hn3
     obtain ⟨wi, hwi⟩ : ∃ wi, wi = wr := ⟨_, rfl⟩
     subst hwi
     obtain ⟨i, m, A0, n0, c0, hi, rfl, rfl, hn0, hc0, HMN, HME, HCM, HB⟩ := hrel
     obtain ⟨b0, b1, b2, b3, b4⟩ := HBX.out wi HB.out
     by_cases hil : i < is.length
     · obtain ⟨⟨k1, op, d, a1, bb, nn, args⟩, hq⟩ : ∃ q, is[i]? = some q := ⟨_, List.getElem?_eq_getElem hil⟩
       obtain ⟨hq1, hq2⟩ := HRI.out _ (List.mem_of_getElem? hq)
       have hk8 := HKK.out _ (List.mem_of_getElem? hq)
       simp only at hq2 hk8
       have HQ8 := aM hk8
       have HNN := aM hq1.2.2.2.2.2.1
       have HAL := aM hq2
       have HMT1 := aM (map_take insL hq)
       have HQL := aM (ins_letters (k1, op, d, a1, bb, nn, args) hk8)
       have HQN := aM (ins_len (k1, op, d, a1, bb, nn, args) hq2 hq1.2.2.2.2.2.1)
       obtain ⟨ad2, A2, n2, rfl, i0, i1, i2, i3, i4, i5, i6, hn2, hC2⟩ := ins_cells (Kd.C_below HC1.out HB.out) hq
       have HC2 := aM hC2
       clear hq hq1 hq2 hk8 hC2
       have HIX := aM (fun W' h => box_cells (w := wi) (W' := W') (k := k1) (op := op) (d := d) (a := a1) (b := bb) (n := nn) (s := .slice A2 args.length n2) (e := 92) h)
       have HSZ := aM (World.size_alloc wi (.cells #[.int .u8 k1, .int .u8 op, .int .i64 d, .int .i64 a1, .int .i64 bb, .int .i64 nn, .slice A2 args.length n2] 92))
       have HBI := aM (Below.refl (wi.heap.size + 1) (wi.alloc (.cells #[.int .u8 k1, .int .u8 op, .int .i64 d, .int .i64 a1, .int .i64 bb, .int .i64 nn, .slice A2 args.length n2] 92)))
       have HBI0 := aM (show Below wi.heap.size wi (wi.alloc (.cells #[.int .u8 k1, .int .u8 op, .int .i64 d, .int .i64 a1, .int .i64 bb, .int .i64 nn, .slice A2 args.length n2] 92)) from (Below.refl _ _).alloc (Nat.le_refl _) _)
       have HNS := aM (names_at k1 HQ8.out)
       have HNL := aM (names_len k1 HQ8.out)
       have hns := names_sz k1
       go_wp2_with (first | ((go_at_call 41; (first | refine (rput_num _ _ HMN.out _ _ _ (by omega) (by omega) _ (by first | exact HCM.out | exact Kd.C_alloc HCM.out _) (by omega)).mono ?_ | refine (rput_field _ _ HMN.out _ _ _ _ (by first | exact HCM.out | exact Kd.C_alloc HCM.out _) (by omega)).mono ?_); rintro _ w3 ⟨m3, A3, n3, c3, rfl, hm3, hmn3, hn3, hc3, hCm3, hb3⟩; rw [HME.out] at hm3; have HB3 := aM (show Below w.heap.size w w3 from by first | exact HB.out.trans (hb3.mono HB.out.size) | exact (HB.out.alloc HB.out.size _).trans (hb3.mono (HB.out.alloc HB.out.size _).size)); clear HME HMN HCM HB; have HME := aM hm3; have HMN := aM hmn3; have HCM := aM hCm3; have HB := HB3; have HB3x := aM hb3; clear HB3 hm3 hmn3 hCm3 hb3); have HBI2 := aM (HBI.out.trans (HB3x.out.mono (by have h1 := HBI.out.size; have h2 := HSZ.out; omega))); clear HBI HB3x; have HBI := HBI2; clear HBI2 i0 i1 i2 i3 i4 i5 i6 b0 b1 b2 b3 b4; obtain ⟨c0', c1', c2', c3', c4', c5', c6'⟩ := HIX.out w3 HBI.out) | (go_at_call 124; refine (names_calls k1 _ HQ8.out).mono ?_; rintro _ w4 ⟨rfl, hb⟩; have HB4 := aM (HB.out.trans (hb.mono HB.out.size)); have HCM4 := aM (Kd.C_below HCM.out hb); have HBI4 := aM (HBI.out.trans (hb.mono (by have h1 := HBI.out.size; have h2 := HSZ.out; omega))); clear HB HCM HBI hb c0' c1' c2' c3' c4' c5' c6'))
       obtain ⟨E2, hE2⟩ : ∃ E2, E1 ++ ((is.take i).map insL).flatten ++ fieldL k1 = E2 := ⟨_, rfl⟩
       rw [hE2] at HME
       have HE2 := aM hE2
       clear hE2
       go_loopw [0, 9] (fun vb vi wj => ∃ (q : Nat) (m : List Int) (A' : Option Addr) (n' c' : Nat), q ≤ (namesA k1).size ∧ vi = .int .i64 q ∧ vb = .slice A' n' c' ∧ n' ≤ 900000 + 40 * q ∧ n' ≤ c' ∧ Aside0 (m.length = n') ∧ Aside0 (m = E2 ++ (((letters k1).take q).map (fldL (k1, op, d, a1, bb, nn, args))).flatten) ∧ Aside0 (kU8.C wj A' n' m) ∧ Aside0 (Below w.heap.size w wj) ∧ Aside0 (Below (wi.heap.size + 1) (wi.alloc (.cells #[.int .u8 k1, .int .u8 op, .int .i64 d, .int .i64 a1, .int .i64 bb, .int .i64 nn, .slice A2 args.length n2] 92)) wj)) (fun _ vi _ => (namesA k1).size - (intOf vi).toNat)
       case atStart => exact ⟨0, m3, A3, n3, c3, by omega, rfl, rfl, by omega, hc3, HMN, ⟨by simpa using HME.out⟩, HCM4, HB4, HBI4⟩
       case round =>
        clear HMN HCM4 HME HB4 HBI4 hc3 hn3
        obtain ⟨wj, hwj⟩ : ∃ wj, wj = wr := ⟨_, rfl⟩
        subst hwj
        obtain ⟨q, m, A0, n0, c0, hq, rfl, rfl, hn0, hc0, HMN, HME, HCM, HB, HBI⟩ := hrel
        by_cases hqn : q < (namesA k1).size
        · obtain ⟨hL1, hL2⟩ := HNS.out q hqn
          obtain ⟨L, hLL⟩ : ∃ L, (namesA k1)[q].toNat = L := ⟨_, rfl⟩
          rw [hLL] at hL1 hL2
          have HLL := aM hLL
          have HL2 := aM hL2
          have HT := aM (map_take (fldL (k1, op, d, a1, bb, nn, args)) hL1)
          have HXJ := aM (show ∀ W', Keep (fun _ => False) wj.drew W' → BoxC W' wi.heap.size k1 op d a1 bb nn (.slice A2 args.length n2) from fun W' h => HIX.out W' (Keep.below_then HBI.out.drew h (by have h1 := HBI.out.size; have h2 := HSZ.out; have h3 : wj.drew.heap.size = wj.heap.size := rfl; omega) (fun _ _ => id)))
          clear hLL hL1 hL2
          go_wp2_with fail
          refine rk_start (fun _ => False) (by kernel_rfl) (n := 7) (l := (bl 7 0)) (by kernel_rfl) (by kernel_rfl) ?_
          refine kt 0 (bl 7 1) rfl (fun w' hR => by go_simp; first | done | with_reducible rfl) rfl ?_
          try simp only [Act.put, pB, pC, pD]
          refine kt 1 (bl 7 3) rfl (fun w' hR => by obtain ⟨x0, x1, x2, x3, x4, x5, x6⟩ := HXJ.out w' hR; go_simp; first | done | with_reducible rfl) rfl ?_
          try simp only [Act.put, pB, pC, pD]
          refine kt 2 (bl 7 7) rfl (fun w' hR => by go_simp; first | done | with_reducible rfl) rfl ?_
          try simp only [Act.put, pB, pC, pD]
          refine kt 3 (bl 7 15) rfl (fun w' hR => by go_simp; first | done | with_reducible rfl) rfl ?_
          try simp only [Act.put, pB, pC, pD]
          refine kt 4 (bl 7 31) rfl (fun w' hR => by go_simp; first | done | with_reducible rfl) rfl ?_
          try simp only [Act.put, pB, pC, pD]
          refine rk_step (fuel := 1) 5 rfl (by kernel_rfl) (listed' := (bl 7 63)) (by kernel_rfl) (by kernel_rfl) (fun K' hK => ?_)
          go_wp2_with (go_at_call 125; rw [HLL.out]; refine (rput_calls m n0 HMN.out A0 c0 k1 op d a1 bb nn args A2 n2 L HL2.out _ (Kd.C_drew HCM.out) hc0 (Kd.C_below HC2.out (Below.drew (HBI0.out.trans (HBI.out.mono (by omega))))) HAL.out HNN.out (by omega)).mono ?_; rintro _ w3 ⟨m3, A3, n3, c3, rfl, hm3, hmn3, hn3, hc3, hCm3, hb3⟩; rw [HME.out] at hm3; have HME3 := aM hm3; have HMN3 := aM hmn3; have HCM3 := aM hCm3; have HB3 := aM hb3; clear hm3 hmn3 hCm3 hb3)
          refine hK.out _ _ (Keep.of_below HB3.out) ?_
          clear hK K'
          try simp only [Act.put, pB, pC, pD]
          refine kt 6 (bl 7 127) rfl (fun w' hR => by go_simp; first | done | with_reducible rfl) rfl ?_
          try simp only [Act.put, pB, pC, pD]
          refine rk_done (by kernel_rfl) ?_
          go_wp2
          go_roundw
          case rel => exact ⟨q + 1, m3, A3, n3, c3, by omega, by go_num, rfl, by omega, hc3, HMN3, ⟨by rw [HME3.out, HT.out, List.append_assoc]⟩, HCM3, ⟨HB.out.drew.trans (HB3.out.mono HB.out.size)⟩, ⟨HBI.out.drew.trans (HB3.out.mono (by have h1 := HBI.out.size; have h2 := HSZ.out; have h3 : wj.drew.heap.size = wj.heap.size := rfl; omega))⟩⟩
          case measure => simp [intOf]; omega
        · obtain rfl : q = (namesA k1).size := by omega
          have HMI := aM (show m = E1 ++ ((is.take (i + 1)).map insL).flatten from by
           rw [HME.out, ← HNL.out, List.take_length, HMT1.out, HQL.out, ← HE2.out]
           simp [List.append_assoc])
          have hn9 : n0 ≤ 200 + 50000 * j + 10 + 100 * (i + 1) := by
           have h1 := HMN.out
           rw [HMI.out, List.length_append] at h1
           have h2 := insl_len (is.take (i + 1)) (fun z hz => HRI.out z (List.mem_of_mem_take hz))
           rw [List.length_take] at h2
           have h3 := HE1L.out
           omega
          go_wp2
          go_roundw
          case rel => exact ⟨i + 1, m, A0, n0, c0, by omega, by go_num, rfl, hn9, hc0, HMN, HMI, HCM, HB⟩
          case measure => simp [intOf]; omega
     · obtain rfl : i = is.length := by omega
       have HSZ := aM (World.size_alloc wi (.cells #[.int .u8 k, .int .i64 a, .int .i64 t, .int .i64 e] 82))
       have HEX := aM (show ∀ W', Below (wi.heap.size + 1) (wi.alloc (.cells #[.int .u8 k, .int .i64 a, .int .i64 t, .int .i64 e] 82)) W' → W'.cell? ⟨wi.heap.size, 0, none⟩ = some (.int .u8 k) ∧ W'.cell? ⟨wi.heap.size, 1, none⟩ = some (.int .i64 a) ∧ W'.cell? ⟨wi.heap.size, 2, none⟩ = some (.int .i64 t) ∧ W'.cell? ⟨wi.heap.size, 3, none⟩ = some (.int .i64 e) from fun W' h => by
        have g := below_cells (h.mono (by rw [HSZ.out]; exact Nat.le_refl _))
        exact ⟨cell_at g 0 _ rfl, cell_at g 1 _ rfl, cell_at g 2 _ rfl, cell_at g 3 _ rfl⟩)
       have HBI := aM (Below.refl (wi.heap.size + 1) (wi.alloc (.cells #[.int .u8 k, .int .i64 a, .int .i64 t, .int .i64 e] 82)))
       have HK3' := HK3.out
       rcases (by omega : k = 1 ∨ k = 2 ∨ k = 3) with rfl | rfl | rfl
       all_goals
        clear HK3'
        go_wp2_with (first | ((go_at_call 41; (first | refine (rput_num _ _ HMN.out _ _ _ (by omega) (by omega) _ (by first | exact HCM.out | exact Kd.C_alloc HCM.out _) (by omega)).mono ?_ | refine (rput_field _ _ HMN.out _ _ _ _ (by first | exact HCM.out | exact Kd.C_alloc HCM.out _) (by omega)).mono ?_); rintro _ w3 ⟨m3, A3, n3, c3, rfl, hm3, hmn3, hn3, hc3, hCm3, hb3⟩; rw [HME.out] at hm3; have HB3 := aM (show Below w.heap.size w w3 from by first | exact HB.out.trans (hb3.mono HB.out.size) | exact (HB.out.alloc HB.out.size _).trans (hb3.mono (HB.out.alloc HB.out.size _).size)); clear HME HMN HCM HB; have HME := aM hm3; have HMN := aM hmn3; have HCM := aM hCm3; have HB := HB3; have HB3x := aM hb3; clear HB3 hm3 hmn3 hCm3 hb3); have HBI2 := aM (HBI.out.trans (HB3x.out.mono (by have h1 := HBI.out.size; have h2 := HSZ.out; omega))); clear HBI HB3x; have HBI := HBI2; clear HBI2; (try clear b0 b1 b2 b3 b4); (try clear c0' c1' c2' c3'); obtain ⟨c0', c1', c2', c3'⟩ := HEX.out w3 HBI.out) | (go_at_call 116; refine (rtakes_calls _ _ _ _ _).mono ?_; rintro _ w4 ⟨rfl, hb⟩; (first | rw [show takesB 1 = false from rfl] | rw [show takesB 2 = true from rfl] | rw [show takesB 3 = true from rfl]); have HB4 := aM (HB.out.trans (hb.mono HB.out.size)); have HCM4 := aM (Kd.C_below HCM.out hb); have HBI4 := aM (HBI.out.trans (hb.mono (by have h1 := HBI.out.size; have h2 := HSZ.out; omega))); clear HB HCM HBI hb c0' c1' c2' c3'; have HB := HB4; have HCM := HCM4; have HBI := HBI4; clear HB4 HCM4 HBI4; obtain ⟨c0', c1', c2', c3'⟩ := HEX.out w4 HBI.out))
        go_roundw
        case rel => exact ⟨j + 1, _, _, _, _, by omega, by go_num, rfl, by omega, by assumption, HMN, ⟨by rw [HME.out, HMT.out, List.take_length, ← HE1.out]; simp [blkL, endL, fieldsL, List.append_assoc]⟩, HCM, HB⟩
        case measure => simp [intOf]; omega
  · obtain rfl : j = bs.length := by omega
    go_wp2
    go_ret
    exact ⟨m, A0, n0, c0, rfl, by rw [HME.out, List.take_length]; simp [blksL], HMN.out, hc0, HCM.out, HB.out⟩
end Go.Proofs.Ytnckonglodmfeaa.Ik
namespace Go.Proofs.Ytnckonglodmfeaa.Ik
open Ls Go.RowKit Go.Proofs.YtnckonglodmfeaaW.PrintWords Go.Proofs.YtnckonglodmfeaaW.PrintLast Go.Proofs.YtnckonglodmfeaaW.PrintMore B R S Is Js
theorem ins_kind {v t : Int} {i : Ins} (h : insErr v t i = 0) : 1 ≤ i.1 ∧ i.1 ≤ 8 := by
 unfold insErr at h
 have hm : (if t < 0 then (6 : Int) else 8) ≤ 8 := by split <;> decide
 by_cases hb : i.1 < 1 ∨ (if t < 0 then (6 : Int) else 8) < i.1 ∨ plainB i = false ∨ (i.1 = 3 ∧ (i.2.1 < 1 ∨ 7 < i.2.1))
 · rw [if_pos hb] at h; cases h
 · simp only [not_or] at hb
   omega
theorem end_kind {v m x : Int} {e : IEnd} (h : endErr v m x e = 0) : 1 ≤ e.1 ∧ e.1 ≤ 3 := by
 obtain ⟨k, a, t, e⟩ := e
 unfold endErr at h
 simp only at h ⊢
 by_cases hb : k < 1 ∨ 3 < k ∨ (k = 1 ∧ (a ≠ 0 ∨ e ≠ 0)) ∨ (k = 3 ∧ (t ≠ 0 ∨ e ≠ 0))
 · rw [if_pos hb] at h; cases h
 · omega
theorem blks_okk {m s : Int} {most : Nat} {l : List Blk} (hm : most ≤ 400) (h : blocksErr m s most l = 0) (hR : ∀ b ∈ l, BlkR b) : ∀ b ∈ l, OkK b := by
 intro b hb
 have h0 := blks_ok hm h hR b hb
 have h1 := firstN_zero h _ (List.mem_map_of_mem hb)
 unfold blkErr at h1
 split at h1
 · cases h1
 · exact ⟨h0, end_kind (firstN_zero h1 _ (List.mem_append_right _ List.mem_cons_self)), fun i hi => ins_kind (firstN_zero h1 _ (List.mem_append_left _ (List.mem_map_of_mem hi)))⟩
theorem fun_okk {p v : Int} {l : List Blk} (h : funcErr (p, v, l) = 0) (hR : ∀ b ∈ l, BlkR b) : l.length ≤ 16 ∧ ∀ b ∈ l, OkK b := by
 unfold funcErr at h
 split at h
 · cases h
 · rename_i h1
   simp only [not_or, Nat.not_lt] at h1
   exact ⟨h1.2.2.2.2.2, blks_okk (by decide) h hR⟩
end Go.Proofs.Ytnckonglodmfeaa.Ik
namespace Go.Proofs.Ytnckonglodmfeaa.Ik
open B Ls Is Js Gs
abbrev Ask := Int × Int × Int × Fun
def zeroAsk : Ask := (0, 0, 0, (0, 0, []))
def openL (kind : Int) (b : List Int) : List Int × Int :=
 if (takeL b).2.2.2 ≠ 0 then ([], (takeL b).2.2.2) else if (takeL b).2.2.1 ≠ b.length then ([], 5) else if (takeL b).1 ≠ kind then ([], 20) else ((takeL b).2.1, 0)
def sHead (s : St) : (Int × Int × Int) × St :=
 match sBelow 16 s with
 | (j, s1) => match num s1.1 s1.2 with
  | (n, s2) => match sBelow 9 s2 with
   | (r, s3) => ((j, n, r), s3)
def readAsk (b : List Int) : Ask × Int :=
 if (openL 2 b).2 ≠ 0 then (zeroAsk, (openL 2 b).2)
 else if (sHead ((openL 2 b).1, 0)).2.2 ≠ 0 then (zeroAsk, (sHead ((openL 2 b).1, 0)).2.2)
 else if (sFun (sHead ((openL 2 b).1, 0)).2.1).2 ≠ 0 then (zeroAsk, (sFun (sHead ((openL 2 b).1, 0)).2.1).2)
 else (((sHead ((openL 2 b).1, 0)).1.1, (sHead ((openL 2 b).1, 0)).1.2.1, (sHead ((openL 2 b).1, 0)).1.2.2, (sFun (sHead ((openL 2 b).1, 0)).2.1).1), 0)
def askErr (a : Ask) : Int := if funcErr a.2.2.2 ≠ 0 then 30 else if a.1 < 0 ∨ 16 ≤ a.1 ∨ a.2.2.1 < 0 ∨ 8 < a.2.2.1 then 2 else 0
def askB (a : Ask) : List Int := fieldL a.1 ++ (putl a.2.1.toNat ++ (fieldL a.2.2.1 ++ funcL a.2.2.2))
def askL (a : Ask) : List Int := layL 2 (askB a)
theorem wblk_len (b : Blk) (h : OkB b) (h32 : b.1.length ≤ 32) : (blkL b).length ≤ 3250 := by
 have h1 := insl_len b.1 h.2.2
 have h2 := end_len b.2
 have h3 := field_len b.1.length
 simp only [blkL, List.length_append]
 omega
theorem flat_len {α : Type} (f : α → List Int) (m : Nat) (l : List α) (h : ∀ x ∈ l, (f x).length ≤ m) : ((l.map f).flatten).length ≤ m * l.length := by
 induction l with
 | nil => simp
 | cons x l ih =>
  rw [List.map_cons, List.flatten_cons, List.length_append, List.length_cons, Nat.mul_succ]
  have h1 := h x (by simp)
  have h2 := ih (fun y hy => h y (by simp [hy]))
  omega
theorem func_len (p v : Int) (l : List Blk) (h0 : funcErr (p, v, l) = 0) (hR : ∀ b ∈ l, BlkR b) : (funcL (p, v, l)).length ≤ 60000 := by
 obtain ⟨h16, hok⟩ := fun_okk h0 hR
 have h32 : ∀ b ∈ l, b.1.length ≤ 32 := fun b hb => by
  unfold funcErr at h0
  split at h0
  · cases h0
  · have h1 := firstN_zero h0 _ (List.mem_map_of_mem hb)
    unfold blkErr at h1
    split at h1
    · cases h1
    · rename_i h2
      exact Nat.le_of_not_lt h2
 have h1 := flat_len blkL 3250 l (fun b hb => wblk_len b (hok b hb).1 (h32 b hb))
 have h2 := field_len l.length
 have h3 := fields_len [p, v]
 simp only [funcL, blksL, List.length_append, List.length_cons, List.length_nil] at *
 omega
theorem field_by' (x : Int) : By (fieldL x) := putl_by _
theorem fields_byL (l : List Int) : By (fieldsL l) := by
 intro x hx
 simp only [fieldsL, List.mem_flatten, List.mem_map] at hx
 obtain ⟨m, ⟨y, _, rfl⟩, hx⟩ := hx
 exact field_by' y x hx
theorem ins_byL (i : Ins) : By (insL i) := by
 obtain ⟨k, op, d, a, b, n, args⟩ := i
 unfold insL
 refine By.append (field_by' _) ?_
 repeat' split
 · exact By.append (field_by' _) (putl_by _)
 · exact fields_byL _
 · exact fields_byL _
 · exact fields_byL _
 · exact By.append (field_by' _) (By.append (putl_by _) (By.append (field_by' _) (fields_byL _)))
 · intro x hx; cases hx
theorem end_byL (e : IEnd) : By (endL e) := by
 obtain ⟨k, a, t, e⟩ := e
 unfold endL
 refine By.append (field_by' _) ?_
 repeat' split
 all_goals exact fields_byL _
theorem flat_by {α : Type} (f : α → List Int) (l : List α) (h : ∀ x, By (f x)) : By ((l.map f).flatten) := by
 intro x hx
 simp only [List.mem_flatten, List.mem_map] at hx
 obtain ⟨m, ⟨y, _, rfl⟩, hx⟩ := hx
 exact h y x hx
theorem blk_byL (b : Blk) : By (blkL b) := By.append (field_by' _) (By.append (flat_by _ _ ins_byL) (end_byL _))
theorem blks_byL (l : List Blk) : By (blksL l) := By.append (field_by' _) (flat_by _ _ blk_byL)
theorem func_byL (f : Fun) : By (funcL f) := By.append (fields_byL _) (blks_byL _)
theorem ask_byB (a : Ask) : By (askB a) := By.append (field_by' _) (By.append (putl_by _) (By.append (field_by' _) (func_byL _)))
end Go.Proofs.Ytnckonglodmfeaa.Ik
namespace Go.Proofs.Ytnckonglodmfeaa.Ik
open Ls Lc Go.RowKit Go.Proofs.YtnckonglodmfeaaW.PrintWords Go.Proofs.YtnckonglodmfeaaW.PrintLast Go.Proofs.YtnckonglodmfeaaW.PrintMore B R S Is Js
def Rd (w : World) (g b : Nat) (s : St) : Prop := Rdr 170 w g b s.1 s.2 ∧ By s.1 ∧ b < w.heap.size
theorem Rd.keep {w w' : World} {g b : Nat} {s : St} {S : Nat → Prop} (h : Rd w g b s) (hk : Keep S w w') (hg : ¬ S g) (hb : ¬ S b) : Rd w' g b s := ⟨h.1.keep hk hg hb h.2.2, h.2.1, Nat.lt_of_lt_of_le h.2.2 hk.size⟩
theorem Rd.below {w w' : World} {g b : Nat} {s : St} (h : Rd w g b s) (hk : Below w.heap.size w w') : Rd w' g b s := h.keep (S := fun _ => False) (Keep.of_below hk) id id
theorem rd_below (g b : Nat) (s : St) (m : Int) (w : World) (h : Rd w g b s) (hm0 : -9223372036854775808 ≤ m) (hm1 : m ≤ 9223372036854775807) :
 Calls Try.prog 46 #[.pointer (some ⟨g, 0, none⟩), .int .i64 m] w fun e w' => e = .returned (.int .i64 (sBelow m s).1) ∧ Rd w' g b (sBelow m s).2 ∧ Keep (· = g) w w' ∧ w'.heap.size = w.heap.size := by
 refine (below_calls g b s.1 s.2 m w h.1 h.2.1 hm0 hm1).mono ?_
 rintro e w' ⟨h1, h2, h3, h4⟩
 exact ⟨h1, ⟨h2, sbelow_by h.2.1, by rw [h4]; exact h.2.2⟩, h3, h4⟩
theorem rd_int (g b : Nat) (s : St) (w : World) (h : Rd w g b s) :
 Calls Try.prog 146 #[.pointer (some ⟨g, 0, none⟩)] w fun e w' => e = .returned (.int .i64 (sInt s).1) ∧ Rd w' g b (sInt s).2 ∧ Keep (· = g) w w' ∧ w'.heap.size = w.heap.size := by
 refine (int_calls g b s.1 s.2 w h.1 h.2.1).mono ?_
 rintro e w' ⟨h1, h2, h3, h4⟩
 exact ⟨h1, ⟨h2, sint_by h.2.1, by rw [h4]; exact h.2.2⟩, h3, h4⟩
theorem rd_fail (g b : Nat) (s : St) (n : Int) (w : World) (h : Rd w g b s) :
 Calls Try.prog 94 #[.pointer (some ⟨g, 0, none⟩), .int .i64 n] w fun e w' => e = .returned (.tuple #[]) ∧ Rd w' g b (sFail n s) ∧ Keep (· = g) w w' ∧ w'.heap.size = w.heap.size := by
 refine (fail_calls g b s.1 s.2 n w h.1).mono ?_
 rintro e w' ⟨h1, h2, h3, h4⟩
 exact ⟨h1, ⟨h2, h.2.1, by rw [h4]; exact h.2.2⟩, h3, h4⟩
theorem rd_code (g b : Nat) (s : St) (w : World) (h : Rd w g b s) :
 Calls Try.prog 99 #[.pointer (some ⟨g, 0, none⟩)] w fun e w' => e = .returned (.int .i64 s.2) ∧ w = w' := code_calls g b s.1 s.2 w h.1
set_option maxRecDepth 100000 in
theorem insnum_calls (g b gr : Nat) (s : St) (w : World) (h : Rd w g b s) (hr : w.cell? ⟨gr, 0, none⟩ = some (.pointer (some ⟨g, 0, none⟩))) :
 Calls Try.prog 145 #[.pointer (some ⟨gr, 0, none⟩)] w fun e w' => e = .returned (.int .i64 (sBelow 4096 s).1) ∧ Rd w' g b (sBelow 4096 s).2 ∧ Keep (· = g) w w' ∧ w'.heap.size = w.heap.size := by
 have H := aM h
 clear h
 go_enter Try.func145, Try.ntmps145
 go_wp2_with (go_at_call 46; refine (rd_below g b s 4096 _ H.out (by decide) (by decide)).mono ?_; rintro _ w1 ⟨rfl, hd, hk, hs⟩; have HD := aM hd; have HK := aM hk; have HS := aM hs; clear hd hk hs)
 go_ret
 exact ⟨rfl, HD.out, HK.out, HS.out⟩
structure InsS (w0 W : World) (g b gr gb : Nat) (s : St) (F : Array Value) : Prop where
 rd : Rd W g b s
 r : W.heap[gr]? = some (.cells #[.pointer (some ⟨g, 0, none⟩)] 109 (0, 0))
 res : W.heap[gr + 1]? = some (.cells #[.int .u8 0, .int .u8 0, .int .i64 0, .int .i64 0, .int .i64 0, .int .i64 0, .slice none 0 0] 92 (0, 0))
 bx : W.heap[gb]? = some (.cells F 92 (0, 0))
 keep : Keep (· = g) w0 W
 base : w0.heap.size = gr
 hg : g < gr
 hb : b < gr
 hgb : gr + 2 ≤ gb
theorem InsS.step {w0 W W' : World} {g b gr gb : Nat} {s s' : St} {F : Array Value} (h : InsS w0 W g b gr gb s F) (hk : Keep (· = g) W W') (hr : Rd W' g b s') : InsS w0 W' g b gr gb s' F := by
 have h1 := h.hg
 have h2 := h.hb
 have h3 := h.hgb
 exact ⟨hr, (hk.block gr (blk_lt h.r) (fun e => by have e : gr = g := e; omega)).trans h.r, (hk.block _ (blk_lt h.res) (fun e => by have e : gr + 1 = g := e; omega)).trans h.res, (hk.block gb (blk_lt h.bx) (fun e => by have e : gb = g := e; omega)).trans h.bx, h.keep.trans hk, h.base, h1, h2, h3⟩
theorem InsS.set {w0 W : World} {g b gr gb : Nat} {s : St} {F : Array Value} (h : InsS w0 W g b gr gb s F) (j : Nat) (x : Value) : InsS w0 (W.setCell ⟨gb, j, none⟩ x) g b gr gb s (F.setIfInBounds j x) := by
 have h1 := h.hg
 have h2 := h.hb
 have h3 := h.hgb
 have hk : Keep (· = gb) W (W.setCell ⟨gb, j, none⟩ x) := (Keep.refl _ _).setCell ⟨gb, j, none⟩ x (fun _ => rfl)
 have ho : ∀ i, i ≠ gb → (W.setCell ⟨gb, j, none⟩ x).heap[i]? = W.heap[i]? := fun i hi => Below.heap_setCell _ _ _ _ hi
 exact ⟨h.rd.keep hk (by omega) (by omega), (ho gr (by omega)).trans h.r, (ho _ (by omega)).trans h.res, heap_setCell_same W gb j F _ _ h.bx, h.keep.setCell _ _ (fun hh => by have hh : gb < w0.heap.size := hh; rw [h.base] at hh; omega), h.base, h1, h2, h3⟩
theorem InsS.cell {w0 W : World} {g b gr gb : Nat} {s : St} {F : Array Value} (h : InsS w0 W g b gr gb s F) (j : Nat) (x : Value) (hx : F[j]? = some x) : W.cell? ⟨gb, j, none⟩ = some x ∧ W.frozen? ⟨gb, j, none⟩ = false := ⟨cell_at h.bx j x hx, blk_frozen h.bx j⟩
theorem InsS.ptr {w0 W : World} {g b gr gb : Nat} {s : St} {F : Array Value} (h : InsS w0 W g b gr gb s F) : W.cell? ⟨gr, 0, none⟩ = some (.pointer (some ⟨g, 0, none⟩)) := cell_at h.r 0 _ rfl
theorem InsS.ptrs {w0 W : World} {g b gr gb : Nat} {s : St} {F : Array Value} (h : InsS w0 W g b gr gb s F) : ∀ j x, (W.setCell ⟨gb, j, none⟩ x).cell? ⟨gr, 0, none⟩ = some (.pointer (some ⟨g, 0, none⟩)) := fun j x => (h.set j x).ptr
theorem ins_num {w0 W : World} {g b gr gb : Nat} {s : St} {F : Array Value} (h : InsS w0 W g b gr gb s F) :
 Calls Try.prog 145 #[.pointer (some ⟨gr, 0, none⟩)] W fun e w' => e = .returned (.int .i64 (sBelow 4096 s).1) ∧ InsS w0 w' g b gr gb (sBelow 4096 s).2 F := by
 refine (insnum_calls g b gr s W h.rd h.ptr).mono ?_
 rintro e w' ⟨h1, h2, h3, -⟩
 exact ⟨h1, h.step h3 h2⟩
theorem ins_below {w0 W : World} {g b gr gb : Nat} {s : St} {F : Array Value} (h : InsS w0 W g b gr gb s F) (m : Int) (hm0 : -9223372036854775808 ≤ m) (hm1 : m ≤ 9223372036854775807) :
 Calls Try.prog 46 #[.pointer (some ⟨g, 0, none⟩), .int .i64 m] W fun e w' => e = .returned (.int .i64 (sBelow m s).1) ∧ InsS w0 w' g b gr gb (sBelow m s).2 F := by
 refine (rd_below g b s m W h.rd hm0 hm1).mono ?_
 rintro e w' ⟨h1, h2, h3, -⟩
 exact ⟨h1, h.step h3 h2⟩
theorem ins_int {w0 W : World} {g b gr gb : Nat} {s : St} {F : Array Value} (h : InsS w0 W g b gr gb s F) :
 Calls Try.prog 146 #[.pointer (some ⟨g, 0, none⟩)] W fun e w' => e = .returned (.int .i64 (sInt s).1) ∧ InsS w0 w' g b gr gb (sInt s).2 F := by
 refine (rd_int g b s W h.rd).mono ?_
 rintro e w' ⟨h1, h2, h3, -⟩
 exact ⟨h1, h.step h3 h2⟩
theorem ins_fail {w0 W : World} {g b gr gb : Nat} {s : St} {F : Array Value} (h : InsS w0 W g b gr gb s F) (n : Int) :
 Calls Try.prog 94 #[.pointer (some ⟨g, 0, none⟩), .int .i64 n] W fun e w' => e = .returned (.tuple #[]) ∧ InsS w0 w' g b gr gb (sFail n s) F := by
 refine (rd_fail g b s n W h.rd).mono ?_
 rintro e w' ⟨h1, h2, h3, -⟩
 exact ⟨h1, h.step h3 h2⟩
theorem InsS.rest {w0 W : World} {g b gr gb : Nat} {s : St} {F : Array Value} (h : InsS w0 W g b gr gb s F) : (W.cell? ⟨gr + 1, 0, none⟩ = some (.int .u8 0) ∧ W.cell? ⟨gr + 1, 1, none⟩ = some (.int .u8 0) ∧ W.cell? ⟨gr + 1, 2, none⟩ = some (.int .i64 0) ∧ W.cell? ⟨gr + 1, 3, none⟩ = some (.int .i64 0) ∧ W.cell? ⟨gr + 1, 4, none⟩ = some (.int .i64 0) ∧ W.cell? ⟨gr + 1, 5, none⟩ = some (.int .i64 0) ∧ W.cell? ⟨gr + 1, 6, none⟩ = some (.slice none 0 0)) ∧
 W.frozen? ⟨gr + 1, 0, none⟩ = false ∧ W.frozen? ⟨gr + 1, 1, none⟩ = false ∧ W.frozen? ⟨gr + 1, 2, none⟩ = false ∧ W.frozen? ⟨gr + 1, 3, none⟩ = false ∧ W.frozen? ⟨gr + 1, 4, none⟩ = false ∧ W.frozen? ⟨gr + 1, 5, none⟩ = false ∧ W.frozen? ⟨gr + 1, 6, none⟩ = false :=
 ⟨⟨cell_at h.res 0 _ rfl, cell_at h.res 1 _ rfl, cell_at h.res 2 _ rfl, cell_at h.res 3 _ rfl, cell_at h.res 4 _ rfl, cell_at h.res 5 _ rfl, cell_at h.res 6 _ rfl⟩, blk_frozen h.res 0, blk_frozen h.res 1, blk_frozen h.res 2, blk_frozen h.res 3, blk_frozen h.res 4, blk_frozen h.res 5, blk_frozen h.res 6⟩
theorem put7 {W : World} {g e : Nat} {u0 u1 u2 u3 u4 u5 u6 : Value} (h : W.heap[g]? = some (.cells #[u0, u1, u2, u3, u4, u5, u6] e (0, 0))) (x0 x1 x2 x3 x4 x5 x6 : Value) :
 (((((((W.setCell ⟨g, 0, none⟩ x0).setCell ⟨g, 1, none⟩ x1).setCell ⟨g, 2, none⟩ x2).setCell ⟨g, 3, none⟩ x3).setCell ⟨g, 4, none⟩ x4).setCell ⟨g, 5, none⟩ x5).setCell ⟨g, 6, none⟩ x6).heap[g]? = some (.cells #[x0, x1, x2, x3, x4, x5, x6] e (0, 0)) := by
 have a0 := blk_put h 0 x0 (show _ = #[x0, u1, u2, u3, u4, u5, u6] from rfl)
 have a1 := blk_put a0 1 x1 (show _ = #[x0, x1, u2, u3, u4, u5, u6] from rfl)
 have a2 := blk_put a1 2 x2 (show _ = #[x0, x1, x2, u3, u4, u5, u6] from rfl)
 have a3 := blk_put a2 3 x3 (show _ = #[x0, x1, x2, x3, u4, u5, u6] from rfl)
 have a4 := blk_put a3 4 x4 (show _ = #[x0, x1, x2, x3, x4, u5, u6] from rfl)
 have a5 := blk_put a4 5 x5 (show _ = #[x0, x1, x2, x3, x4, x5, u6] from rfl)
 exact blk_put a5 6 x6 rfl
theorem put7_far {W : World} {g : Nat} (x0 x1 x2 x3 x4 x5 x6 : Value) : Keep (· = g) W (((((((W.setCell ⟨g, 0, none⟩ x0).setCell ⟨g, 1, none⟩ x1).setCell ⟨g, 2, none⟩ x2).setCell ⟨g, 3, none⟩ x3).setCell ⟨g, 4, none⟩ x4).setCell ⟨g, 5, none⟩ x5).setCell ⟨g, 6, none⟩ x6) := by
 have a0 := (Keep.refl (· = g) W).setCell ⟨g, 0, none⟩ x0 (fun _ => rfl)
 have a1 := a0.setCell ⟨g, 1, none⟩ x1 (fun _ => rfl)
 have a2 := a1.setCell ⟨g, 2, none⟩ x2 (fun _ => rfl)
 have a3 := a2.setCell ⟨g, 3, none⟩ x3 (fun _ => rfl)
 have a4 := a3.setCell ⟨g, 4, none⟩ x4 (fun _ => rfl)
 have a5 := a4.setCell ⟨g, 5, none⟩ x5 (fun _ => rfl)
 exact a5.setCell ⟨g, 6, none⟩ x6 (fun _ => rfl)
theorem InsS.out {w0 W : World} {g b gr gb : Nat} {s : St} {F : Array Value} (h : InsS w0 W g b gr gb s F) (x0 x1 x2 x3 x4 x5 x6 : Value) (W' : World) (e : W' = (((((((W.setCell ⟨gr + 1, 0, none⟩ x0).setCell ⟨gr + 1, 1, none⟩ x1).setCell ⟨gr + 1, 2, none⟩ x2).setCell ⟨gr + 1, 3, none⟩ x3).setCell ⟨gr + 1, 4, none⟩ x4).setCell ⟨gr + 1, 5, none⟩ x5).setCell ⟨gr + 1, 6, none⟩ x6)) :
 W'.heap[gr + 1]? = some (.cells #[x0, x1, x2, x3, x4, x5, x6] 92 (0, 0)) ∧ Rd W' g b s ∧ Keep (· = g) w0 W' ∧ Keep (· = gr + 1) W W' := by
 have h1 := h.hg
 have h2 := h.hb
 have hk := put7_far (W := W) (g := gr + 1) x0 x1 x2 x3 x4 x5 x6
 subst e
 exact ⟨put7 h.res x0 x1 x2 x3 x4 x5 x6, h.rd.keep hk (by omega) (by omega), h.keep.then hk (fun i hi e => by have e : i = gr + 1 := e; rw [h.base] at hi; omega), hk⟩
theorem InsS.drew {w0 W : World} {g b gr gb : Nat} {s : St} {F : Array Value} (h : InsS w0 W g b gr gb s F) : InsS w0 W.drew g b gr gb s F := ⟨⟨h.rd.1, h.rd.2⟩, h.r, h.res, h.bx, h.keep.drew, h.base, h.hg, h.hb, h.hgb⟩
theorem InsS.move {w0 W W' : World} {g b gr gb : Nat} {s s' : St} {F : Array Value} (h : InsS w0 W g b gr gb s F) (hk : Keep (fun i => i = g ∨ gb < i) W W') (hr : Rd W' g b s') : InsS w0 W' g b gr gb s' F := by
 have h1 := h.hg
 have h2 := h.hb
 have h3 := h.hgb
 exact ⟨hr, (hk.block gr (blk_lt h.r) (fun e => by omega)).trans h.r, (hk.block _ (blk_lt h.res) (fun e => by omega)).trans h.res, (hk.block gb (blk_lt h.bx) (fun e => by omega)).trans h.bx, h.keep.then hk (fun i hi e => by rw [h.base] at hi; omega), h.base, h1, h2, h3⟩
theorem wraps_u8' (n : Int) (h0 : 0 ≤ n) (h1 : n < 256) : IntKind.u8.wrap n = n := by
 simp only [IntKind.wrap, IntKind.bits, IntKind.signed]
 simp
 omega
theorem ins_start {w w1 : World} {g b : Nat} {s : St} {c1 c2 F : Array Value} {e1 e2 : Nat} (hk : Keep (· = g) ((w.alloc (.cells c1 e1)).alloc (.cells c2 e2)) w1) (hr : Rd w1 g b s) (hg : g < w.heap.size) (hb : b < w.heap.size)
 (h1 : c1 = #[.pointer (some ⟨g, 0, none⟩)]) (h2 : e1 = 109) (h3 : c2 = #[.int .u8 0, .int .u8 0, .int .i64 0, .int .i64 0, .int .i64 0, .int .i64 0, .slice none 0 0]) (h4 : e2 = 92) :
 InsS w (w1.alloc (.cells F 92)) g b w.heap.size w1.heap.size s F := by
 subst h1 h2 h3 h4
 have hs := hk.size
 rw [World.size_alloc, World.size_alloc] at hs
 have a1 : w1.heap[w.heap.size]? = some (.cells #[.pointer (some ⟨g, 0, none⟩)] 109 (0, 0)) := by
  rw [hk.block _ (by rw [World.size_alloc, World.size_alloc]; omega) (fun e => by have e : w.heap.size = g := e; omega), heap_alloc_old _ _ (by rw [World.size_alloc]; omega), heap_alloc_new]
 have a2 : w1.heap[w.heap.size + 1]? = some (.cells #[.int .u8 0, .int .u8 0, .int .i64 0, .int .i64 0, .int .i64 0, .int .i64 0, .slice none 0 0] 92 (0, 0)) := by
  rw [hk.block _ (by rw [World.size_alloc, World.size_alloc]; omega) (fun e => by have e : w.heap.size + 1 = g := e; omega), ← World.size_alloc w (.cells #[.pointer (some ⟨g, 0, none⟩)] 109), heap_alloc_new]
 have hb2 : Below w1.heap.size w1 (w1.alloc (.cells F 92)) := (Below.refl _ _).alloc (Nat.le_refl _) _
 exact ⟨hr.below hb2, (hb2.block _ (by omega)).trans a1, (hb2.block _ (by omega)).trans a2, heap_alloc_new _ _, ((((Keep.refl (· = g) w).alloc _).alloc _).trans hk).alloc _, rfl, hg, hb, hs⟩
def insVal (i : Ins) (v : Value) : Value := .agg #[.int .u8 i.1, .int .u8 i.2.1, .int .i64 i.2.2.1, .int .i64 i.2.2.2.1, .int .i64 i.2.2.2.2.1, .int .i64 i.2.2.2.2.2.1, v]
set_option maxHeartbeats 4000000 in
set_option maxRecDepth 100000 in
theorem rins2 (g b : Nat) (s : St) (w : World) (h : Rd w g b s) (hg : g < w.heap.size) (hk : (sBelow 256 s).1 = 2) :
 Calls Try.prog 126 #[.pointer (some ⟨g, 0, none⟩)] w fun e w' => ∃ v, e = .returned (insVal (sBody 2 (sBelow 256 s).2).1 v) ∧ kI.R 3 w' w.heap.size (fun _ => True) v (sBody 2 (sBelow 256 s).2).1.2.2.2.2.2.2 ∧ Rd w' g b (sBody 2 (sBelow 256 s).2).2 ∧ Keep (· = g) w w' := by
 have mixed : Try.prog.follows .mixedOrders = true := by kernel_rfl
 have H := aM h
 have HE := aM hk
 have HWK := aM (trivial)
 obtain ⟨s1, hs1⟩ : ∃ s1, (sBelow 256 s).2 = s1 := ⟨_, rfl⟩
 rw [hs1]
 have HS1 := aM hs1
 clear h hk hs1
 go_enter Try.func126, Try.ntmps126
 go_upto_region 2 with (go_at_call 46; refine (rd_below g b s 256 _ (H.out.below (((Below.refl _ _).alloc (Nat.le_refl _) _).alloc (by simp) _)) (by decide) (by decide)).mono ?_; rintro _ w1 ⟨rfl, hd, hk, hs⟩; have hwk := HWK.out; rw [HE.out]; rw [HS1.out] at hd; have HD := aM hd; have HK := aM hk; clear hd hk hs)
 have HI := aM (ins_start (F := #[.int .u8 2, .int .u8 0, .int .i64 0, .int .i64 0, .int .i64 0, .int .i64 0, .slice none 0 0]) HK.out HD.out hg H.out.2.2 rfl rfl rfl rfl); clear HD HK; obtain ⟨gb, hgb⟩ : ∃ gb, w1.heap.size = gb := ⟨_, rfl⟩; rw [hgb] at HI ⊢; obtain ⟨WB, hWB⟩ : ∃ WB, WB = w1.alloc (.cells #[.int .u8 2, .int .u8 0, .int .i64 0, .int .i64 0, .int .i64 0, .int .i64 0, .slice none 0 0] 92) := ⟨_, rfl⟩; rw [← hWB] at HI ⊢; clear hWB hgb; have q0 := (HI.out.cell 0 _ rfl).1; obtain ⟨q1, z1⟩ := HI.out.cell 1 _ rfl; obtain ⟨q2, z2⟩ := HI.out.cell 2 _ rfl; obtain ⟨q3, z3⟩ := HI.out.cell 3 _ rfl; obtain ⟨q4, z4⟩ := HI.out.cell 4 _ rfl; obtain ⟨q5, z5⟩ := HI.out.cell 5 _ rfl; obtain ⟨q6, z6⟩ := HI.out.cell 6 _ rfl; have qr := HI.out.ptr; have qs := HI.out.ptrs; obtain ⟨⟨y0, y1, y2, y3, y4, y5, y6⟩, v0, v1, v2, v3, v4, v5, v6⟩ := HI.out.rest
 go_upto_region 29 with (go_at_call 145; (first | refine (ins_num HI.out ).mono ?_ | refine (ins_num (HI.out.set _ _) ).mono ?_); rintro _ w2 ⟨rfl, hi⟩; clear HI; (try clear q0 q1 q2 q3 q4 q5 q6 z1 z2 z3 z4 z5 z6 qr qs y0 y1 y2 y3 y4 y5 y6 v0 v1 v2 v3 v4 v5 v6); have HI := aM hi; clear hi; have q0 := (HI.out.cell 0 _ rfl).1; obtain ⟨q1, z1⟩ := HI.out.cell 1 _ rfl; obtain ⟨q2, z2⟩ := HI.out.cell 2 _ rfl; obtain ⟨q3, z3⟩ := HI.out.cell 3 _ rfl; obtain ⟨q4, z4⟩ := HI.out.cell 4 _ rfl; obtain ⟨q5, z5⟩ := HI.out.cell 5 _ rfl; obtain ⟨q6, z6⟩ := HI.out.cell 6 _ rfl; have qr := HI.out.ptr; have qs := HI.out.ptrs; obtain ⟨⟨y0, y1, y2, y3, y4, y5, y6⟩, v0, v1, v2, v3, v4, v5, v6⟩ := HI.out.rest)
 have hset := HI.out.set 3 (.int .i64 (sBelow 4096 (sBelow 4096 s1).2).1)
 generalize w2.setCell ⟨gb, 3, none⟩ (.int .i64 (sBelow 4096 (sBelow 4096 s1).2).1) = WL at hset ⊢
 clear HI
 have HI := aM hset
 clear q0 q1 q2 q3 q4 q5 q6 z1 z2 z3 z4 z5 z6 qr qs y0 y1 y2 y3 y4 y5 y6 v0 v1 v2 v3 v4 v5 v6
 clear hset
 have q0 := (HI.out.cell 0 _ rfl).1; obtain ⟨q1, z1⟩ := HI.out.cell 1 _ rfl; obtain ⟨q2, z2⟩ := HI.out.cell 2 _ rfl; obtain ⟨q3, z3⟩ := HI.out.cell 3 _ rfl; obtain ⟨q4, z4⟩ := HI.out.cell 4 _ rfl; obtain ⟨q5, z5⟩ := HI.out.cell 5 _ rfl; obtain ⟨q6, z6⟩ := HI.out.cell 6 _ rfl; have qr := HI.out.ptr; have qs := HI.out.ptrs; obtain ⟨⟨y0, y1, y2, y3, y4, y5, y6⟩, v0, v1, v2, v3, v4, v5, v6⟩ := HI.out.rest
 go_wp2
 have p := HI.out.res; have p0 := fun x0 x1 x2 x3 x4 x5 x6 => cell_at (put7 p x0 x1 x2 x3 x4 x5 x6) 0 _ rfl; have p1 := fun x0 x1 x2 x3 x4 x5 x6 => cell_at (put7 p x0 x1 x2 x3 x4 x5 x6) 1 _ rfl; have p2 := fun x0 x1 x2 x3 x4 x5 x6 => cell_at (put7 p x0 x1 x2 x3 x4 x5 x6) 2 _ rfl; have p3 := fun x0 x1 x2 x3 x4 x5 x6 => cell_at (put7 p x0 x1 x2 x3 x4 x5 x6) 3 _ rfl; have p4 := fun x0 x1 x2 x3 x4 x5 x6 => cell_at (put7 p x0 x1 x2 x3 x4 x5 x6) 4 _ rfl; have p5 := fun x0 x1 x2 x3 x4 x5 x6 => cell_at (put7 p x0 x1 x2 x3 x4 x5 x6) 5 _ rfl; have p6 := fun x0 x1 x2 x3 x4 x5 x6 => cell_at (put7 p x0 x1 x2 x3 x4 x5 x6) 6 _ rfl; (try simp only [Exit.inBlock, Exit.then]); refine bodyPost_ret (by simp [results, Try.results126, go_sem, p0, p1, p2, p3, p4, p5, p6]; try rfl) rfl ?_
 obtain ⟨-, o2, o3, -⟩ := HI.out.out _ _ _ _ _ _ _ _ rfl
 exact ⟨.slice none 0 0, rfl, Kd.R_nil _ _ _ _ _, o2, o3⟩
set_option maxHeartbeats 4000000 in
set_option maxRecDepth 100000 in
theorem rins4 (g b : Nat) (s : St) (w : World) (h : Rd w g b s) (hg : g < w.heap.size) (hk : (sBelow 256 s).1 = 4) :
 Calls Try.prog 126 #[.pointer (some ⟨g, 0, none⟩)] w fun e w' => ∃ v, e = .returned (insVal (sBody 4 (sBelow 256 s).2).1 v) ∧ kI.R 3 w' w.heap.size (fun _ => True) v (sBody 4 (sBelow 256 s).2).1.2.2.2.2.2.2 ∧ Rd w' g b (sBody 4 (sBelow 256 s).2).2 ∧ Keep (· = g) w w' := by
 have mixed : Try.prog.follows .mixedOrders = true := by kernel_rfl
 have H := aM h
 have HE := aM hk
 have HWK := aM (trivial)
 obtain ⟨s1, hs1⟩ : ∃ s1, (sBelow 256 s).2 = s1 := ⟨_, rfl⟩
 rw [hs1]
 have HS1 := aM hs1
 clear h hk hs1
 go_enter Try.func126, Try.ntmps126
 go_upto_region 2 with (go_at_call 46; refine (rd_below g b s 256 _ (H.out.below (((Below.refl _ _).alloc (Nat.le_refl _) _).alloc (by simp) _)) (by decide) (by decide)).mono ?_; rintro _ w1 ⟨rfl, hd, hk, hs⟩; have hwk := HWK.out; rw [HE.out]; rw [HS1.out] at hd; have HD := aM hd; have HK := aM hk; clear hd hk hs)
 have HI := aM (ins_start (F := #[.int .u8 4, .int .u8 0, .int .i64 0, .int .i64 0, .int .i64 0, .int .i64 0, .slice none 0 0]) HK.out HD.out hg H.out.2.2 rfl rfl rfl rfl); clear HD HK; obtain ⟨gb, hgb⟩ : ∃ gb, w1.heap.size = gb := ⟨_, rfl⟩; rw [hgb] at HI ⊢; obtain ⟨WB, hWB⟩ : ∃ WB, WB = w1.alloc (.cells #[.int .u8 4, .int .u8 0, .int .i64 0, .int .i64 0, .int .i64 0, .int .i64 0, .slice none 0 0] 92) := ⟨_, rfl⟩; rw [← hWB] at HI ⊢; clear hWB hgb; have q0 := (HI.out.cell 0 _ rfl).1; obtain ⟨q1, z1⟩ := HI.out.cell 1 _ rfl; obtain ⟨q2, z2⟩ := HI.out.cell 2 _ rfl; obtain ⟨q3, z3⟩ := HI.out.cell 3 _ rfl; obtain ⟨q4, z4⟩ := HI.out.cell 4 _ rfl; obtain ⟨q5, z5⟩ := HI.out.cell 5 _ rfl; obtain ⟨q6, z6⟩ := HI.out.cell 6 _ rfl; have qr := HI.out.ptr; have qs := HI.out.ptrs; obtain ⟨⟨y0, y1, y2, y3, y4, y5, y6⟩, v0, v1, v2, v3, v4, v5, v6⟩ := HI.out.rest
 go_upto_region 29 with (go_at_call 145; (first | refine (ins_num HI.out ).mono ?_ | refine (ins_num (HI.out.set _ _) ).mono ?_); rintro _ w2 ⟨rfl, hi⟩; clear HI; (try clear q0 q1 q2 q3 q4 q5 q6 z1 z2 z3 z4 z5 z6 qr qs y0 y1 y2 y3 y4 y5 y6 v0 v1 v2 v3 v4 v5 v6); have HI := aM hi; clear hi; have q0 := (HI.out.cell 0 _ rfl).1; obtain ⟨q1, z1⟩ := HI.out.cell 1 _ rfl; obtain ⟨q2, z2⟩ := HI.out.cell 2 _ rfl; obtain ⟨q3, z3⟩ := HI.out.cell 3 _ rfl; obtain ⟨q4, z4⟩ := HI.out.cell 4 _ rfl; obtain ⟨q5, z5⟩ := HI.out.cell 5 _ rfl; obtain ⟨q6, z6⟩ := HI.out.cell 6 _ rfl; have qr := HI.out.ptr; have qs := HI.out.ptrs; obtain ⟨⟨y0, y1, y2, y3, y4, y5, y6⟩, v0, v1, v2, v3, v4, v5, v6⟩ := HI.out.rest)
 have hset := HI.out.set 3 (.int .i64 (sBelow 4096 (sBelow 4096 s1).2).1)
 generalize w2.setCell ⟨gb, 3, none⟩ (.int .i64 (sBelow 4096 (sBelow 4096 s1).2).1) = WL at hset ⊢
 clear HI
 have HI := aM hset
 clear q0 q1 q2 q3 q4 q5 q6 z1 z2 z3 z4 z5 z6 qr qs y0 y1 y2 y3 y4 y5 y6 v0 v1 v2 v3 v4 v5 v6
 clear hset
 have q0 := (HI.out.cell 0 _ rfl).1; obtain ⟨q1, z1⟩ := HI.out.cell 1 _ rfl; obtain ⟨q2, z2⟩ := HI.out.cell 2 _ rfl; obtain ⟨q3, z3⟩ := HI.out.cell 3 _ rfl; obtain ⟨q4, z4⟩ := HI.out.cell 4 _ rfl; obtain ⟨q5, z5⟩ := HI.out.cell 5 _ rfl; obtain ⟨q6, z6⟩ := HI.out.cell 6 _ rfl; have qr := HI.out.ptr; have qs := HI.out.ptrs; obtain ⟨⟨y0, y1, y2, y3, y4, y5, y6⟩, v0, v1, v2, v3, v4, v5, v6⟩ := HI.out.rest
 go_wp2
 have p := HI.out.res; have p0 := fun x0 x1 x2 x3 x4 x5 x6 => cell_at (put7 p x0 x1 x2 x3 x4 x5 x6) 0 _ rfl; have p1 := fun x0 x1 x2 x3 x4 x5 x6 => cell_at (put7 p x0 x1 x2 x3 x4 x5 x6) 1 _ rfl; have p2 := fun x0 x1 x2 x3 x4 x5 x6 => cell_at (put7 p x0 x1 x2 x3 x4 x5 x6) 2 _ rfl; have p3 := fun x0 x1 x2 x3 x4 x5 x6 => cell_at (put7 p x0 x1 x2 x3 x4 x5 x6) 3 _ rfl; have p4 := fun x0 x1 x2 x3 x4 x5 x6 => cell_at (put7 p x0 x1 x2 x3 x4 x5 x6) 4 _ rfl; have p5 := fun x0 x1 x2 x3 x4 x5 x6 => cell_at (put7 p x0 x1 x2 x3 x4 x5 x6) 5 _ rfl; have p6 := fun x0 x1 x2 x3 x4 x5 x6 => cell_at (put7 p x0 x1 x2 x3 x4 x5 x6) 6 _ rfl; (try simp only [Exit.inBlock, Exit.then]); refine bodyPost_ret (by simp [results, Try.results126, go_sem, p0, p1, p2, p3, p4, p5, p6]; try rfl) rfl ?_
 obtain ⟨-, o2, o3, -⟩ := HI.out.out _ _ _ _ _ _ _ _ rfl
 exact ⟨.slice none 0 0, rfl, Kd.R_nil _ _ _ _ _, o2, o3⟩
set_option maxHeartbeats 4000000 in
set_option maxRecDepth 100000 in
theorem rins7 (g b : Nat) (s : St) (w : World) (h : Rd w g b s) (hg : g < w.heap.size) (hk : (sBelow 256 s).1 = 7) :
 Calls Try.prog 126 #[.pointer (some ⟨g, 0, none⟩)] w fun e w' => ∃ v, e = .returned (insVal (sBody 7 (sBelow 256 s).2).1 v) ∧ kI.R 3 w' w.heap.size (fun _ => True) v (sBody 7 (sBelow 256 s).2).1.2.2.2.2.2.2 ∧ Rd w' g b (sBody 7 (sBelow 256 s).2).2 ∧ Keep (· = g) w w' := by
 have mixed : Try.prog.follows .mixedOrders = true := by kernel_rfl
 have H := aM h
 have HE := aM hk
 have HWK := aM (trivial)
 obtain ⟨s1, hs1⟩ : ∃ s1, (sBelow 256 s).2 = s1 := ⟨_, rfl⟩
 rw [hs1]
 have HS1 := aM hs1
 clear h hk hs1
 go_enter Try.func126, Try.ntmps126
 go_upto_region 2 with (go_at_call 46; refine (rd_below g b s 256 _ (H.out.below (((Below.refl _ _).alloc (Nat.le_refl _) _).alloc (by simp) _)) (by decide) (by decide)).mono ?_; rintro _ w1 ⟨rfl, hd, hk, hs⟩; have hwk := HWK.out; rw [HE.out]; rw [HS1.out] at hd; have HD := aM hd; have HK := aM hk; clear hd hk hs)
 have HI := aM (ins_start (F := #[.int .u8 7, .int .u8 0, .int .i64 0, .int .i64 0, .int .i64 0, .int .i64 0, .slice none 0 0]) HK.out HD.out hg H.out.2.2 rfl rfl rfl rfl); clear HD HK; obtain ⟨gb, hgb⟩ : ∃ gb, w1.heap.size = gb := ⟨_, rfl⟩; rw [hgb] at HI ⊢; obtain ⟨WB, hWB⟩ : ∃ WB, WB = w1.alloc (.cells #[.int .u8 7, .int .u8 0, .int .i64 0, .int .i64 0, .int .i64 0, .int .i64 0, .slice none 0 0] 92) := ⟨_, rfl⟩; rw [← hWB] at HI ⊢; clear hWB hgb; have q0 := (HI.out.cell 0 _ rfl).1; obtain ⟨q1, z1⟩ := HI.out.cell 1 _ rfl; obtain ⟨q2, z2⟩ := HI.out.cell 2 _ rfl; obtain ⟨q3, z3⟩ := HI.out.cell 3 _ rfl; obtain ⟨q4, z4⟩ := HI.out.cell 4 _ rfl; obtain ⟨q5, z5⟩ := HI.out.cell 5 _ rfl; obtain ⟨q6, z6⟩ := HI.out.cell 6 _ rfl; have qr := HI.out.ptr; have qs := HI.out.ptrs; obtain ⟨⟨y0, y1, y2, y3, y4, y5, y6⟩, v0, v1, v2, v3, v4, v5, v6⟩ := HI.out.rest
 go_upto_region 29 with (go_at_call 145; (first | refine (ins_num HI.out ).mono ?_ | refine (ins_num (HI.out.set _ _) ).mono ?_); rintro _ w2 ⟨rfl, hi⟩; clear HI; (try clear q0 q1 q2 q3 q4 q5 q6 z1 z2 z3 z4 z5 z6 qr qs y0 y1 y2 y3 y4 y5 y6 v0 v1 v2 v3 v4 v5 v6); have HI := aM hi; clear hi; have q0 := (HI.out.cell 0 _ rfl).1; obtain ⟨q1, z1⟩ := HI.out.cell 1 _ rfl; obtain ⟨q2, z2⟩ := HI.out.cell 2 _ rfl; obtain ⟨q3, z3⟩ := HI.out.cell 3 _ rfl; obtain ⟨q4, z4⟩ := HI.out.cell 4 _ rfl; obtain ⟨q5, z5⟩ := HI.out.cell 5 _ rfl; obtain ⟨q6, z6⟩ := HI.out.cell 6 _ rfl; have qr := HI.out.ptr; have qs := HI.out.ptrs; obtain ⟨⟨y0, y1, y2, y3, y4, y5, y6⟩, v0, v1, v2, v3, v4, v5, v6⟩ := HI.out.rest)
 have hset := HI.out.set 3 (.int .i64 (sBelow 4096 (sBelow 4096 s1).2).1)
 generalize w2.setCell ⟨gb, 3, none⟩ (.int .i64 (sBelow 4096 (sBelow 4096 s1).2).1) = WL at hset ⊢
 clear HI
 have HI := aM hset
 clear q0 q1 q2 q3 q4 q5 q6 z1 z2 z3 z4 z5 z6 qr qs y0 y1 y2 y3 y4 y5 y6 v0 v1 v2 v3 v4 v5 v6
 clear hset
 have q0 := (HI.out.cell 0 _ rfl).1; obtain ⟨q1, z1⟩ := HI.out.cell 1 _ rfl; obtain ⟨q2, z2⟩ := HI.out.cell 2 _ rfl; obtain ⟨q3, z3⟩ := HI.out.cell 3 _ rfl; obtain ⟨q4, z4⟩ := HI.out.cell 4 _ rfl; obtain ⟨q5, z5⟩ := HI.out.cell 5 _ rfl; obtain ⟨q6, z6⟩ := HI.out.cell 6 _ rfl; have qr := HI.out.ptr; have qs := HI.out.ptrs; obtain ⟨⟨y0, y1, y2, y3, y4, y5, y6⟩, v0, v1, v2, v3, v4, v5, v6⟩ := HI.out.rest
 go_wp2
 have p := HI.out.res; have p0 := fun x0 x1 x2 x3 x4 x5 x6 => cell_at (put7 p x0 x1 x2 x3 x4 x5 x6) 0 _ rfl; have p1 := fun x0 x1 x2 x3 x4 x5 x6 => cell_at (put7 p x0 x1 x2 x3 x4 x5 x6) 1 _ rfl; have p2 := fun x0 x1 x2 x3 x4 x5 x6 => cell_at (put7 p x0 x1 x2 x3 x4 x5 x6) 2 _ rfl; have p3 := fun x0 x1 x2 x3 x4 x5 x6 => cell_at (put7 p x0 x1 x2 x3 x4 x5 x6) 3 _ rfl; have p4 := fun x0 x1 x2 x3 x4 x5 x6 => cell_at (put7 p x0 x1 x2 x3 x4 x5 x6) 4 _ rfl; have p5 := fun x0 x1 x2 x3 x4 x5 x6 => cell_at (put7 p x0 x1 x2 x3 x4 x5 x6) 5 _ rfl; have p6 := fun x0 x1 x2 x3 x4 x5 x6 => cell_at (put7 p x0 x1 x2 x3 x4 x5 x6) 6 _ rfl; (try simp only [Exit.inBlock, Exit.then]); refine bodyPost_ret (by simp [results, Try.results126, go_sem, p0, p1, p2, p3, p4, p5, p6]; try rfl) rfl ?_
 obtain ⟨-, o2, o3, -⟩ := HI.out.out _ _ _ _ _ _ _ _ rfl
 exact ⟨.slice none 0 0, rfl, Kd.R_nil _ _ _ _ _, o2, o3⟩
set_option maxHeartbeats 4000000 in
set_option maxRecDepth 100000 in
theorem rins8 (g b : Nat) (s : St) (w : World) (h : Rd w g b s) (hg : g < w.heap.size) (hk : (sBelow 256 s).1 = 8) :
 Calls Try.prog 126 #[.pointer (some ⟨g, 0, none⟩)] w fun e w' => ∃ v, e = .returned (insVal (sBody 8 (sBelow 256 s).2).1 v) ∧ kI.R 3 w' w.heap.size (fun _ => True) v (sBody 8 (sBelow 256 s).2).1.2.2.2.2.2.2 ∧ Rd w' g b (sBody 8 (sBelow 256 s).2).2 ∧ Keep (· = g) w w' := by
 have mixed : Try.prog.follows .mixedOrders = true := by kernel_rfl
 have H := aM h
 have HE := aM hk
 have HWK := aM (trivial)
 obtain ⟨s1, hs1⟩ : ∃ s1, (sBelow 256 s).2 = s1 := ⟨_, rfl⟩
 rw [hs1]
 have HS1 := aM hs1
 clear h hk hs1
 go_enter Try.func126, Try.ntmps126
 go_upto_region 2 with (go_at_call 46; refine (rd_below g b s 256 _ (H.out.below (((Below.refl _ _).alloc (Nat.le_refl _) _).alloc (by simp) _)) (by decide) (by decide)).mono ?_; rintro _ w1 ⟨rfl, hd, hk, hs⟩; have hwk := HWK.out; rw [HE.out]; rw [HS1.out] at hd; have HD := aM hd; have HK := aM hk; clear hd hk hs)
 have HI := aM (ins_start (F := #[.int .u8 8, .int .u8 0, .int .i64 0, .int .i64 0, .int .i64 0, .int .i64 0, .slice none 0 0]) HK.out HD.out hg H.out.2.2 rfl rfl rfl rfl); clear HD HK; obtain ⟨gb, hgb⟩ : ∃ gb, w1.heap.size = gb := ⟨_, rfl⟩; rw [hgb] at HI ⊢; obtain ⟨WB, hWB⟩ : ∃ WB, WB = w1.alloc (.cells #[.int .u8 8, .int .u8 0, .int .i64 0, .int .i64 0, .int .i64 0, .int .i64 0, .slice none 0 0] 92) := ⟨_, rfl⟩; rw [← hWB] at HI ⊢; clear hWB hgb; have q0 := (HI.out.cell 0 _ rfl).1; obtain ⟨q1, z1⟩ := HI.out.cell 1 _ rfl; obtain ⟨q2, z2⟩ := HI.out.cell 2 _ rfl; obtain ⟨q3, z3⟩ := HI.out.cell 3 _ rfl; obtain ⟨q4, z4⟩ := HI.out.cell 4 _ rfl; obtain ⟨q5, z5⟩ := HI.out.cell 5 _ rfl; obtain ⟨q6, z6⟩ := HI.out.cell 6 _ rfl; have qr := HI.out.ptr; have qs := HI.out.ptrs; obtain ⟨⟨y0, y1, y2, y3, y4, y5, y6⟩, v0, v1, v2, v3, v4, v5, v6⟩ := HI.out.rest
 go_upto_region 29 with (go_at_call 145; (first | refine (ins_num HI.out ).mono ?_ | refine (ins_num (HI.out.set _ _) ).mono ?_); rintro _ w2 ⟨rfl, hi⟩; clear HI; (try clear q0 q1 q2 q3 q4 q5 q6 z1 z2 z3 z4 z5 z6 qr qs y0 y1 y2 y3 y4 y5 y6 v0 v1 v2 v3 v4 v5 v6); have HI := aM hi; clear hi; have q0 := (HI.out.cell 0 _ rfl).1; obtain ⟨q1, z1⟩ := HI.out.cell 1 _ rfl; obtain ⟨q2, z2⟩ := HI.out.cell 2 _ rfl; obtain ⟨q3, z3⟩ := HI.out.cell 3 _ rfl; obtain ⟨q4, z4⟩ := HI.out.cell 4 _ rfl; obtain ⟨q5, z5⟩ := HI.out.cell 5 _ rfl; obtain ⟨q6, z6⟩ := HI.out.cell 6 _ rfl; have qr := HI.out.ptr; have qs := HI.out.ptrs; obtain ⟨⟨y0, y1, y2, y3, y4, y5, y6⟩, v0, v1, v2, v3, v4, v5, v6⟩ := HI.out.rest)
 have hset := HI.out.set 3 (.int .i64 (sBelow 4096 (sBelow 4096 s1).2).1)
 generalize w2.setCell ⟨gb, 3, none⟩ (.int .i64 (sBelow 4096 (sBelow 4096 s1).2).1) = WL at hset ⊢
 clear HI
 have HI := aM hset
 clear q0 q1 q2 q3 q4 q5 q6 z1 z2 z3 z4 z5 z6 qr qs y0 y1 y2 y3 y4 y5 y6 v0 v1 v2 v3 v4 v5 v6
 clear hset
 have q0 := (HI.out.cell 0 _ rfl).1; obtain ⟨q1, z1⟩ := HI.out.cell 1 _ rfl; obtain ⟨q2, z2⟩ := HI.out.cell 2 _ rfl; obtain ⟨q3, z3⟩ := HI.out.cell 3 _ rfl; obtain ⟨q4, z4⟩ := HI.out.cell 4 _ rfl; obtain ⟨q5, z5⟩ := HI.out.cell 5 _ rfl; obtain ⟨q6, z6⟩ := HI.out.cell 6 _ rfl; have qr := HI.out.ptr; have qs := HI.out.ptrs; obtain ⟨⟨y0, y1, y2, y3, y4, y5, y6⟩, v0, v1, v2, v3, v4, v5, v6⟩ := HI.out.rest
 go_wp2
 have p := HI.out.res; have p0 := fun x0 x1 x2 x3 x4 x5 x6 => cell_at (put7 p x0 x1 x2 x3 x4 x5 x6) 0 _ rfl; have p1 := fun x0 x1 x2 x3 x4 x5 x6 => cell_at (put7 p x0 x1 x2 x3 x4 x5 x6) 1 _ rfl; have p2 := fun x0 x1 x2 x3 x4 x5 x6 => cell_at (put7 p x0 x1 x2 x3 x4 x5 x6) 2 _ rfl; have p3 := fun x0 x1 x2 x3 x4 x5 x6 => cell_at (put7 p x0 x1 x2 x3 x4 x5 x6) 3 _ rfl; have p4 := fun x0 x1 x2 x3 x4 x5 x6 => cell_at (put7 p x0 x1 x2 x3 x4 x5 x6) 4 _ rfl; have p5 := fun x0 x1 x2 x3 x4 x5 x6 => cell_at (put7 p x0 x1 x2 x3 x4 x5 x6) 5 _ rfl; have p6 := fun x0 x1 x2 x3 x4 x5 x6 => cell_at (put7 p x0 x1 x2 x3 x4 x5 x6) 6 _ rfl; (try simp only [Exit.inBlock, Exit.then]); refine bodyPost_ret (by simp [results, Try.results126, go_sem, p0, p1, p2, p3, p4, p5, p6]; try rfl) rfl ?_
 obtain ⟨-, o2, o3, -⟩ := HI.out.out _ _ _ _ _ _ _ _ rfl
 exact ⟨.slice none 0 0, rfl, Kd.R_nil _ _ _ _ _, o2, o3⟩
set_option maxHeartbeats 4000000 in
set_option maxRecDepth 100000 in
theorem rins5 (g b : Nat) (s : St) (w : World) (h : Rd w g b s) (hg : g < w.heap.size) (hk : (sBelow 256 s).1 = 5) :
 Calls Try.prog 126 #[.pointer (some ⟨g, 0, none⟩)] w fun e w' => ∃ v, e = .returned (insVal (sBody 5 (sBelow 256 s).2).1 v) ∧ kI.R 3 w' w.heap.size (fun _ => True) v (sBody 5 (sBelow 256 s).2).1.2.2.2.2.2.2 ∧ Rd w' g b (sBody 5 (sBelow 256 s).2).2 ∧ Keep (· = g) w w' := by
 have mixed : Try.prog.follows .mixedOrders = true := by kernel_rfl
 have H := aM h
 have HE := aM hk
 have HWK := aM (trivial)
 obtain ⟨s1, hs1⟩ : ∃ s1, (sBelow 256 s).2 = s1 := ⟨_, rfl⟩
 rw [hs1]
 have HS1 := aM hs1
 clear h hk hs1
 go_enter Try.func126, Try.ntmps126
 go_upto_region 2 with (go_at_call 46; refine (rd_below g b s 256 _ (H.out.below (((Below.refl _ _).alloc (Nat.le_refl _) _).alloc (by simp) _)) (by decide) (by decide)).mono ?_; rintro _ w1 ⟨rfl, hd, hk, hs⟩; have hwk := HWK.out; rw [HE.out]; rw [HS1.out] at hd; have HD := aM hd; have HK := aM hk; clear hd hk hs)
 have HI := aM (ins_start (F := #[.int .u8 5, .int .u8 0, .int .i64 0, .int .i64 0, .int .i64 0, .int .i64 0, .slice none 0 0]) HK.out HD.out hg H.out.2.2 rfl rfl rfl rfl); clear HD HK; obtain ⟨gb, hgb⟩ : ∃ gb, w1.heap.size = gb := ⟨_, rfl⟩; rw [hgb] at HI ⊢; obtain ⟨WB, hWB⟩ : ∃ WB, WB = w1.alloc (.cells #[.int .u8 5, .int .u8 0, .int .i64 0, .int .i64 0, .int .i64 0, .int .i64 0, .slice none 0 0] 92) := ⟨_, rfl⟩; rw [← hWB] at HI ⊢; clear hWB hgb; have q0 := (HI.out.cell 0 _ rfl).1; obtain ⟨q1, z1⟩ := HI.out.cell 1 _ rfl; obtain ⟨q2, z2⟩ := HI.out.cell 2 _ rfl; obtain ⟨q3, z3⟩ := HI.out.cell 3 _ rfl; obtain ⟨q4, z4⟩ := HI.out.cell 4 _ rfl; obtain ⟨q5, z5⟩ := HI.out.cell 5 _ rfl; obtain ⟨q6, z6⟩ := HI.out.cell 6 _ rfl; have qr := HI.out.ptr; have qs := HI.out.ptrs; obtain ⟨⟨y0, y1, y2, y3, y4, y5, y6⟩, v0, v1, v2, v3, v4, v5, v6⟩ := HI.out.rest
 go_upto_region 29 with (go_at_call 145; (first | refine (ins_num HI.out ).mono ?_ | refine (ins_num (HI.out.set _ _) ).mono ?_); rintro _ w2 ⟨rfl, hi⟩; clear HI; (try clear q0 q1 q2 q3 q4 q5 q6 z1 z2 z3 z4 z5 z6 qr qs y0 y1 y2 y3 y4 y5 y6 v0 v1 v2 v3 v4 v5 v6); have HI := aM hi; clear hi; have q0 := (HI.out.cell 0 _ rfl).1; obtain ⟨q1, z1⟩ := HI.out.cell 1 _ rfl; obtain ⟨q2, z2⟩ := HI.out.cell 2 _ rfl; obtain ⟨q3, z3⟩ := HI.out.cell 3 _ rfl; obtain ⟨q4, z4⟩ := HI.out.cell 4 _ rfl; obtain ⟨q5, z5⟩ := HI.out.cell 5 _ rfl; obtain ⟨q6, z6⟩ := HI.out.cell 6 _ rfl; have qr := HI.out.ptr; have qs := HI.out.ptrs; obtain ⟨⟨y0, y1, y2, y3, y4, y5, y6⟩, v0, v1, v2, v3, v4, v5, v6⟩ := HI.out.rest)
 have hset := HI.out.set 4 (.int .i64 (sBelow 4096 (sBelow 4096 s1).2).1)
 generalize w2.setCell ⟨gb, 4, none⟩ (.int .i64 (sBelow 4096 (sBelow 4096 s1).2).1) = WL at hset ⊢
 clear HI
 have HI := aM hset
 clear q0 q1 q2 q3 q4 q5 q6 z1 z2 z3 z4 z5 z6 qr qs y0 y1 y2 y3 y4 y5 y6 v0 v1 v2 v3 v4 v5 v6
 clear hset
 have q0 := (HI.out.cell 0 _ rfl).1; obtain ⟨q1, z1⟩ := HI.out.cell 1 _ rfl; obtain ⟨q2, z2⟩ := HI.out.cell 2 _ rfl; obtain ⟨q3, z3⟩ := HI.out.cell 3 _ rfl; obtain ⟨q4, z4⟩ := HI.out.cell 4 _ rfl; obtain ⟨q5, z5⟩ := HI.out.cell 5 _ rfl; obtain ⟨q6, z6⟩ := HI.out.cell 6 _ rfl; have qr := HI.out.ptr; have qs := HI.out.ptrs; obtain ⟨⟨y0, y1, y2, y3, y4, y5, y6⟩, v0, v1, v2, v3, v4, v5, v6⟩ := HI.out.rest
 go_wp2
 have p := HI.out.res; have p0 := fun x0 x1 x2 x3 x4 x5 x6 => cell_at (put7 p x0 x1 x2 x3 x4 x5 x6) 0 _ rfl; have p1 := fun x0 x1 x2 x3 x4 x5 x6 => cell_at (put7 p x0 x1 x2 x3 x4 x5 x6) 1 _ rfl; have p2 := fun x0 x1 x2 x3 x4 x5 x6 => cell_at (put7 p x0 x1 x2 x3 x4 x5 x6) 2 _ rfl; have p3 := fun x0 x1 x2 x3 x4 x5 x6 => cell_at (put7 p x0 x1 x2 x3 x4 x5 x6) 3 _ rfl; have p4 := fun x0 x1 x2 x3 x4 x5 x6 => cell_at (put7 p x0 x1 x2 x3 x4 x5 x6) 4 _ rfl; have p5 := fun x0 x1 x2 x3 x4 x5 x6 => cell_at (put7 p x0 x1 x2 x3 x4 x5 x6) 5 _ rfl; have p6 := fun x0 x1 x2 x3 x4 x5 x6 => cell_at (put7 p x0 x1 x2 x3 x4 x5 x6) 6 _ rfl; (try simp only [Exit.inBlock, Exit.then]); refine bodyPost_ret (by simp [results, Try.results126, go_sem, p0, p1, p2, p3, p4, p5, p6]; try rfl) rfl ?_
 obtain ⟨-, o2, o3, -⟩ := HI.out.out _ _ _ _ _ _ _ _ rfl
 exact ⟨.slice none 0 0, rfl, Kd.R_nil _ _ _ _ _, o2, o3⟩
set_option maxHeartbeats 4000000 in
set_option maxRecDepth 100000 in
theorem rins1 (g b : Nat) (s : St) (w : World) (h : Rd w g b s) (hg : g < w.heap.size) (hk : (sBelow 256 s).1 = 1) :
 Calls Try.prog 126 #[.pointer (some ⟨g, 0, none⟩)] w fun e w' => ∃ v, e = .returned (insVal (sBody 1 (sBelow 256 s).2).1 v) ∧ kI.R 3 w' w.heap.size (fun _ => True) v (sBody 1 (sBelow 256 s).2).1.2.2.2.2.2.2 ∧ Rd w' g b (sBody 1 (sBelow 256 s).2).2 ∧ Keep (· = g) w w' := by
 have mixed : Try.prog.follows .mixedOrders = true := by kernel_rfl
 have H := aM h
 have HE := aM hk
 have HWK := aM (trivial)
 obtain ⟨s1, hs1⟩ : ∃ s1, (sBelow 256 s).2 = s1 := ⟨_, rfl⟩
 rw [hs1]
 have HS1 := aM hs1
 clear h hk hs1
 go_enter Try.func126, Try.ntmps126
 go_upto_region 2 with (go_at_call 46; refine (rd_below g b s 256 _ (H.out.below (((Below.refl _ _).alloc (Nat.le_refl _) _).alloc (by simp) _)) (by decide) (by decide)).mono ?_; rintro _ w1 ⟨rfl, hd, hk, hs⟩; have hwk := HWK.out; rw [HE.out]; rw [HS1.out] at hd; have HD := aM hd; have HK := aM hk; clear hd hk hs)
 have HI := aM (ins_start (F := #[.int .u8 1, .int .u8 0, .int .i64 0, .int .i64 0, .int .i64 0, .int .i64 0, .slice none 0 0]) HK.out HD.out hg H.out.2.2 rfl rfl rfl rfl); clear HD HK; obtain ⟨gb, hgb⟩ : ∃ gb, w1.heap.size = gb := ⟨_, rfl⟩; rw [hgb] at HI ⊢; obtain ⟨WB, hWB⟩ : ∃ WB, WB = w1.alloc (.cells #[.int .u8 1, .int .u8 0, .int .i64 0, .int .i64 0, .int .i64 0, .int .i64 0, .slice none 0 0] 92) := ⟨_, rfl⟩; rw [← hWB] at HI ⊢; clear hWB hgb; have q0 := (HI.out.cell 0 _ rfl).1; obtain ⟨q1, z1⟩ := HI.out.cell 1 _ rfl; obtain ⟨q2, z2⟩ := HI.out.cell 2 _ rfl; obtain ⟨q3, z3⟩ := HI.out.cell 3 _ rfl; obtain ⟨q4, z4⟩ := HI.out.cell 4 _ rfl; obtain ⟨q5, z5⟩ := HI.out.cell 5 _ rfl; obtain ⟨q6, z6⟩ := HI.out.cell 6 _ rfl; have qr := HI.out.ptr; have qs := HI.out.ptrs; obtain ⟨⟨y0, y1, y2, y3, y4, y5, y6⟩, v0, v1, v2, v3, v4, v5, v6⟩ := HI.out.rest
 go_upto_region 29 with (first | (go_at_call 145; (first | refine (ins_num HI.out ).mono ?_ | refine (ins_num (HI.out.set _ _) ).mono ?_); rintro _ w2 ⟨rfl, hi⟩; clear HI; (try clear q0 q1 q2 q3 q4 q5 q6 z1 z2 z3 z4 z5 z6 qr qs y0 y1 y2 y3 y4 y5 y6 v0 v1 v2 v3 v4 v5 v6); have HI := aM hi; clear hi; have q0 := (HI.out.cell 0 _ rfl).1; obtain ⟨q1, z1⟩ := HI.out.cell 1 _ rfl; obtain ⟨q2, z2⟩ := HI.out.cell 2 _ rfl; obtain ⟨q3, z3⟩ := HI.out.cell 3 _ rfl; obtain ⟨q4, z4⟩ := HI.out.cell 4 _ rfl; obtain ⟨q5, z5⟩ := HI.out.cell 5 _ rfl; obtain ⟨q6, z6⟩ := HI.out.cell 6 _ rfl; have qr := HI.out.ptr; have qs := HI.out.ptrs; obtain ⟨⟨y0, y1, y2, y3, y4, y5, y6⟩, v0, v1, v2, v3, v4, v5, v6⟩ := HI.out.rest) | (go_at_call 146; (first | refine (ins_int HI.out ).mono ?_ | refine (ins_int (HI.out.set _ _) ).mono ?_); rintro _ w2 ⟨rfl, hi⟩; clear HI; (try clear q0 q1 q2 q3 q4 q5 q6 z1 z2 z3 z4 z5 z6 qr qs y0 y1 y2 y3 y4 y5 y6 v0 v1 v2 v3 v4 v5 v6); have HI := aM hi; clear hi; have q0 := (HI.out.cell 0 _ rfl).1; obtain ⟨q1, z1⟩ := HI.out.cell 1 _ rfl; obtain ⟨q2, z2⟩ := HI.out.cell 2 _ rfl; obtain ⟨q3, z3⟩ := HI.out.cell 3 _ rfl; obtain ⟨q4, z4⟩ := HI.out.cell 4 _ rfl; obtain ⟨q5, z5⟩ := HI.out.cell 5 _ rfl; obtain ⟨q6, z6⟩ := HI.out.cell 6 _ rfl; have qr := HI.out.ptr; have qs := HI.out.ptrs; obtain ⟨⟨y0, y1, y2, y3, y4, y5, y6⟩, v0, v1, v2, v3, v4, v5, v6⟩ := HI.out.rest))
 have hset := HI.out.set 5 (.int .i64 (sInt (sBelow 4096 s1).2).1)
 generalize w2.setCell ⟨gb, 5, none⟩ (.int .i64 (sInt (sBelow 4096 s1).2).1) = WL at hset ⊢
 clear HI
 have HI := aM hset
 clear q0 q1 q2 q3 q4 q5 q6 z1 z2 z3 z4 z5 z6 qr qs y0 y1 y2 y3 y4 y5 y6 v0 v1 v2 v3 v4 v5 v6
 clear hset
 have q0 := (HI.out.cell 0 _ rfl).1; obtain ⟨q1, z1⟩ := HI.out.cell 1 _ rfl; obtain ⟨q2, z2⟩ := HI.out.cell 2 _ rfl; obtain ⟨q3, z3⟩ := HI.out.cell 3 _ rfl; obtain ⟨q4, z4⟩ := HI.out.cell 4 _ rfl; obtain ⟨q5, z5⟩ := HI.out.cell 5 _ rfl; obtain ⟨q6, z6⟩ := HI.out.cell 6 _ rfl; have qr := HI.out.ptr; have qs := HI.out.ptrs; obtain ⟨⟨y0, y1, y2, y3, y4, y5, y6⟩, v0, v1, v2, v3, v4, v5, v6⟩ := HI.out.rest
 go_wp2
 have p := HI.out.res; have p0 := fun x0 x1 x2 x3 x4 x5 x6 => cell_at (put7 p x0 x1 x2 x3 x4 x5 x6) 0 _ rfl; have p1 := fun x0 x1 x2 x3 x4 x5 x6 => cell_at (put7 p x0 x1 x2 x3 x4 x5 x6) 1 _ rfl; have p2 := fun x0 x1 x2 x3 x4 x5 x6 => cell_at (put7 p x0 x1 x2 x3 x4 x5 x6) 2 _ rfl; have p3 := fun x0 x1 x2 x3 x4 x5 x6 => cell_at (put7 p x0 x1 x2 x3 x4 x5 x6) 3 _ rfl; have p4 := fun x0 x1 x2 x3 x4 x5 x6 => cell_at (put7 p x0 x1 x2 x3 x4 x5 x6) 4 _ rfl; have p5 := fun x0 x1 x2 x3 x4 x5 x6 => cell_at (put7 p x0 x1 x2 x3 x4 x5 x6) 5 _ rfl; have p6 := fun x0 x1 x2 x3 x4 x5 x6 => cell_at (put7 p x0 x1 x2 x3 x4 x5 x6) 6 _ rfl; (try simp only [Exit.inBlock, Exit.then]); refine bodyPost_ret (by simp [results, Try.results126, go_sem, p0, p1, p2, p3, p4, p5, p6]; try rfl) rfl ?_
 obtain ⟨-, o2, o3, -⟩ := HI.out.out _ _ _ _ _ _ _ _ rfl
 exact ⟨.slice none 0 0, rfl, Kd.R_nil _ _ _ _ _, o2, o3⟩
set_option maxHeartbeats 4000000 in
set_option maxRecDepth 100000 in
theorem rins3 (g b : Nat) (s : St) (w : World) (h : Rd w g b s) (hg : g < w.heap.size) (hk : (sBelow 256 s).1 = 3) :
 Calls Try.prog 126 #[.pointer (some ⟨g, 0, none⟩)] w fun e w' => ∃ v, e = .returned (insVal (sBody 3 (sBelow 256 s).2).1 v) ∧ kI.R 3 w' w.heap.size (fun _ => True) v (sBody 3 (sBelow 256 s).2).1.2.2.2.2.2.2 ∧ Rd w' g b (sBody 3 (sBelow 256 s).2).2 ∧ Keep (· = g) w w' := by
 have mixed : Try.prog.follows .mixedOrders = true := by kernel_rfl
 have H := aM h
 have HE := aM hk
 have HWK := aM (trivial)
 obtain ⟨s1, hs1⟩ : ∃ s1, (sBelow 256 s).2 = s1 := ⟨_, rfl⟩
 rw [hs1]
 have HS1 := aM hs1
 have HWR := aM (show IntKind.u8.wrap (sBelow 256 s1).1 = (sBelow 256 s1).1 from by
  have := below_range (m := 256) (s := s1) (by decide) (by rw [← hs1]; exact sbelow_by h.2.1)
  exact wraps_u8' _ this.1 this.2)
 clear h hk hs1
 go_enter Try.func126, Try.ntmps126
 go_upto_region 2 with (go_at_call 46; refine (rd_below g b s 256 _ (H.out.below (((Below.refl _ _).alloc (Nat.le_refl _) _).alloc (by simp) _)) (by decide) (by decide)).mono ?_; rintro _ w1 ⟨rfl, hd, hk, hs⟩; have hwk := HWK.out; rw [HE.out]; rw [HS1.out] at hd; have HD := aM hd; have HK := aM hk; clear hd hk hs)
 have HI := aM (ins_start (F := #[.int .u8 3, .int .u8 0, .int .i64 0, .int .i64 0, .int .i64 0, .int .i64 0, .slice none 0 0]) HK.out HD.out hg H.out.2.2 rfl rfl rfl rfl); clear HD HK; obtain ⟨gb, hgb⟩ : ∃ gb, w1.heap.size = gb := ⟨_, rfl⟩; rw [hgb] at HI ⊢; obtain ⟨WB, hWB⟩ : ∃ WB, WB = w1.alloc (.cells #[.int .u8 3, .int .u8 0, .int .i64 0, .int .i64 0, .int .i64 0, .int .i64 0, .slice none 0 0] 92) := ⟨_, rfl⟩; rw [← hWB] at HI ⊢; clear hWB hgb; have q0 := (HI.out.cell 0 _ rfl).1; obtain ⟨q1, z1⟩ := HI.out.cell 1 _ rfl; obtain ⟨q2, z2⟩ := HI.out.cell 2 _ rfl; obtain ⟨q3, z3⟩ := HI.out.cell 3 _ rfl; obtain ⟨q4, z4⟩ := HI.out.cell 4 _ rfl; obtain ⟨q5, z5⟩ := HI.out.cell 5 _ rfl; obtain ⟨q6, z6⟩ := HI.out.cell 6 _ rfl; have qr := HI.out.ptr; have qs := HI.out.ptrs; obtain ⟨⟨y0, y1, y2, y3, y4, y5, y6⟩, v0, v1, v2, v3, v4, v5, v6⟩ := HI.out.rest
 go_upto_region 29 with (first | (go_at_call 145; (first | refine (ins_num HI.out ).mono ?_ | refine (ins_num (HI.out.set _ _) ).mono ?_); rintro _ w2 ⟨rfl, hi⟩; clear HI; (try clear q0 q1 q2 q3 q4 q5 q6 z1 z2 z3 z4 z5 z6 qr qs y0 y1 y2 y3 y4 y5 y6 v0 v1 v2 v3 v4 v5 v6); have HI := aM hi; clear hi; have q0 := (HI.out.cell 0 _ rfl).1; obtain ⟨q1, z1⟩ := HI.out.cell 1 _ rfl; obtain ⟨q2, z2⟩ := HI.out.cell 2 _ rfl; obtain ⟨q3, z3⟩ := HI.out.cell 3 _ rfl; obtain ⟨q4, z4⟩ := HI.out.cell 4 _ rfl; obtain ⟨q5, z5⟩ := HI.out.cell 5 _ rfl; obtain ⟨q6, z6⟩ := HI.out.cell 6 _ rfl; have qr := HI.out.ptr; have qs := HI.out.ptrs; obtain ⟨⟨y0, y1, y2, y3, y4, y5, y6⟩, v0, v1, v2, v3, v4, v5, v6⟩ := HI.out.rest) | (go_at_call 46; (first | refine (ins_below HI.out 256 (by decide) (by decide)).mono ?_ | refine (ins_below (HI.out.set _ _) 256 (by decide) (by decide)).mono ?_); rintro _ w2 ⟨rfl, hi⟩; clear HI; (try clear q0 q1 q2 q3 q4 q5 q6 z1 z2 z3 z4 z5 z6 qr qs y0 y1 y2 y3 y4 y5 y6 v0 v1 v2 v3 v4 v5 v6); have HI := aM hi; clear hi; have hwr := HWR.out; have q0 := (HI.out.cell 0 _ rfl).1; obtain ⟨q1, z1⟩ := HI.out.cell 1 _ rfl; obtain ⟨q2, z2⟩ := HI.out.cell 2 _ rfl; obtain ⟨q3, z3⟩ := HI.out.cell 3 _ rfl; obtain ⟨q4, z4⟩ := HI.out.cell 4 _ rfl; obtain ⟨q5, z5⟩ := HI.out.cell 5 _ rfl; obtain ⟨q6, z6⟩ := HI.out.cell 6 _ rfl; have qr := HI.out.ptr; have qs := HI.out.ptrs; obtain ⟨⟨y0, y1, y2, y3, y4, y5, y6⟩, v0, v1, v2, v3, v4, v5, v6⟩ := HI.out.rest))
 have hset := HI.out.set 4 (.int .i64 (sBelow 4096 (sBelow 4096 (sBelow 4096 (sBelow 256 s1).2).2).2).1)
 generalize w2.setCell ⟨gb, 4, none⟩ (.int .i64 (sBelow 4096 (sBelow 4096 (sBelow 4096 (sBelow 256 s1).2).2).2).1) = WL at hset ⊢
 clear HI
 have HI := aM hset
 clear q0 q1 q2 q3 q4 q5 q6 z1 z2 z3 z4 z5 z6 qr qs y0 y1 y2 y3 y4 y5 y6 v0 v1 v2 v3 v4 v5 v6
 clear hset
 have q0 := (HI.out.cell 0 _ rfl).1; obtain ⟨q1, z1⟩ := HI.out.cell 1 _ rfl; obtain ⟨q2, z2⟩ := HI.out.cell 2 _ rfl; obtain ⟨q3, z3⟩ := HI.out.cell 3 _ rfl; obtain ⟨q4, z4⟩ := HI.out.cell 4 _ rfl; obtain ⟨q5, z5⟩ := HI.out.cell 5 _ rfl; obtain ⟨q6, z6⟩ := HI.out.cell 6 _ rfl; have qr := HI.out.ptr; have qs := HI.out.ptrs; obtain ⟨⟨y0, y1, y2, y3, y4, y5, y6⟩, v0, v1, v2, v3, v4, v5, v6⟩ := HI.out.rest
 go_wp2
 have p := HI.out.res; have p0 := fun x0 x1 x2 x3 x4 x5 x6 => cell_at (put7 p x0 x1 x2 x3 x4 x5 x6) 0 _ rfl; have p1 := fun x0 x1 x2 x3 x4 x5 x6 => cell_at (put7 p x0 x1 x2 x3 x4 x5 x6) 1 _ rfl; have p2 := fun x0 x1 x2 x3 x4 x5 x6 => cell_at (put7 p x0 x1 x2 x3 x4 x5 x6) 2 _ rfl; have p3 := fun x0 x1 x2 x3 x4 x5 x6 => cell_at (put7 p x0 x1 x2 x3 x4 x5 x6) 3 _ rfl; have p4 := fun x0 x1 x2 x3 x4 x5 x6 => cell_at (put7 p x0 x1 x2 x3 x4 x5 x6) 4 _ rfl; have p5 := fun x0 x1 x2 x3 x4 x5 x6 => cell_at (put7 p x0 x1 x2 x3 x4 x5 x6) 5 _ rfl; have p6 := fun x0 x1 x2 x3 x4 x5 x6 => cell_at (put7 p x0 x1 x2 x3 x4 x5 x6) 6 _ rfl; (try simp only [Exit.inBlock, Exit.then]); refine bodyPost_ret (by simp [results, Try.results126, go_sem, p0, p1, p2, p3, p4, p5, p6]; try rfl) rfl ?_
 obtain ⟨-, o2, o3, -⟩ := HI.out.out _ _ _ _ _ _ _ _ rfl
 exact ⟨.slice none 0 0, rfl, Kd.R_nil _ _ _ _ _, o2, o3⟩
set_option maxHeartbeats 4000000 in
set_option maxRecDepth 100000 in
theorem rins0 (g b : Nat) (s : St) (w : World) (h : Rd w g b s) (hg : g < w.heap.size) (k : Int) (hk : (sBelow 256 s).1 = k) (hkk : (k == 1) = false ∧ (k == 2) = false ∧ (k == 3) = false ∧ (k == 4) = false ∧ (k == 5) = false ∧ (k == 6) = false ∧ (k == 7) = false ∧ (k == 8) = false) :
 Calls Try.prog 126 #[.pointer (some ⟨g, 0, none⟩)] w fun e w' => ∃ v, e = .returned (insVal ((((k, 0, 0, 0, 0, 0, []), sFail 20 (sBelow 256 s).2) : Ins × St)).1 v) ∧ kI.R 3 w' w.heap.size (fun _ => True) v ((((k, 0, 0, 0, 0, 0, []), sFail 20 (sBelow 256 s).2) : Ins × St)).1.2.2.2.2.2.2 ∧ Rd w' g b ((((k, 0, 0, 0, 0, 0, []), sFail 20 (sBelow 256 s).2) : Ins × St)).2 ∧ Keep (· = g) w w' := by
 have mixed : Try.prog.follows .mixedOrders = true := by kernel_rfl
 have H := aM h
 have HE := aM hk
 have HWK := aM (show IntKind.u8.wrap k = k from by have := below_range (m := 256) (s := s) (by decide) h.2.1; rw [hk] at this; exact wraps_u8' _ this.1 this.2)
 obtain ⟨s1, hs1⟩ : ∃ s1, (sBelow 256 s).2 = s1 := ⟨_, rfl⟩
 rw [hs1]
 have HS1 := aM hs1
 obtain ⟨k1, k2, k3, k4, k5, k6, k7, k8⟩ := hkk
 clear h hk hs1
 go_enter Try.func126, Try.ntmps126
 go_upto_region 2 with (go_at_call 46; refine (rd_below g b s 256 _ (H.out.below (((Below.refl _ _).alloc (Nat.le_refl _) _).alloc (by simp) _)) (by decide) (by decide)).mono ?_; rintro _ w1 ⟨rfl, hd, hk, hs⟩; have hwk := HWK.out; rw [HE.out]; rw [HS1.out] at hd; have HD := aM hd; have HK := aM hk; clear hd hk hs)
 have HI := aM (ins_start (F := #[.int .u8 k, .int .u8 0, .int .i64 0, .int .i64 0, .int .i64 0, .int .i64 0, .slice none 0 0]) HK.out HD.out hg H.out.2.2 rfl rfl rfl rfl); clear HD HK; obtain ⟨gb, hgb⟩ : ∃ gb, w1.heap.size = gb := ⟨_, rfl⟩; rw [hgb] at HI ⊢; obtain ⟨WB, hWB⟩ : ∃ WB, WB = w1.alloc (.cells #[.int .u8 k, .int .u8 0, .int .i64 0, .int .i64 0, .int .i64 0, .int .i64 0, .slice none 0 0] 92) := ⟨_, rfl⟩; rw [← hWB] at HI ⊢; clear hWB hgb; have q0 := (HI.out.cell 0 _ rfl).1; obtain ⟨q1, z1⟩ := HI.out.cell 1 _ rfl; obtain ⟨q2, z2⟩ := HI.out.cell 2 _ rfl; obtain ⟨q3, z3⟩ := HI.out.cell 3 _ rfl; obtain ⟨q4, z4⟩ := HI.out.cell 4 _ rfl; obtain ⟨q5, z5⟩ := HI.out.cell 5 _ rfl; obtain ⟨q6, z6⟩ := HI.out.cell 6 _ rfl; have qr := HI.out.ptr; have qs := HI.out.ptrs; obtain ⟨⟨y0, y1, y2, y3, y4, y5, y6⟩, v0, v1, v2, v3, v4, v5, v6⟩ := HI.out.rest
 go_upto_region 29 with (go_at_call 94; (first | refine (ins_fail HI.out 20).mono ?_ | refine (ins_fail (HI.out.set _ _) 20).mono ?_); rintro _ w2 ⟨rfl, hi⟩; clear HI; (try clear q0 q1 q2 q3 q4 q5 q6 z1 z2 z3 z4 z5 z6 qr qs y0 y1 y2 y3 y4 y5 y6 v0 v1 v2 v3 v4 v5 v6); have HI := aM hi; clear hi; have q0 := (HI.out.cell 0 _ rfl).1; obtain ⟨q1, z1⟩ := HI.out.cell 1 _ rfl; obtain ⟨q2, z2⟩ := HI.out.cell 2 _ rfl; obtain ⟨q3, z3⟩ := HI.out.cell 3 _ rfl; obtain ⟨q4, z4⟩ := HI.out.cell 4 _ rfl; obtain ⟨q5, z5⟩ := HI.out.cell 5 _ rfl; obtain ⟨q6, z6⟩ := HI.out.cell 6 _ rfl; have qr := HI.out.ptr; have qs := HI.out.ptrs; obtain ⟨⟨y0, y1, y2, y3, y4, y5, y6⟩, v0, v1, v2, v3, v4, v5, v6⟩ := HI.out.rest)
 go_wp2
 have p := HI.out.res; have p0 := fun x0 x1 x2 x3 x4 x5 x6 => cell_at (put7 p x0 x1 x2 x3 x4 x5 x6) 0 _ rfl; have p1 := fun x0 x1 x2 x3 x4 x5 x6 => cell_at (put7 p x0 x1 x2 x3 x4 x5 x6) 1 _ rfl; have p2 := fun x0 x1 x2 x3 x4 x5 x6 => cell_at (put7 p x0 x1 x2 x3 x4 x5 x6) 2 _ rfl; have p3 := fun x0 x1 x2 x3 x4 x5 x6 => cell_at (put7 p x0 x1 x2 x3 x4 x5 x6) 3 _ rfl; have p4 := fun x0 x1 x2 x3 x4 x5 x6 => cell_at (put7 p x0 x1 x2 x3 x4 x5 x6) 4 _ rfl; have p5 := fun x0 x1 x2 x3 x4 x5 x6 => cell_at (put7 p x0 x1 x2 x3 x4 x5 x6) 5 _ rfl; have p6 := fun x0 x1 x2 x3 x4 x5 x6 => cell_at (put7 p x0 x1 x2 x3 x4 x5 x6) 6 _ rfl; (try simp only [Exit.inBlock, Exit.then]); refine bodyPost_ret (by simp [results, Try.results126, go_sem, p0, p1, p2, p3, p4, p5, p6]; try rfl) rfl ?_
 obtain ⟨-, o2, o3, -⟩ := HI.out.out _ _ _ _ _ _ _ _ rfl
 exact ⟨.slice none 0 0, rfl, Kd.R_nil _ _ _ _ _, o2, o3⟩
end Go.Proofs.Ytnckonglodmfeaa.Ik
namespace Go.Proofs.Ytnckonglodmfeaa.Gc
open Go.RowKit Go.Proofs.YtnckonglodmfeaaW.PrintWords Go.Proofs.YtnckonglodmfeaaW.PrintLast Go.Proofs.YtnckonglodmfeaaW.PrintMore B Ls Gs S R
set_option maxHeartbeats 8000000 in
set_option maxRecDepth 100000 in
theorem rtake_calls (A : Option Addr) (c : Nat) (b : List Int) (w : World) (hC : kU8.C w A b.length b) (hc : b.length ≤ c) (hby : By b) (hl : b.length ≤ 1000000) :
 Calls Try.prog 15 #[.slice A b.length c] w fun e w' => ∃ A2 c2, e = .returned (.tuple #[.int .u8 (takeL b).1, .slice A2 (takeL b).2.1.length c2, .int .i64 (takeL b).2.2.1, .int .i64 (takeL b).2.2.2]) ∧ (takeL b).2.1.length ≤ c2 ∧ ((∀ W, kU8.C W A b.length b → kU8.C W A2 (takeL b).2.1.length (takeL b).2.1) ∧ ∀ a, A2 = some a → ∃ a0, A = some a0 ∧ a.block = a0.block) ∧ Below w.heap.size w w' := by
 have HC := aM hC
 have HBY := aM hby
 by_cases hb2 : b.length < 2
 · have ht : takeL b = (0, [], 0, 3) := by
    match b, hb2 with
    | [], _ => rfl
    | [_], _ => rfl
    | _ :: _ :: _, h => simp at h; omega
   have HT := aM ht
   clear ht hC hby
   go_enter Try.func15, Try.ntmps15
   go_wp2
   refine bodyPost_ret (results_tmp4 rfl _ _ _) rfl ?_
   rw [HT.out]
   exact ⟨none, 0, rfl, Nat.le_refl _, ⟨fun W _ => Kd.C_nil _ _, fun a ha => (by cases ha)⟩, Below.refl _ _⟩
 obtain ⟨m, k, r, hbr⟩ : ∃ m k r, b = m :: k :: r := by
  match b, hb2 with
  | [], h => simp at h
  | [_], h => simp at h
  | m :: k :: r, _ => exact ⟨m, k, r, rfl⟩
 obtain ⟨ad, rfl⟩ := C_some hC (by omega)
 have hrl : b.length = r.length + 2 := by rw [hbr]; rfl
 have q0 : w.cell? (ad.add 0) = some (.int .u8 m) := C_cell hC (by rw [hbr]; rfl)
 have q1 : w.cell? (ad.add 1) = some (.int .u8 k) := C_cell hC (by rw [hbr]; rfl)
 have ea : ad.add 0 = ad := by simp [Addr.add]
 have q0' : w.cell? ad = some (.int .u8 m) := by rw [← ea]; exact q0
 have hmk := hby m (by rw [hbr]; simp)
 have hkk := hby k (by rw [hbr]; simp)
 obtain ⟨l10, h10⟩ : ∃ l, r.take 10 = l := ⟨_, rfl⟩
 obtain ⟨n, left, cd, hn⟩ : ∃ n left cd, num l10 0 = (n, left, cd) := ⟨_, _, _, rfl⟩
 have HT := aM (takeL_eq (m := m) (k := k) h10 hn)
 rw [← hbr] at HT
 by_cases hm : m = 111
 case neg =>
  have hmb : (m != 111) = true := bne_iff_ne.mpr hm
  have ht := HT.out
  rw [if_pos hm] at ht
  have HT := aM ht
  clear ht hm hC hby hbr h10 hn
  go_enter Try.func15, Try.ntmps15
  go_wp2
  refine bodyPost_ret (results_tmp4 rfl _ _ _) rfl ?_
  rw [HT.out]
  exact ⟨none, 0, rfl, Nat.le_refl _, ⟨fun W _ => Kd.C_nil _ _, fun a ha => (by cases ha)⟩, Below.refl _ _⟩
 subst hm
 have ht := HT.out
 rw [if_neg (by simp)] at ht
 have HT := aM ht
 clear ht
 have hnl := num_left l10 0
 have hnr := num_range l10 0 (by rw [← h10]; exact (fun x hx => hby x (by rw [hbr]; exact List.mem_cons_of_mem _ (List.mem_cons_of_mem _ (List.mem_of_mem_take hx)))))
 rw [hn] at hnl hnr
 obtain ⟨hn0, hn1⟩ := hnr
 simp only at hnl hn0 hn1
 have hl10 : l10.length = min 10 r.length := by rw [← h10, List.length_take]
 obtain ⟨e, he⟩ : ∃ e, min b.length 12 = e := ⟨_, rfl⟩
 have hel : e = 2 + l10.length := by omega
 have HE := aM he
 obtain ⟨i5, hi5, -, hi5s, -⟩ := info_ex infoU8
 obtain ⟨A1, hrun1, hCm1, hA1, hcp1⟩ := sl_mid kU8 28 5 .i64 .i64 Try.underlying28 hi5 (some ad) c b hi5s 2 (e : Int) (by decide) (by omega) (by omega) hc
 have hd : (b.take (e : Int).toNat).drop (2 : Int).toNat = l10 := by
  rw [Int.toNat_natCast, show (2 : Int).toNat = 2 from rfl, ← h10, hbr, show e = (e - 2) + 1 + 1 by omega, List.take_succ_cons, List.take_succ_cons]
  show r.take (e - 2) = r.take 10
  rcases Nat.le_total r.length 10 with h | h
  · rw [List.take_of_length_le (by omega), List.take_of_length_le h]
  · rw [show e - 2 = 10 by omega]
 rw [hd] at hrun1 hCm1 hcp1
 have HC1 := aM (hCm1 _ hC)
 have hl10b : l10.length ≤ 10 := by omega
 have HBY10 := aM (show By l10 by rw [← h10]; exact fun x hx => hby x (by rw [hbr]; exact List.mem_cons_of_mem _ (List.mem_cons_of_mem _ (List.mem_of_mem_take hx))))
 have HN := aM hn
 have hb2' : 2 ≤ b.length := by omega
 have he12 : e ≤ 12 := by omega
 have hle : left.length ≤ e := by omega
 have hmb : ((111 : Int) != 111) = false := by decide
 have HBR := aM (And.intro hbr (And.intro hrl (And.intro hel hl10)))
 have HRB := aM (show By r from fun x hx => hby x (by rw [hbr]; exact List.mem_cons_of_mem _ (List.mem_cons_of_mem _ hx)))
 clear hd hCm1 hn h10 he hbr hC hby hrl hel hl10
 have hadl : ad.block < w.heap.size := World.block_lt_of_cell? w _ q0'
 obtain ⟨W, hW⟩ : ∃ W, W = w.alloc (.cells #[.slice A1 l10.length (c - 2), .int .i64 0] 107) := ⟨_, rfl⟩
 have HR1 := aM (show Rdr 107 W w.heap.size ad.block l10 0 from ⟨A1, c - 2, by rw [hW]; exact heap_alloc_new _ _, by simpa using hcp1, fun a e => by
  obtain ⟨a0, h1, h2⟩ := hA1 a e
  injection h1 with h1
  rw [h2, h1], by rw [hW]; exact Kd.C_alloc HC1.out _, by omega⟩)
 have HBW := aM (show Below w.heap.size w W by rw [hW]; exact (Below.refl _ _).alloc (Nat.le_refl _) _)
 clear hA1 hcp1 hmk
 go_enter Try.func15, Try.ntmps15
 go_upto_if 21 with fail
 go_cut [6] (fun s6 wx => s6 = .int .i64 (e : Int) ∧ w = wx)
 case first =>
  by_cases h12 : 12 < b.length
  · have h12' : decide ((12 : Int) < (b.length : Int)) = true := by simp; omega
    have he : (12 : Int) = (e : Int) := by have := HE.out; omega
    go_wp2
    go_meet
    exact ⟨by rw [← he], rfl⟩
  · have h12' : decide ((12 : Int) < (b.length : Int)) = false := by simp; omega
    have he : b.length = e := by have := HE.out; omega
    go_wp2
    go_meet
    exact ⟨by rw [← he], rfl⟩
 case rest =>
 obtain ⟨rfl, rfl⟩ := hcut
 clear HE
 by_cases hcd : cd = 0
 case neg =>
  have hcb : (cd != 0) = true := bne_iff_ne.mpr hcd
  have ht := HT.out
  rw [if_pos hcd] at ht
  have HT := aM ht
  clear ht hcd
  go_wp2_with (first | (go_at_call 43; rw [← hW]; refine (Lr.num_calls w.heap.size ad.block l10 0 _ HR1.out HBY10.out).mono ?_; rw [HN.out]; rintro e2 w2 ⟨rfl, hr2, hk2, hs2⟩; obtain ⟨q2, -⟩ := hr2.code; obtain ⟨A4, c4, q4, -, -, -, -, -, -⟩ := hr2.left; have HR2 := aM hr2; have HB2 := aM (Keep.below_then HBW.out hk2 HBW.out.size (fun i hi e => by omega)); clear hr2 hk2 hs2))
  have HCUR := aM (Keep.refl (fun _ => False) w2.drew)
  have HQ2 := aM (show ∀ W, Keep (fun _ => False) w2.drew W → W.cell? ⟨w.heap.size, 1, none⟩ = some (.int .i64 cd) from fun W hW => (by
   have h2 : W.heap[w.heap.size]? = w2.heap[w.heap.size]? := hW.block _ (World.block_lt_of_cell? w2 _ q2) (fun h => h)
   simpa [World.cell?, h2] using q2))
  clear q4
  refine rk_start (fun _ => False) (by kernel_rfl) (n := 8) (l := (bl 8 0)) (by kernel_rfl) (by kernel_rfl) ?_
  refine kt 0 (bl 8 1) rfl (fun w' hR => by go_simp; first | done | with_reducible rfl) rfl ?_
  try simp only [Act.put, pB, pC, pD]
  refine kt 1 (bl 8 3) rfl (fun w' hR => by go_simp; first | done | with_reducible rfl) rfl ?_
  try simp only [Act.put, pB, pC, pD]
  refine kt 2 (bl 8 7) rfl (fun w' hR => by go_simp; first | done | with_reducible rfl) rfl ?_
  try simp only [Act.put, pB, pC, pD]
  refine kt 3 (bl 8 15) rfl (fun w' hR => by have x0 := HQ2.out w' (HCUR.out.trans hR); go_simp; first | done | with_reducible rfl) rfl ?_
  try simp only [Act.put, pB, pC, pD]
  refine kt 4 (bl 8 31) rfl (fun w' hR => by go_simp; first | done | with_reducible rfl) rfl ?_
  try simp only [Act.put, pB, pC, pD]
  refine kt 5 (bl 8 63) rfl (fun w' hR => by go_simp; first | done | with_reducible rfl) rfl ?_
  try simp only [Act.put, pB, pC, pD]
  refine kt 6 (bl 8 127) rfl (fun w' hR => by go_simp; first | done | with_reducible rfl) rfl ?_
  try simp only [Act.put, pB, pC, pD]
  refine kt 7 (bl 8 255) rfl (fun w' hR => by go_simp; first | done | with_reducible rfl) rfl ?_
  try simp only [Act.put, pB, pC, pD]
  refine rk_done (by kernel_rfl) ?_
  go_wp2
  refine bodyPost_ret (results_tmp4 rfl _ _ _) rfl ?_
  rw [HT.out]
  exact ⟨none, 0, rfl, Nat.le_refl _, ⟨fun W _ => Kd.C_nil _ _, fun a ha => (by cases ha)⟩, HB2.out.drew⟩
 subst hcd
 have hcb : ((0 : Int) != 0) = false := by decide
 have ht := HT.out
 rw [if_neg (by simp)] at ht
 have HT := aM ht
 clear ht
 by_cases h64 : 65536 < n
 · have ht := HT.out
   rw [if_pos h64] at ht
   have HT := aM ht
   clear ht
   go_wp2_with (first | (go_at_call 43; rw [← hW]; refine (Lr.num_calls w.heap.size ad.block l10 0 _ HR1.out HBY10.out).mono ?_; rw [HN.out]; rintro e2 w2 ⟨rfl, hr2, hk2, hs2⟩; obtain ⟨q2, -⟩ := hr2.code; obtain ⟨A4, c4, q4, -, -, -, -, -, -⟩ := hr2.left; have HR2 := aM hr2; have HB2 := aM (Keep.below_then HBW.out hk2 HBW.out.size (fun i hi e => by omega)); clear hr2 hk2 hs2))
   refine bodyPost_ret (results_tmp4 rfl _ _ _) rfl ?_
   rw [HT.out]
   exact ⟨none, 0, rfl, Nat.le_refl _, ⟨fun W _ => Kd.C_nil _ _, fun a ha => (by cases ha)⟩, HB2.out⟩
 have ht := HT.out
 rw [if_neg h64] at ht
 have HT := aM ht
 clear ht
 obtain ⟨nn, rfl⟩ : ∃ nn : Nat, n = nn := ⟨n.toNat, by omega⟩
 obtain ⟨u, hu⟩ : ∃ u, l10.length - left.length = u := ⟨_, rfl⟩
 rw [hu, Int.toNat_natCast] at HT
 obtain ⟨a, ha⟩ : ∃ a : Nat, a = 2 + u := ⟨_, rfl⟩
 have hea : e = a + left.length := by have := HBR.out; omega
 subst hea
 have hab : a ≤ 12 := by have := HBR.out; omega
 have hlf : left.length ≤ 12 := by omega
 have hnn : nn ≤ 65536 := by omega
 have hat : (a : Int) + (left.length : Int) - (left.length : Int) = (a : Int) := by omega
 have HA := aM (And.intro ha hu)
 push_cast at hrun1
 clear ha hu
 by_cases hsl : b.length < a + 4 + nn
 · have ht := HT.out
   rw [if_pos (by have h1 := HBR.out; have h2 := HA.out; omega)] at ht
   have HT := aM ht
   have hsd : decide ((b.length : Int) < (a : Int) + 4 + (nn : Int)) = true := by simp; omega
   clear hsl hle hn1 hn0 hnl
   clear ht
   go_wp2_with (first | (go_at_call 43; rw [← hW]; refine (Lr.num_calls w.heap.size ad.block l10 0 _ HR1.out HBY10.out).mono ?_; rw [HN.out]; rintro e2 w2 ⟨rfl, hr2, hk2, hs2⟩; obtain ⟨q2, -⟩ := hr2.code; obtain ⟨A4, c4, q4, -, -, -, -, -, -⟩ := hr2.left; have HR2 := aM hr2; have HB2 := aM (Keep.below_then HBW.out hk2 HBW.out.size (fun i hi e => by omega)); clear hr2 hk2 hs2))
   refine bodyPost_ret (results_tmp4 rfl _ _ _) rfl ?_
   rw [HT.out]
   exact ⟨none, 0, rfl, Nat.le_refl _, ⟨fun W _ => Kd.C_nil _ _, fun a ha => (by cases ha)⟩, HB2.out⟩
 have hbr := HBR.out.1
 have hrl := HBR.out.2.1
 obtain ⟨ha, hu⟩ := HA.out
 have hle2 : a + 4 + nn ≤ b.length := by omega
 obtain ⟨body, hbody⟩ : ∃ body, (r.drop (u + 4)).take nn = body := ⟨_, rfl⟩
 have hbl : body.length = nn := by rw [← hbody, List.length_take, List.length_drop]; omega
 have hbb : (b.take ((a : Int) + 4 + (nn : Int)).toNat).drop ((a : Int) + 4).toNat = body := by
  rw [← hbody, hbr, show ((a : Int) + 4 + (nn : Int)).toNat = (u + 4 + nn) + 1 + 1 by omega, show ((a : Int) + 4).toNat = (u + 4) + 1 + 1 by omega, List.take_succ_cons, List.take_succ_cons, List.drop_succ_cons, List.drop_succ_cons, List.drop_take]
  congr 1
  omega
 obtain ⟨A2, hrun2, hCm2, hAm2, -⟩ := sl_mid kU8 28 5 .i64 .i64 Try.underlying28 hi5 (some ad) c b hi5s ((a : Int) + 4) ((a : Int) + 4 + (nn : Int)) (by omega) (by omega) (by omega) hc
 rw [hbb] at hrun2 hCm2
 have HCB := aM (hCm2 _ HC.out)
 obtain ⟨y0, y1, y2, y3, hys⟩ : ∃ y0 y1 y2 y3, (r.drop u).take 4 = [y0, y1, y2, y3] := by
  have h4 : ((r.drop u).take 4).length = 4 := by rw [List.length_take, List.length_drop]; omega
  match (r.drop u).take 4, h4 with
  | [y0, y1, y2, y3], _ => exact ⟨y0, y1, y2, y3, rfl⟩
 have hyb : By [y0, y1, y2, y3] := by rw [← hys]; exact (HRB.out.drop _).take _
 have hb4 : (b.take ((a : Int) + 4).toNat).drop (a : Int).toNat = [y0, y1, y2, y3] := by
  rw [← hys, hbr, show ((a : Int) + 4).toNat = (u + 4) + 1 + 1 by omega, show (a : Int).toNat = u + 1 + 1 by omega, List.take_succ_cons, List.take_succ_cons, List.drop_succ_cons, List.drop_succ_cons, List.drop_take]
  congr 1
  omega
 obtain ⟨A3, hrun3, hCm3, -, -⟩ := sl_mid kU8 28 5 .i64 .i64 Try.underlying28 hi5 (some ad) c b hi5s (a : Int) ((a : Int) + 4) (by omega) (by omega) (by omega) hc
 rw [hb4] at hrun3 hCm3
 simp only [List.length_cons, List.length_nil, Nat.zero_add, Nat.reduceAdd] at hrun3
 have hC3 := hCm3 _ HC.out
 obtain ⟨ad3, rfl⟩ := C_some hC3 (by simp)
 have HC3 := aM (show kU8.C w (some ad3) 4 [y0, y1, y2, y3] from hC3)
 have HBYB := aM (show By body by rw [← hbody]; exact (HRB.out.drop _).take _)
 have hsd : decide ((b.length : Int) < (a : Int) + 4 + (nn : Int)) = false := by simp; omega
 have ht := HT.out
 rw [if_neg (by omega), hbody, hys] at ht
 have HTT := aM ht
 have hbodyb : body.length ≤ 65536 := by omega
 have hq1 : w.cell? ⟨ad.block, ad.off + 1, none⟩ = some (.int .u8 k) := q1
 have HQ := aM hq1
 have hq1l : (⟨ad.block, ad.off + 1, none⟩ : Addr).block < w.heap.size := World.block_lt_of_cell? w _ q1
 have q1k : ∀ W, Below w.heap.size w W → W.cell? ⟨ad.block, ad.off + 1, none⟩ = some (.int .u8 k) := fun W hW => (hW.cell (p := ⟨ad.block, ad.off + 1, none⟩) hq1l).trans HQ.out
 have HQK := aM q1k
 clear q1 hq1 q1k
 obtain ⟨res, hres⟩ : ∃ res, (check k body == [y0, y1, y2, y3]) = res := ⟨_, rfl⟩
 have hst : ((strOfNums (check k body)).toList == (strOfNums [y0, y1, y2, y3]).toList) = res := by rw [str_beq _ _ (check_by k body) hyb, hres]
 have HRES := aM hres
 obtain ⟨hkk0, hkk1⟩ := hkk
 have hb1l : (1 : Int) < (b.length : Int) := by omega
 have HSZ := aM (show 2 + (u : Int) + 4 + (nn : Int) = (a : Int) + 4 + (nn : Int) by omega)
 have HBL := aM hbl
 have hCm2' : ∀ W, kU8.C W (some ad) b.length b → kU8.C W A2 body.length body := hCm2
 have HCM2 := aM (And.intro hCm2' hAm2)
 have hcp2 : body.length ≤ c - ((a : Int) + 4).toNat := by omega
 clear ht hbr hrl ha hu hle2 hbody hbl hbb hCm2 hCm2' hAm2 hys hyb hb4 hCm3 hC3 hi5 hi5s hsl hle hn1 hn0 hnl q0 HT hres
 have hb14 : body.length ≤ 140737488355300 := by omega
 cases res with
 | false =>
  have hne : check k body ≠ [y0, y1, y2, y3] := by have := HRES.out; rw [beq_eq_false_iff_ne] at this; exact this
  have ht := HTT.out
  rw [if_pos hne] at ht
  have HT := aM ht
  clear ht hne
  go_wp2_with (first | (go_at_call 43; rw [← hW]; refine (Lr.num_calls w.heap.size ad.block l10 0 _ HR1.out HBY10.out).mono ?_; rw [HN.out]; rintro e2 w2 ⟨rfl, hr2, hk2, hs2⟩; obtain ⟨q2, -⟩ := hr2.code; obtain ⟨A4, c4, q4, -, -, -, -, -, -⟩ := hr2.left; have HR2 := aM hr2; have HB2 := aM (Keep.below_then HBW.out hk2 HBW.out.size (fun i hi e => by omega)); clear hr2 hk2 hs2))
  have HCUR := aM (Keep.refl (fun _ => False) w2.drew)
  have HW5 := aM (show ∀ W, Keep (fun _ => False) w2.drew W → Below w.heap.size w W from fun W hW => HB2.out.drew.trans (hW.below (Nat.le_trans HB2.out.size (Nat.le_refl _)) (fun _ _ h => h)))
  have HCB2 := aM (show kU8.C w2.drew A2 body.length body from Kd.C_below HCB.out HB2.out.drew)
  clear q2 q4
  refine rk_start (fun _ => False) (by kernel_rfl) (n := 13) (l := (bl 13 0)) (by kernel_rfl) (by kernel_rfl) ?_
  refine kt 0 (bl 13 1) rfl (fun w' hR => by go_simp; first | done | with_reducible rfl) rfl ?_
  try simp only [Act.put, pB, pC, pD]
  refine kt 1 (bl 13 3) rfl (fun w' hR => by go_simp; first | done | with_reducible rfl) rfl ?_
  try simp only [Act.put, pB, pC, pD]
  refine kt 2 (bl 13 7) rfl (fun w' hR => by have x0 := HQK.out w' (HW5.out w' (HCUR.out.trans hR)); go_simp; first | done | with_reducible rfl) rfl ?_
  try simp only [Act.put, pB, pC, pD]
  refine kt 3 (bl 13 15) rfl (fun w' hR => by go_simp; first | done | with_reducible rfl) rfl ?_
  try simp only [Act.put, pB, pC, pD]
  refine kt 6 (bl 13 79) rfl (fun w' hR => by go_simp; first | done | with_reducible rfl) rfl ?_
  try simp only [Act.put, pB, pC, pD]
  refine kt 7 (bl 13 207) rfl (fun w' hR => by go_simp; first | done | with_reducible rfl) rfl ?_
  try simp only [Act.put, pB, pC, pD]
  refine kt 8 (bl 13 463) rfl (fun w' hR => by go_simp; first | done | with_reducible rfl) rfl ?_
  try simp only [Act.put, pB, pC, pD]
  refine kt 9 (bl 13 975) rfl (fun w' hR => by have y3 := wrI64 ((a : Int) + 4) (by omega) (by omega); go_simp; first | done | with_reducible rfl) rfl ?_
  try simp only [Act.put, pB, pC, pD]
  refine kt 10 (bl 13 1999) rfl (fun w' hR => by go_simp; first | done | with_reducible rfl) rfl ?_
  try simp only [Act.put, pB, pC, pD]
  refine kt 11 (bl 13 4047) rfl (fun w' hR => by have x0 := fun cp => C_str (c := cp) (Kd.C_below HC3.out (HW5.out w' (HCUR.out.trans hR))); go_simp; first | done | with_reducible rfl) rfl ?_
  try simp only [Act.put, pB, pC, pD]
  refine rk_step (fuel := 2) 4 rfl (by kernel_rfl) (listed' := (bl 13 4063)) (by kernel_rfl) (by kernel_rfl) (fun K' hK => ?_)
  go_wp2_with (first | (go_at_call 44; refine (check_calls k hkk0 hkk1 A2 _ body body.length rfl w2.drew HCB2.out hb14 HBYB.out).mono ?_; rintro e6 w6 ⟨g6, rfl, hC6, hb6⟩; have HC6 := aM hC6; have HB7 := aM (show Below w2.heap.size w2 w6 from (Below.refl w2.heap.size w2).drew.trans hb6); have HB6 := aM (HB2.out.trans (HB7.out.mono HB2.out.size)); have HK6 := aM (Keep.of_below (S := fun _ => False) hb6); clear hb6 hC6))
  refine hK.out _ _ HK6.out ?_
  clear hK K'
  try simp only [Act.put, pB, pC, pD]
  refine kt 5 (bl 13 4095) rfl (fun w' hR => by have x0 := C_str (c := 4) (Kd.C_below HC6.out (hR.below (Nat.le_refl _) (fun _ _ h => h))); go_simp; first | done | with_reducible rfl) rfl ?_
  try simp only [Act.put, pB, pC, pD]
  refine kt 12 (bl 13 8191) rfl (fun w' hR => by go_simp; first | done | with_reducible rfl) rfl ?_
  try simp only [Act.put, pB, pC, pD]
  refine rk_done (by kernel_rfl) ?_
  go_wp2
  refine bodyPost_ret (results_tmp4 rfl _ _ _) rfl ?_
  rw [HT.out]
  exact ⟨none, 0, rfl, Nat.le_refl _, ⟨fun W _ => Kd.C_nil _ _, fun a ha => (by cases ha)⟩, HB6.out⟩
 | true =>
  have heq : check k body = [y0, y1, y2, y3] := by have := HRES.out; rw [beq_iff_eq] at this; exact this
  have ht := HTT.out
  rw [if_neg (by rw [heq]; simp)] at ht
  have HT := aM ht
  clear ht heq
  go_wp2_with (first | (go_at_call 43; rw [← hW]; refine (Lr.num_calls w.heap.size ad.block l10 0 _ HR1.out HBY10.out).mono ?_; rw [HN.out]; rintro e2 w2 ⟨rfl, hr2, hk2, hs2⟩; obtain ⟨q2, -⟩ := hr2.code; obtain ⟨A4, c4, q4, -, -, -, -, -, -⟩ := hr2.left; have HR2 := aM hr2; have HB2 := aM (Keep.below_then HBW.out hk2 HBW.out.size (fun i hi e => by omega)); clear hr2 hk2 hs2))
  have HCUR := aM (Keep.refl (fun _ => False) w2.drew)
  have HW5 := aM (show ∀ W, Keep (fun _ => False) w2.drew W → Below w.heap.size w W from fun W hW => HB2.out.drew.trans (hW.below (Nat.le_trans HB2.out.size (Nat.le_refl _)) (fun _ _ h => h)))
  have HCB2 := aM (show kU8.C w2.drew A2 body.length body from Kd.C_below HCB.out HB2.out.drew)
  clear q2 q4
  refine rk_start (fun _ => False) (by kernel_rfl) (n := 13) (l := (bl 13 0)) (by kernel_rfl) (by kernel_rfl) ?_
  refine kt 0 (bl 13 1) rfl (fun w' hR => by go_simp; first | done | with_reducible rfl) rfl ?_
  try simp only [Act.put, pB, pC, pD]
  refine kt 1 (bl 13 3) rfl (fun w' hR => by go_simp; first | done | with_reducible rfl) rfl ?_
  try simp only [Act.put, pB, pC, pD]
  refine kt 2 (bl 13 7) rfl (fun w' hR => by have x0 := HQK.out w' (HW5.out w' (HCUR.out.trans hR)); go_simp; first | done | with_reducible rfl) rfl ?_
  try simp only [Act.put, pB, pC, pD]
  refine kt 3 (bl 13 15) rfl (fun w' hR => by go_simp; first | done | with_reducible rfl) rfl ?_
  try simp only [Act.put, pB, pC, pD]
  refine kt 6 (bl 13 79) rfl (fun w' hR => by go_simp; first | done | with_reducible rfl) rfl ?_
  try simp only [Act.put, pB, pC, pD]
  refine kt 7 (bl 13 207) rfl (fun w' hR => by go_simp; first | done | with_reducible rfl) rfl ?_
  try simp only [Act.put, pB, pC, pD]
  refine kt 8 (bl 13 463) rfl (fun w' hR => by go_simp; first | done | with_reducible rfl) rfl ?_
  try simp only [Act.put, pB, pC, pD]
  refine kt 9 (bl 13 975) rfl (fun w' hR => by have y3 := wrI64 ((a : Int) + 4) (by omega) (by omega); go_simp; first | done | with_reducible rfl) rfl ?_
  try simp only [Act.put, pB, pC, pD]
  refine kt 10 (bl 13 1999) rfl (fun w' hR => by go_simp; first | done | with_reducible rfl) rfl ?_
  try simp only [Act.put, pB, pC, pD]
  refine kt 11 (bl 13 4047) rfl (fun w' hR => by have x0 := fun cp => C_str (c := cp) (Kd.C_below HC3.out (HW5.out w' (HCUR.out.trans hR))); go_simp; first | done | with_reducible rfl) rfl ?_
  try simp only [Act.put, pB, pC, pD]
  refine rk_step (fuel := 2) 4 rfl (by kernel_rfl) (listed' := (bl 13 4063)) (by kernel_rfl) (by kernel_rfl) (fun K' hK => ?_)
  go_wp2_with (first | (go_at_call 44; refine (check_calls k hkk0 hkk1 A2 _ body body.length rfl w2.drew HCB2.out hb14 HBYB.out).mono ?_; rintro e6 w6 ⟨g6, rfl, hC6, hb6⟩; have HC6 := aM hC6; have HB7 := aM (show Below w2.heap.size w2 w6 from (Below.refl w2.heap.size w2).drew.trans hb6); have HB6 := aM (HB2.out.trans (HB7.out.mono HB2.out.size)); have HK6 := aM (Keep.of_below (S := fun _ => False) hb6); clear hb6 hC6))
  refine hK.out _ _ HK6.out ?_
  clear hK K'
  try simp only [Act.put, pB, pC, pD]
  refine kt 5 (bl 13 4095) rfl (fun w' hR => by have x0 := C_str (c := 4) (Kd.C_below HC6.out (hR.below (Nat.le_refl _) (fun _ _ h => h))); go_simp; first | done | with_reducible rfl) rfl ?_
  try simp only [Act.put, pB, pC, pD]
  refine kt 12 (bl 13 8191) rfl (fun w' hR => by go_simp; first | done | with_reducible rfl) rfl ?_
  try simp only [Act.put, pB, pC, pD]
  refine rk_done (by kernel_rfl) ?_
  have q1z := HQK.out _ HB6.out
  go_wp2
  refine bodyPost_ret (results_tmp4 rfl _ _ _) rfl ?_
  rw [HT.out]
  refine ⟨A2, _, ?_, hcp2, HCM2.out, HB6.out⟩
  rw [HSZ.out]
  rfl
end Go.Proofs.Ytnckonglodmfeaa.Gc
namespace Go.Proofs.Ytnckonglodmfeaa.Ik
open Ls Lc Go.RowKit Go.Proofs.YtnckonglodmfeaaW.PrintWords Go.Proofs.YtnckonglodmfeaaW.PrintLast Go.Proofs.YtnckonglodmfeaaW.PrintMore B R S Is Js Gs Gc
theorem takeL_by {b : List Int} (h : By b) : By (takeL b).2.1 := by
 match b, h with
 | [], _ => intro x hx; cases hx
 | [_], _ => intro x hx; cases hx
 | m :: k :: r, h =>
  have hr : By r := fun x hx => h x (by simp [hx])
  simp only [takeL]
  repeat' split
  all_goals first | (intro x hx; cases hx; done) | exact By.take (By.drop hr _) _
theorem takeL_len (b : List Int) : (takeL b).2.1.length ≤ b.length := by
 match b with
 | [] => simp [takeL]
 | [_] => simp [takeL]
 | m :: k :: r =>
  simp only [takeL]
  repeat' split
  all_goals (simp only [List.length_nil, List.length_take, List.length_drop, List.length_cons]; omega)
def OpenRet (T : Nat) (w w' : World) (x : List Int × Int) (r : Ending) : Prop :=
 (x.2 ≠ 0 ∧ r = .returned (.tuple #[.pointer none, .int .i64 x.2])) ∨ (x.2 = 0 ∧ ∃ g b, r = .returned (.tuple #[.pointer (some ⟨g, 0, none⟩), .int .i64 0]) ∧ Rdr T w' g b x.1 0 ∧ By x.1 ∧ w.heap.size ≤ g ∧ g < w'.heap.size ∧ b < w'.heap.size ∧ x.1.length ≤ 1000000)
theorem open_eq {kind k sz er : Int} {b body : List Int} {n : Nat} (hn : b.length = n) (ht : takeL b = (k, body, sz, er)) : openL kind b = if er ≠ 0 then ([], er) else if sz ≠ n then ([], 5) else if k ≠ kind then ([], 20) else (body, 0) := by
 simp only [openL, ht, hn]
set_option maxHeartbeats 1000000 in
set_option maxRecDepth 100000 in
theorem wopen_calls (kind : Int) (A : Option Addr) (c : Nat) (b : List Int) (n : Nat) (hn : b.length = n) (w : World) (hC : kU8.C w A n b) (hc : n ≤ c) (hby : By b) (hl : n ≤ 1000000) :
 Calls Try.prog 45 #[.slice A n c, .int .u8 kind] w fun e w' => OpenRet 170 w w' (openL kind b) e ∧ Below w.heap.size w w' := by
 obtain ⟨k, body, sz, er, ht⟩ : ∃ k body sz er, takeL b = (k, body, sz, er) := ⟨_, _, _, _, rfl⟩
 rw [open_eq hn ht]
 have hbb := takeL_by hby
 have hbl := takeL_len b
 rw [ht] at hbb hbl
 have HBL := aM (show body.length ≤ 1000000 by simp only at hbl; omega)
 have HBB := aM hbb
 have HT := aM ht
 have HN := aM hn
 have HC := aM hC
 have HBY := aM hby
 clear hbb hbl ht hn hC hby
 by_cases h1 : er = 0
 case neg =>
  rw [if_pos h1]
  have hb1 : (er == 0) = false := beq_eq_false_iff_ne.mpr h1
  have hb2 : (er != 0) = true := bne_iff_ne.mpr h1
  have H1 := aM h1
  clear h1
  go_enter Try.func45, Try.ntmps45
  go_wp2_with (go_at_call 92; refine (take_n A c b n HN.out k body sz er HT.out _ HC.out hc HBY.out hl).mono ?_; rintro e w2 ⟨A2, c2, rfl, -, hC2, hlc2, hb⟩; have HC2 := aM hC2; have HB2 := aM hb; clear hC2 hb)
  go_returns
  exact ⟨.inl ⟨H1.out, rfl⟩, HB2.out⟩
 subst h1
 rw [if_neg (by simp)]
 by_cases h2 : sz = n
 case neg =>
  rw [if_pos h2]
  have hb1 : (sz == (n : Int)) = false := beq_eq_false_iff_ne.mpr h2
  have hb2 : (sz != (n : Int)) = true := bne_iff_ne.mpr h2
  clear h2
  go_enter Try.func45, Try.ntmps45
  go_wp2_with (go_at_call 92; refine (take_n A c b n HN.out k body sz 0 HT.out _ HC.out hc HBY.out hl).mono ?_; rintro e w2 ⟨A2, c2, rfl, -, hC2, hlc2, hb⟩; have HC2 := aM hC2; have HB2 := aM hb; clear hC2 hb)
  go_returns
  exact ⟨.inl ⟨by decide, rfl⟩, HB2.out⟩
 subst h2
 rw [if_neg (by simp)]
 by_cases h3 : k = kind
 case neg =>
  rw [if_pos h3]
  have hb1 : (k == kind) = false := beq_eq_false_iff_ne.mpr h3
  have hb2 : (k != kind) = true := bne_iff_ne.mpr h3
  clear h3
  go_enter Try.func45, Try.ntmps45
  go_wp2_with (go_at_call 92; refine (take_n A c b n HN.out k body n 0 HT.out _ HC.out hc HBY.out hl).mono ?_; rintro e w2 ⟨A2, c2, rfl, -, hC2, hlc2, hb⟩; have HC2 := aM hC2; have HB2 := aM hb; clear hC2 hb)
  go_returns
  exact ⟨.inl ⟨by decide, rfl⟩, HB2.out⟩
 subst h3
 rw [if_neg (by simp)]
 go_enter Try.func45, Try.ntmps45
 go_wp2_with (first | (go_at_call 92; refine (take_n A c b n HN.out k body n 0 HT.out _ HC.out hc HBY.out hl).mono ?_; rintro e w2 ⟨A2, c2, rfl, -, hC2, hlc2, hb⟩; have HC2 := aM hC2; have HB2 := aM hb; clear hC2 hb) | (go_at_call 93; refine (Lc.new_calls A2 c2 body _ HC2.out (by have := HBL.out; omega)).mono ?_; rintro e1 w3 ⟨g, b1, rfl, hr1, hb1, hg1, hbb, hbl⟩; have HR1 := aM hr1; have HB1 := aM hb1; clear hr1 hb1))
 go_returns
 have hz := HB2.out.size
 exact ⟨.inr ⟨rfl, g, b1, rfl, HR1.out, HBB.out, by omega, HR1.out.lt, hbl, HBL.out⟩, HB2.out.trans (HB1.out.mono hz)⟩
theorem take_some {b body : List Int} {k sz : Int} (ht : takeL b = (k, body, sz, 0)) : 0 < b.length := by
 match b, ht with
 | [], h => simp [takeL] at h
 | _ :: _, _ => simp
set_option maxHeartbeats 1000000 in
set_option maxRecDepth 100000 in
theorem ropen_calls (kind : Int) (A : Option Addr) (c : Nat) (b : List Int) (n : Nat) (hn : b.length = n) (w : World) (hC : kU8.C w A n b) (hc : n ≤ c) (hby : By b) (hl : n ≤ 1000000) :
 Calls Try.prog 52 #[.slice A n c, .int .u8 kind] w fun e w' => OpenRet 107 w w' (openL kind b) e ∧ Below w.heap.size w w' := by
 obtain ⟨k, body, sz, er, ht⟩ : ∃ k body sz er, takeL b = (k, body, sz, er) := ⟨_, _, _, _, rfl⟩
 rw [open_eq hn ht]
 have hbb := takeL_by hby
 have hbl := takeL_len b
 rw [ht] at hbb hbl
 have HBL := aM (show body.length ≤ 1000000 by simp only at hbl; omega)
 have HBB := aM hbb
 have HT := aM ht
 have HTK := aM (show Calls Try.prog 15 #[.slice A n c] w fun e w' => ∃ A2 c2, e = .returned (.tuple #[.int .u8 k, .slice A2 body.length c2, .int .i64 sz, .int .i64 er]) ∧ body.length ≤ c2 ∧ kU8.C w' A2 body.length body ∧ (∀ a, A2 = some a → ∃ a0, A = some a0 ∧ a.block = a0.block) ∧ Below w.heap.size w w' from by
  subst hn
  refine (rtake_calls A c b w hC hc hby hl).mono ?_
  rw [ht]
  rintro e w' ⟨A2, c2, rfl, h1, h2, hb⟩
  exact ⟨A2, c2, rfl, h1, h2.1 _ (Kd.C_below hC hb), h2.2, hb⟩)
 have HPZ := aM (show er = 0 → 0 < w.heap.size from fun h => by
  subst h
  have h0 := take_some ht
  obtain ⟨ad, e⟩ := C_some hC (by omega)
  have := C_lt hC (by omega) e
  omega)
 have HA := aM (show er = 0 → ∀ a, A = some a → a.block < w.heap.size from fun h a e => C_lt hC (by subst h; have := take_some ht; omega) e)
 clear hbb hbl ht hn hC hby
 by_cases h1 : er = 0
 case neg =>
  rw [if_pos h1]
  have hb1 : (er == 0) = false := beq_eq_false_iff_ne.mpr h1
  have hb2 : (er != 0) = true := bne_iff_ne.mpr h1
  have H1 := aM h1
  clear h1
  go_enter Try.func52, Try.ntmps52
  go_wp2_with (go_at_call 15; refine HTK.out.mono ?_; rintro e w2 ⟨A2, c2, rfl, hlc2, hC2, hA2, hb⟩; have HC2 := aM hC2; have HA2 := aM hA2; have HB2 := aM hb; clear hC2 hb hA2)
  go_returns
  exact ⟨.inl ⟨H1.out, rfl⟩, HB2.out⟩
 subst h1
 rw [if_neg (by simp)]
 by_cases h2 : sz = n
 case neg =>
  rw [if_pos h2]
  have hb1 : (sz == (n : Int)) = false := beq_eq_false_iff_ne.mpr h2
  have hb2 : (sz != (n : Int)) = true := bne_iff_ne.mpr h2
  clear h2
  go_enter Try.func52, Try.ntmps52
  go_wp2_with (go_at_call 15; refine HTK.out.mono ?_; rintro e w2 ⟨A2, c2, rfl, hlc2, hC2, hA2, hb⟩; have HC2 := aM hC2; have HA2 := aM hA2; have HB2 := aM hb; clear hC2 hb hA2)
  go_returns
  exact ⟨.inl ⟨by decide, rfl⟩, HB2.out⟩
 subst h2
 rw [if_neg (by simp)]
 by_cases h3 : k = kind
 case neg =>
  rw [if_pos h3]
  have hb1 : (k == kind) = false := beq_eq_false_iff_ne.mpr h3
  have hb2 : (k != kind) = true := bne_iff_ne.mpr h3
  clear h3
  go_enter Try.func52, Try.ntmps52
  go_wp2_with (go_at_call 15; refine HTK.out.mono ?_; rintro e w2 ⟨A2, c2, rfl, hlc2, hC2, hA2, hb⟩; have HC2 := aM hC2; have HA2 := aM hA2; have HB2 := aM hb; clear hC2 hb hA2)
  go_returns
  exact ⟨.inl ⟨by decide, rfl⟩, HB2.out⟩
 subst h3
 rw [if_neg (by simp)]
 go_enter Try.func52, Try.ntmps52
 go_wp2_with (go_at_call 15; refine HTK.out.mono ?_; rintro e w2 ⟨A2, c2, rfl, hlc2, hC2, hA2, hb⟩; have HC2 := aM hC2; have HA2 := aM hA2; have HB2 := aM hb; clear hC2 hb hA2)
 go_returns
 have hz := HB2.out.size
 have hnew : (w2.alloc (.cells #[.slice A2 body.length c2, .int .i64 0] 107)).heap[w2.heap.size]? = some (.cells #[.slice A2 body.length c2, .int .i64 0] 107 (0, 0)) := heap_alloc_new _ _
 have hsz : (w2.alloc (.cells #[.slice A2 body.length c2, .int .i64 0] 107)).heap.size = w2.heap.size + 1 := World.size_alloc _ _
 have hbw := HB2.out.alloc hz (.cells #[.slice A2 body.length c2, .int .i64 0] 107)
 have hCw : kU8.C (w2.alloc (.cells #[.slice A2 body.length c2, .int .i64 0] 107)) A2 body.length body := Kd.C_alloc HC2.out _
 cases A2 with
 | none => have hpz := HPZ.out (by trivial); exact ⟨.inr ⟨rfl, w2.heap.size, w2.heap.size - 1, rfl, ⟨none, c2, hnew, hlc2, (fun a e => by cases e), hCw, by omega⟩, HBB.out, by omega, by omega, by omega, HBL.out⟩, hbw⟩
 | some a =>
  obtain ⟨a0, e0, e1⟩ := HA2.out a rfl
  have h3 := HA.out (by trivial) a0 e0
  rw [← e1] at h3
  exact ⟨.inr ⟨rfl, w2.heap.size, a.block, rfl, ⟨some a, c2, hnew, hlc2, (fun a' e => by injection e with e; rw [e]), hCw, by omega⟩, HBB.out, by omega, by omega, by omega, HBL.out⟩, hbw⟩
end Go.Proofs.Ytnckonglodmfeaa.Ik
