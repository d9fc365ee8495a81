/- Contracts and plain facts that the statements' proofs use (part 10). -/
import Derived.Test.YtnckonglodmfeaaM1
import Derived.Test.YtnckonglodmfeaaM2
import Derived.Test.YtnckonglodmfeaaM3
import Derived.Test.YtnckonglodmfeaaM4
import Derived.Test.YtnckonglodmfeaaM5
import Derived.Test.YtnckonglodmfeaaM6
import Derived.Test.YtnckonglodmfeaaM7
import Derived.Test.YtnckonglodmfeaaM8
import Derived.Test.YtnckonglodmfeaaM9
import Derived.Handy
import Derived.Laws.StructEq
namespace Go.Proofs.Ytnckonglodmfeaa.Ik
open Go.RowKit Go.Proofs.YtnckonglodmfeaaW.PrintWords Go.Proofs.YtnckonglodmfeaaW.PrintLast Go.Proofs.YtnckonglodmfeaaW.PrintMore Go.Proofs.Ytnckonglodmfeaa.B Go.Proofs.Ytnckonglodmfeaa.R Go.Proofs.Ytnckonglodmfeaa.S Go.Proofs.Ytnckonglodmfeaa.Is
set_option linter.unusedVariables false
set_option linter.unusedSimpArgs false
set_option maxHeartbeats 4000000 in
set_option maxRecDepth 100000 in
theorem rblocks_calls (l : List Blk) (v t : Int) (most : Nat) (A : Option Addr) (c : Nat) (w : World) (hC : kBlk.C w A l.length l) (hll : l.length ≤ 100000) (hm : most ≤ 400) :
    Calls Try.prog 89 #[.slice A l.length c, .int .i64 v, .int .i64 t, .int .i64 most] w fun r w' => FaultIs (blocksErr v t most l) r ∧ Below w.heap.size w w' := by
  have mixed : Try.prog.follows .mixedOrders = true := by kernel_rfl
  obtain ⟨FE, hFE⟩ : ∃ FE, blocksErr v t most l = FE := ⟨_, rfl⟩
  rw [hFE]
  obtain ⟨VR, hVR⟩ : ∃ VR : Int, VR = if t < 0 then 21 else 23 := ⟨_, rfl⟩
  have HFE := Aside0.mk (show firstN (l.map (blkErr v t most l.length)) = FE from hFE)
  have HVR := Aside0.mk hVR
  have HC := Aside0.mk hC
  have hcase : (t < 0 ∧ VR = 21) ∨ (¬ t < 0 ∧ VR = 23) := by
    rw [hVR]
    by_cases h : t < 0
    · exact .inl ⟨h, if_pos h⟩
    · exact .inr ⟨h, if_neg h⟩
  clear hFE hVR hC
  obtain ⟨W0, hW0⟩ : ∃ W0, W0 = w.alloc (.cells #[.int .i64 0, .int .i64 0, .int .i64 0] 75) := ⟨_, rfl⟩
  have HX := Aside0.mk (show ∀ W', Below (w.heap.size + 1) W0 W' → W'.cell? ⟨w.heap.size, 0, none⟩ = some (.int .i64 0) ∧ W'.cell? ⟨w.heap.size, 1, none⟩ = some (.int .i64 0) ∧ W'.cell? ⟨w.heap.size, 2, none⟩ = some (.int .i64 0) ∧ W'.frozen? ⟨w.heap.size, 0, none⟩ = false ∧ W'.frozen? ⟨w.heap.size, 1, none⟩ = false ∧ W'.frozen? ⟨w.heap.size, 2, none⟩ = false from fun W' h => by
    subst hW0
    have g' := (h.block w.heap.size (by omega)).trans (heap_alloc_new _ _)
    exact ⟨cell_at g' 0 _ rfl, cell_at g' 1 _ rfl, cell_at g' 2 _ rfl, blk_frozen g' 0, blk_frozen g' 1, blk_frozen g' 2⟩)
  have HA := Aside0.mk (show Below w.heap.size w W0 by rw [hW0]; exact (Below.refl _ _).alloc (Nat.le_refl _) _)
  have HSZ := Aside0.mk (show W0.heap.size = w.heap.size + 1 by rw [hW0, World.size_alloc])
  rcases hcase with ⟨ht, rfl⟩ | ⟨ht, rfl⟩
  all_goals
    go_enter Try.func89, Try.ntmps89
    go_wp2_with fail
    rw [← hW0]
    clear hW0
    go_loopw [10] (fun vi wr => ∃ j : Nat, j ≤ l.length ∧ vi = .int .i64 j ∧ Aside0 (firstN ((l.map (blkErr v t most l.length)).take j) = 0) ∧ Aside0 (Below (w.heap.size + 1) W0 wr)) (fun vi _ => l.length - (intOf vi).toNat)
    case atStart => exact ⟨0, by omega, rfl, ⟨rfl⟩, ⟨Below.refl _ _⟩⟩
    case round =>
      obtain ⟨wo, hwo⟩ : ∃ wo, wo = wr := ⟨_, rfl⟩
      subst hwo
      obtain ⟨j, hj, rfl, HN, HZ⟩ := hrel
      by_cases hjl : j < l.length
      · obtain ⟨⟨is, k, a, tt, e⟩, hx⟩ : ∃ x, l[j]? = some x := ⟨_, List.getElem?_eq_getElem hjl⟩
        obtain ⟨ad, A1, n1, rfl, b0, b1, b2, b3, b4, hn1, hC1⟩ := blk_cells HC.out hx
        have HBX := Aside0.mk (show ∀ W', Below w.heap.size w W' → W'.cell? (ad.add (j * 5)) = some (.slice A1 is.length n1) ∧ W'.cell? ⟨(ad.add (j * 5)).block, (ad.add (j * 5)).off + 1, none⟩ = some (.int .u8 k) ∧ W'.cell? ⟨(ad.add (j * 5)).block, (ad.add (j * 5)).off + 2, none⟩ = some (.int .i64 a) ∧ W'.cell? ⟨(ad.add (j * 5)).block, (ad.add (j * 5)).off + 3, none⟩ = some (.int .i64 tt) ∧ W'.cell? ⟨(ad.add (j * 5)).block, (ad.add (j * 5)).off + 4, none⟩ = some (.int .i64 e) from fun W' h => ⟨pw_cell_below h b0, pw_cell_below h b1, pw_cell_below h b2, pw_cell_below h b3, pw_cell_below h b4⟩)
        have HC1 := Aside0.mk hC1
        have HIL := Aside0.mk hC1.2.1
        have HMX := Aside0.mk (show (l.map (blkErr v t most l.length))[j]? = some (blkErr v t most l.length (is, k, a, tt, e)) by rw [List.getElem?_map, hx]; rfl)
        clear hx hC1 b0 b1 b2 b3 b4
        have hwb := HA.out.trans (HZ.out.mono (by omega))
        obtain ⟨b0, b1, b2, b3, b4⟩ := HBX.out wo hwb
        obtain ⟨r0, r1, r2, r3, r4, r5⟩ := HX.out wo HZ.out
        clear hwb
        by_cases hmany : most < is.length
        · have HE := Aside0.mk (show FE = 9 by rw [← HFE.out]; exact (firstN_hit HN.out HMX.out (by simp [blkErr, hmany])).trans (by simp [blkErr, hmany]))
          go_wp2
          (have q := fault_set r0 r1 r2; have q0 := fun x y z => (q x y z).1; have q1 := fun x y z => (q x y z).2.1; have q2 := fun x y z => (q x y z).2.2; clear q; (try simp only [Exit.inBlock, Exit.then]); refine bodyPost_ret (by simp [results, Try.results89, go_sem, q0, q1, q2]; try rfl) rfl ?_)
          exact ⟨⟨_, _, by rw [HE.out]⟩, below_set (HA.out.trans (HZ.out.mono (by omega))) (by omega) _ _ _⟩
        · obtain ⟨En, hEn⟩ : ∃ En, endErr v l.length (if t < 0 then 21 else 23) (k, a, tt, e) = En := ⟨_, rfl⟩
          obtain ⟨M, hM⟩ : ∃ M, is.map (insErr v t) ++ [En] = M := ⟨_, rfl⟩
          have HEN := Aside0.mk (by rw [← HVR.out] at hEn; exact hEn)
          have HME := Aside0.mk (show blkErr v t most l.length (is, k, a, tt, e) = firstN M by rw [← hM, ← hEn]; exact if_neg hmany)
          have HML := Aside0.mk (show M[is.length]? = some En by rw [← hM]; simp)
          have HMS := Aside0.mk (show M.length = is.length + 1 by rw [← hM]; simp)
          have HMI := Aside0.mk (show ∀ (i : Nat) (q : Ins), is[i]? = some q → M[i]? = some (insErr v t q) from fun i q h => by
            have hi := (List.getElem?_eq_some_iff.1 h).1
            rw [← hM, List.getElem?_append_left (by simpa using hi), List.getElem?_map, h]; rfl)
          have HHIT := Aside0.mk (show ∀ (i : Nat) (y : Int), firstN (M.take i) = 0 → M[i]? = some y → y ≠ 0 → FE = y from fun i y h1 h2 h3 => by
            have h4 := firstN_hit h1 h2 h3
            rw [← HFE.out, firstN_hit HN.out HMX.out (by rw [HME.out, h4]; exact h3), HME.out, h4])
          clear hEn hM r0 r1 r2 r3 r4 r5
          go_wp2_with fail
          go_loopw [11] (fun vi wi => ∃ i : Nat, i ≤ is.length ∧ vi = .int .i64 i ∧ Aside0 (firstN (M.take i) = 0) ∧ Aside0 (Below (w.heap.size + 1) W0 wi)) (fun vi _ => is.length - (intOf vi).toNat)
          case atStart => exact ⟨0, by omega, rfl, ⟨rfl⟩, HZ⟩
          case round =>
            clear b0 b1 b2 b3 b4 HZ
            obtain ⟨wi, hwi⟩ : ∃ wi, wi = wr := ⟨_, rfl⟩
            subst hwi
            obtain ⟨i, hi, rfl, HNi, HZ⟩ := hrel
            have HWB := Aside0.mk (HA.out.trans (HZ.out.mono (by omega)))
            obtain ⟨b0, b1, b2, b3, b4⟩ := HBX.out wi HWB.out
            by_cases hil : i < is.length
            · obtain ⟨⟨k1, op, d, a1, bb, nn, args⟩, hq⟩ : ∃ q, is[i]? = some q := ⟨_, List.getElem?_eq_getElem hil⟩
              obtain ⟨ad2, A2, n2, rfl, i0, i1, i2, i3, i4, i5, i6, hn2, hC2⟩ := ins_cells (Kd.C_below HC1.out HWB.out) hq
              have HMQ := Aside0.mk (HMI.out i _ hq)
              have HI := Aside0.mk hC2
              obtain ⟨y, hy⟩ : ∃ y, insErr v t (k1, op, d, a1, bb, nn, args) = y := ⟨_, rfl⟩
              have HQ := Aside0.mk hy
              rw [hy] at HMQ
              clear hy hq hC2
              by_cases hy0 : y = 0
              · subst hy0
                have HN2 := Aside0.mk (firstN_take HNi.out HMQ.out)
                go_wp2_with (go_at_call 122; refine (rins_calls k1 op d a1 bb nn v t args A2 n2 _ HI.out hn2).mono ?_; rintro _ w2 ⟨rfl, hb⟩; rw [HQ.out]; have HZ2 := Aside0.mk (HZ.out.trans (hb.mono (by have := HZ.out.size; have := HSZ.out; omega))); clear hb i0 i1 i2 i3 i4 i5 i6 b0 b1 b2 b3 b4)
                go_roundw
                case rel => exact ⟨i + 1, by omega, by go_num, HN2, HZ2⟩
                case measure => simp [intOf]; omega
              · have HE := Aside0.mk (HHIT.out i y HNi.out HMQ.out hy0)
                have hyb : (y == 0) = false := beq_eq_false_iff_ne.mpr hy0
                have hyn : (y != 0) = true := bne_iff_ne.mpr hy0
                clear hy0
                go_wp2_with (go_at_call 122; refine (rins_calls k1 op d a1 bb nn v t args A2 n2 _ HI.out hn2).mono ?_; rintro _ w2 ⟨rfl, hb⟩; rw [HQ.out]; have HZ2 := Aside0.mk (HZ.out.trans (hb.mono (by have := HZ.out.size; have := HSZ.out; omega))); clear hb i0 i1 i2 i3 i4 i5 i6 b0 b1 b2 b3 b4; obtain ⟨r0, r1, r2, r3, r4, r5⟩ := HX.out w2 HZ2.out)
                (have q := fault_set r0 r1 r2; have q0 := fun x y z => (q x y z).1; have q1 := fun x y z => (q x y z).2.1; have q2 := fun x y z => (q x y z).2.2; clear q; (try simp only [Exit.inBlock, Exit.then]); refine bodyPost_ret (by simp [results, Try.results89, go_sem, q0, q1, q2]; try rfl) rfl ?_)
                exact ⟨⟨_, _, by rw [HE.out]⟩, below_set (HA.out.trans (HZ2.out.mono (by omega))) (by omega) _ _ _⟩
            · obtain rfl : i = is.length := by omega
              have HQ := HEN
              by_cases hy0 : En = 0
              · subst hy0
                have HN2 := Aside0.mk (show firstN M = 0 by rw [← List.take_of_length_le (l := M) (i := is.length + 1) (by rw [HMS.out]; exact Nat.le_refl _)]; exact firstN_take HNi.out HML.out)
                have HN3 := Aside0.mk ((firstN_take HN.out HMX.out).trans (HME.out.trans HN2.out))
                go_wp2_with (go_at_call 123; refine (rend_calls _ _ _ _ _ _ _ _).mono ?_; rintro _ w2 ⟨rfl, hb⟩; rw [HQ.out]; have HZ2 := Aside0.mk (HZ.out.trans (hb.mono (by have := HZ.out.size; have := HSZ.out; omega))); clear hb b0 b1 b2 b3 b4)
                go_roundw
                case rel => exact ⟨j + 1, by omega, by go_num, HN3, HZ2⟩
                case measure => simp [intOf]; omega
              · have HE := Aside0.mk (HHIT.out is.length En HNi.out HML.out hy0)
                have hyb : (En == 0) = false := beq_eq_false_iff_ne.mpr hy0
                have hyn : (En != 0) = true := bne_iff_ne.mpr hy0
                clear hy0
                go_wp2_with (go_at_call 123; refine (rend_calls _ _ _ _ _ _ _ _).mono ?_; rintro _ w2 ⟨rfl, hb⟩; rw [HQ.out]; have HZ2 := Aside0.mk (HZ.out.trans (hb.mono (by have := HZ.out.size; have := HSZ.out; omega))); obtain ⟨b0', b1', b2', b3', b4'⟩ := HBX.out w2 (HA.out.trans (HZ2.out.mono (by omega))); obtain ⟨r0, r1, r2, r3, r4, r5⟩ := HX.out w2 HZ2.out; clear hb b0 b1 b2 b3 b4)
                (have q := fault_set r0 r1 r2; have q0 := fun x y z => (q x y z).1; have q1 := fun x y z => (q x y z).2.1; have q2 := fun x y z => (q x y z).2.2; clear q; (try simp only [Exit.inBlock, Exit.then]); refine bodyPost_ret (by simp [results, Try.results89, go_sem, q0, q1, q2]; try rfl) rfl ?_)
                exact ⟨⟨_, _, by rw [HE.out]⟩, below_set (HA.out.trans (HZ2.out.mono (by omega))) (by omega) _ _ _⟩
      · obtain rfl : j = l.length := by omega
        have HE := Aside0.mk (show FE = 0 by have h := HN.out; rw [List.take_of_length_le (by simp)] at h; rw [← HFE.out, h])
        obtain ⟨r0, r1, r2, r3, r4, r5⟩ := HX.out wo HZ.out
        go_wp2
        (have q := fault_set r0 r1 r2; have q0 := fun x y z => (q x y z).1; have q1 := fun x y z => (q x y z).2.1; have q2 := fun x y z => (q x y z).2.2; clear q; (try simp only [Exit.inBlock, Exit.then]); refine bodyPost_ret (by simp [results, Try.results89, go_sem, q0, q1, q2]; try rfl) rfl ?_)
        exact ⟨⟨_, _, by rw [HE.out]⟩, below_set (HA.out.trans (HZ.out.mono (by omega))) (by omega) _ _ _⟩
end Go.Proofs.Ytnckonglodmfeaa.Ik

namespace Go.Proofs.Ytnckonglodmfeaa.Ik
open Go.RowKit Go.Proofs.YtnckonglodmfeaaW.PrintWords Go.Proofs.YtnckonglodmfeaaW.PrintLast Go.Proofs.YtnckonglodmfeaaW.PrintMore Go.Proofs.Ytnckonglodmfeaa.B Go.Proofs.Ytnckonglodmfeaa.R Go.Proofs.Ytnckonglodmfeaa.S Go.Proofs.Ytnckonglodmfeaa.Is
set_option linter.unusedVariables false
set_option linter.unusedSimpArgs false
set_option maxHeartbeats 4000000 in
set_option maxRecDepth 100000 in
theorem rfunc_calls (p v : Int) (l : List Blk) (A : Option Addr) (c : Nat) (w : World) (hC : kBlk.C w A l.length l) (hll : l.length ≤ 100000) :
    Calls Try.prog 40 #[.agg #[.int .i64 p, .int .i64 v, .slice A l.length c]] w fun r w' => FaultIs (funcErr (p, v, l)) r ∧ Below w.heap.size w w' := by
  have mixed : Try.prog.follows .mixedOrders = true := by kernel_rfl
  by_cases hb : p < 0 ∨ 4 < p ∨ v < p ∨ 32 < v ∨ l.length < 1 ∨ 16 < l.length
  · rw [show funcErr (p, v, l) = 2 from if_pos hb]
    have hb : p < 0 ∨ (¬ p < 0 ∧ 4 < p) ∨ (¬ p < 0 ∧ ¬ 4 < p ∧ v < p) ∨ (¬ p < 0 ∧ ¬ 4 < p ∧ ¬ v < p ∧ 32 < v) ∨ (¬ p < 0 ∧ ¬ 4 < p ∧ ¬ v < p ∧ ¬ 32 < v ∧ l.length = 0) ∨ (¬ p < 0 ∧ ¬ 4 < p ∧ ¬ v < p ∧ ¬ 32 < v ∧ ((l.length : Int) == 0) = false ∧ 16 < (l.length : Int)) := by simp only [beq_eq_false_iff_ne]; omega
    clear hC
    rcases hb with h1 | ⟨h1, h2⟩ | ⟨h1, h2, h3⟩ | ⟨h1, h2, h3, h4⟩ | ⟨h1, h2, h3, h4, h5⟩ | ⟨h1, h2, h3, h4, h5, h6⟩
    all_goals
      (try rw [h5])
      go_enter Try.func40, Try.ntmps40
      go_wp2
      go_returns
      exact ⟨⟨_, _, rfl⟩, ((Below.refl _ _).alloc (Nat.le_refl _) _).alloc (by rw [World.size_alloc]; omega) _⟩
  · obtain ⟨FE, hFE⟩ : ∃ FE, blocksErr v (-1) 32 l = FE := ⟨_, rfl⟩
    rw [show funcErr (p, v, l) = FE from (if_neg hb).trans hFE]
    have HFE := Aside0.mk hFE
    have HC := Aside0.mk hC
    have h1 : ¬ p < 0 := by omega
    have h2 : ¬ 4 < p := by omega
    have h3 : ¬ v < p := by omega
    have h4 : ¬ 32 < v := by omega
    have h5 : ((l.length : Int) == 0) = false := by simp only [beq_eq_false_iff_ne]; omega
    have h6 : ¬ 16 < (l.length : Int) := by omega
    clear hFE hb hC
    obtain ⟨W0, hW0⟩ : ∃ W0, W0 = (w.alloc (.cells #[.int .i64 p, .int .i64 v, .slice A l.length c] 25)).alloc (.cells #[.int .i64 0, .int .i64 0, .int .i64 0] 75) := ⟨_, rfl⟩
    have HX := Aside0.mk (show ∀ W', Below (w.heap.size + 2) W0 W' → W'.cell? ⟨w.heap.size + 1, 0, none⟩ = some (.int .i64 0) ∧ W'.cell? ⟨w.heap.size + 1, 1, none⟩ = some (.int .i64 0) ∧ W'.cell? ⟨w.heap.size + 1, 2, none⟩ = some (.int .i64 0) ∧ W'.frozen? ⟨w.heap.size + 1, 0, none⟩ = false ∧ W'.frozen? ⟨w.heap.size + 1, 1, none⟩ = false ∧ W'.frozen? ⟨w.heap.size + 1, 2, none⟩ = false from fun W' h => by
      subst hW0
      obtain ⟨g, g'⟩ := two_cells h
      exact ⟨cell_at g' 0 _ rfl, cell_at g' 1 _ rfl, cell_at g' 2 _ rfl, blk_frozen g' 0, blk_frozen g' 1, blk_frozen g' 2⟩)
    have HF := Aside0.mk (show W0.cell? ⟨w.heap.size, 0, none⟩ = some (.int .i64 p) ∧ W0.cell? ⟨w.heap.size, 1, none⟩ = some (.int .i64 v) ∧ W0.cell? ⟨w.heap.size, 2, none⟩ = some (.slice A l.length c) from by
      subst hW0
      obtain ⟨g, g'⟩ := two_cells (Below.refl _ _)
      exact ⟨cell_at g 0 _ rfl, cell_at g 1 _ rfl, cell_at g 2 _ rfl⟩)
    have HA := Aside0.mk (show Below w.heap.size w W0 by rw [hW0]; exact ((Below.refl _ _).alloc (Nat.le_refl _) _).alloc (by rw [World.size_alloc]; omega) _)
    have HSZ := Aside0.mk (show W0.heap.size = w.heap.size + 2 by rw [hW0, World.size_alloc, World.size_alloc])
    obtain ⟨f0, f1, f2⟩ := HF.out
    go_enter Try.func40, Try.ntmps40
    go_upto_region 1 with fail
    rw [← hW0]
    clear hW0
    go_wp2_with (go_at_call 89; refine (rblocks_calls l v (-1) 32 A c _ (Kd.C_below HC.out HA.out) hll (by decide)).mono ?_; rintro _ w2 ⟨⟨x9, y9, rfl⟩, hb⟩; rw [HFE.out]; have HZ2 := Aside0.mk (show Below (w.heap.size + 2) W0 w2 by rw [← HSZ.out]; exact hb); clear hb f0 f1 f2; obtain ⟨r0, r1, r2, r3, r4, r5⟩ := HX.out w2 HZ2.out)
    (have q := fault_set r0 r1 r2; have q0 := fun x y z => (q x y z).1; have q1 := fun x y z => (q x y z).2.1; have q2 := fun x y z => (q x y z).2.2; clear q; (try simp only [Exit.inBlock, Exit.then]); refine bodyPost_ret (by simp [results, Try.results40, go_sem, q0, q1, q2]; try rfl) rfl ?_)
    exact ⟨⟨_, _, rfl⟩, below_set (HA.out.trans (HZ2.out.mono (by omega))) (by omega) _ _ _⟩
end Go.Proofs.Ytnckonglodmfeaa.Ik

namespace Go.Proofs.Ytnckonglodmfeaa.Ik
open Go.Proofs.Ytnckonglodmfeaa.Ls Go.RowKit Go.Proofs.YtnckonglodmfeaaW.PrintWords Go.Proofs.YtnckonglodmfeaaW.PrintLast Go.Proofs.YtnckonglodmfeaaW.PrintMore Go.Proofs.Ytnckonglodmfeaa.B Go.Proofs.Ytnckonglodmfeaa.R Go.Proofs.Ytnckonglodmfeaa.S Go.Proofs.Ytnckonglodmfeaa.Is Go.Proofs.Ytnckonglodmfeaa.Js
set_option linter.unusedVariables false
set_option linter.unusedSimpArgs false
/-- A function that is being read lies at gb, the result behind the world that was. -/
structure QfS (w0 W : World) (g b gb : Nat) (s : St) (F : Array Value) : Prop where
  rd : Rq W g b s
  res : W.heap[w0.heap.size]? = some (.cells #[.int .i64 0, .int .i64 0, .slice none 0 0] 25 (0, 0))
  bx : W.heap[gb]? = some (.cells F 25 (0, 0))
  below : Below w0.heap.size w0 W
  hg : w0.heap.size + 1 ≤ g
  hgb : g < gb
  hbb : b < gb
theorem QfS.step {w0 W W' : World} {g b gb : Nat} {s s' : St} {F : Array Value} (h : QfS w0 W g b gb s F) (hk : Keep (· = g) W W') (hr : Rq W' g b s') : QfS w0 W' g b gb s' F := by
  have h1 := h.hg
  have h2 := h.hgb
  have hs := h.below.size
  exact ⟨hr, (hk.block _ (blk_lt h.res) (fun e => by have e : w0.heap.size = g := e; omega)).trans h.res, (hk.block gb (blk_lt h.bx) (fun e => by have e : gb = g := e; omega)).trans h.bx, h.below.trans (keep_below hk hs (fun i e => by have e : i = g := e; omega)), h1, h2, h.hbb⟩
theorem QfS.stepK {w0 W W' : World} {g b gb : Nat} {s : St} {F : Array Value} (h : QfS w0 W g b gb s F) (hk : Keep (· = g) W W') (hs : W'.heap.size = W.heap.size) : RfK w0 W' gb F := by
  have h1 := h.hg
  have h2 := h.hgb
  have hz := h.below.size
  exact ⟨(hk.block _ (blk_lt h.res) (fun e => by have e : w0.heap.size = g := e; omega)).trans h.res, (hk.block gb (blk_lt h.bx) (fun e => by have e : gb = g := e; omega)).trans h.bx, h.below.trans (keep_below hk hz (fun i e => by have e : i = g := e; omega)), by omega⟩
theorem QfS.set {w0 W : World} {g b gb : Nat} {s : St} {F : Array Value} (h : QfS w0 W g b gb s F) (j : Nat) (x : Value) : QfS w0 (W.setCell ⟨gb, j, none⟩ x) g b gb s (F.setIfInBounds j x) := by
  have h1 := h.hg
  have h2 := h.hgb
  have h3 := h.hbb
  have hk : Keep (· = gb) W (W.setCell ⟨gb, j, none⟩ x) := (Keep.refl _ _).setCell ⟨gb, j, none⟩ x (fun _ => rfl)
  have ho : ∀ i, i ≠ gb → (W.setCell ⟨gb, j, none⟩ x).heap[i]? = W.heap[i]? := fun i hi => Below.heap_setCell _ _ _ _ hi
  exact ⟨h.rd.keep hk (by omega) (by omega), (ho _ (by omega)).trans h.res, heap_setCell_same W gb j F _ _ h.bx, h.below.setCell (by show w0.heap.size ≤ gb; omega) _, h1, h2, h3⟩
theorem RfK.cells9 {w0 W : World} {gb : Nat} {F : Array Value} {x0 x1 x2 : Value} (h : RfK w0 W gb F) (hF : F = #[x0, x1, x2]) :
    (W.cell? ⟨gb, 0, none⟩ = some x0 ∧ W.cell? ⟨gb, 1, none⟩ = some x1 ∧ W.cell? ⟨gb, 2, none⟩ = some x2 ∧ W.frozen? ⟨gb, 0, none⟩ = false ∧ W.frozen? ⟨gb, 1, none⟩ = false ∧ W.frozen? ⟨gb, 2, none⟩ = false) ∧ W.cell? ⟨w0.heap.size, 0, none⟩ = some (.int .i64 0) ∧ W.cell? ⟨w0.heap.size, 1, none⟩ = some (.int .i64 0) ∧ W.cell? ⟨w0.heap.size, 2, none⟩ = some (.slice none 0 0) ∧ W.frozen? ⟨w0.heap.size, 0, none⟩ = false ∧ W.frozen? ⟨w0.heap.size, 1, none⟩ = false ∧ W.frozen? ⟨w0.heap.size, 2, none⟩ = false := by
  subst hF
  exact ⟨⟨cell_at h.bx 0 _ rfl, cell_at h.bx 1 _ rfl, cell_at h.bx 2 _ rfl, blk_frozen h.bx 0, blk_frozen h.bx 1, blk_frozen h.bx 2⟩, cell_at h.res 0 _ rfl, cell_at h.res 1 _ rfl, cell_at h.res 2 _ rfl, blk_frozen h.res 0, blk_frozen h.res 1, blk_frozen h.res 2⟩
theorem QfS.toK {w0 W : World} {g b gb : Nat} {s : St} {F : Array Value} (h : QfS w0 W g b gb s F) : RfK w0 W gb F := ⟨h.res, h.bx, h.below, by have := h.hg; have := h.hgb; omega⟩
set_option maxHeartbeats 4000000 in
set_option maxRecDepth 100000 in
theorem qread_func (A : Option Addr) (c : Nat) (l : List Int) (w : World) (hC : kU8.C w A l.length l) (hll : l.length ≤ 1000000) (hby : By l) (hA : ∀ a, A = some a → a.block < w.heap.size) (hlc : l.length ≤ c) :
    Calls Try.prog 54 #[.slice A l.length c] w fun e w' => FunRet w' w.heap.size (sFun l) e ∧ Below w.heap.size w w' := by
  have mixed : Try.prog.follows .mixedOrders = true := by kernel_rfl
  have hff := fault_field
  have HC := Aside0.mk hC
  have HBY := Aside0.mk hby
  obtain ⟨p, s1, hp⟩ : ∃ p s1, sBelow 4096 (l, 0) = (p, s1) := ⟨_, _, rfl⟩
  obtain ⟨v, s2, hv⟩ : ∃ v s2, sBelow 4096 s1 = (v, s2) := ⟨_, _, rfl⟩
  obtain ⟨B, s3, hB⟩ : ∃ B s3, sBlks 32 s2 = (B, s3) := ⟨_, _, rfl⟩
  obtain ⟨E, hE⟩ : ∃ E, ended s3.1 s3.2 = E := ⟨_, rfl⟩
  have hF : sFun l = ((p, v, B), if E = 0 then (if funcErr (p, v, B) = 0 then 0 else 30) else E) := by
    unfold sFun
    simp only [hp, hv, hB, hE]
  have HCD := Aside0.mk (show E = 0 → s3.2 = 0 from fun h => by
    rw [← hE] at h
    unfold ended failed at h
    by_cases h1 : 0 < s3.1.length
    · rw [if_pos h1] at h
      by_cases h2 : s3.2 = 0
      · exact h2
      · rw [if_neg h2] at h; exact h
    · rwa [if_neg h1] at h)
  have HBL := Aside0.mk (show B.length ≤ 16 from by
    have h1 : sBlks 32 s2 = sBlkN 32 (sBelow 17 s2).1.toNat (sBelow 17 s2).2 := rfl
    have h2 := blkN_len 32 (sBelow 17 s2).1.toNat (sBelow 17 s2).2
    rw [← h1, hB] at h2
    have hby2 : By s2.1 := by
      have a := sbelow_by (m := 4096) (s := (l, 0)) hby
      rw [hp] at a
      have a := sbelow_by (m := 4096) (s := s1) a
      rw [hv] at a
      exact a
    have h3 := below_range (m := 17) (by decide) hby2
    simp only at h2
    omega)
  obtain ⟨X, hX⟩ : ∃ X : Int, (if E = 0 then (if funcErr (p, v, B) = 0 then 0 else 30) else E) = X := ⟨_, rfl⟩
  rw [hX] at hF
  rw [hF]
  have HXX := Aside0.mk hX
  clear hX
  have HP := Aside0.mk hp
  have HV := Aside0.mk hv
  have HB := Aside0.mk hB
  have HE := Aside0.mk hE
  clear hC hby hp hv hB hE hF
  go_enter Try.func54, Try.ntmps54
  obtain ⟨b, hbA, hbg, hbl⟩ : ∃ b, (∀ a, A = some a → a.block = b) ∧ b ≠ w.heap.size + 1 ∧ b < w.heap.size + 1 := by
    cases A with
    | none => exact ⟨w.heap.size, (fun a e => by cases e), by omega, by omega⟩
    | some a => exact ⟨a.block, fun a' e => by injection e with e; rw [e], by have := hA a rfl; omega, by have := hA a rfl; omega⟩
  have HI := Aside0.mk (show QfS w (((w.alloc (.cells #[.int .i64 0, .int .i64 0, .slice none 0 0] 25)).alloc (.cells #[.slice A l.length c, .int .i64 0] 107)).alloc (.cells #[.int .i64 0, .int .i64 0, .slice none 0 0] 25)) (w.heap.size + 1) b (w.heap.size + 2) (l, 0) #[.int .i64 0, .int .i64 0, .slice none 0 0] from by
    have z1 : (w.alloc (.cells #[.int .i64 0, .int .i64 0, .slice none 0 0] 25)).heap.size = w.heap.size + 1 := World.size_alloc _ _
    have z2 : ((w.alloc (.cells #[.int .i64 0, .int .i64 0, .slice none 0 0] 25)).alloc (.cells #[.slice A l.length c, .int .i64 0] 107)).heap.size = w.heap.size + 2 := by rw [World.size_alloc, z1]
    refine ⟨⟨⟨A, c, ?_, hlc, hbA, Kd.C_alloc (Kd.C_alloc (Kd.C_alloc HC.out _) _) _, hbg⟩, HBY.out, by rw [World.size_alloc, z2]; omega⟩, ?_, ?_, (((Below.refl w.heap.size w).alloc (Nat.le_refl _) _).alloc (by rw [z1]; omega) _).alloc (by rw [z2]; omega) _, Nat.le_refl _, by omega, by omega⟩
    · rw [heap_alloc_old _ _ (by rw [z2]; omega), ← z1, heap_alloc_new]
    · rw [heap_alloc_old _ _ (by rw [z2]; omega), heap_alloc_old _ _ (by rw [z1]; omega), heap_alloc_new]
    · rw [← z2, heap_alloc_new])
  obtain ⟨WA, hWA⟩ : ∃ WA, WA = ((w.alloc (.cells #[.int .i64 0, .int .i64 0, .slice none 0 0] 25)).alloc (.cells #[.slice A l.length c, .int .i64 0] 107)).alloc (.cells #[.int .i64 0, .int .i64 0, .slice none 0 0] 25) := ⟨_, rfl⟩
  rw [← hWA] at HI
  have HWA := Aside0.mk hWA
  clear hWA
  go_upto_region 3 with fail
  rw [← HWA.out]
  clear HWA
  obtain ⟨⟨q0, q1, q2, z0, z1, z2⟩, y0, y1, y2, v0, v1, v2⟩ :=  HI.out.toK.cells9 rfl
  go_upto_region 5 with (go_at_call 53; (first | (refine (rq_below (w.heap.size + 1) b (l, 0) 4096 _ HI.out.rd (by decide) (by decide)).mono ?_; rintro _ w2 ⟨rfl, hd, hk, -⟩; rw [HP.out] at hd ⊢; have HI2 := Aside0.mk (HI.out.step hk hd)) | (refine (rq_below (w.heap.size + 1) b s1 4096 _ (HI.out.set 0 (.int .i64 p)).rd (by decide) (by decide)).mono ?_; rintro _ w2 ⟨rfl, hd, hk, -⟩; rw [HV.out] at hd ⊢; have HI2 := Aside0.mk ((HI.out.set 0 (.int .i64 p)).step hk hd))); clear HI; clear q0 q1 q2 z0 z1 z2 y0 y1 y2 v0 v1 v2; have HI := HI2; clear HI2 hd hk; obtain ⟨⟨q0, q1, q2, z0, z1, z2⟩, y0, y1, y2, v0, v1, v2⟩ :=  HI.out.toK.cells9 rfl)
  have hset := HI.out.set 1 (.int .i64 v)
  generalize w2.setCell ⟨w.heap.size + 2, 1, none⟩ (.int .i64 v) = WB at hset ⊢
  clear HI
  have HI := Aside0.mk (show QfS w WB (w.heap.size + 1) b (w.heap.size + 2) s2 #[.int .i64 p, .int .i64 v, .slice none 0 0] from hset)
  clear q0 q1 q2 z0 z1 z2 y0 y1 y2 v0 v1 v2
  clear hset
  obtain ⟨⟨q0, q1, q2, z0, z1, z2⟩, y0, y1, y2, v0, v1, v2⟩ :=  HI.out.toK.cells9 rfl
  go_upto_region 7 with (first
    | (go_at_call 96; refine (qread_blocks (w.heap.size + 1) b s2 32 _ HI.out.rd HI.out.rd.1.lt (by decide) (by decide)).mono ?_; rintro _ w5 ⟨vb, bs, rfl, hr, hbs, hd, hk⟩; obtain ⟨Ab, cb, hvb, hlb, hCb⟩ := Kd.R_reads hr; obtain ⟨nb, hnb⟩ : ∃ n, bs.length = n := ⟨_, rfl⟩; rw [hnb] at hvb hlb hCb; subst hvb; rw [HB.out] at hbs hd; have HLW := Aside0.mk (blk_lt HI.out.bx); have HI5 := Aside0.mk (HI.out.step hk hd); have HR := Aside0.mk hr; have HBS := Aside0.mk hbs; have HNB := Aside0.mk hnb; have HCB := Aside0.mk hCb; have HRK := Aside0.mk hk; clear HI; clear q0 q1 q2 z0 z1 z2 y0 y1 y2 v0 v1 v2; obtain ⟨⟨q0, q1, q2, z0, z1, z2⟩, y0, y1, y2, v0, v1, v2⟩ := HI5.out.toK.cells9 rfl; clear hr hbs hd hk hnb hCb)
    | (go_at_call 97; have HI6 := Aside0.mk (HI5.out.set 2 (.slice Ab nb cb)); refine (rq_end (w.heap.size + 1) b s3 _ HI6.out.rd).mono ?_; rintro _ w6 ⟨rfl, hk, hs⟩; rw [HE.out]; have HI7 := Aside0.mk (HI6.out.stepK hk hs); have HK7 := Aside0.mk hk; clear q0 q1 q2 z0 z1 z2 y0 y1 y2 v0 v1 v2; clear hk hs; obtain ⟨⟨q0, q1, q2, z0, z1, z2⟩, y0, y1, y2, v0, v1, v2⟩ := HI7.out.cells9 rfl))
  obtain rfl := HNB.out
  have HR6 := Aside0.mk (show kBlk.R 84 w6 w.heap.size (fun k => w.heap.size + 2 < k) (.slice Ab bs.length cb) bs from by
    have hz := HI7.out.hgb
    refine Kd.R_lower (Kd.R_step (Kd.R_mono (Kd.R_bound HR.out) (ok' := fun k => w.heap.size + 2 < k) (fun k hk => by have := hk.2.1; have := HLW.out; omega)) (fun k hk hl => (HK7.out.block k (by rw [size_set]; exact hl) (fun e => by have e : k = w.heap.size + 1 := e; omega)).trans (Below.heap_setCell _ _ _ _ (by show k ≠ w.heap.size + 2; omega)))) (by have := HLW.out; omega))
  have HC6 := Aside0.mk (show kBlk.C w6 Ab bs.length bs from by
    obtain ⟨A', c', e, -, hC⟩ := Kd.R_reads HR6.out
    injection e with e1 e2 e3
    subst e1
    exact hC)
  clear HR HCB HK7 HRK HLW HI6 HNB
  by_cases hE0 : E = 0
  · subst hE0
    have hbs : bs = B := HBS.out (HCD.out rfl)
    subst hbs
    have hl16 := HBL.out
    obtain ⟨FE, hFE⟩ : ∃ FE, funcErr (p, v, bs) = FE := ⟨_, rfl⟩
    have HFE := Aside0.mk hFE
    clear hFE
    by_cases hF0 : FE = 0
    · subst hF0
      go_wp2_with (first | (go_at_call 40; refine (rfunc_calls p v bs Ab cb _ HC6.out (by omega)).mono ?_; rintro _ w7 ⟨⟨x9, y9, rfl⟩, hb⟩; rw [HFE.out]; have HI8 := Aside0.mk (HI7.out.step hb); have HB7 := Aside0.mk hb; clear q0 q1 q2 z0 z1 z2 y0 y1 y2 v0 v1 v2; clear hb; obtain ⟨⟨q0, q1, q2, z0, z1, z2⟩, y0, y1, y2, v0, v1, v2⟩ := HI8.out.cells9 rfl))
      have rr := HI8.out.res; have p0 := fun x0 x1 x2 => cell_at (put3 rr x0 x1 x2) 0 _ rfl; have p1 := fun x0 x1 x2 => cell_at (put3 rr x0 x1 x2) 1 _ rfl; have p2 := fun x0 x1 x2 => cell_at (put3 rr x0 x1 x2) 2 _ rfl; (try simp only [Exit.inBlock, Exit.then]); refine bodyPost_ret (by simp [results, Try.results54, go_sem, p0, p1, p2]; try rfl) rfl ?_
      refine ⟨?_, HI8.out.below.trans (keep_below (put3_far _ _ _) HI8.out.below.size (fun i e => by omega))⟩
      rw [show X = 0 from by rw [← HXX.out]; simp [HFE.out]]
      refine ⟨p, v, _, bs, rfl, Kd.R_mono (Kd.R_step (Kd.R_below HR6.out HB7.out) (fun k hk hl => (put3_far _ _ _).block k hl (fun e => by have := HI8.out.hgb; omega))) (fun _ _ => trivial), .inl ⟨rfl, rfl⟩⟩
    · have hcn : (FE != 0) = true := bne_iff_ne.mpr hF0
      have hcb : (FE == 0) = false := beq_eq_false_iff_ne.mpr hF0
      have HF0 := Aside0.mk hF0
      clear hF0
      go_wp2_with (first | (go_at_call 40; refine (rfunc_calls p v bs Ab cb _ HC6.out (by omega)).mono ?_; rintro _ w7 ⟨⟨x9, y9, rfl⟩, hb⟩; rw [HFE.out]; have HI8 := Aside0.mk (HI7.out.step hb); have HB7 := Aside0.mk hb; clear q0 q1 q2 z0 z1 z2 y0 y1 y2 v0 v1 v2; clear hb; obtain ⟨⟨q0, q1, q2, z0, z1, z2⟩, y0, y1, y2, v0, v1, v2⟩ := HI8.out.cells9 rfl))
      have rr := HI8.out.res; have p0 := fun x0 x1 x2 => cell_at (put3 rr x0 x1 x2) 0 _ rfl; have p1 := fun x0 x1 x2 => cell_at (put3 rr x0 x1 x2) 1 _ rfl; have p2 := fun x0 x1 x2 => cell_at (put3 rr x0 x1 x2) 2 _ rfl; (try simp only [Exit.inBlock, Exit.then]); refine bodyPost_ret (by simp [results, Try.results54, go_sem, p0, p1, p2]; try rfl) rfl ?_
      refine ⟨?_, HI8.out.below.trans (keep_below (put3_far _ _ _) HI8.out.below.size (fun i e => by omega))⟩
      rw [show X = 30 from by rw [← HXX.out]; simp [HFE.out, HF0.out]]
      exact ⟨0, 0, _, [], rfl, Kd.R_nil _ _ _ _ _, .inr ⟨(by decide : (30 : Int) ≠ 0), rfl, rfl, rfl⟩⟩
  · have hcn : (E != 0) = true := bne_iff_ne.mpr hE0
    have hcb : (E == 0) = false := beq_eq_false_iff_ne.mpr hE0
    have HE0 := Aside0.mk hE0
    have HI8 := HI7
    clear hE0
    go_wp2
    have rr := HI8.out.res; have p0 := fun x0 x1 x2 => cell_at (put3 rr x0 x1 x2) 0 _ rfl; have p1 := fun x0 x1 x2 => cell_at (put3 rr x0 x1 x2) 1 _ rfl; have p2 := fun x0 x1 x2 => cell_at (put3 rr x0 x1 x2) 2 _ rfl; (try simp only [Exit.inBlock, Exit.then]); refine bodyPost_ret (by simp [results, Try.results54, go_sem, p0, p1, p2]; try rfl) rfl ?_
    refine ⟨?_, HI8.out.below.trans (keep_below (put3_far _ _ _) HI8.out.below.size (fun i e => by omega))⟩
    rw [show X = E from by rw [← HXX.out]; exact if_neg HE0.out]
    exact ⟨0, 0, _, [], rfl, Kd.R_nil _ _ _ _ _, .inr ⟨HE0.out, rfl, rfl, rfl⟩⟩
end Go.Proofs.Ytnckonglodmfeaa.Ik

namespace Go.Proofs.Ytnckonglodmfeaa.Ik
open Go.Proofs.Ytnckonglodmfeaa.Ls Go.Proofs.Ytnckonglodmfeaa.Lc Go.RowKit Go.Proofs.YtnckonglodmfeaaW.PrintWords Go.Proofs.YtnckonglodmfeaaW.PrintLast Go.Proofs.YtnckonglodmfeaaW.PrintMore Go.Proofs.Ytnckonglodmfeaa.B Go.Proofs.Ytnckonglodmfeaa.R Go.Proofs.Ytnckonglodmfeaa.S Go.Proofs.Ytnckonglodmfeaa.Is Go.Proofs.Ytnckonglodmfeaa.Js Go.Proofs.Ytnckonglodmfeaa.Gs Go.Proofs.Ytnckonglodmfeaa.Gc
set_option linter.unusedVariables false
set_option linter.unusedSimpArgs false
theorem Rq.setb {W : World} {g b gb : Nat} {s : St} (h : Rq W g b s) (hg : g ≠ gb) (hb : b ≠ gb) (j : Nat) (x : Value) : Rq (W.setCell ⟨gb, j, none⟩ x) g b s :=
  h.keep (S := (· = gb)) ((Keep.refl _ _).setCell ⟨gb, j, none⟩ x (fun _ => rfl)) hg hb
theorem keep_drews {S : Nat → Prop} {a b : World} (h : Keep S a b) : Keep S a.drew b.drew := ⟨h.os, h.tape, h.output, h.size, h.block⟩
theorem rq_num2 (g b : Nat) (s : St) (w : World) (h : Rq w g b s) :
    Calls Try.prog 43 #[.pointer (some ⟨g, 0, none⟩)] w fun e w' => e = .returned (.int .u64 (num s.1 s.2).1) ∧ Rq w' g b (num s.1 s.2).2 ∧ Keep (· = g) w w' ∧ w'.heap.size = w.heap.size := by
  refine (Lr.num_calls g b s.1 s.2 w h.1 h.2.1).mono ?_
  rintro e w' ⟨h1, h2, h3, h4⟩
  exact ⟨h1, ⟨h2, num_by s.1 s.2 h.2.1, by rw [h4]; exact h.2.2⟩, h3, h4⟩
set_option maxHeartbeats 4000000 in
set_option maxRecDepth 100000 in
theorem readask_calls (A : Option Addr) (c : Nat) (b : List Int) (n0 : Nat) (hn : b.length = n0) (w : World) (hC : kU8.C w A n0 b) (hc : n0 ≤ c) (hby : By b) (hl : n0 ≤ 1000000) :
    Calls Try.prog 19 #[.slice A n0 c] w fun e w' => AskRet w' w.heap.size (readAsk b) e ∧ Below w.heap.size w w' := by
  have mixed : Try.prog.follows .mixedOrders = true := by kernel_rfl
  have HC := Aside0.mk hC
  have HBY := Aside0.mk hby
  have HN := Aside0.mk hn
  obtain ⟨body, oe, ho⟩ : ∃ body oe, openL 2 b = (body, oe) := ⟨_, _, rfl⟩
  obtain ⟨j, s1, h1⟩ : ∃ j s1, sBelow 16 (body, 0) = (j, s1) := ⟨_, _, rfl⟩
  obtain ⟨n, s2, h2⟩ : ∃ n s2, num s1.1 s1.2 = (n, s2) := ⟨_, _, rfl⟩
  obtain ⟨r, s3, h3⟩ : ∃ r s3, sBelow 9 s2 = (r, s3) := ⟨_, _, rfl⟩
  obtain ⟨fx, fe, hf⟩ : ∃ fx fe, sFun s3.1 = (fx, fe) := ⟨_, _, rfl⟩
  rw [readAsk_eq ho h1 h2 h3 hf]
  have HO := Aside0.mk ho
  have H1 := Aside0.mk h1
  have H2 := Aside0.mk h2
  have H3 := Aside0.mk h3
  have HF := Aside0.mk hf
  have HSZ := Aside0.mk (World.size_alloc w (.cells #[.int .i64 0, .int .u64 0, .int .i64 0, .int .i64 0, .int .i64 0, .slice none 0 0] 27))
  have HA := Aside0.mk (show Below w.heap.size w (w.alloc (.cells #[.int .i64 0, .int .u64 0, .int .i64 0, .int .i64 0, .int .i64 0, .slice none 0 0] 27)) from (Below.refl _ _).alloc (Nat.le_refl _) _)
  have HRES := Aside0.mk (show ∀ W', Below (w.heap.size + 1) (w.alloc (.cells #[.int .i64 0, .int .u64 0, .int .i64 0, .int .i64 0, .int .i64 0, .slice none 0 0] 27)) W' → W'.heap[w.heap.size]? = some (.cells #[.int .i64 0, .int .u64 0, .int .i64 0, .int .i64 0, .int .i64 0, .slice none 0 0] 27 (0, 0)) from fun W' h => below_cells (h.mono (by rw [World.size_alloc]; exact Nat.le_refl _)))
  clear hC hby hn ho h1 h2 h3 hf
  by_cases hoe : oe = 0
  case neg =>
    rw [if_pos hoe]
    have hb1 : (oe == 0) = false := beq_eq_false_iff_ne.mpr hoe
    have hb2 : (oe != 0) = true := bne_iff_ne.mpr hoe
    have HOE := Aside0.mk hoe
    clear hoe
    go_enter Try.func19, Try.ntmps19
    go_upto_region 3 with (go_at_call 52; refine (ropen_calls 2 A c b n0 HN.out _ (Kd.C_below HC.out HA.out) hc HBY.out hl).mono ?_; rintro _ w1 ⟨hr, hb⟩; rw [HO.out] at hr; have HB1 := Aside0.mk (show Below (w.heap.size + 1) (w.alloc (.cells #[.int .i64 0, .int .u64 0, .int .i64 0, .int .i64 0, .int .i64 0, .slice none 0 0] 27)) w1 from hb.mono (by rw [HSZ.out]; exact Nat.le_refl _)); clear hb; rcases hr with ⟨-, rfl⟩ | ⟨h0, -⟩; rotate_left; (exact absurd h0 HOE.out); have hres := HRES.out w1 HB1.out)
    obtain ⟨⟨x0, x1, x2, x3, x4, x5⟩, xz⟩ := zero6 hres
    have HRS := Aside0.mk hres
    clear hres
    go_wp2
    (have rr := HRS.out; have p0 := fun x0 x1 x2 x3 x4 x5 => cell_at (put6 rr x0 x1 x2 x3 x4 x5) 0 _ rfl; have p1 := fun x0 x1 x2 x3 x4 x5 => cell_at (put6 rr x0 x1 x2 x3 x4 x5) 1 _ rfl; have p2 := fun x0 x1 x2 x3 x4 x5 => cell_at (put6 rr x0 x1 x2 x3 x4 x5) 2 _ rfl; have p3 := fun x0 x1 x2 x3 x4 x5 => cell_at (put6 rr x0 x1 x2 x3 x4 x5) 3 _ rfl; have p4 := fun x0 x1 x2 x3 x4 x5 => cell_at (put6 rr x0 x1 x2 x3 x4 x5) 4 _ rfl; have p5 := fun x0 x1 x2 x3 x4 x5 => cell_at (put6 rr x0 x1 x2 x3 x4 x5) 5 _ rfl; (try simp only [Exit.inBlock, Exit.then]); refine bodyPost_ret (by simp [results, Try.results19, go_sem, p0, p1, p2, p3, p4, p5]; try rfl) rfl ?_)
    exact ⟨⟨0, 0, 0, 0, 0, _, [], rfl, Kd.R_nil _ _ _ _ _, rfl⟩, (HA.out.trans (HB1.out.mono (by omega))).trans (keep_below (put6_far _ _ _ _ _ _) (HA.out.trans (HB1.out.mono (by omega))).size (fun i e => by omega))⟩
  subst hoe
  rw [if_neg (by simp)]
  have HBB := Aside0.mk (show By body ∧ body.length ≤ 1000000 from by
    have h1 := takeL_by HBY.out
    have h2 := takeL_len b
    have h3 := HO.out
    unfold openL at h3
    have h4 := HN.out
    repeat' split at h3
    all_goals (injection h3 with e1 e2; subst e1)
    all_goals first | exact ⟨fun x hx => (by cases hx), by simp⟩ | exact ⟨h1, by omega⟩)
  have hl3 : s3.1.length ≤ 1000000 := by
    have a1 := below_len 16 (body, 0)
    rw [H1.out] at a1
    have a2 := num_len s1.1 s1.2
    rw [H2.out] at a2
    have a3 := below_len 9 s2
    rw [H3.out] at a3
    have := HBB.out.2
    simp only at a1 a2 a3
    omega
  obtain ⟨X, hX⟩ : ∃ X : Ask × Int, (if s3.2 ≠ 0 then (zeroAsk, s3.2) else if fe ≠ 0 then (zeroAsk, fe) else ((j, n, r, fx), 0)) = X := ⟨_, rfl⟩
  rw [hX]
  have HXX := Aside0.mk hX
  clear hX
  go_enter Try.func19, Try.ntmps19
  go_upto_region 5 with (go_at_call 52; refine (ropen_calls 2 A c b n0 HN.out _ (Kd.C_below HC.out HA.out) hc HBY.out hl).mono ?_; rintro _ w1 ⟨hr, hb⟩; rw [HO.out] at hr; have HB1 := Aside0.mk (show Below (w.heap.size + 1) (w.alloc (.cells #[.int .i64 0, .int .u64 0, .int .i64 0, .int .i64 0, .int .i64 0, .slice none 0 0] 27)) w1 from hb.mono (by rw [HSZ.out]; exact Nat.le_refl _)); clear hb; rcases hr with ⟨h0, -⟩ | ⟨-, g, bb, rfl, hR, hBy, hg0, hg1, hb1, -⟩; (exact absurd rfl h0); have HD0 := Aside0.mk (show Rq w1 g bb (body, 0) from ⟨hR, hBy, hb1⟩); have HG := Aside0.mk (show w.heap.size + 1 ≤ g from by rw [HSZ.out] at hg0; exact hg0); clear hR hBy hg0 hg1 hb1)
  have hzg := HG.out
  have hz4 : w.heap.size + 1 ≤ w1.heap.size := by have := HB1.out.size; rw [HSZ.out] at this; exact this
  have HT := Aside0.mk (show Tk w (w1.alloc (.cells #[.int .i64 0, .int .u64 0, .int .i64 0, .int .i64 0, .int .i64 0, .slice none 0 0] 27)) w1.heap.size #[.int .i64 0, .int .u64 0, .int .i64 0, .int .i64 0, .int .i64 0, .slice none 0 0] from
    ⟨HRES.out _ (HB1.out.alloc hz4 _), heap_alloc_new _ _, (HA.out.trans (HB1.out.mono (by omega))).alloc (by omega) _, by omega⟩)
  have HDa := Aside0.mk (show Rq (w1.alloc (.cells #[.int .i64 0, .int .u64 0, .int .i64 0, .int .i64 0, .int .i64 0, .slice none 0 0] 27)) g bb (body, 0) from HD0.out.below ((Below.refl _ _).alloc (Nat.le_refl _) _))
  have hgl := HD0.out.1.lt
  have hbl := HD0.out.2.2
  obtain ⟨gb, hgb⟩ : ∃ gb, w1.heap.size = gb := ⟨_, rfl⟩
  rw [hgb] at HT hgl hbl ⊢
  obtain ⟨W, hW⟩ : ∃ W, W = w1.alloc (.cells #[.int .i64 0, .int .u64 0, .int .i64 0, .int .i64 0, .int .i64 0, .slice none 0 0] 27) := ⟨_, rfl⟩
  rw [← hW] at HT HDa ⊢
  clear hW hgb hz4 HD0 HB1
  go_upto_region 8 with (first
    | (go_at_call 53; refine (rq_below g bb (body, 0) 16 _ HDa.out (by decide) (by decide)).mono ?_; rintro _ w2 ⟨rfl, hd, hk, -⟩; rw [H1.out] at hd ⊢; ((try clear q0 q1 q2 q3 q4 q5 qz x0 x1 x2 x3 x4 x5 xz); have HTm := Aside0.mk (HT.out.keep hk (fun e => by have e : w.heap.size = g := e; omega) (fun e => by have e : gb = g := e; omega) (fun i e => by have e : i = g := e; omega)); have HDb := Aside0.mk (Rq.setb (g := g) (b := bb) (gb := gb) hd (by omega) (by omega) 0 (.int .i64 j)); obtain ⟨⟨q0, q1, q2, q3, q4, q5⟩, qz, ⟨x0, x1, x2, x3, x4, x5⟩, xz⟩ := HTm.out.cells rfl; clear HT HDa hd hk; have HT := Aside0.mk (HTm.out.set 0 (.int .i64 j)); clear HTm))
    | (go_at_call 43; refine (rq_num2 g bb s1 _ HDb.out).mono ?_; rintro _ w3 ⟨rfl, hd, hk, -⟩; rw [H2.out] at hd ⊢; ((try clear q0 q1 q2 q3 q4 q5 qz x0 x1 x2 x3 x4 x5 xz); have HTm := Aside0.mk (HT.out.keep hk (fun e => by have e : w.heap.size = g := e; omega) (fun e => by have e : gb = g := e; omega) (fun i e => by have e : i = g := e; omega)); have HDc := Aside0.mk (Rq.setb (g := g) (b := bb) (gb := gb) hd (by omega) (by omega) 1 (.int .u64 n)); obtain ⟨⟨q0, q1, q2, q3, q4, q5⟩, qz, ⟨x0, x1, x2, x3, x4, x5⟩, xz⟩ := HTm.out.cells rfl; clear HT HDb hd hk; have HT := Aside0.mk (HTm.out.set 1 (.int .u64 n)); clear HTm))
    | (go_at_call 53; refine (rq_below g bb s2 9 _ HDc.out (by decide) (by decide)).mono ?_; rintro _ w4 ⟨rfl, hd, hk, -⟩; rw [H3.out] at hd ⊢; ((try clear q0 q1 q2 q3 q4 q5 qz x0 x1 x2 x3 x4 x5 xz); have HTm := Aside0.mk (HT.out.keep hk (fun e => by have e : w.heap.size = g := e; omega) (fun e => by have e : gb = g := e; omega) (fun i e => by have e : i = g := e; omega)); have HD := Aside0.mk (Rq.setb (g := g) (b := bb) (gb := gb) hd (by omega) (by omega) 2 (.int .i64 r)); obtain ⟨⟨q0, q1, q2, q3, q4, q5⟩, qz, ⟨x0, x1, x2, x3, x4, x5⟩, xz⟩ := HTm.out.cells rfl; clear HT HDc hd hk; have HT := Aside0.mk (HTm.out.set 2 (.int .i64 r)); clear HTm)))
  have HT := Aside0.mk (show Tk w (w4.setCell ⟨gb, 2, none⟩ (.int .i64 r)) gb #[.int .i64 j, .int .u64 n, .int .i64 r, .int .i64 0, .int .i64 0, .slice none 0 0] from HT.out)
  obtain ⟨W4, hW4⟩ : ∃ W4, W4 = w4.setCell ⟨gb, 2, none⟩ (.int .i64 r) := ⟨_, rfl⟩
  rw [← hW4] at HT HD ⊢
  clear hW4 q0 q1 q2 q3 q4 q5 qz x0 x1 x2 x3 x4 x5 xz
  obtain ⟨⟨q0, q1, q2, q3, q4, q5⟩, qz, ⟨x0, x1, x2, x3, x4, x5⟩, xz⟩ := HT.out.cells rfl
  have qc := HD.out.code
  by_cases hs3 : s3.2 = 0
  case neg =>
    have HXE := Aside0.mk (show X = (zeroAsk, s3.2) from by rw [← HXX.out]; exact if_pos hs3)
    have hb1 : (s3.2 == 0) = false := beq_eq_false_iff_ne.mpr hs3
    have hb2 : (s3.2 != 0) = true := bne_iff_ne.mpr hs3
    have HCD := Aside0.mk (show ∀ W', Keep (· = w.heap.size) W4.drew W' → W'.cell? ⟨g, 1, none⟩ = some (.int .i64 s3.2) from fun W' h => (World.cell?_of_block (a := ⟨g, 1, none⟩) (h.block g HD.out.1.lt (fun e => by have e : g = w.heap.size := e; omega))).trans HD.out.code)
    clear hs3
    go_upto_region 9 with fail
    clear qc
    refine rk_start ((· = w.heap.size)) (by kernel_rfl) (n := 7) (l := #[false, false, false, false, false, false, false]) (by kernel_rfl) (by kernel_rfl) ?_
    refine rk_take (fuel := 6) 0 rfl (by kernel_rfl) (listed' := #[true, false, false, false, false, false, false]) (by kernel_rfl) (fun _ _ _ h => h) (by kernel_rfl) (fun w' hR => by go_simp; first | done | with_reducible rfl) rfl ?_
    try simp only [Act.put, List.setIfInBounds_toArray, List.set_cons_zero, List.set_cons_succ]
    refine rk_take (fuel := 5) 1 rfl (by kernel_rfl) (listed' := #[true, true, false, false, false, false, false]) (by kernel_rfl) (fun _ _ _ h => h) (by kernel_rfl) (fun w' hR => by go_simp; first | done | with_reducible rfl) rfl ?_
    try simp only [Act.put, List.setIfInBounds_toArray, List.set_cons_zero, List.set_cons_succ]
    refine rk_take (fuel := 4) 2 rfl (by kernel_rfl) (listed' := #[true, true, true, false, false, false, false]) (by kernel_rfl) (fun _ _ _ h => h) (by kernel_rfl) (fun w' hR => by go_simp; first | done | with_reducible rfl) rfl ?_
    try simp only [Act.put, List.setIfInBounds_toArray, List.set_cons_zero, List.set_cons_succ]
    refine rk_take (fuel := 3) 3 rfl (by kernel_rfl) (listed' := #[true, true, true, true, false, false, false]) (by kernel_rfl) (fun _ _ _ h => h) (by kernel_rfl) (fun w' hR => by go_simp; first | done | with_reducible rfl) rfl ?_
    try simp only [Act.put, List.setIfInBounds_toArray, List.set_cons_zero, List.set_cons_succ]
    refine rk_take (fuel := 2) 4 rfl (by kernel_rfl) (listed' := #[true, true, true, true, true, false, false]) (by kernel_rfl) (fun _ _ _ h => h) (by kernel_rfl) (fun w' hR => by have x9 := HCD.out w' hR; go_simp; first | done | with_reducible rfl) rfl ?_
    try simp only [Act.put, List.setIfInBounds_toArray, List.set_cons_zero, List.set_cons_succ]
    refine rk_step (fuel := 1) 5 rfl (by kernel_rfl) (listed' := #[true, true, true, true, true, true, false]) (by kernel_rfl) (by kernel_rfl) (fun K' hK => ?_)
    (go_wp2_with fail)
    refine hK.out _ _ (keep_drews (put6_far _ _ _ _ _ _)) ?_
    clear hK K'
    try simp only [Act.put, List.setIfInBounds_toArray, List.set_cons_zero, List.set_cons_succ]
    refine rk_take (fuel := 0) 6 rfl (by kernel_rfl) (listed' := #[true, true, true, true, true, true, true]) (by kernel_rfl) (fun _ _ _ h => h) (by kernel_rfl) (fun w' hR => by go_simp; first | done | with_reducible rfl) rfl ?_
    try simp only [Act.put, List.setIfInBounds_toArray, List.set_cons_zero, List.set_cons_succ]
    refine rk_done (by kernel_rfl) ?_
    go_wp2
    (have rr := HT.out.res; have p0 := fun x0 x1 x2 x3 x4 x5 => cell_at (put6 rr x0 x1 x2 x3 x4 x5) 0 _ rfl; have p1 := fun x0 x1 x2 x3 x4 x5 => cell_at (put6 rr x0 x1 x2 x3 x4 x5) 1 _ rfl; have p2 := fun x0 x1 x2 x3 x4 x5 => cell_at (put6 rr x0 x1 x2 x3 x4 x5) 2 _ rfl; have p3 := fun x0 x1 x2 x3 x4 x5 => cell_at (put6 rr x0 x1 x2 x3 x4 x5) 3 _ rfl; have p4 := fun x0 x1 x2 x3 x4 x5 => cell_at (put6 rr x0 x1 x2 x3 x4 x5) 4 _ rfl; have p5 := fun x0 x1 x2 x3 x4 x5 => cell_at (put6 rr x0 x1 x2 x3 x4 x5) 5 _ rfl; (try simp only [Exit.inBlock, Exit.then]); refine bodyPost_ret (by simp [results, Try.results19, go_sem, p0, p1, p2, p3, p4, p5]; try rfl) rfl ?_)
    rw [HXE.out]
    exact ⟨⟨0, 0, 0, 0, 0, _, [], rfl, Kd.R_nil _ _ _ _ _, rfl⟩, (HT.out.below.trans (keep_below (put6_far _ _ _ _ _ _) HT.out.below.size (fun i e => by omega))).drew⟩
  obtain ⟨l3, c3⟩ := s3
  simp only at hs3
  subst hs3
  simp only at HF hl3 HXX
  obtain ⟨A5, c5, q6, -, -, hl5, hA5, hC5, -⟩ := HD.out.1.left
  have HC5 := Aside0.mk hC5
  have HA5 := Aside0.mk (show ∀ a, A5 = some a → a.block < W4.heap.size from fun a e => by rw [hA5 a e]; exact HD.out.2.2)
  have HL5 := Aside0.mk hl5
  have HBY3 := Aside0.mk (show By l3 from HD.out.2.1)
  have HL3 := Aside0.mk hl3
  have hgb6 := blk_lt HT.out.bx
  clear hC5 hA5 hl5
  by_cases hfe : fe = 0
  case neg =>
    have HXE := Aside0.mk (show X = (zeroAsk, fe) from by rw [← HXX.out, if_neg (by simp)]; exact if_pos hfe)
    have hb1 : (fe == 0) = false := beq_eq_false_iff_ne.mpr hfe
    have hb2 : (fe != 0) = true := bne_iff_ne.mpr hfe
    clear hfe
    go_wp2_with (go_at_call 54; refine (qread_func A5 c5 l3 _ HC5.out HL3.out HBY3.out HA5.out HL5.out).mono ?_; rintro _ w7 ⟨hr7, hb7⟩; rw [HF.out] at hr7; obtain ⟨p, v, vb, bs, rfl, hR7, hx7⟩ := hr7; obtain ⟨Ab, cb, rfl, -, -⟩ := Kd.R_reads hR7; obtain ⟨nb, hnb⟩ : ∃ nb, bs.length = nb := ⟨_, rfl⟩; rw [hnb]; have HT7 := Aside0.mk (HT.out.grow hb7); have HT8 := Aside0.mk (((HT7.out.set 3 (.int .i64 p)).set 4 (.int .i64 v)).set 5 (.slice Ab nb cb)); clear hb7 hR7 hx7 hnb qc q6 q0 q1 q2 q3 q4 q5 qz x0 x1 x2 x3 x4 x5 xz; obtain ⟨⟨q0, q1, q2, q3, q4, q5⟩, qz, ⟨x0, x1, x2, x3, x4, x5⟩, xz⟩ := HT7.out.cells rfl; obtain ⟨⟨r0, r1, r2, r3, r4, r5⟩, rz, ⟨y0, y1, y2, y3, y4, y5⟩, yz⟩ := HT8.out.cells rfl)
    (have rr := HT8.out.res; have p0 := fun x0 x1 x2 x3 x4 x5 => cell_at (put6 rr x0 x1 x2 x3 x4 x5) 0 _ rfl; have p1 := fun x0 x1 x2 x3 x4 x5 => cell_at (put6 rr x0 x1 x2 x3 x4 x5) 1 _ rfl; have p2 := fun x0 x1 x2 x3 x4 x5 => cell_at (put6 rr x0 x1 x2 x3 x4 x5) 2 _ rfl; have p3 := fun x0 x1 x2 x3 x4 x5 => cell_at (put6 rr x0 x1 x2 x3 x4 x5) 3 _ rfl; have p4 := fun x0 x1 x2 x3 x4 x5 => cell_at (put6 rr x0 x1 x2 x3 x4 x5) 4 _ rfl; have p5 := fun x0 x1 x2 x3 x4 x5 => cell_at (put6 rr x0 x1 x2 x3 x4 x5) 5 _ rfl; (try simp only [Exit.inBlock, Exit.then]); refine bodyPost_ret (by simp [results, Try.results19, go_sem, p0, p1, p2, p3, p4, p5]; try rfl) rfl ?_)
    rw [HXE.out]
    exact ⟨⟨0, 0, 0, 0, 0, _, [], rfl, Kd.R_nil _ _ _ _ _, rfl⟩, HT8.out.below.trans (keep_below (put6_far _ _ _ _ _ _) HT8.out.below.size (fun i e => by omega))⟩
  subst hfe
  have HXE := Aside0.mk (show X = ((j, n, r, fx), 0) from by rw [← HXX.out, if_neg (by simp), if_neg (by simp)])
  go_wp2_with (go_at_call 54; refine (qread_func A5 c5 l3 _ HC5.out HL3.out HBY3.out HA5.out HL5.out).mono ?_; rintro _ w7 ⟨hr7, hb7⟩; rw [HF.out] at hr7; obtain ⟨p, v, vb, bs, rfl, hR7, hx7⟩ := hr7; obtain ⟨Ab, cb, rfl, -, -⟩ := Kd.R_reads hR7; obtain ⟨nb, hnb⟩ : ∃ nb, bs.length = nb := ⟨_, rfl⟩; rw [hnb] at hR7 ⊢; have HT7 := Aside0.mk (HT.out.grow hb7); have HR7 := Aside0.mk hR7; have HX7 := Aside0.mk hx7; have HT8 := Aside0.mk (((HT7.out.set 3 (.int .i64 p)).set 4 (.int .i64 v)).set 5 (.slice Ab nb cb)); clear hb7 hR7 hx7 hnb qc q6 q0 q1 q2 q3 q4 q5 qz x0 x1 x2 x3 x4 x5 xz; obtain ⟨⟨q0, q1, q2, q3, q4, q5⟩, qz, ⟨x0, x1, x2, x3, x4, x5⟩, xz⟩ := HT7.out.cells rfl; obtain ⟨⟨r0, r1, r2, r3, r4, r5⟩, rz, ⟨y0, y1, y2, y3, y4, y5⟩, yz⟩ := HT8.out.cells rfl)
  (have rr := HT8.out.res; have p0 := fun x0 x1 x2 x3 x4 x5 => cell_at (put6 rr x0 x1 x2 x3 x4 x5) 0 _ rfl; have p1 := fun x0 x1 x2 x3 x4 x5 => cell_at (put6 rr x0 x1 x2 x3 x4 x5) 1 _ rfl; have p2 := fun x0 x1 x2 x3 x4 x5 => cell_at (put6 rr x0 x1 x2 x3 x4 x5) 2 _ rfl; have p3 := fun x0 x1 x2 x3 x4 x5 => cell_at (put6 rr x0 x1 x2 x3 x4 x5) 3 _ rfl; have p4 := fun x0 x1 x2 x3 x4 x5 => cell_at (put6 rr x0 x1 x2 x3 x4 x5) 4 _ rfl; have p5 := fun x0 x1 x2 x3 x4 x5 => cell_at (put6 rr x0 x1 x2 x3 x4 x5) 5 _ rfl; (try simp only [Exit.inBlock, Exit.then]); refine bodyPost_ret (by simp [results, Try.results19, go_sem, p0, p1, p2, p3, p4, p5]; try rfl) rfl ?_)
  rw [HXE.out]
  have hfx : fx = (p, v, bs) := by
    rcases HX7.out with ⟨-, h⟩ | ⟨h, -⟩
    · exact h
    · exact absurd rfl h
  refine ⟨⟨j, n, r, p, v, _, bs, rfl, ?_, by rw [hfx]⟩, HT8.out.below.trans (keep_below (put6_far _ _ _ _ _ _) HT8.out.below.size (fun i e => by omega))⟩
  have hgw := HT8.out.hgb
  refine Kd.R_mono (Kd.R_step (Kd.R_lower (Kd.R_mono (Kd.R_bound HR7.out) (ok' := fun k => W4.heap.size ≤ k) (fun k hk => hk.2.1)) (by omega)) (fun k hk hl => ?_)) (fun _ _ => trivial)
  refine ((put6_far _ _ _ _ _ _).block k (by simp only [size_set]; exact hl) (fun e => by omega)).trans ?_
  rw [Below.heap_setCell _ _ _ _ (show k ≠ gb by omega), Below.heap_setCell _ _ _ _ (show k ≠ gb by omega), Below.heap_setCell _ _ _ _ (show k ≠ gb by omega)]
end Go.Proofs.Ytnckonglodmfeaa.Ik

namespace Go.Proofs.Ytnckonglodmfeaa.Ik
open Go.Proofs.Ytnckonglodmfeaa.Ls Go.Proofs.Ytnckonglodmfeaa.Lc Go.RowKit Go.Proofs.YtnckonglodmfeaaW.PrintWords Go.Proofs.YtnckonglodmfeaaW.PrintLast Go.Proofs.YtnckonglodmfeaaW.PrintMore Go.Proofs.Ytnckonglodmfeaa.B Go.Proofs.Ytnckonglodmfeaa.R Go.Proofs.Ytnckonglodmfeaa.S Go.Proofs.Ytnckonglodmfeaa.Is Go.Proofs.Ytnckonglodmfeaa.Js Go.Proofs.Ytnckonglodmfeaa.Gs Go.Proofs.Ytnckonglodmfeaa.Gc
set_option linter.unusedVariables false
set_option linter.unusedSimpArgs false
theorem lput_n (l : List Int) (n : Nat) (hn : l.length = n) (A : Option Addr) (c : Nat) (x : Int) (h0 : 0 ≤ x) (h1 : x < 18446744073709551616) (w : World) (hC : kU8.C w A n l) (hll : n ≤ 100000000) :
    Calls Try.prog 38 #[.slice A n c, .int .u64 x] w fun e w' => ∃ m A' n' c', e = .returned (.slice A' n' c') ∧ m = l ++ putl x.toNat ∧ m.length = n' ∧ n' ≤ n + 10 ∧ n' ≤ c' ∧ kU8.R 5 w' w.heap.size (fun _ => True) (.slice A' n' c') m ∧ kU8.C w' A' n' m ∧ Below w.heap.size w w' := by
  subst hn
  refine (Lc.put_calls A c l x w hC (by omega) h0 h1).mono ?_
  rintro e w' ⟨v, rfl, hr, hb⟩
  obtain ⟨A', c', rfl, hl, hC'⟩ := Kd.R_reads hr
  have h10 := putl_ten x.toNat (by omega)
  exact ⟨_, A', _, c', rfl, rfl, rfl, by rw [List.length_append]; omega, hl, hr, hC', hb⟩
theorem field_num (x : Int) (h0 : 0 ≤ x) (h1 : x < 18446744073709551616) : fieldL x = putl x.toNat := by rw [fieldL, wrU64 x h0 h1]
theorem ask_bad {j n r : Int} {f : Fun} (h1 : funcErr f = 0) (h2 : j < 0 ∨ 16 ≤ j ∨ r < 0 ∨ 8 < r) : askErr (j, n, r, f) = 2 := by
  simp [askErr, h1, h2]
theorem ask_fit {j n r : Int} {f : Fun} (h1 : funcErr f = 0) (h2 : ¬ (j < 0 ∨ 16 ≤ j ∨ r < 0 ∨ 8 < r)) : askErr (j, n, r, f) = 0 := by
  simp [askErr, h1, h2]
/-- The ask's box, and what lies behind it. -/
def AskC (W : World) (g : Nat) (j n r p v : Int) (s : Value) : Prop := W.cell? ⟨g, 0, none⟩ = some (.int .i64 j) ∧ W.cell? ⟨g, 1, none⟩ = some (.int .u64 n) ∧ W.cell? ⟨g, 2, none⟩ = some (.int .i64 r) ∧ W.cell? ⟨g, 3, none⟩ = some (.int .i64 p) ∧ W.cell? ⟨g, 4, none⟩ = some (.int .i64 v) ∧ W.cell? ⟨g, 5, none⟩ = some s
theorem ask_box {w W' : World} {j n r p v : Int} {s : Value} {e : Nat} (h : Below (w.heap.size + 1) (w.alloc (.cells #[.int .i64 j, .int .u64 n, .int .i64 r, .int .i64 p, .int .i64 v, s] e)) W') : AskC W' w.heap.size j n r p v s := by
  have g := below_cells (h.mono (by rw [World.size_alloc]; exact Nat.le_refl _))
  exact ⟨cell_at g 0 _ rfl, cell_at g 1 _ rfl, cell_at g 2 _ rfl, cell_at g 3 _ rfl, cell_at g 4 _ rfl, cell_at g 5 _ rfl⟩
set_option maxHeartbeats 4000000 in
set_option maxRecDepth 100000 in
theorem putask_calls (j n r p v : Int) (l : List Blk) (A : Option Addr) (c : Nat) (w : World) (hn0 : 0 ≤ n) (hn1 : n < 18446744073709551616) (hC : kBlk.C w A l.length l) (hR : ∀ b ∈ l, BlkR b) (hll : l.length ≤ 100000) :
    Calls Try.prog 13 #[.agg #[.int .i64 j, .int .u64 n, .int .i64 r, .int .i64 p, .int .i64 v, .slice A l.length c]] w fun e w' => BytesOr (askErr (j, n, r, p, v, l)) (askErr (j, n, r, p, v, l)) (askL (j, n, r, p, v, l)) w' e ∧ Below w.heap.size w w' := by
  have mixed : Try.prog.follows .mixedOrders = true := by kernel_rfl
  have HC := Aside0.mk hC
  have HR := Aside0.mk hR
  have HA := Aside0.mk (show Below w.heap.size w (w.alloc (.cells #[.int .i64 j, .int .u64 n, .int .i64 r, .int .i64 p, .int .i64 v, .slice A l.length c] 27)) from (Below.refl _ _).alloc (Nat.le_refl _) _)
  have HSZ := Aside0.mk (World.size_alloc w (.cells #[.int .i64 j, .int .u64 n, .int .i64 r, .int .i64 p, .int .i64 v, .slice A l.length c] 27))
  have HX := Aside0.mk (fun W' (h : Below (w.heap.size + 1) (w.alloc (.cells #[.int .i64 j, .int .u64 n, .int .i64 r, .int .i64 p, .int .i64 v, .slice A l.length c] 27)) W') => ask_box h)
  obtain ⟨FE, hFE⟩ : ∃ FE, funcErr (p, v, l) = FE := ⟨_, rfl⟩
  have HFE := Aside0.mk hFE
  clear hC hR
  by_cases hf : FE = 0
  case neg =>
    have HE := Aside0.mk (show askErr (j, n, r, p, v, l) = 30 from if_pos (by show funcErr (p, v, l) ≠ 0; rw [hFE]; exact hf))
    rw [HE.out]
    clear hFE
    go_enter Try.func13, Try.ntmps13
    go_wp2_with ((go_at_call 37; refine (wfunc_calls p v l A c _ (Kd.C_below HC.out HA.out) HR.out hll).mono ?_; rintro _ w1 ⟨hbo, hb⟩; have HB1 := Aside0.mk (show Below (w.heap.size + 1) (w.alloc (.cells #[.int .i64 j, .int .u64 n, .int .i64 r, .int .i64 p, .int .i64 v, .slice A l.length c] 27)) w1 from hb.mono (by rw [HSZ.out]; exact Nat.le_refl _)); rw [HFE.out] at hbo); obtain rfl := hbo.1 hf; clear hbo hb)
    go_returns
    exact ⟨⟨fun _ => rfl, fun h => by cases h⟩, HA.out.trans (HB1.out.mono (by omega))⟩
  subst hf
  by_cases hbad : j < 0 ∨ 16 ≤ j ∨ r < 0 ∨ 8 < r
  · rw [ask_bad hFE hbad]
    have hbd : (j < 0) ∨ (¬ j < 0 ∧ 16 ≤ j) ∨ (¬ j < 0 ∧ ¬ 16 ≤ j ∧ r < 0) ∨ (¬ j < 0 ∧ ¬ 16 ≤ j ∧ ¬ r < 0 ∧ 8 < r) := by omega
    clear hbad hFE
    rcases hbd with h1 | ⟨h1, h2⟩ | ⟨h1, h2, h3⟩ | ⟨h1, h2, h3, h4⟩
    all_goals
      go_enter Try.func13, Try.ntmps13
      go_wp2_with ((go_at_call 37; refine (wfunc_calls p v l A c _ (Kd.C_below HC.out HA.out) HR.out hll).mono ?_; rintro _ w1 ⟨hbo, hb⟩; have HB1 := Aside0.mk (show Below (w.heap.size + 1) (w.alloc (.cells #[.int .i64 j, .int .u64 n, .int .i64 r, .int .i64 p, .int .i64 v, .slice A l.length c] 27)) w1 from hb.mono (by rw [HSZ.out]; exact Nat.le_refl _)); rw [HFE.out] at hbo); obtain ⟨A1, c1, rfl, hlc1, hC1⟩ := hbo.2 rfl; obtain ⟨n1, hn1'⟩ : ∃ n1, (funcL (p, v, l)).length = n1 := ⟨_, rfl⟩; rw [hn1']; clear hbo hb hC1 hlc1 hn1'; obtain ⟨x0, x1, x2, x3, x4, x5⟩ := HX.out w1 HB1.out)
      go_returns
      exact ⟨⟨fun _ => rfl, fun h => by cases h⟩, HA.out.trans (HB1.out.mono (by omega))⟩
  · rw [ask_fit hFE hbad]
    have hj0 : 0 ≤ j := by omega
    have hj1 : j < 16 := by omega
    have hr0 : 0 ≤ r := by omega
    have hr1 : r ≤ 8 := by omega
    have HFL := Aside0.mk (func_len p v l hFE HR.out)
    have h1 : ¬ j < 0 := by omega
    have h2 : ¬ 16 ≤ j := by omega
    have h3 : ¬ r < 0 := by omega
    have h4 : ¬ 8 < r := by omega
    obtain ⟨fb, hfb⟩ : ∃ fb, funcL (p, v, l) = fb := ⟨_, rfl⟩
    rw [hfb] at HFL
    have HFB := Aside0.mk hfb
    clear hbad hFE hfb
    go_enter Try.func13, Try.ntmps13
    go_upto_region 6 with ((go_at_call 37; refine (wfunc_calls p v l A c _ (Kd.C_below HC.out HA.out) HR.out hll).mono ?_; rintro _ w1 ⟨hbo, hb⟩; have HB1 := Aside0.mk (show Below (w.heap.size + 1) (w.alloc (.cells #[.int .i64 j, .int .u64 n, .int .i64 r, .int .i64 p, .int .i64 v, .slice A l.length c] 27)) w1 from hb.mono (by rw [HSZ.out]; exact Nat.le_refl _)); rw [HFE.out] at hbo); obtain ⟨A1, c1, rfl, hlc1, hC1⟩ := hbo.2 rfl; rw [HFB.out] at hlc1 hC1; obtain ⟨n1, hn1'⟩ : ∃ n1, fb.length = n1 := ⟨_, rfl⟩; rw [HFB.out, hn1']; rw [hn1'] at hC1 hlc1; have HC1 := Aside0.mk hC1; have HN1 := Aside0.mk hn1'; clear hbo hb hC1 hn1'; obtain ⟨x0, x1, x2, x3, x4, x5⟩ := HX.out w1 HB1.out)
    have HXK := Aside0.mk (show ∀ W', Keep (fun _ => False) w1.drew W' → AskC W' w.heap.size j n r p v (.slice A l.length c) from fun W' h => HX.out W' (Keep.below_then HB1.out.drew h (by have h1 := HB1.out.size; rw [HSZ.out] at h1; exact h1) (fun _ _ => id)))
    clear x0 x1 x2 x3 x4 x5
    refine rk_start (fun _ => False) (by kernel_rfl) (n := 12) (l := #[false, false, false, false, false, false, false, false, false, false, false, false]) (by kernel_rfl) (by kernel_rfl) ?_
    refine rk_take (fuel := 11) 0 rfl (by kernel_rfl) (listed' := #[true, false, false, false, false, false, false, false, false, false, false, false]) (by kernel_rfl) (fun _ _ _ h => h) (by kernel_rfl) (fun w' hR => by go_simp; first | done | with_reducible rfl) rfl ?_
    try simp only [Act.put, List.setIfInBounds_toArray, List.set_cons_zero, List.set_cons_succ]
    refine rk_take (fuel := 10) 1 rfl (by kernel_rfl) (listed' := #[true, true, false, false, false, false, false, false, false, false, false, false]) (by kernel_rfl) (fun _ _ _ h => h) (by kernel_rfl) (fun w' hR => by obtain ⟨x0, x1, x2, x3, x4, x5⟩ := HXK.out w' hR; go_simp; first | done | with_reducible rfl) rfl ?_
    try simp only [Act.put, List.setIfInBounds_toArray, List.set_cons_zero, List.set_cons_succ]
    refine rk_take (fuel := 9) 2 rfl (by kernel_rfl) (listed' := #[true, true, true, false, false, false, false, false, false, false, false, false]) (by kernel_rfl) (fun _ _ _ h => h) (by kernel_rfl) (fun w' hR => by have x9 := wrU64 j (by omega) (by omega); go_simp; first | done | with_reducible rfl) rfl ?_
    try simp only [Act.put, List.setIfInBounds_toArray, List.set_cons_zero, List.set_cons_succ]
    refine rk_take (fuel := 8) 4 rfl (by kernel_rfl) (listed' := #[true, true, true, false, true, false, false, false, false, false, false, false]) (by kernel_rfl) (fun _ _ _ h => h) (by kernel_rfl) (fun w' hR => by go_simp; first | done | with_reducible rfl) rfl ?_
    try simp only [Act.put, List.setIfInBounds_toArray, List.set_cons_zero, List.set_cons_succ]
    refine rk_take (fuel := 7) 5 rfl (by kernel_rfl) (listed' := #[true, true, true, false, true, true, false, false, false, false, false, false]) (by kernel_rfl) (fun _ _ _ h => h) (by kernel_rfl) (fun w' hR => by obtain ⟨x0, x1, x2, x3, x4, x5⟩ := HXK.out w' hR; go_simp; first | done | with_reducible rfl) rfl ?_
    try simp only [Act.put, List.setIfInBounds_toArray, List.set_cons_zero, List.set_cons_succ]
    refine rk_take (fuel := 6) 7 rfl (by kernel_rfl) (listed' := #[true, true, true, false, true, true, false, true, false, false, false, false]) (by kernel_rfl) (fun _ _ _ h => h) (by kernel_rfl) (fun w' hR => by go_simp; first | done | with_reducible rfl) rfl ?_
    try simp only [Act.put, List.setIfInBounds_toArray, List.set_cons_zero, List.set_cons_succ]
    refine rk_take (fuel := 5) 8 rfl (by kernel_rfl) (listed' := #[true, true, true, false, true, true, false, true, true, false, false, false]) (by kernel_rfl) (fun _ _ _ h => h) (by kernel_rfl) (fun w' hR => by obtain ⟨x0, x1, x2, x3, x4, x5⟩ := HXK.out w' hR; go_simp; first | done | with_reducible rfl) rfl ?_
    try simp only [Act.put, List.setIfInBounds_toArray, List.set_cons_zero, List.set_cons_succ]
    refine rk_take (fuel := 4) 9 rfl (by kernel_rfl) (listed' := #[true, true, true, false, true, true, false, true, true, true, false, false]) (by kernel_rfl) (fun _ _ _ h => h) (by kernel_rfl) (fun w' hR => by have x9 := wrU64 r (by omega) (by omega); go_simp; first | done | with_reducible rfl) rfl ?_
    try simp only [Act.put, List.setIfInBounds_toArray, List.set_cons_zero, List.set_cons_succ]
    refine rk_step (fuel := 3) 3 rfl (by kernel_rfl) (listed' := #[true, true, true, true, true, true, false, true, true, true, false, false]) (by kernel_rfl) (by kernel_rfl) (fun K' hK => ?_)
    go_wp2_with (go_at_call 38; refine (lput_n [] 0 rfl none 0 j (by omega) (by omega) _ (C_nil .u8 _) (by omega)).mono ?_; rintro _ w2 ⟨m2, A2, n2, c2, rfl, hm2, hmn2, hn2, hc2, -, hC2, hb2⟩; have HM2 := Aside0.mk hm2; have HMN2 := Aside0.mk hmn2; have HC2 := Aside0.mk hC2; have HB2 := Aside0.mk hb2; clear hm2 hmn2 hC2 hb2)
    refine hK.out _ _ (Keep.of_below HB2.out) ?_
    clear hK K'
    try simp only [Act.put, List.setIfInBounds_toArray, List.set_cons_zero, List.set_cons_succ]
    refine rk_step (fuel := 2) 6 rfl (by kernel_rfl) (listed' := #[true, true, true, true, true, true, true, true, true, true, false, false]) (by kernel_rfl) (by kernel_rfl) (fun K' hK => ?_)
    go_wp2_with (go_at_call 38; refine (lput_n m2 n2 HMN2.out A2 c2 n hn0 hn1 _ HC2.out (by omega)).mono ?_; rintro _ w3 ⟨m3, A3, n3, c3, rfl, hm3, hmn3, hn3, hc3, -, hC3, hb3⟩; have HM3 := Aside0.mk hm3; have HMN3 := Aside0.mk hmn3; have HC3 := Aside0.mk hC3; have HB3 := Aside0.mk hb3; clear hm3 hmn3 hC3 hb3)
    refine hK.out _ _ (Keep.of_below HB3.out) ?_
    clear hK K'
    try simp only [Act.put, List.setIfInBounds_toArray, List.set_cons_zero, List.set_cons_succ]
    refine rk_step (fuel := 1) 10 rfl (by kernel_rfl) (listed' := #[true, true, true, true, true, true, true, true, true, true, true, false]) (by kernel_rfl) (by kernel_rfl) (fun K' hK => ?_)
    go_wp2_with (go_at_call 38; refine (lput_n m3 n3 HMN3.out A3 c3 r (by omega) (by omega) _ HC3.out (by omega)).mono ?_; rintro _ w4 ⟨m4, A4, n4, c4, rfl, hm4, hmn4, hn4, hc4, hR4, hC4, hb4⟩; have HM4 := Aside0.mk hm4; have HMN4 := Aside0.mk hmn4; have HR4 := Aside0.mk hR4; have HB4 := Aside0.mk hb4; clear hm4 hmn4 hC4 hR4 hb4)
    refine hK.out _ _ (Keep.of_below HB4.out) ?_
    clear hK K'
    try simp only [Act.put, List.setIfInBounds_toArray, List.set_cons_zero, List.set_cons_succ]
    refine rk_take (fuel := 0) 11 rfl (by kernel_rfl) (listed' := #[true, true, true, true, true, true, true, true, true, true, true, true]) (by kernel_rfl) (fun _ _ _ h => h) (by kernel_rfl) (fun w' hR => by go_simp; first | done | with_reducible rfl) rfl ?_
    try simp only [Act.put, List.setIfInBounds_toArray, List.set_cons_zero, List.set_cons_succ]
    refine rk_done (by kernel_rfl) ?_
    have hz1 := HB1.out.size
    have HW1 := Aside0.mk (HA.out.trans (HB1.out.mono (by omega)))
    have HW2 := Aside0.mk (HW1.out.drew.trans (HB2.out.mono HW1.out.size))
    have HW3 := Aside0.mk (HW2.out.trans (HB3.out.mono HW2.out.size))
    have HW4 := Aside0.mk (HW3.out.trans (HB4.out.mono HW3.out.size))
    have HR4' := Aside0.mk (Kd.R_lower HR4.out HW3.out.size)
    have HC14 := Aside0.mk (Kd.C_below (Kd.C_below (Kd.C_below (Kd.C_drew HC1.out) HB2.out) HB3.out) HB4.out)
    obtain ⟨AL, hAL⟩ : ∃ AL, askB (j, n, r, p, v, l) = AL := ⟨_, rfl⟩
    have HAL := Aside0.mk (show m4 ++ fb = AL by rw [← hAL, HM4.out, HM3.out, HM2.out, ← HFB.out]; simp [askB, field_num j hj0 (by omega), field_num r hr0 (by omega)])
    have HALB := Aside0.mk (show By AL by rw [← hAL]; exact ask_byB _)
    have HAL2 := Aside0.mk hAL
    obtain ⟨fl, hfl⟩ : ∃ fl, layL 2 AL = fl := ⟨_, rfl⟩
    obtain ⟨nf, hnf⟩ : ∃ nf, fl.length = nf := ⟨_, rfl⟩
    obtain ⟨na, hna⟩ : ∃ na, AL.length = na := ⟨_, rfl⟩
    have HNA := Aside0.mk hna
    have HNF := Aside0.mk hnf
    have HFLL := Aside0.mk hfl
    have hnal : na ≤ 65536 := by
      have h5 := HFL.out
      rw [← hna, ← HAL.out, List.length_append, HMN4.out]
      omega
    clear hAL hfl hnf hna
    go_wp2_with (first | ((with_reducible refine gate_builtin (b := .append) (xs := #[.tmp 47, .tmp 48]) rfl ?_); at_builtin; refine Kd.R_append_rows (Kd.int .u8) (w0 := w) w.heap.size rfl (.tmp 47) (.tmp 48) 28 5 (.int .u8 0) 1 rfl Try.underlying28 infoU8 rfl (by decide) (by omega) (.slice A4 n4 c4) m4 fb _ _ _ (fun _ => True) (fun _ => False) rfl rfl ?aO ?aR (fun _ _ h => h) (fun _ h => h.elim) ?aF ?aB ?aS ?aL ?_; (case aR => exact HC14.out); (case aB => exact HW4.out); (case aF => exact (fun _ _ => trivial)); (case aO => exact HR4'.out); (case aS => (have := HW4.out.size; omega)); (case aL => (have := HMN4.out; have := HN1.out; have := HFL.out; omega)); (intro v5 w5 ho hb5 hg hat; rw [HAL.out] at ho; obtain ⟨A5, c5, rfl, hlc5, hC5⟩ := Kd.R_reads ho; rw [HNA.out] at hlc5 hC5 ⊢; have HC5 := Aside0.mk hC5; have HB5 := Aside0.mk hb5; clear ho hb5 hg hat hC5)) | (go_at_call 39; refine (lay_n 2 (by decide) (by decide) A5 c5 AL na HNA.out fl nf HFLL.out HNF.out _ HC5.out hlc5 HALB.out hnal).mono ?_; rintro e w6 ⟨A6, c6, rfl, -, hC6, hc6, hb6⟩; have HC6 := Aside0.mk hC6; have HB6 := Aside0.mk (HB5.out.trans (hb6.mono HB5.out.size)); clear hC6 hb6))
    go_returns
    have e1 : askL (j, n, r, p, v, l) = fl := by rw [← HFLL.out, ← HAL2.out]; rfl
    rw [e1]
    exact ⟨⟨fun h => absurd rfl h, fun _ => ⟨A6, c6, by rw [HNF.out]; rfl, by rw [HNF.out]; exact hc6, by rw [HNF.out]; exact HC6.out⟩⟩, HB6.out⟩
end Go.Proofs.Ytnckonglodmfeaa.Ik

namespace Go.Proofs.Ytnckonglodmfeaa.Ik
open Go.Proofs.Ytnckonglodmfeaa.Ls Go.Proofs.Ytnckonglodmfeaa.Lc Go.RowKit Go.Proofs.YtnckonglodmfeaaW.PrintWords Go.Proofs.YtnckonglodmfeaaW.PrintLast Go.Proofs.YtnckonglodmfeaaW.PrintMore Go.Proofs.Ytnckonglodmfeaa.B Go.Proofs.Ytnckonglodmfeaa.R Go.Proofs.Ytnckonglodmfeaa.S Go.Proofs.Ytnckonglodmfeaa.Is Go.Proofs.Ytnckonglodmfeaa.Js Go.Proofs.Ytnckonglodmfeaa.Gs Go.Proofs.Ytnckonglodmfeaa.Gc
set_option linter.unusedVariables false
set_option linter.unusedSimpArgs false
theorem rputR_num (l : List Int) (n : Nat) (hn : l.length = n) (A : Option Addr) (c : Nat) (x : Int) (h0 : 0 ≤ x) (h1 : x < 18446744073709551616) (w : World) (hC : kU8.C w A n l) (hll : n ≤ 100000000) :
    Calls Try.prog 41 #[.slice A n c, .int .u64 x] w fun e w' => ∃ m A' n' c', e = .returned (.slice A' n' c') ∧ m = l ++ fieldL x ∧ m.length = n' ∧ n' ≤ n + 10 ∧ n' ≤ c' ∧ kU8.R 5 w' w.heap.size (fun _ => True) (.slice A' n' c') m ∧ Below w.heap.size w w' := by
  subst hn
  refine (Lr.put_calls A c l x w hC (by omega) h0 h1).mono ?_
  rintro e w' ⟨v, rfl, hr, hb⟩
  obtain ⟨A', c', rfl, h2, h3⟩ := Kd.R_reads hr
  have h10 := putl_ten x.toNat (by omega)
  exact ⟨_, A', _, c', rfl, by rw [field_num x h0 h1], rfl, by rw [List.length_append]; omega, h2, hr, hb⟩
set_option maxHeartbeats 4000000 in
set_option maxRecDepth 100000 in
theorem rask_calls (j n r p v : Int) (l : List Blk) (A : Option Addr) (c : Nat) (w : World) (hn0 : 0 ≤ n) (hn1 : n < 18446744073709551616) (hC : kBlk.C w A l.length l) (hR : ∀ b ∈ l, BlkR b) (hll : l.length ≤ 100000) :
    Calls Try.prog 14 #[.agg #[.int .i64 j, .int .u64 n, .int .i64 r, .int .i64 p, .int .i64 v, .slice A l.length c]] w fun e w' => BytesOr (askErr (j, n, r, p, v, l)) (askErr (j, n, r, p, v, l)) (askL (j, n, r, p, v, l)) w' e ∧ Below w.heap.size w w' := by
  have mixed : Try.prog.follows .mixedOrders = true := by kernel_rfl
  have hff := fault_field
  have HC := Aside0.mk hC
  have HR := Aside0.mk hR
  have HA := Aside0.mk (show Below w.heap.size w (w.alloc (.cells #[.int .i64 j, .int .u64 n, .int .i64 r, .int .i64 p, .int .i64 v, .slice A l.length c] 27)) from (Below.refl _ _).alloc (Nat.le_refl _) _)
  have HSZ := Aside0.mk (World.size_alloc w (.cells #[.int .i64 j, .int .u64 n, .int .i64 r, .int .i64 p, .int .i64 v, .slice A l.length c] 27))
  have HX := Aside0.mk (fun W' (h : Below (w.heap.size + 1) (w.alloc (.cells #[.int .i64 j, .int .u64 n, .int .i64 r, .int .i64 p, .int .i64 v, .slice A l.length c] 27)) W') => ask_box h)
  obtain ⟨FE, hFE⟩ : ∃ FE, funcErr (p, v, l) = FE := ⟨_, rfl⟩
  have HFE := Aside0.mk hFE
  clear hC hR
  by_cases hf : FE = 0
  case neg =>
    have HE := Aside0.mk (show askErr (j, n, r, p, v, l) = 30 from if_pos (by show funcErr (p, v, l) ≠ 0; rw [hFE]; exact hf))
    rw [HE.out]
    have hfb : (FE == 0) = false := beq_eq_false_iff_ne.mpr hf
    have hfn : (FE != 0) = true := bne_iff_ne.mpr hf
    clear hFE hf
    go_enter Try.func14, Try.ntmps14
    go_wp2_with (go_at_call 40; refine (rfunc_calls p v l A c _ (Kd.C_below HC.out HA.out) hll).mono ?_; rintro _ w1 ⟨⟨x9, y9, rfl⟩, hb⟩; rw [HFE.out]; have HB1 := Aside0.mk (show Below (w.heap.size + 1) (w.alloc (.cells #[.int .i64 j, .int .u64 n, .int .i64 r, .int .i64 p, .int .i64 v, .slice A l.length c] 27)) w1 from hb.mono (by rw [HSZ.out]; exact Nat.le_refl _)); clear hb; obtain ⟨x0, x1, x2, x3, x4, x5⟩ := HX.out w1 HB1.out)
    go_returns
    exact ⟨⟨fun _ => rfl, fun h => by cases h⟩, HA.out.trans (HB1.out.mono (by omega))⟩
  subst hf
  by_cases hbad : j < 0 ∨ 16 ≤ j ∨ r < 0 ∨ 8 < r
  · rw [ask_bad hFE hbad]
    have hbd : (j < 0) ∨ (¬ j < 0 ∧ 15 < j) ∨ (¬ j < 0 ∧ ¬ 15 < j ∧ r < 0) ∨ (¬ j < 0 ∧ ¬ 15 < j ∧ ¬ r < 0 ∧ 8 < r) := by omega
    clear hbad hFE
    rcases hbd with h1 | ⟨h1, h2⟩ | ⟨h1, h2, h3⟩ | ⟨h1, h2, h3, h4⟩
    all_goals
      go_enter Try.func14, Try.ntmps14
      go_wp2_with (go_at_call 40; refine (rfunc_calls p v l A c _ (Kd.C_below HC.out HA.out) hll).mono ?_; rintro _ w1 ⟨⟨x9, y9, rfl⟩, hb⟩; rw [HFE.out]; have HB1 := Aside0.mk (show Below (w.heap.size + 1) (w.alloc (.cells #[.int .i64 j, .int .u64 n, .int .i64 r, .int .i64 p, .int .i64 v, .slice A l.length c] 27)) w1 from hb.mono (by rw [HSZ.out]; exact Nat.le_refl _)); clear hb; obtain ⟨x0, x1, x2, x3, x4, x5⟩ := HX.out w1 HB1.out)
      go_returns
      exact ⟨⟨fun _ => rfl, fun h => by cases h⟩, HA.out.trans (HB1.out.mono (by omega))⟩
  · rw [ask_fit hFE hbad]
    have hj0 : 0 ≤ j := by omega
    have hj1 : j < 16 := by omega
    have hr0 : 0 ≤ r := by omega
    have hr1 : r ≤ 8 := by omega
    have HFL := Aside0.mk (func_len p v l hFE HR.out)
    have HF0 := Aside0.mk hFE
    have h1 : ¬ j < 0 := by omega
    have h2 : ¬ 15 < j := by omega
    have h3 : ¬ r < 0 := by omega
    have h4 : ¬ 8 < r := by omega
    obtain ⟨fb, hfb⟩ : ∃ fb, funcL (p, v, l) = fb := ⟨_, rfl⟩
    rw [hfb] at HFL
    have HFB := Aside0.mk hfb
    clear hbad hFE hfb
    go_enter Try.func14, Try.ntmps14
    go_upto_region 5 with (go_at_call 40; refine (rfunc_calls p v l A c _ (Kd.C_below HC.out HA.out) hll).mono ?_; rintro _ w1 ⟨⟨x9, y9, rfl⟩, hb⟩; rw [HFE.out]; have HB1 := Aside0.mk (show Below (w.heap.size + 1) (w.alloc (.cells #[.int .i64 j, .int .u64 n, .int .i64 r, .int .i64 p, .int .i64 v, .slice A l.length c] 27)) w1 from hb.mono (by rw [HSZ.out]; exact Nat.le_refl _)); clear hb; obtain ⟨x0, x1, x2, x3, x4, x5⟩ := HX.out w1 HB1.out)
    have HXK := Aside0.mk (show ∀ W', Keep (fun _ => False) w1.drew W' → AskC W' w.heap.size j n r p v (.slice A l.length c) from fun W' h => HX.out W' (Keep.below_then HB1.out.drew h (by have h1 := HB1.out.size; rw [HSZ.out] at h1; exact h1) (fun _ _ => id)))
    clear x0 x1 x2 x3 x4 x5
    refine rk_start (fun _ => False) (by kernel_rfl) (n := 12) (l := #[false, false, false, false, false, false, false, false, false, false, false, false]) (by kernel_rfl) (by kernel_rfl) ?_
    refine rk_take (fuel := 11) 0 rfl (by kernel_rfl) (listed' := #[true, false, false, false, false, false, false, false, false, false, false, false]) (by kernel_rfl) (fun _ _ _ h => h) (by kernel_rfl) (fun w' hR => by go_simp; first | done | with_reducible rfl) rfl ?_
    try simp only [Act.put, List.setIfInBounds_toArray, List.set_cons_zero, List.set_cons_succ]
    refine rk_take (fuel := 10) 1 rfl (by kernel_rfl) (listed' := #[true, true, false, false, false, false, false, false, false, false, false, false]) (by kernel_rfl) (fun _ _ _ h => h) (by kernel_rfl) (fun w' hR => by obtain ⟨x0, x1, x2, x3, x4, x5⟩ := HXK.out w' hR; go_simp; first | done | with_reducible rfl) rfl ?_
    try simp only [Act.put, List.setIfInBounds_toArray, List.set_cons_zero, List.set_cons_succ]
    refine rk_take (fuel := 9) 2 rfl (by kernel_rfl) (listed' := #[true, true, true, false, false, false, false, false, false, false, false, false]) (by kernel_rfl) (fun _ _ _ h => h) (by kernel_rfl) (fun w' hR => by have x9 := wrU64 j (by omega) (by omega); go_simp; first | done | with_reducible rfl) rfl ?_
    try simp only [Act.put, List.setIfInBounds_toArray, List.set_cons_zero, List.set_cons_succ]
    refine rk_take (fuel := 8) 4 rfl (by kernel_rfl) (listed' := #[true, true, true, false, true, false, false, false, false, false, false, false]) (by kernel_rfl) (fun _ _ _ h => h) (by kernel_rfl) (fun w' hR => by go_simp; first | done | with_reducible rfl) rfl ?_
    try simp only [Act.put, List.setIfInBounds_toArray, List.set_cons_zero, List.set_cons_succ]
    refine rk_take (fuel := 7) 5 rfl (by kernel_rfl) (listed' := #[true, true, true, false, true, true, false, false, false, false, false, false]) (by kernel_rfl) (fun _ _ _ h => h) (by kernel_rfl) (fun w' hR => by obtain ⟨x0, x1, x2, x3, x4, x5⟩ := HXK.out w' hR; go_simp; first | done | with_reducible rfl) rfl ?_
    try simp only [Act.put, List.setIfInBounds_toArray, List.set_cons_zero, List.set_cons_succ]
    refine rk_take (fuel := 6) 7 rfl (by kernel_rfl) (listed' := #[true, true, true, false, true, true, false, true, false, false, false, false]) (by kernel_rfl) (fun _ _ _ h => h) (by kernel_rfl) (fun w' hR => by go_simp; first | done | with_reducible rfl) rfl ?_
    try simp only [Act.put, List.setIfInBounds_toArray, List.set_cons_zero, List.set_cons_succ]
    refine rk_take (fuel := 5) 8 rfl (by kernel_rfl) (listed' := #[true, true, true, false, true, true, false, true, true, false, false, false]) (by kernel_rfl) (fun _ _ _ h => h) (by kernel_rfl) (fun w' hR => by obtain ⟨x0, x1, x2, x3, x4, x5⟩ := HXK.out w' hR; go_simp; first | done | with_reducible rfl) rfl ?_
    try simp only [Act.put, List.setIfInBounds_toArray, List.set_cons_zero, List.set_cons_succ]
    refine rk_take (fuel := 4) 9 rfl (by kernel_rfl) (listed' := #[true, true, true, false, true, true, false, true, true, true, false, false]) (by kernel_rfl) (fun _ _ _ h => h) (by kernel_rfl) (fun w' hR => by have x9 := wrU64 r (by omega) (by omega); go_simp; first | done | with_reducible rfl) rfl ?_
    try simp only [Act.put, List.setIfInBounds_toArray, List.set_cons_zero, List.set_cons_succ]
    refine rk_step (fuel := 3) 3 rfl (by kernel_rfl) (listed' := #[true, true, true, true, true, true, false, true, true, true, false, false]) (by kernel_rfl) (by kernel_rfl) (fun K' hK => ?_)
    go_wp2_with (go_at_call 41; refine (rput_num [] 0 rfl none 0 j (by omega) (by omega) _ (C_nil .u8 _) (by omega)).mono ?_; rintro _ w2 ⟨m2, A2, n2, c2, rfl, hm2, hmn2, hn2, hc2, hC2, hb2⟩; have HM2 := Aside0.mk hm2; have HMN2 := Aside0.mk hmn2; have HC2 := Aside0.mk hC2; have HB2 := Aside0.mk hb2; clear hm2 hmn2 hC2 hb2)
    refine hK.out _ _ (Keep.of_below HB2.out) ?_
    clear hK K'
    try simp only [Act.put, List.setIfInBounds_toArray, List.set_cons_zero, List.set_cons_succ]
    refine rk_step (fuel := 2) 6 rfl (by kernel_rfl) (listed' := #[true, true, true, true, true, true, true, true, true, true, false, false]) (by kernel_rfl) (by kernel_rfl) (fun K' hK => ?_)
    go_wp2_with (go_at_call 41; refine (rput_num m2 n2 HMN2.out A2 c2 n hn0 hn1 _ HC2.out (by omega)).mono ?_; rintro _ w3 ⟨m3, A3, n3, c3, rfl, hm3, hmn3, hn3, hc3, hC3, hb3⟩; have HM3 := Aside0.mk hm3; have HMN3 := Aside0.mk hmn3; have HC3 := Aside0.mk hC3; have HB3 := Aside0.mk hb3; clear hm3 hmn3 hC3 hb3)
    refine hK.out _ _ (Keep.of_below HB3.out) ?_
    clear hK K'
    try simp only [Act.put, List.setIfInBounds_toArray, List.set_cons_zero, List.set_cons_succ]
    refine rk_step (fuel := 1) 10 rfl (by kernel_rfl) (listed' := #[true, true, true, true, true, true, true, true, true, true, true, false]) (by kernel_rfl) (by kernel_rfl) (fun K' hK => ?_)
    go_wp2_with (go_at_call 41; refine (rputR_num m3 n3 HMN3.out A3 c3 r (by omega) (by omega) _ HC3.out (by omega)).mono ?_; rintro _ w4 ⟨m4, A4, n4, c4, rfl, hm4, hmn4, hn4, hc4, hR4, hb4⟩; have HM4 := Aside0.mk hm4; have HMN4 := Aside0.mk hmn4; have HR4 := Aside0.mk hR4; have HB4 := Aside0.mk hb4; clear hm4 hmn4 hR4 hb4)
    refine hK.out _ _ (Keep.of_below HB4.out) ?_
    clear hK K'
    try simp only [Act.put, List.setIfInBounds_toArray, List.set_cons_zero, List.set_cons_succ]
    refine rk_take (fuel := 0) 11 rfl (by kernel_rfl) (listed' := #[true, true, true, true, true, true, true, true, true, true, true, true]) (by kernel_rfl) (fun _ _ _ h => h) (by kernel_rfl) (fun w' hR => by go_simp; first | done | with_reducible rfl) rfl ?_
    try simp only [Act.put, List.setIfInBounds_toArray, List.set_cons_zero, List.set_cons_succ]
    refine rk_done (by kernel_rfl) ?_
    have hz1 := HB1.out.size
    have HX1 := Aside0.mk (HB1.out.drew.trans (HB2.out.mono (by rw [← HSZ.out]; exact HB1.out.size)))
    have HX2 := Aside0.mk (HX1.out.trans (HB3.out.mono (by rw [← HSZ.out]; exact HX1.out.size)))
    have HX3 := Aside0.mk (HX2.out.trans (HB4.out.mono (by rw [← HSZ.out]; exact HX2.out.size)))
    have HW4 := Aside0.mk (HA.out.trans (HX3.out.mono (by omega)))
    have HR4' := Aside0.mk (Kd.R_lower HR4.out (HA.out.trans (HX2.out.mono (by omega))).size)
    obtain ⟨x0, x1, x2, x3, x4, x5⟩ := HX.out w4 HX3.out
    obtain ⟨AL, hAL⟩ : ∃ AL, askB (j, n, r, p, v, l) = AL := ⟨_, rfl⟩
    have HAL := Aside0.mk (show m4 ++ fb = AL by rw [← hAL, HM4.out, HM3.out, HM2.out, ← HFB.out]; simp [askB, field_num n hn0 hn1])
    have HALB := Aside0.mk (show By AL by rw [← hAL]; exact ask_byB _)
    have HAL2 := Aside0.mk hAL
    obtain ⟨fl, hfl⟩ : ∃ fl, layL 2 AL = fl := ⟨_, rfl⟩
    obtain ⟨nf, hnf⟩ : ∃ nf, fl.length = nf := ⟨_, rfl⟩
    obtain ⟨na, hna⟩ : ∃ na, AL.length = na := ⟨_, rfl⟩
    have HNA := Aside0.mk hna
    have HNF := Aside0.mk hnf
    have HFLL := Aside0.mk hfl
    have hnal : na ≤ 65536 := by
      have h5 := HFL.out
      rw [← hna, ← HAL.out, List.length_append, HMN4.out]
      omega
    clear hAL hfl hnf hna
    go_wp2_with (first | (go_at_call 42; refine (rfbytes_calls p v l A c _ (Kd.C_below HC.out HW4.out) HR.out HF0.out).mono ?_; rintro _ w5 ⟨m5, A5, n5, c5, rfl, hm5, hmn5, hc5, hC5, hb5⟩; rw [HFB.out] at hm5; subst hm5; have HMN5 := Aside0.mk hmn5; have HC5 := Aside0.mk hC5; have HB5 := Aside0.mk hb5; have HR5 := Aside0.mk (Kd.R_below HR4'.out hb5); have HW5 := Aside0.mk (HW4.out.trans (hb5.mono HW4.out.size)); clear hmn5 hC5 hb5) | ((with_reducible refine gate_builtin (b := .append) (xs := #[.tmp 39, .tmp 42]) rfl ?_); at_builtin; refine Kd.R_append_rows (Kd.int .u8) (w0 := w) w.heap.size rfl (.tmp 39) (.tmp 42) 28 5 (.int .u8 0) 1 rfl Try.underlying28 infoU8 rfl (by decide) (by omega) (.slice A4 n4 c4) m4 m5 _ _ _ (fun _ => True) (fun _ => False) rfl rfl ?aO ?aR (fun _ _ h => h) (fun _ h => h.elim) ?aF ?aB ?aS ?aL ?_; (case aR => exact HC5.out); (case aB => exact HW5.out); (case aF => exact (fun _ _ => trivial)); (case aO => exact HR5.out); (case aS => (have := HW5.out.size; omega)); (case aL => (have := HMN4.out; have := HMN5.out; have := HFL.out; omega)); (intro v6 w6 ho hb6 hg hat; rw [HAL.out] at ho; obtain ⟨A6, c6, rfl, hlc6, hC6⟩ := Kd.R_reads ho; rw [HNA.out] at hlc6 hC6 ⊢; have HC6 := Aside0.mk hC6; have HB6 := Aside0.mk hb6; clear ho hb6 hg hat hC6)) | (go_at_call 17; refine (rlay_n 2 (by decide) (by decide) A6 c6 AL na HNA.out fl nf HFLL.out HNF.out _ HC6.out HALB.out (by omega)).mono ?_; rintro e w7 ⟨A7, c7, rfl, -, hC7, hc7, hb7⟩; have HC7 := Aside0.mk hC7; have HB7 := Aside0.mk (HB6.out.trans (hb7.mono HB6.out.size)); clear hC7 hb7))
    go_returns
    have e1 : askL (j, n, r, p, v, l) = fl := by rw [← HFLL.out, ← HAL2.out]; rfl
    rw [e1]
    exact ⟨⟨fun h => absurd rfl h, fun _ => ⟨A7, c7, by rw [HNF.out]; rfl, by rw [HNF.out]; exact hc7, by rw [HNF.out]; exact HC7.out⟩⟩, HB7.out⟩
end Go.Proofs.Ytnckonglodmfeaa.Ik

namespace Go.Proofs.Ytnckonglodmfeaa.Ik
open Go.RowKit Go.Proofs.YtnckonglodmfeaaW.PrintWords Go.Proofs.YtnckonglodmfeaaW.PrintLast Go.Proofs.YtnckonglodmfeaaW.PrintMore Go.Proofs.Ytnckonglodmfeaa.B Go.Proofs.Ytnckonglodmfeaa.R Go.Proofs.Ytnckonglodmfeaa.S Go.Proofs.Ytnckonglodmfeaa.Is
set_option linter.unusedVariables false
set_option linter.unusedSimpArgs false
set_option maxRecDepth 100000 in
theorem same_ints (l m : List Int) (A B : Option Addr) (c e : Nat) (w : World) (hA : kI.C w A l.length l) (hB : kI.C w B m.length m) :
    Calls Try.prog 117 #[.slice A l.length c, .slice B m.length e] w fun r w' => r = .returned (.bool (decide (l = m))) ∧ Below w.heap.size w w' := by
  have mixed : Try.prog.follows .mixedOrders = true := by kernel_rfl
  have HA := Aside0.mk hA
  have HB := Aside0.mk hB
  have hl := hA.2.1
  have hm := hB.2.1
  clear hA hB
  by_cases hlm : l.length = m.length
  · rw [← hlm]
    have HLM := Aside0.mk hlm
    clear hlm hm
    go_enter Try.func117, Try.ntmps117
    go_wp2_with fail
    go_loopw [5] (fun vi wr => ∃ j : Nat, j ≤ l.length ∧ vi = .int .i64 j ∧ Aside0 (l.take j = m.take j) ∧ Aside0 (Below w.heap.size w wr)) (fun vi _ => l.length - (intOf vi).toNat)
    case atStart => exact ⟨0, by omega, rfl, ⟨by simp⟩, ⟨Below.refl _ _⟩⟩
    case round =>
      obtain ⟨j, hj, rfl, HN, HW⟩ := hrel
      by_cases hjl : j < l.length
      · obtain ⟨x, hx⟩ : ∃ x, l[j]? = some x := ⟨_, List.getElem?_eq_getElem hjl⟩
        obtain ⟨y, hy⟩ : ∃ y, m[j]? = some y := ⟨_, List.getElem?_eq_getElem (by rw [← HLM.out]; exact hjl)⟩
        obtain ⟨ad, rfl⟩ : ∃ ad, A = some ad := by obtain ⟨ad, e, _⟩ := HA.out.2.2 (by omega); exact ⟨ad, e⟩
        obtain ⟨bd, rfl⟩ : ∃ ad, B = some ad := by obtain ⟨ad, e, _⟩ := HB.out.2.2 (by rw [← HLM.out]; omega); exact ⟨ad, e⟩
        have HXC := Aside0.mk (show ∀ W', Keep (fun _ => False) wr.drew W' → W'.cell? (ad.add j) = some (.int .i64 x) ∧ W'.cell? (bd.add j) = some (.int .i64 y) from fun W' h => by
          have hb : Below w.heap.size w W' := Keep.below_then HW.out.drew h HW.out.size (fun _ _ => id)
          exact ⟨pw_cell_below hb (C_cell HA.out hx), pw_cell_below hb (C_cell HB.out hy)⟩)
        have HX := Aside0.mk hx
        have HY := Aside0.mk hy
        clear hx hy
        by_cases hxy : x = y
        · subst hxy
          go_wp2_with fail
          refine rk_start (fun _ => False) (by kernel_rfl) (n := 9) (l := #[false, false, false, false, false, false, false, false, false]) (by kernel_rfl) (by kernel_rfl) ?_
          refine rk_take (fuel := 8) 0 rfl (by kernel_rfl) (listed' := #[true, false, false, false, false, false, false, false, false]) (by kernel_rfl) (fun _ _ _ h => h) (by kernel_rfl) (fun w' hR => by go_simp; first | done | with_reducible rfl) rfl ?_
          try simp only [Act.put, List.setIfInBounds_toArray, List.set_cons_zero, List.set_cons_succ]
          refine rk_take (fuel := 7) 1 rfl (by kernel_rfl) (listed' := #[true, true, false, false, false, false, false, false, false]) (by kernel_rfl) (fun _ _ _ h => h) (by kernel_rfl) (fun w' hR => by go_simp; first | done | with_reducible rfl) rfl ?_
          try simp only [Act.put, List.setIfInBounds_toArray, List.set_cons_zero, List.set_cons_succ]
          refine rk_take (fuel := 6) 2 rfl (by kernel_rfl) (listed' := #[true, true, true, false, false, false, false, false, false]) (by kernel_rfl) (fun _ _ _ h => h) (by kernel_rfl) (fun w' hR => by go_simp; first | done | with_reducible rfl) rfl ?_
          try simp only [Act.put, List.setIfInBounds_toArray, List.set_cons_zero, List.set_cons_succ]
          refine rk_take (fuel := 5) 3 rfl (by kernel_rfl) (listed' := #[true, true, true, true, false, false, false, false, false]) (by kernel_rfl) (fun _ _ _ h => h) (by kernel_rfl) (fun w' hR => by have x0 := (HXC.out w' hR).1; go_simp; first | done | with_reducible rfl) rfl ?_
          try simp only [Act.put, List.setIfInBounds_toArray, List.set_cons_zero, List.set_cons_succ]
          refine rk_take (fuel := 4) 4 rfl (by kernel_rfl) (listed' := #[true, true, true, true, true, false, false, false, false]) (by kernel_rfl) (fun _ _ _ h => h) (by kernel_rfl) (fun w' hR => by go_simp; first | done | with_reducible rfl) rfl ?_
          try simp only [Act.put, List.setIfInBounds_toArray, List.set_cons_zero, List.set_cons_succ]
          refine rk_take (fuel := 3) 5 rfl (by kernel_rfl) (listed' := #[true, true, true, true, true, true, false, false, false]) (by kernel_rfl) (fun _ _ _ h => h) (by kernel_rfl) (fun w' hR => by go_simp; first | done | with_reducible rfl) rfl ?_
          try simp only [Act.put, List.setIfInBounds_toArray, List.set_cons_zero, List.set_cons_succ]
          refine rk_take (fuel := 2) 6 rfl (by kernel_rfl) (listed' := #[true, true, true, true, true, true, true, false, false]) (by kernel_rfl) (fun _ _ _ h => h) (by kernel_rfl) (fun w' hR => by go_simp; first | done | with_reducible rfl) rfl ?_
          try simp only [Act.put, List.setIfInBounds_toArray, List.set_cons_zero, List.set_cons_succ]
          refine rk_take (fuel := 1) 7 rfl (by kernel_rfl) (listed' := #[true, true, true, true, true, true, true, true, false]) (by kernel_rfl) (fun _ _ _ h => h) (by kernel_rfl) (fun w' hR => by have x0 := (HXC.out w' hR).2; go_simp; first | done | with_reducible rfl) rfl ?_
          try simp only [Act.put, List.setIfInBounds_toArray, List.set_cons_zero, List.set_cons_succ]
          refine rk_take (fuel := 0) 8 rfl (by kernel_rfl) (listed' := #[true, true, true, true, true, true, true, true, true]) (by kernel_rfl) (fun _ _ _ h => h) (by kernel_rfl) (fun w' hR => by go_simp; first | done | with_reducible rfl) rfl ?_
          try simp only [Act.put, List.setIfInBounds_toArray, List.set_cons_zero, List.set_cons_succ]
          refine rk_done (by kernel_rfl) ?_
          go_wp2
          go_roundw
          case rel => exact ⟨j + 1, by omega, by go_num, ⟨by rw [List.take_add_one, List.take_add_one, HX.out, HY.out, HN.out]⟩, ⟨HW.out.drew⟩⟩
          case measure => simp [intOf]; omega
        · have hb : (x == y) = false := beq_eq_false_iff_ne.mpr hxy
          have hb2 : (x != y) = true := by simp only [bne, hb]; rfl
          have HD := Aside0.mk (show decide (l = m) = false from decide_eq_false (fun e => hxy (by have h := HX.out; rw [e, HY.out] at h; injection h with h; exact h.symm)))
          clear hxy
          go_wp2_with fail
          refine rk_start (fun _ => False) (by kernel_rfl) (n := 9) (l := #[false, false, false, false, false, false, false, false, false]) (by kernel_rfl) (by kernel_rfl) ?_
          refine rk_take (fuel := 8) 0 rfl (by kernel_rfl) (listed' := #[true, false, false, false, false, false, false, false, false]) (by kernel_rfl) (fun _ _ _ h => h) (by kernel_rfl) (fun w' hR => by go_simp; first | done | with_reducible rfl) rfl ?_
          try simp only [Act.put, List.setIfInBounds_toArray, List.set_cons_zero, List.set_cons_succ]
          refine rk_take (fuel := 7) 1 rfl (by kernel_rfl) (listed' := #[true, true, false, false, false, false, false, false, false]) (by kernel_rfl) (fun _ _ _ h => h) (by kernel_rfl) (fun w' hR => by go_simp; first | done | with_reducible rfl) rfl ?_
          try simp only [Act.put, List.setIfInBounds_toArray, List.set_cons_zero, List.set_cons_succ]
          refine rk_take (fuel := 6) 2 rfl (by kernel_rfl) (listed' := #[true, true, true, false, false, false, false, false, false]) (by kernel_rfl) (fun _ _ _ h => h) (by kernel_rfl) (fun w' hR => by go_simp; first | done | with_reducible rfl) rfl ?_
          try simp only [Act.put, List.setIfInBounds_toArray, List.set_cons_zero, List.set_cons_succ]
          refine rk_take (fuel := 5) 3 rfl (by kernel_rfl) (listed' := #[true, true, true, true, false, false, false, false, false]) (by kernel_rfl) (fun _ _ _ h => h) (by kernel_rfl) (fun w' hR => by have x0 := (HXC.out w' hR).1; go_simp; first | done | with_reducible rfl) rfl ?_
          try simp only [Act.put, List.setIfInBounds_toArray, List.set_cons_zero, List.set_cons_succ]
          refine rk_take (fuel := 4) 4 rfl (by kernel_rfl) (listed' := #[true, true, true, true, true, false, false, false, false]) (by kernel_rfl) (fun _ _ _ h => h) (by kernel_rfl) (fun w' hR => by go_simp; first | done | with_reducible rfl) rfl ?_
          try simp only [Act.put, List.setIfInBounds_toArray, List.set_cons_zero, List.set_cons_succ]
          refine rk_take (fuel := 3) 5 rfl (by kernel_rfl) (listed' := #[true, true, true, true, true, true, false, false, false]) (by kernel_rfl) (fun _ _ _ h => h) (by kernel_rfl) (fun w' hR => by go_simp; first | done | with_reducible rfl) rfl ?_
          try simp only [Act.put, List.setIfInBounds_toArray, List.set_cons_zero, List.set_cons_succ]
          refine rk_take (fuel := 2) 6 rfl (by kernel_rfl) (listed' := #[true, true, true, true, true, true, true, false, false]) (by kernel_rfl) (fun _ _ _ h => h) (by kernel_rfl) (fun w' hR => by go_simp; first | done | with_reducible rfl) rfl ?_
          try simp only [Act.put, List.setIfInBounds_toArray, List.set_cons_zero, List.set_cons_succ]
          refine rk_take (fuel := 1) 7 rfl (by kernel_rfl) (listed' := #[true, true, true, true, true, true, true, true, false]) (by kernel_rfl) (fun _ _ _ h => h) (by kernel_rfl) (fun w' hR => by have x0 := (HXC.out w' hR).2; go_simp; first | done | with_reducible rfl) rfl ?_
          try simp only [Act.put, List.setIfInBounds_toArray, List.set_cons_zero, List.set_cons_succ]
          refine rk_take (fuel := 0) 8 rfl (by kernel_rfl) (listed' := #[true, true, true, true, true, true, true, true, true]) (by kernel_rfl) (fun _ _ _ h => h) (by kernel_rfl) (fun w' hR => by go_simp; first | done | with_reducible rfl) rfl ?_
          try simp only [Act.put, List.setIfInBounds_toArray, List.set_cons_zero, List.set_cons_succ]
          refine rk_done (by kernel_rfl) ?_
          go_wp2
          go_ret
          exact ⟨by rw [HD.out]; rfl, HW.out.drew⟩
      · obtain rfl : j = l.length := by omega
        have HD := Aside0.mk (show decide (l = m) = true from decide_eq_true (by have h := HN.out; rw [List.take_length, HLM.out, List.take_length] at h; exact h))
        go_wp2
        go_ret
        exact ⟨by rw [HD.out]; rfl, HW.out⟩
  · have HD := Aside0.mk (show decide (l = m) = false from decide_eq_false (fun e => hlm (by rw [e])))
    have hb : ((l.length : Int) == (m.length : Int)) = false := beq_eq_false_iff_ne.mpr (by omega)
    have hb2 : ((l.length : Int) != (m.length : Int)) = true := by simp only [bne, hb]; rfl
    go_enter Try.func117, Try.ntmps117
    go_wp2
    go_ret
    exact ⟨by rw [HD.out]; rfl, Below.refl _ _⟩
end Go.Proofs.Ytnckonglodmfeaa.Ik

namespace Go.Proofs.YtnckonglodmfeaaW.PrintWords
open Go.RowKit
section
variable {P : Program} {d : Nat} {xs ys : Array Value} {f : Field} {fs : List Field} {a b : Value} {r s : Bool} {w : World}
/-- The last field that counts. -/
theorem eqf_last (hn : (f.name == "_") = false) (ha : (part f.type xs f.offset).run P w = .ok a w) (hb : (part f.type ys f.offset).run P w = .ok b w) (he : (Op.equalIn d f.type a b).run P w = .ok r w) : (Op.eqFields d xs ys [f]).run P w = .ok r w := by
  have hn' : f.name ≠ "_" := by simpa using hn
  simp only [Op.eqFields, if_pos hn', Sem.run_bind, ha, hb, he, Result.andThen_ok]
  cases r <;> simp
theorem eqf_cons (hn : (f.name == "_") = false) (ha : (part f.type xs f.offset).run P w = .ok a w) (hb : (part f.type ys f.offset).run P w = .ok b w) (he : (Op.equalIn d f.type a b).run P w = .ok r w) (hr : (Op.eqFields d xs ys fs).run P w = .ok s w) : (Op.eqFields d xs ys (f :: fs)).run P w = .ok (r && s) w := by
  have hn' : f.name ≠ "_" := by simpa using hn
  rw [Op.eqFields]
  simp only [if_pos hn', Sem.run_bind, ha, hb, he, Result.andThen_ok]
  cases r
  · simp
  · simpa using hr
theorem eqA_of {t : TypeId} {fs : Array Field} (hu : P.underlying t = some (.struct fs)) (hp : P.stoodInHeld t = false) (h : (Op.eqFields d xs ys fs.toList).run P w = .ok r w) : (Op.equalIn (d + 1) t (.agg xs) (.agg ys)).run P w = .ok r w := by
  have hf : P.fieldsOf t = fs := by simp [Program.fieldsOf, hu]
  rw [run_equalIn_struct (P := P) w d t xs ys (by rw [hf]; exact hu) hp, hf]
  exact h
end
end Go.Proofs.YtnckonglodmfeaaW.PrintWords
