/- Contracts and plain facts that the statements' proofs use (part 8). -/
import Derived.Test.YtnckonglodmfeaaM5
import Derived.Test.YtnckonglodmfeaaM7
set_option linter.unusedVariables false
set_option linter.unusedSimpArgs false
namespace Go.Proofs.Ytnckonglodmfeaa.Ik
open Ls Go.RowKit Go.Proofs.YtnckonglodmfeaaW.PrintWords Go.Proofs.YtnckonglodmfeaaW.PrintLast Go.Proofs.YtnckonglodmfeaaW.PrintMore B R S Is Js
set_option maxHeartbeats 40000000 in
set_option maxRecDepth 100000 in
theorem qread_blocks (g b : Nat) (s : St) (most : Int) (w : World) (h : Rq w g b s) (hg : g < w.heap.size) (hm0 : 0 ≤ most) (hm1 : most ≤ 400) :
 Calls Try.prog 96 #[.pointer (some ⟨g, 0, none⟩), .int .i64 most] w fun e w' => ∃ v bs, e = .returned v ∧ kBlk.R 84 w' w.heap.size (fun _ => True) v bs ∧ ((sBlks most s).2.2 = 0 → bs = (sBlks most s).1) ∧ Rq w' g b (sBlks most s).2 ∧ Keep (· = g) w w' := by
 have mixed : Try.prog.follows .mixedOrders = true := by kernel_rfl
 have H := aM h
 have hr17 := below_range (m := 17) (by decide) h.2.1
 have HP := aM (below_pos (m := 17) (s := s))
 obtain ⟨N, hN⟩ : ∃ N : Nat, (sBelow 17 s).1 = (N : Int) := ⟨(sBelow 17 s).1.toNat, by omega⟩
 obtain ⟨s1, hs1⟩ : ∃ s1, (sBelow 17 s).2 = s1 := ⟨_, rfl⟩
 have hN16 : N ≤ 16 := by omega
 rw [show sBlks most s = sBlkN most N s1 by unfold sBlks; rw [hN, hs1]; rfl]
 have HN := aM hN
 have HS1 := aM hs1
 clear h hr17 hN hs1
 go_enter Try.func96, Try.ntmps96
 go_wp2_with (go_at_call 53; refine (rq_below g b s 17 _ H.out (by decide) (by decide)).mono ?_; rintro _ w1 ⟨rfl, hd, hk, -⟩; rw [HS1.out] at hd; rw [HN.out]; have HD := aM hd; have HK := aM hk; clear hd hk)
 have HC0 := aM (show 0 < N → s1.2 = 0 from fun h => by rw [← HS1.out]; exact HP.out (by rw [HN.out]; omega))
 go_loopw [5, 7] (fun vo vi wr => ∃ x : Nat, x ≤ N ∧ vi = .int .i64 x ∧ ∃ bs sx, Aside0 (kBlk.R 84 wr w.heap.size (fun _ => True) vo bs) ∧ Aside0 (Rq wr g b sx) ∧ Aside0 (bs.length = x) ∧ Aside0 ((sBlkN most x s1).2 = sx ∧ (sx.2 = 0 → (sBlkN most x s1).1 = bs)) ∧ Aside0 (Keep (· = g) w wr)) (fun _ vi _ => N - (intOf vi).toNat)
 case atStart => exact ⟨0, by omega, rfl, [], s1, ⟨Kd.R_nil _ _ _ _ _⟩, HD, ⟨rfl⟩, ⟨rfl, fun _ => rfl⟩, HK⟩
 case round =>
  clear HD HK
  obtain ⟨wo, hwo⟩ : ∃ wo, wo = wr := ⟨_, rfl⟩
  subst hwo
  obtain ⟨x, hx, rfl, bs, sx, HO, HD, HLN, HB, HK⟩ := hrel
  have qc := HD.out.code
  by_cases hxN : x < N
  · by_cases hc : sx.2 = 0
    · have hbs := HB.out.2 hc
      have HNX := aM (show sBlkN most (x + 1) s1 = (bs ++ [(sBlk most sx).1], (sBlk most sx).2) by rw [blkN_succ (by rw [HB.out.1]; exact hc), HB.out.1, hbs])
      have hbl : bs.length ≤ 16 := by rw [HLN.out]; omega
      have hby := HD.out.2.1
      have hrm := below_range (m := most + 1) (by omega) hby
      obtain ⟨m, hm⟩ : ∃ m : Nat, (sBelow (most + 1) sx).1 = (m : Int) := ⟨(sBelow (most + 1) sx).1.toNat, by omega⟩
      obtain ⟨s2, hs2⟩ : ∃ s2, (sBelow (most + 1) sx).2 = s2 := ⟨_, rfl⟩
      have hm4 : m ≤ 400 := by omega
      have HSB := aM (show sBlk most sx = (((sInss m s2).1, (sEnd (sInss m s2).2).1), (sEnd (sInss m s2).2).2) by rw [blk_eq, hm, hs2]; rfl)
      have HM := aM hm
      have HS2 := aM hs2
      have hwrap := wrap_i64 (most + 1) (by omega) (by omega)
      have HGL := aM (show g < wo.heap.size ∧ b < wo.heap.size from ⟨HD.out.1.lt, HD.out.2.2⟩)
      rw [hc] at qc
      clear hbs hc hby hrm hm hs2
      go_upto_block 2 with (go_at_call 53; refine (rq_below g b sx (most + 1) _ (HD.out.below ((Below.refl _ _).alloc (Nat.le_refl _) _)) (by omega) (by omega)).mono ?_; rintro _ w1 ⟨rfl, hd, hk, -⟩; rw [HS2.out] at hd; rw [HM.out]; have HD2 := aM hd; have HK2 := aM hk; clear hd hk)
      have HI0 := aM (show QS 84 wo w1 g b wo.heap.size s2 #[.slice none 0 0, .int .u8 0, .int .i64 0, .int .i64 0, .int .i64 0] from ⟨HD2.out, (HK2.out.block wo.heap.size (by rw [World.size_alloc]; omega) (fun e => by have e : wo.heap.size = g := e; have := HGL.out.1; omega)).trans (heap_alloc_new _ _), ((Keep.refl (· = g) wo).alloc _).trans HK2.out, Nat.le_refl _, HGL.out.1, HGL.out.2⟩)
      clear HD2 HK2 qc
      go_cut [] (fun wz => ∃ vv is sR, Aside0 (QB wo wz g b wo.heap.size sR #[vv, .int .u8 0, .int .i64 0, .int .i64 0, .int .i64 0] vv is) ∧ Aside0 ((sInss m s2).2 = sR ∧ (sR.2 = 0 → (sInss m s2).1 = is)))
      case rest =>
       obtain ⟨vv, is, sR, HR, HSR⟩ := hcut
       clear HI0
       by_cases hcR : sR.2 = 0
       · obtain ⟨Av, cv, hv, -, -⟩ := Kd.R_reads HR.out.row
         obtain ⟨mv, hmv⟩ : ∃ m, is.length = m := ⟨_, rfl⟩
         rw [hmv] at hv
         subst hv
         clear hmv
         have qc := HR.out.q.rd.code
         obtain ⟨k5, s5, hk5⟩ : ∃ k s', sBelow 256 sR = (k, s') := ⟨_, _, rfl⟩
         have hr5 := below_range (m := 256) (by decide) HR.out.q.rd.2.1
         rw [hk5] at hr5
         simp only at hr5
         have hp5 := below_pos (m := 256) (s := sR)
         rw [hk5] at hp5
         simp only at hp5
         by_cases hc5 : s5.2 = 0
         · by_cases n51 : k5 = 1
           · subst n51
             clear hp5 hr5
             have HE := aM (show sEnd sR = ((1, 0, (sBelow 4096 s5).1, 0), (sBelow 4096 s5).2) from by simp [sEnd, hk5])
             have HC50 := aM hc5
             have HK5 := aM hk5
             clear hk5 hc5
             go_upto_region 45 with (first | (go_at_call 53; (first | refine (qb_below HR.out _ (by decide) (by decide)).mono ?_ | refine (qb_below (HR.out.set _ _) _ (by decide) (by decide)).mono ?_); rintro _ w9 ⟨rfl, hq⟩; clear HR; (try clear q0 q1 q2 q3 q4 z1 z2 z3 z4 qc qs); (try rw [HK5.out] at hq ⊢); have HR := aM hq; clear hq; obtain ⟨q0, q1, q2, q3, q4, z1, z2, z3, z4, qc, qs⟩ := HR.out.cells rfl; (try simp only [HC50.out] at qc qs)) | (go_at_call 116; (first | refine (qb_takes HR.out _ _ _ _).mono ?_ | refine (qb_takes (HR.out.set _ _) _ _ _ _).mono ?_); rintro _ w9 ⟨rfl, hq⟩; clear HR; (try clear q0 q1 q2 q3 q4 z1 z2 z3 z4 qc qs); rw [show takesB 1 = false from rfl]; have HR := aM hq; clear hq; obtain ⟨q0, q1, q2, q3, q4, z1, z2, z3, z4, qc, qs⟩ := HR.out.cells rfl))
             have hset := HR.out.set 3 (.int .i64 (sBelow 4096 s5).1)
             generalize w9.setCell ⟨wo.heap.size, 3, none⟩ (.int .i64 (sBelow 4096 s5).1) = WL at hset ⊢
             clear HR
             have HR := aM hset
             clear q0 q1 q2 q3 q4 z1 z2 z3 z4 qc qs
             clear hset
             obtain ⟨q0, q1, q2, q3, q4, z1, z2, z3, z4, qc, qs⟩ := HR.out.cells rfl
             have HBS := aM (show sBlk most sx = (((sInss m s2).1, 1, 0, (sBelow 4096 s5).1, 0), (sBelow 4096 s5).2) from by rw [HSB.out, HSR.out.1, HE.out])
             have HNY := aM (show (sBlkN most (x + 1) s1).2 = (sBelow 4096 s5).2 ∧ (((sBelow 4096 s5).2).2 = 0 → (sBlkN most (x + 1) s1).1 = bs ++ [(is, 1, 0, (sBelow 4096 s5).1, 0)]) from by
              rw [HNX.out, HBS.out]
              refine ⟨rfl, fun h => ?_⟩
              have h0 : sR.2 = 0 := by
               by_cases hh : sR.2 = 0
               · exact hh
               · have e := end_stuck sR hh
                 rw [HE.out] at e
                 have e2 := congrArg (fun p => p.2.2) e
                 simp only at e2
                 rw [h] at e2
                 exact e2.symm
              rw [HSR.out.2 h0])
             go_wp2_with (first | ((with_reducible refine gate_builtin (b := .append) (xs := #[.tmp 178, .tmp 180]) rfl ?_); at_builtin; refine Kd.R_append kBlk (w0 := WL) w.heap.size rfl (.tmp 178) (.tmp 180) 23 84 (.agg #[.slice none 0 0, .int .u8 0, .int .i64 0, .int .i64 0, .int .i64 0]) 56 rfl Try.underlying23 infoBlk rfl (show 0 < 5 by decide) (by decide) u5 bs (is, 1, 0, (sBelow 4096 s5).1, 0) [.slice Av mv cv, .int .u8 1, .int .i64 0, .int .i64 (sBelow 4096 s5).1, .int .i64 0] (fun _ => True) (fun k => wo.heap.size < k) rfl rfl (blk_M (Kd.R_lower HR.out.row (Nat.le_succ_of_le HK.out.size))) (fun k hk => ⟨trivial, fun e => absurd ((Kd.R_bound HO.out).1 k e.symm).2.2.1 (by omega)⟩) (fun _ _ => trivial) (Kd.R_mono (Kd.R_step (Kd.R_mono (Kd.R_bound HO.out) (ok' := fun k => w.heap.size ≤ k) (fun k hk => hk.2.1)) (fun k hk hl => HR.out.q.keep.block k hl (fun e => by have e : k = g := e; omega))) (fun _ _ => trivial)) (Below.refl _ _) (Nat.le_trans HK.out.size HR.out.q.keep.size) (blk_fits (by omega)) ?_; intro v7 w7 ho7 hb7 hg7 hat7; have HO7 := aM ho7; have HB7 := aM hb7; clear ho7 hb7 hg7 hat7))
             go_roundw
             case rel => exact ⟨x + 1, by omega, by go_num, _, (sBelow 4096 s5).2, HO7, ⟨HR.out.q.rd.keep (keep_of_below HB7.out) (by omega) (by have := H.out.2.2; omega)⟩, ⟨by rw [List.length_append, HLN.out]; rfl⟩, HNY, ⟨(HK.out.trans HR.out.q.keep).then (keep_of_below HB7.out) (fun i h1 h2 => by omega)⟩⟩
             case measure => simp [intOf]; omega
           by_cases n52 : k5 = 2
           · subst n52
             clear hp5 hr5
             have HE := aM (show sEnd sR = ((2, (sBelow 4096 s5).1, (sBelow 4096 (sBelow 4096 s5).2).1, (sBelow 4096 (sBelow 4096 (sBelow 4096 s5).2).2).1), (sBelow 4096 (sBelow 4096 (sBelow 4096 s5).2).2).2) from by simp [sEnd, hk5])
             have HC50 := aM hc5
             have HK5 := aM hk5
             clear hk5 hc5
             go_upto_region 45 with (first | (go_at_call 53; (first | refine (qb_below HR.out _ (by decide) (by decide)).mono ?_ | refine (qb_below (HR.out.set _ _) _ (by decide) (by decide)).mono ?_); rintro _ w9 ⟨rfl, hq⟩; clear HR; (try clear q0 q1 q2 q3 q4 z1 z2 z3 z4 qc qs); (try rw [HK5.out] at hq ⊢); have HR := aM hq; clear hq; obtain ⟨q0, q1, q2, q3, q4, z1, z2, z3, z4, qc, qs⟩ := HR.out.cells rfl; (try simp only [HC50.out] at qc qs)) | (go_at_call 116; (first | refine (qb_takes HR.out _ _ _ _).mono ?_ | refine (qb_takes (HR.out.set _ _) _ _ _ _).mono ?_); rintro _ w9 ⟨rfl, hq⟩; clear HR; (try clear q0 q1 q2 q3 q4 z1 z2 z3 z4 qc qs); rw [show takesB 2 = true from rfl]; have HR := aM hq; clear hq; obtain ⟨q0, q1, q2, q3, q4, z1, z2, z3, z4, qc, qs⟩ := HR.out.cells rfl))
             have hset := HR.out.set 4 (.int .i64 (sBelow 4096 (sBelow 4096 (sBelow 4096 s5).2).2).1)
             generalize w9.setCell ⟨wo.heap.size, 4, none⟩ (.int .i64 (sBelow 4096 (sBelow 4096 (sBelow 4096 s5).2).2).1) = WL at hset ⊢
             clear HR
             have HR := aM hset
             clear q0 q1 q2 q3 q4 z1 z2 z3 z4 qc qs
             clear hset
             obtain ⟨q0, q1, q2, q3, q4, z1, z2, z3, z4, qc, qs⟩ := HR.out.cells rfl
             have HBS := aM (show sBlk most sx = (((sInss m s2).1, 2, (sBelow 4096 s5).1, (sBelow 4096 (sBelow 4096 s5).2).1, (sBelow 4096 (sBelow 4096 (sBelow 4096 s5).2).2).1), (sBelow 4096 (sBelow 4096 (sBelow 4096 s5).2).2).2) from by rw [HSB.out, HSR.out.1, HE.out])
             have HNY := aM (show (sBlkN most (x + 1) s1).2 = (sBelow 4096 (sBelow 4096 (sBelow 4096 s5).2).2).2 ∧ (((sBelow 4096 (sBelow 4096 (sBelow 4096 s5).2).2).2).2 = 0 → (sBlkN most (x + 1) s1).1 = bs ++ [(is, 2, (sBelow 4096 s5).1, (sBelow 4096 (sBelow 4096 s5).2).1, (sBelow 4096 (sBelow 4096 (sBelow 4096 s5).2).2).1)]) from by
              rw [HNX.out, HBS.out]
              refine ⟨rfl, fun h => ?_⟩
              have h0 : sR.2 = 0 := by
               by_cases hh : sR.2 = 0
               · exact hh
               · have e := end_stuck sR hh
                 rw [HE.out] at e
                 have e2 := congrArg (fun p => p.2.2) e
                 simp only at e2
                 rw [h] at e2
                 exact e2.symm
              rw [HSR.out.2 h0])
             go_wp2_with (first | ((with_reducible refine gate_builtin (b := .append) (xs := #[.tmp 178, .tmp 180]) rfl ?_); at_builtin; refine Kd.R_append kBlk (w0 := WL) w.heap.size rfl (.tmp 178) (.tmp 180) 23 84 (.agg #[.slice none 0 0, .int .u8 0, .int .i64 0, .int .i64 0, .int .i64 0]) 56 rfl Try.underlying23 infoBlk rfl (show 0 < 5 by decide) (by decide) u5 bs (is, 2, (sBelow 4096 s5).1, (sBelow 4096 (sBelow 4096 s5).2).1, (sBelow 4096 (sBelow 4096 (sBelow 4096 s5).2).2).1) [.slice Av mv cv, .int .u8 2, .int .i64 (sBelow 4096 s5).1, .int .i64 (sBelow 4096 (sBelow 4096 s5).2).1, .int .i64 (sBelow 4096 (sBelow 4096 (sBelow 4096 s5).2).2).1] (fun _ => True) (fun k => wo.heap.size < k) rfl rfl (blk_M (Kd.R_lower HR.out.row (Nat.le_succ_of_le HK.out.size))) (fun k hk => ⟨trivial, fun e => absurd ((Kd.R_bound HO.out).1 k e.symm).2.2.1 (by omega)⟩) (fun _ _ => trivial) (Kd.R_mono (Kd.R_step (Kd.R_mono (Kd.R_bound HO.out) (ok' := fun k => w.heap.size ≤ k) (fun k hk => hk.2.1)) (fun k hk hl => HR.out.q.keep.block k hl (fun e => by have e : k = g := e; omega))) (fun _ _ => trivial)) (Below.refl _ _) (Nat.le_trans HK.out.size HR.out.q.keep.size) (blk_fits (by omega)) ?_; intro v7 w7 ho7 hb7 hg7 hat7; have HO7 := aM ho7; have HB7 := aM hb7; clear ho7 hb7 hg7 hat7))
             go_roundw
             case rel => exact ⟨x + 1, by omega, by go_num, _, (sBelow 4096 (sBelow 4096 (sBelow 4096 s5).2).2).2, HO7, ⟨HR.out.q.rd.keep (keep_of_below HB7.out) (by omega) (by have := H.out.2.2; omega)⟩, ⟨by rw [List.length_append, HLN.out]; rfl⟩, HNY, ⟨(HK.out.trans HR.out.q.keep).then (keep_of_below HB7.out) (fun i h1 h2 => by omega)⟩⟩
             case measure => simp [intOf]; omega
           by_cases n53 : k5 = 3
           · subst n53
             clear hp5 hr5
             have HE := aM (show sEnd sR = ((3, (sBelow 4096 s5).1, 0, 0), (sBelow 4096 s5).2) from by simp [sEnd, hk5])
             have HC50 := aM hc5
             have HK5 := aM hk5
             clear hk5 hc5
             go_upto_region 45 with (first | (go_at_call 53; (first | refine (qb_below HR.out _ (by decide) (by decide)).mono ?_ | refine (qb_below (HR.out.set _ _) _ (by decide) (by decide)).mono ?_); rintro _ w9 ⟨rfl, hq⟩; clear HR; (try clear q0 q1 q2 q3 q4 z1 z2 z3 z4 qc qs); (try rw [HK5.out] at hq ⊢); have HR := aM hq; clear hq; obtain ⟨q0, q1, q2, q3, q4, z1, z2, z3, z4, qc, qs⟩ := HR.out.cells rfl; (try simp only [HC50.out] at qc qs)) | (go_at_call 116; (first | refine (qb_takes HR.out _ _ _ _).mono ?_ | refine (qb_takes (HR.out.set _ _) _ _ _ _).mono ?_); rintro _ w9 ⟨rfl, hq⟩; clear HR; (try clear q0 q1 q2 q3 q4 z1 z2 z3 z4 qc qs); rw [show takesB 3 = true from rfl]; have HR := aM hq; clear hq; obtain ⟨q0, q1, q2, q3, q4, z1, z2, z3, z4, qc, qs⟩ := HR.out.cells rfl))
             have hset := HR.out.set 2 (.int .i64 (sBelow 4096 s5).1)
             generalize w9.setCell ⟨wo.heap.size, 2, none⟩ (.int .i64 (sBelow 4096 s5).1) = WL at hset ⊢
             clear HR
             have HR := aM hset
             clear q0 q1 q2 q3 q4 z1 z2 z3 z4 qc qs
             clear hset
             obtain ⟨q0, q1, q2, q3, q4, z1, z2, z3, z4, qc, qs⟩ := HR.out.cells rfl
             have HBS := aM (show sBlk most sx = (((sInss m s2).1, 3, (sBelow 4096 s5).1, 0, 0), (sBelow 4096 s5).2) from by rw [HSB.out, HSR.out.1, HE.out])
             have HNY := aM (show (sBlkN most (x + 1) s1).2 = (sBelow 4096 s5).2 ∧ (((sBelow 4096 s5).2).2 = 0 → (sBlkN most (x + 1) s1).1 = bs ++ [(is, 3, (sBelow 4096 s5).1, 0, 0)]) from by
              rw [HNX.out, HBS.out]
              refine ⟨rfl, fun h => ?_⟩
              have h0 : sR.2 = 0 := by
               by_cases hh : sR.2 = 0
               · exact hh
               · have e := end_stuck sR hh
                 rw [HE.out] at e
                 have e2 := congrArg (fun p => p.2.2) e
                 simp only at e2
                 rw [h] at e2
                 exact e2.symm
              rw [HSR.out.2 h0])
             go_wp2_with (first | ((with_reducible refine gate_builtin (b := .append) (xs := #[.tmp 178, .tmp 180]) rfl ?_); at_builtin; refine Kd.R_append kBlk (w0 := WL) w.heap.size rfl (.tmp 178) (.tmp 180) 23 84 (.agg #[.slice none 0 0, .int .u8 0, .int .i64 0, .int .i64 0, .int .i64 0]) 56 rfl Try.underlying23 infoBlk rfl (show 0 < 5 by decide) (by decide) u5 bs (is, 3, (sBelow 4096 s5).1, 0, 0) [.slice Av mv cv, .int .u8 3, .int .i64 (sBelow 4096 s5).1, .int .i64 0, .int .i64 0] (fun _ => True) (fun k => wo.heap.size < k) rfl rfl (blk_M (Kd.R_lower HR.out.row (Nat.le_succ_of_le HK.out.size))) (fun k hk => ⟨trivial, fun e => absurd ((Kd.R_bound HO.out).1 k e.symm).2.2.1 (by omega)⟩) (fun _ _ => trivial) (Kd.R_mono (Kd.R_step (Kd.R_mono (Kd.R_bound HO.out) (ok' := fun k => w.heap.size ≤ k) (fun k hk => hk.2.1)) (fun k hk hl => HR.out.q.keep.block k hl (fun e => by have e : k = g := e; omega))) (fun _ _ => trivial)) (Below.refl _ _) (Nat.le_trans HK.out.size HR.out.q.keep.size) (blk_fits (by omega)) ?_; intro v7 w7 ho7 hb7 hg7 hat7; have HO7 := aM ho7; have HB7 := aM hb7; clear ho7 hb7 hg7 hat7))
             go_roundw
             case rel => exact ⟨x + 1, by omega, by go_num, _, (sBelow 4096 s5).2, HO7, ⟨HR.out.q.rd.keep (keep_of_below HB7.out) (by omega) (by have := H.out.2.2; omega)⟩, ⟨by rw [List.length_append, HLN.out]; rfl⟩, HNY, ⟨(HK.out.trans HR.out.q.keep).then (keep_of_below HB7.out) (fun i h1 h2 => by omega)⟩⟩
             case measure => simp [intOf]; omega
           have hwk5 := wraps_u8' k5 hr5.1 hr5.2
           have b51 : (k5 == 1) = false := beq_eq_false_iff_ne.mpr n51
           have b52 : (k5 == 2) = false := beq_eq_false_iff_ne.mpr n52
           have b53 : (k5 == 3) = false := beq_eq_false_iff_ne.mpr n53
           have b53n : (k5 != 3) = true := bne_iff_ne.mpr n53
           have HTK := aM (show takesB k5 = false from decide_eq_false (by omega))
           rcases (by omega : k5 < 1 ∨ (¬ k5 < 1 ∧ 3 < k5)) with j5 | ⟨j5, j6⟩
           · have HE := aM (show sEnd sR = ((k5, 0, 0, 0), (sFail 20 s5)) from by simp [sEnd, hk5, n51, n52, n53])
             have HSTK := aM (below_stuck 4096 (sFail 20 s5) (fail_ne 20 (by decide) s5))
             have HC50 := aM hc5
             have HK5 := aM hk5
             clear hk5 hc5
             go_upto_region 45 with (first | (go_at_call 53; (first | refine (qb_below HR.out _ (by decide) (by decide)).mono ?_ | refine (qb_below (HR.out.set _ _) _ (by decide) (by decide)).mono ?_); rintro _ w9 ⟨rfl, hq⟩; clear HR; (try clear q0 q1 q2 q3 q4 z1 z2 z3 z4 qc qs); (try rw [HK5.out] at hq ⊢); (try rw [HSTK.out] at hq ⊢); have HR := aM hq; clear hq; obtain ⟨q0, q1, q2, q3, q4, z1, z2, z3, z4, qc, qs⟩ := HR.out.cells rfl; (try simp only [HC50.out] at qc qs)) | (go_at_call 128; (first | refine (qb_fail HR.out 20).mono ?_ | refine (qb_fail (HR.out.set _ _) 20).mono ?_); rintro _ w9 ⟨rfl, hq⟩; clear HR; (try clear q0 q1 q2 q3 q4 z1 z2 z3 z4 qc qs); have HR := aM hq; clear hq; obtain ⟨q0, q1, q2, q3, q4, z1, z2, z3, z4, qc, qs⟩ := HR.out.cells rfl) | (go_at_call 116; (first | refine (qb_takes HR.out _ _ _ _).mono ?_ | refine (qb_takes (HR.out.set _ _) _ _ _ _).mono ?_); rintro _ w9 ⟨rfl, hq⟩; clear HR; (try clear q0 q1 q2 q3 q4 z1 z2 z3 z4 qc qs); rw [HTK.out]; have HR := aM hq; clear hq; obtain ⟨q0, q1, q2, q3, q4, z1, z2, z3, z4, qc, qs⟩ := HR.out.cells rfl))
             have hset := HR.out.set 3 (.int .i64 0)
             generalize w9.setCell ⟨wo.heap.size, 3, none⟩ (.int .i64 0) = WL at hset ⊢
             clear HR
             have HR := aM hset
             clear q0 q1 q2 q3 q4 z1 z2 z3 z4 qc qs
             clear hset
             obtain ⟨q0, q1, q2, q3, q4, z1, z2, z3, z4, qc, qs⟩ := HR.out.cells rfl
             have HBS := aM (show sBlk most sx = (((sInss m s2).1, k5, 0, 0, 0), (sFail 20 s5)) from by rw [HSB.out, HSR.out.1, HE.out])
             have HNY := aM (show (sBlkN most (x + 1) s1).2 = (sFail 20 s5) ∧ (((sFail 20 s5)).2 = 0 → (sBlkN most (x + 1) s1).1 = bs ++ [(is, k5, 0, 0, 0)]) from by
              rw [HNX.out, HBS.out]
              refine ⟨rfl, fun h => ?_⟩
              have h0 : sR.2 = 0 := by
               by_cases hh : sR.2 = 0
               · exact hh
               · have e := end_stuck sR hh
                 rw [HE.out] at e
                 have e2 := congrArg (fun p => p.2.2) e
                 simp only at e2
                 rw [h] at e2
                 exact e2.symm
              rw [HSR.out.2 h0])
             go_wp2_with (first | ((with_reducible refine gate_builtin (b := .append) (xs := #[.tmp 178, .tmp 180]) rfl ?_); at_builtin; refine Kd.R_append kBlk (w0 := WL) w.heap.size rfl (.tmp 178) (.tmp 180) 23 84 (.agg #[.slice none 0 0, .int .u8 0, .int .i64 0, .int .i64 0, .int .i64 0]) 56 rfl Try.underlying23 infoBlk rfl (show 0 < 5 by decide) (by decide) u5 bs (is, k5, 0, 0, 0) [.slice Av mv cv, .int .u8 k5, .int .i64 0, .int .i64 0, .int .i64 0] (fun _ => True) (fun k => wo.heap.size < k) rfl rfl (blk_M (Kd.R_lower HR.out.row (Nat.le_succ_of_le HK.out.size))) (fun k hk => ⟨trivial, fun e => absurd ((Kd.R_bound HO.out).1 k e.symm).2.2.1 (by omega)⟩) (fun _ _ => trivial) (Kd.R_mono (Kd.R_step (Kd.R_mono (Kd.R_bound HO.out) (ok' := fun k => w.heap.size ≤ k) (fun k hk => hk.2.1)) (fun k hk hl => HR.out.q.keep.block k hl (fun e => by have e : k = g := e; omega))) (fun _ _ => trivial)) (Below.refl _ _) (Nat.le_trans HK.out.size HR.out.q.keep.size) (blk_fits (by omega)) ?_; intro v7 w7 ho7 hb7 hg7 hat7; have HO7 := aM ho7; have HB7 := aM hb7; clear ho7 hb7 hg7 hat7))
             go_roundw
             case rel => exact ⟨x + 1, by omega, by go_num, _, (sFail 20 s5), HO7, ⟨HR.out.q.rd.keep (keep_of_below HB7.out) (by omega) (by have := H.out.2.2; omega)⟩, ⟨by rw [List.length_append, HLN.out]; rfl⟩, HNY, ⟨(HK.out.trans HR.out.q.keep).then (keep_of_below HB7.out) (fun i h1 h2 => by omega)⟩⟩
             case measure => simp [intOf]; omega
           · have HE := aM (show sEnd sR = ((k5, 0, 0, 0), (sFail 20 s5)) from by simp [sEnd, hk5, n51, n52, n53])
             have HSTK := aM (below_stuck 4096 (sFail 20 s5) (fail_ne 20 (by decide) s5))
             have HC50 := aM hc5
             have HK5 := aM hk5
             clear hk5 hc5
             go_upto_region 45 with (first | (go_at_call 53; (first | refine (qb_below HR.out _ (by decide) (by decide)).mono ?_ | refine (qb_below (HR.out.set _ _) _ (by decide) (by decide)).mono ?_); rintro _ w9 ⟨rfl, hq⟩; clear HR; (try clear q0 q1 q2 q3 q4 z1 z2 z3 z4 qc qs); (try rw [HK5.out] at hq ⊢); (try rw [HSTK.out] at hq ⊢); have HR := aM hq; clear hq; obtain ⟨q0, q1, q2, q3, q4, z1, z2, z3, z4, qc, qs⟩ := HR.out.cells rfl; (try simp only [HC50.out] at qc qs)) | (go_at_call 128; (first | refine (qb_fail HR.out 20).mono ?_ | refine (qb_fail (HR.out.set _ _) 20).mono ?_); rintro _ w9 ⟨rfl, hq⟩; clear HR; (try clear q0 q1 q2 q3 q4 z1 z2 z3 z4 qc qs); have HR := aM hq; clear hq; obtain ⟨q0, q1, q2, q3, q4, z1, z2, z3, z4, qc, qs⟩ := HR.out.cells rfl) | (go_at_call 116; (first | refine (qb_takes HR.out _ _ _ _).mono ?_ | refine (qb_takes (HR.out.set _ _) _ _ _ _).mono ?_); rintro _ w9 ⟨rfl, hq⟩; clear HR; (try clear q0 q1 q2 q3 q4 z1 z2 z3 z4 qc qs); rw [HTK.out]; have HR := aM hq; clear hq; obtain ⟨q0, q1, q2, q3, q4, z1, z2, z3, z4, qc, qs⟩ := HR.out.cells rfl))
             have hset := HR.out.set 3 (.int .i64 0)
             generalize w9.setCell ⟨wo.heap.size, 3, none⟩ (.int .i64 0) = WL at hset ⊢
             clear HR
             have HR := aM hset
             clear q0 q1 q2 q3 q4 z1 z2 z3 z4 qc qs
             clear hset
             obtain ⟨q0, q1, q2, q3, q4, z1, z2, z3, z4, qc, qs⟩ := HR.out.cells rfl
             have HBS := aM (show sBlk most sx = (((sInss m s2).1, k5, 0, 0, 0), (sFail 20 s5)) from by rw [HSB.out, HSR.out.1, HE.out])
             have HNY := aM (show (sBlkN most (x + 1) s1).2 = (sFail 20 s5) ∧ (((sFail 20 s5)).2 = 0 → (sBlkN most (x + 1) s1).1 = bs ++ [(is, k5, 0, 0, 0)]) from by
              rw [HNX.out, HBS.out]
              refine ⟨rfl, fun h => ?_⟩
              have h0 : sR.2 = 0 := by
               by_cases hh : sR.2 = 0
               · exact hh
               · have e := end_stuck sR hh
                 rw [HE.out] at e
                 have e2 := congrArg (fun p => p.2.2) e
                 simp only at e2
                 rw [h] at e2
                 exact e2.symm
              rw [HSR.out.2 h0])
             go_wp2_with (first | ((with_reducible refine gate_builtin (b := .append) (xs := #[.tmp 178, .tmp 180]) rfl ?_); at_builtin; refine Kd.R_append kBlk (w0 := WL) w.heap.size rfl (.tmp 178) (.tmp 180) 23 84 (.agg #[.slice none 0 0, .int .u8 0, .int .i64 0, .int .i64 0, .int .i64 0]) 56 rfl Try.underlying23 infoBlk rfl (show 0 < 5 by decide) (by decide) u5 bs (is, k5, 0, 0, 0) [.slice Av mv cv, .int .u8 k5, .int .i64 0, .int .i64 0, .int .i64 0] (fun _ => True) (fun k => wo.heap.size < k) rfl rfl (blk_M (Kd.R_lower HR.out.row (Nat.le_succ_of_le HK.out.size))) (fun k hk => ⟨trivial, fun e => absurd ((Kd.R_bound HO.out).1 k e.symm).2.2.1 (by omega)⟩) (fun _ _ => trivial) (Kd.R_mono (Kd.R_step (Kd.R_mono (Kd.R_bound HO.out) (ok' := fun k => w.heap.size ≤ k) (fun k hk => hk.2.1)) (fun k hk hl => HR.out.q.keep.block k hl (fun e => by have e : k = g := e; omega))) (fun _ _ => trivial)) (Below.refl _ _) (Nat.le_trans HK.out.size HR.out.q.keep.size) (blk_fits (by omega)) ?_; intro v7 w7 ho7 hb7 hg7 hat7; have HO7 := aM ho7; have HB7 := aM hb7; clear ho7 hb7 hg7 hat7))
             go_roundw
             case rel => exact ⟨x + 1, by omega, by go_num, _, (sFail 20 s5), HO7, ⟨HR.out.q.rd.keep (keep_of_below HB7.out) (by omega) (by have := H.out.2.2; omega)⟩, ⟨by rw [List.length_append, HLN.out]; rfl⟩, HNY, ⟨(HK.out.trans HR.out.q.keep).then (keep_of_below HB7.out) (fun i h1 h2 => by omega)⟩⟩
             case measure => simp [intOf]; omega
         · obtain rfl : k5 = 0 := by
            by_cases h : k5 = 0
            · exact h
            · exact absurd (hp5 h) hc5
           clear hp5 hr5
           have HE := aM (show sEnd sR = ((0, 0, 0, 0), s5) from by simp [sEnd, hk5, fail_stuck _ _ hc5])
           have HSTK := aM (below_stuck 4096 s5 hc5)
           have hcb : (s5.2 == 0) = false := beq_eq_false_iff_ne.mpr hc5
           have HK5 := aM hk5
           clear hk5 hc5
           go_upto_region 45 with (first | (go_at_call 53; (first | refine (qb_below HR.out _ (by decide) (by decide)).mono ?_ | refine (qb_below (HR.out.set _ _) _ (by decide) (by decide)).mono ?_); rintro _ w9 ⟨rfl, hq⟩; clear HR; (try clear q0 q1 q2 q3 q4 z1 z2 z3 z4 qc qs); (try rw [HK5.out] at hq ⊢); (try rw [HSTK.out] at hq ⊢); have HR := aM hq; clear hq; obtain ⟨q0, q1, q2, q3, q4, z1, z2, z3, z4, qc, qs⟩ := HR.out.cells rfl) | (go_at_call 116; (first | refine (qb_takes HR.out _ _ _ _).mono ?_ | refine (qb_takes (HR.out.set _ _) _ _ _ _).mono ?_); rintro _ w9 ⟨rfl, hq⟩; clear HR; (try clear q0 q1 q2 q3 q4 z1 z2 z3 z4 qc qs); rw [show takesB 0 = false from rfl]; have HR := aM hq; clear hq; obtain ⟨q0, q1, q2, q3, q4, z1, z2, z3, z4, qc, qs⟩ := HR.out.cells rfl))
           have hset := HR.out.set 3 (.int .i64 0)
           generalize w9.setCell ⟨wo.heap.size, 3, none⟩ (.int .i64 0) = WL at hset ⊢
           clear HR
           have HR := aM hset
           clear q0 q1 q2 q3 q4 z1 z2 z3 z4 qc qs
           clear hset
           obtain ⟨q0, q1, q2, q3, q4, z1, z2, z3, z4, qc, qs⟩ := HR.out.cells rfl
           have HBS := aM (show sBlk most sx = (((sInss m s2).1, 0, 0, 0, 0), s5) from by rw [HSB.out, HSR.out.1, HE.out])
           have HNY := aM (show (sBlkN most (x + 1) s1).2 = s5 ∧ ((s5).2 = 0 → (sBlkN most (x + 1) s1).1 = bs ++ [(is, 0, 0, 0, 0)]) from by
            rw [HNX.out, HBS.out]
            refine ⟨rfl, fun h => ?_⟩
            have h0 : sR.2 = 0 := by
             by_cases hh : sR.2 = 0
             · exact hh
             · have e := end_stuck sR hh
               rw [HE.out] at e
               have e2 := congrArg (fun p => p.2.2) e
               simp only at e2
               rw [h] at e2
               exact e2.symm
            rw [HSR.out.2 h0])
           go_wp2_with (first | ((with_reducible refine gate_builtin (b := .append) (xs := #[.tmp 178, .tmp 180]) rfl ?_); at_builtin; refine Kd.R_append kBlk (w0 := WL) w.heap.size rfl (.tmp 178) (.tmp 180) 23 84 (.agg #[.slice none 0 0, .int .u8 0, .int .i64 0, .int .i64 0, .int .i64 0]) 56 rfl Try.underlying23 infoBlk rfl (show 0 < 5 by decide) (by decide) u5 bs (is, 0, 0, 0, 0) [.slice Av mv cv, .int .u8 0, .int .i64 0, .int .i64 0, .int .i64 0] (fun _ => True) (fun k => wo.heap.size < k) rfl rfl (blk_M (Kd.R_lower HR.out.row (Nat.le_succ_of_le HK.out.size))) (fun k hk => ⟨trivial, fun e => absurd ((Kd.R_bound HO.out).1 k e.symm).2.2.1 (by omega)⟩) (fun _ _ => trivial) (Kd.R_mono (Kd.R_step (Kd.R_mono (Kd.R_bound HO.out) (ok' := fun k => w.heap.size ≤ k) (fun k hk => hk.2.1)) (fun k hk hl => HR.out.q.keep.block k hl (fun e => by have e : k = g := e; omega))) (fun _ _ => trivial)) (Below.refl _ _) (Nat.le_trans HK.out.size HR.out.q.keep.size) (blk_fits (by omega)) ?_; intro v7 w7 ho7 hb7 hg7 hat7; have HO7 := aM ho7; have HB7 := aM hb7; clear ho7 hb7 hg7 hat7))
           go_roundw
           case rel => exact ⟨x + 1, by omega, by go_num, _, s5, HO7, ⟨HR.out.q.rd.keep (keep_of_below HB7.out) (by omega) (by have := H.out.2.2; omega)⟩, ⟨by rw [List.length_append, HLN.out]; rfl⟩, HNY, ⟨(HK.out.trans HR.out.q.keep).then (keep_of_below HB7.out) (fun i h1 h2 => by omega)⟩⟩
           case measure => simp [intOf]; omega
       · obtain ⟨Av, cv, hv, -, -⟩ := Kd.R_reads HR.out.row
         obtain ⟨mv, hmv⟩ : ∃ m, is.length = m := ⟨_, rfl⟩
         rw [hmv] at hv
         subst hv
         clear hmv
         have qc := HR.out.q.rd.code
         obtain ⟨s5, hs5⟩ : ∃ s5, s5 = sR := ⟨_, rfl⟩
         have hk5 : sBelow 256 sR = (0, s5) := by rw [hs5]; exact below_stuck 256 sR hcR
         have hc5 : s5.2 ≠ 0 := by rw [hs5]; exact hcR
         clear hs5 hcR
         have HE := aM (show sEnd sR = ((0, 0, 0, 0), s5) from by simp [sEnd, hk5, fail_stuck _ _ hc5])
         have HSTK := aM (below_stuck 4096 s5 hc5)
         have hcb : (s5.2 == 0) = false := beq_eq_false_iff_ne.mpr hc5
         have HK5 := aM hk5
         clear hk5 hc5
         go_upto_region 45 with (first | (go_at_call 53; (first | refine (qb_below HR.out _ (by decide) (by decide)).mono ?_ | refine (qb_below (HR.out.set _ _) _ (by decide) (by decide)).mono ?_); rintro _ w9 ⟨rfl, hq⟩; clear HR; (try clear q0 q1 q2 q3 q4 z1 z2 z3 z4 qc qs); (try rw [HK5.out] at hq ⊢); (try rw [HSTK.out] at hq ⊢); have HR := aM hq; clear hq; obtain ⟨q0, q1, q2, q3, q4, z1, z2, z3, z4, qc, qs⟩ := HR.out.cells rfl) | (go_at_call 116; (first | refine (qb_takes HR.out _ _ _ _).mono ?_ | refine (qb_takes (HR.out.set _ _) _ _ _ _).mono ?_); rintro _ w9 ⟨rfl, hq⟩; clear HR; (try clear q0 q1 q2 q3 q4 z1 z2 z3 z4 qc qs); rw [show takesB 0 = false from rfl]; have HR := aM hq; clear hq; obtain ⟨q0, q1, q2, q3, q4, z1, z2, z3, z4, qc, qs⟩ := HR.out.cells rfl))
         have hset := HR.out.set 3 (.int .i64 0)
         generalize w9.setCell ⟨wo.heap.size, 3, none⟩ (.int .i64 0) = WL at hset ⊢
         clear HR
         have HR := aM hset
         clear q0 q1 q2 q3 q4 z1 z2 z3 z4 qc qs
         clear hset
         obtain ⟨q0, q1, q2, q3, q4, z1, z2, z3, z4, qc, qs⟩ := HR.out.cells rfl
         have HBS := aM (show sBlk most sx = (((sInss m s2).1, 0, 0, 0, 0), s5) from by rw [HSB.out, HSR.out.1, HE.out])
         have HNY := aM (show (sBlkN most (x + 1) s1).2 = s5 ∧ ((s5).2 = 0 → (sBlkN most (x + 1) s1).1 = bs ++ [(is, 0, 0, 0, 0)]) from by
          rw [HNX.out, HBS.out]
          refine ⟨rfl, fun h => ?_⟩
          have h0 : sR.2 = 0 := by
           by_cases hh : sR.2 = 0
           · exact hh
           · have e := end_stuck sR hh
             rw [HE.out] at e
             have e2 := congrArg (fun p => p.2.2) e
             simp only at e2
             rw [h] at e2
             exact e2.symm
          rw [HSR.out.2 h0])
         go_wp2_with (first | ((with_reducible refine gate_builtin (b := .append) (xs := #[.tmp 178, .tmp 180]) rfl ?_); at_builtin; refine Kd.R_append kBlk (w0 := WL) w.heap.size rfl (.tmp 178) (.tmp 180) 23 84 (.agg #[.slice none 0 0, .int .u8 0, .int .i64 0, .int .i64 0, .int .i64 0]) 56 rfl Try.underlying23 infoBlk rfl (show 0 < 5 by decide) (by decide) u5 bs (is, 0, 0, 0, 0) [.slice Av mv cv, .int .u8 0, .int .i64 0, .int .i64 0, .int .i64 0] (fun _ => True) (fun k => wo.heap.size < k) rfl rfl (blk_M (Kd.R_lower HR.out.row (Nat.le_succ_of_le HK.out.size))) (fun k hk => ⟨trivial, fun e => absurd ((Kd.R_bound HO.out).1 k e.symm).2.2.1 (by omega)⟩) (fun _ _ => trivial) (Kd.R_mono (Kd.R_step (Kd.R_mono (Kd.R_bound HO.out) (ok' := fun k => w.heap.size ≤ k) (fun k hk => hk.2.1)) (fun k hk hl => HR.out.q.keep.block k hl (fun e => by have e : k = g := e; omega))) (fun _ _ => trivial)) (Below.refl _ _) (Nat.le_trans HK.out.size HR.out.q.keep.size) (blk_fits (by omega)) ?_; intro v7 w7 ho7 hb7 hg7 hat7; have HO7 := aM ho7; have HB7 := aM hb7; clear ho7 hb7 hg7 hat7))
         go_roundw
         case rel => exact ⟨x + 1, by omega, by go_num, _, s5, HO7, ⟨HR.out.q.rd.keep (keep_of_below HB7.out) (by omega) (by have := H.out.2.2; omega)⟩, ⟨by rw [List.length_append, HLN.out]; rfl⟩, HNY, ⟨(HK.out.trans HR.out.q.keep).then (keep_of_below HB7.out) (fun i h1 h2 => by omega)⟩⟩
         case measure => simp [intOf]; omega
      clear HNX HSB
      go_wp2_with fail
      go_loopw [10] (fun vi wi => ∃ i : Nat, i ≤ m ∧ vi = .int .i64 i ∧ ∃ vv is si, Aside0 (QS 84 wo wi g b wo.heap.size si #[vv, .int .u8 0, .int .i64 0, .int .i64 0, .int .i64 0]) ∧ Aside0 (kIns.R 92 wi (wo.heap.size + 1) (fun k => wo.heap.size < k) vv is) ∧ Aside0 (is.length = i) ∧ Aside0 ((sInss i s2).2 = si ∧ (sInss i s2).1 = is)) (fun vi _ => m - (intOf vi).toNat)
      case atStart => exact ⟨0, by omega, rfl, .slice none 0 0, [], s2, HI0, ⟨Kd.R_nil _ _ _ _ _⟩, ⟨rfl⟩, ⟨rfl, rfl⟩⟩
      case round =>
       clear HI0
       obtain ⟨wi, hwi⟩ : ∃ wi, wi = wr := ⟨_, rfl⟩
       subst hwi
       obtain ⟨i, hi, rfl, vv, is, si, HI, HV, HLI, HS⟩ := hrel
       have qc := HI.out.rd.code
       by_cases him : i < m
       · by_cases hc : si.2 = 0
         · rw [hc] at qc
           have HCS := aM hc
           have HIL := aM (blk_lt HI.out.bx)
           have hby := HI.out.rd.2.1
           have hrk := below_range (m := 256) (by decide) hby
           obtain ⟨k, s3, hk⟩ : ∃ k s3, sBelow 256 si = (k, s3) := ⟨_, _, rfl⟩
           rw [hk] at hrk
           simp only at hrk
           have HKK := aM hk
           have hwk := wraps_u8' k hrk.1 hrk.2
           have HBY3 := aM (show By s3.1 from by have h := sbelow_by (m := 256) hby; rw [hk] at h; exact h)
           have HPOS := aM (show k ≠ 0 → s3.2 = 0 from fun h => by have h2 := below_pos (m := 256) (s := si); rw [hk] at h2; exact h2 h)
           have HSZ := aM (show g < wi.heap.size ∧ b < wi.heap.size from ⟨HI.out.rd.1.lt, HI.out.rd.2.2⟩)
           clear hk hby hc
           go_upto_region 12 with (go_at_call 53; refine (rq_below g b si 256 _ HI.out.rd (by decide) (by decide)).mono ?_; rintro _ w1 ⟨rfl, hd, hk, hs⟩; rw [HKK.out] at hd ⊢; have HD2 := aM hd; have HK2 := aM hk; have HZ2 := aM hs; clear qc hd hk hs)
           have HJ := aM (show QS 92 wi (w1.alloc (.cells #[.int .u8 k, .int .u8 0, .int .i64 0, .int .i64 0, .int .i64 0, .int .i64 0, .slice none 0 0] 92)) g b w1.heap.size s3 #[.int .u8 k, .int .u8 0, .int .i64 0, .int .i64 0, .int .i64 0, .int .i64 0, .slice none 0 0] from ⟨HD2.out.below ((Below.refl _ _).alloc (Nat.le_refl _) _), heap_alloc_new _ _, HK2.out.alloc _, by rw [HZ2.out]; exact Nat.le_refl _, HSZ.out.1, HSZ.out.2⟩)
           clear HD2 HK2
           obtain ⟨gi, hgi⟩ : ∃ gi, w1.heap.size = gi := ⟨_, rfl⟩
           rw [hgi] at HJ HZ2 ⊢
           obtain ⟨WB, hWB⟩ : ∃ WB, WB = w1.alloc (.cells #[.int .u8 k, .int .u8 0, .int .i64 0, .int .i64 0, .int .i64 0, .int .i64 0, .slice none 0 0] 92) := ⟨_, rfl⟩
           rw [← hWB] at HJ ⊢
           clear hWB hgi
           have qc := HJ.out.rd.code
           obtain ⟨q0, -⟩ := HJ.out.cell 0 _ rfl
           by_cases hk8 : 1 ≤ k ∧ k ≤ 8
           · have h30 := HPOS.out (by omega)
             have HS30 := aM h30
             have d1 : decide (k < 1) = false := decide_eq_false (by omega)
             have d2 : decide (8 < k) = false := decide_eq_false (by omega)
             rw [h30] at qc
             have HNS := aM (names_at k hk8)
             have HNL := aM (names_len k hk8)
             have hns := names_sz k
             clear h30
             go_wp2_with (go_at_call 124; refine (names_calls k _ hk8).mono ?_; rintro _ w2 ⟨rfl, hb⟩; have HJ2 := aM (HJ.out.step (Keep.of_below hb) (HJ.out.rd.below hb)); clear HJ hb qc q0)
             go_loopw [13] (fun vj wj => ∃ j : Nat, j ≤ (namesA k).size ∧ vj = .int .i64 j ∧ ∃ (op d a bb nn : Int) (args : List Int) (sj : St) (va : Value), Aside0 (((letters k).take j).foldl sField ((k, 0, 0, 0, 0, 0, []), s3) = ((k, op, d, a, bb, nn, args), sj)) ∧ Aside0 (QS 92 wi wj g b gi sj #[.int .u8 k, .int .u8 op, .int .i64 d, .int .i64 a, .int .i64 bb, .int .i64 nn, va]) ∧ Aside0 (kI.R 3 wj (gi + 1) (fun k => gi < k) va args) ∧ args.length ≤ 3 * j) (fun vj _ => (namesA k).size - (intOf vj).toNat)
             case atStart => exact ⟨0, by omega, rfl, 0, 0, 0, 0, 0, [], s3, .slice none 0 0, ⟨rfl⟩, HJ2, ⟨Kd.R_nil _ _ _ _ _⟩, by simp⟩
             case round =>
              clear HJ2
              obtain ⟨wj, hwj⟩ : ∃ wj, wj = wr := ⟨_, rfl⟩
              subst hwj
              obtain ⟨j, hj, rfl, op, d, a, bb, nn, args, sj, va, HFD, HJ, HVA, hal⟩ := hrel
              by_cases hjl : j < (namesA k).size
              · go_upto_region 25 with fail
                obtain ⟨hL1, hL2⟩ := HNS.out j hjl
                obtain ⟨L, hLL⟩ : ∃ L, (namesA k)[j].toNat = L := ⟨_, rfl⟩
                rw [hLL] at hL1 hL2 ⊢
                rcases hL2 with hL | hL | hL | hL | hL | hL
                all_goals subst hL
                · have HFN := aM (show ((letters k).take (j + 1)).foldl sField ((k, 0, 0, 0, 0, 0, []), s3) = ((k, (sBelow 256 sj).1, d, a, bb, nn, args), (sBelow 256 sj).2) from by rw [List.take_add_one, hL1, List.foldl_append, HFD.out]; rfl)
                  have hwr : IntKind.u8.wrap (sBelow 256 sj).1 = (sBelow 256 sj).1 := by have := below_range (m := 256) (by decide) HJ.out.rd.2.1; exact wraps_u8' _ this.1 this.2
                  clear hL1
                  go_wp2_with (first | (go_at_call 53; refine (qs_below HJ.out 256 (by decide) (by decide)).mono ?_; rintro _ w2 ⟨rfl, hq, hk⟩; have HJ3 := aM hq; have HK3 := aM hk; clear hq hk; obtain ⟨q1, z1⟩ := HJ3.out.cell 1 _ rfl; obtain ⟨q2, z2⟩ := HJ3.out.cell 2 _ rfl; obtain ⟨q3, z3⟩ := HJ3.out.cell 3 _ rfl; obtain ⟨q4, z4⟩ := HJ3.out.cell 4 _ rfl; obtain ⟨q5, z5⟩ := HJ3.out.cell 5 _ rfl))
                  have HJ4 := aM (HJ3.out.set 1 (.int .u8 (sBelow 256 sj).1))
                  have HV4 := aM (show kI.R 3 (w2.setCell ⟨gi, 1, none⟩ (.int .u8 (sBelow 256 sj).1)) (gi + 1) (fun k => gi < k) va args from Kd.R_step (Kd.R_step HVA.out (fun k hk hl => HK3.out.block k hl (fun e => by have e : k = g := e; have := HJ.out.hg; have := HJ.out.base; omega))) (fun k hk hl => Below.heap_setCell _ _ _ _ (show k ≠ gi by omega)))
                  go_roundw
                  case rel => exact ⟨j + 1, by omega, by go_num, (sBelow 256 sj).1, d, a, bb, nn, args, (sBelow 256 sj).2, va, HFN, HJ4, HV4, by omega⟩
                  case measure => simp [intOf]; omega
                · have HFN := aM (show ((letters k).take (j + 1)).foldl sField ((k, 0, 0, 0, 0, 0, []), s3) = ((k, op, (sBelow 4096 sj).1, a, bb, nn, args), (sBelow 4096 sj).2) from by rw [List.take_add_one, hL1, List.foldl_append, HFD.out]; rfl)
                  clear hL1
                  go_wp2_with (first | (go_at_call 53; refine (qs_below HJ.out 4096 (by decide) (by decide)).mono ?_; rintro _ w2 ⟨rfl, hq, hk⟩; have HJ3 := aM hq; have HK3 := aM hk; clear hq hk; obtain ⟨q1, z1⟩ := HJ3.out.cell 1 _ rfl; obtain ⟨q2, z2⟩ := HJ3.out.cell 2 _ rfl; obtain ⟨q3, z3⟩ := HJ3.out.cell 3 _ rfl; obtain ⟨q4, z4⟩ := HJ3.out.cell 4 _ rfl; obtain ⟨q5, z5⟩ := HJ3.out.cell 5 _ rfl))
                  have HJ4 := aM (HJ3.out.set 2 (.int .i64 (sBelow 4096 sj).1))
                  have HV4 := aM (show kI.R 3 (w2.setCell ⟨gi, 2, none⟩ (.int .i64 (sBelow 4096 sj).1)) (gi + 1) (fun k => gi < k) va args from Kd.R_step (Kd.R_step HVA.out (fun k hk hl => HK3.out.block k hl (fun e => by have e : k = g := e; have := HJ.out.hg; have := HJ.out.base; omega))) (fun k hk hl => Below.heap_setCell _ _ _ _ (show k ≠ gi by omega)))
                  go_roundw
                  case rel => exact ⟨j + 1, by omega, by go_num, op, (sBelow 4096 sj).1, a, bb, nn, args, (sBelow 4096 sj).2, va, HFN, HJ4, HV4, by omega⟩
                  case measure => simp [intOf]; omega
                · have HFN := aM (show ((letters k).take (j + 1)).foldl sField ((k, 0, 0, 0, 0, 0, []), s3) = ((k, op, d, (sBelow 4096 sj).1, bb, nn, args), (sBelow 4096 sj).2) from by rw [List.take_add_one, hL1, List.foldl_append, HFD.out]; rfl)
                  clear hL1
                  go_wp2_with (first | (go_at_call 53; refine (qs_below HJ.out 4096 (by decide) (by decide)).mono ?_; rintro _ w2 ⟨rfl, hq, hk⟩; have HJ3 := aM hq; have HK3 := aM hk; clear hq hk; obtain ⟨q1, z1⟩ := HJ3.out.cell 1 _ rfl; obtain ⟨q2, z2⟩ := HJ3.out.cell 2 _ rfl; obtain ⟨q3, z3⟩ := HJ3.out.cell 3 _ rfl; obtain ⟨q4, z4⟩ := HJ3.out.cell 4 _ rfl; obtain ⟨q5, z5⟩ := HJ3.out.cell 5 _ rfl))
                  have HJ4 := aM (HJ3.out.set 3 (.int .i64 (sBelow 4096 sj).1))
                  have HV4 := aM (show kI.R 3 (w2.setCell ⟨gi, 3, none⟩ (.int .i64 (sBelow 4096 sj).1)) (gi + 1) (fun k => gi < k) va args from Kd.R_step (Kd.R_step HVA.out (fun k hk hl => HK3.out.block k hl (fun e => by have e : k = g := e; have := HJ.out.hg; have := HJ.out.base; omega))) (fun k hk hl => Below.heap_setCell _ _ _ _ (show k ≠ gi by omega)))
                  go_roundw
                  case rel => exact ⟨j + 1, by omega, by go_num, op, d, (sBelow 4096 sj).1, bb, nn, args, (sBelow 4096 sj).2, va, HFN, HJ4, HV4, by omega⟩
                  case measure => simp [intOf]; omega
                · have HFN := aM (show ((letters k).take (j + 1)).foldl sField ((k, 0, 0, 0, 0, 0, []), s3) = ((k, op, d, a, (sBelow 4096 sj).1, nn, args), (sBelow 4096 sj).2) from by rw [List.take_add_one, hL1, List.foldl_append, HFD.out]; rfl)
                  clear hL1
                  go_wp2_with (first | (go_at_call 53; refine (qs_below HJ.out 4096 (by decide) (by decide)).mono ?_; rintro _ w2 ⟨rfl, hq, hk⟩; have HJ3 := aM hq; have HK3 := aM hk; clear hq hk; obtain ⟨q1, z1⟩ := HJ3.out.cell 1 _ rfl; obtain ⟨q2, z2⟩ := HJ3.out.cell 2 _ rfl; obtain ⟨q3, z3⟩ := HJ3.out.cell 3 _ rfl; obtain ⟨q4, z4⟩ := HJ3.out.cell 4 _ rfl; obtain ⟨q5, z5⟩ := HJ3.out.cell 5 _ rfl))
                  have HJ4 := aM (HJ3.out.set 4 (.int .i64 (sBelow 4096 sj).1))
                  have HV4 := aM (show kI.R 3 (w2.setCell ⟨gi, 4, none⟩ (.int .i64 (sBelow 4096 sj).1)) (gi + 1) (fun k => gi < k) va args from Kd.R_step (Kd.R_step HVA.out (fun k hk hl => HK3.out.block k hl (fun e => by have e : k = g := e; have := HJ.out.hg; have := HJ.out.base; omega))) (fun k hk hl => Below.heap_setCell _ _ _ _ (show k ≠ gi by omega)))
                  go_roundw
                  case rel => exact ⟨j + 1, by omega, by go_num, op, d, a, (sBelow 4096 sj).1, nn, args, (sBelow 4096 sj).2, va, HFN, HJ4, HV4, by omega⟩
                  case measure => simp [intOf]; omega
                · have HFN := aM (show ((letters k).take (j + 1)).foldl sField ((k, 0, 0, 0, 0, 0, []), s3) = ((k, op, d, a, bb, (sInt sj).1, args), (sInt sj).2) from by rw [List.take_add_one, hL1, List.foldl_append, HFD.out]; rfl)
                  clear hL1
                  go_wp2_with (first | (go_at_call 43; refine (qs_num HJ.out).mono ?_; rintro _ w2 ⟨rfl, hq, hk⟩; have HJ3 := aM hq; have HK3 := aM hk; clear hq hk; obtain ⟨q1, z1⟩ := HJ3.out.cell 1 _ rfl; obtain ⟨q2, z2⟩ := HJ3.out.cell 2 _ rfl; obtain ⟨q3, z3⟩ := HJ3.out.cell 3 _ rfl; obtain ⟨q4, z4⟩ := HJ3.out.cell 4 _ rfl; obtain ⟨q5, z5⟩ := HJ3.out.cell 5 _ rfl) | (go_at_call 129; refine (rq_zag sj _ HJ.out.rd.2.1).mono ?_; rintro _ _ ⟨rfl, rfl⟩))
                  have HJ4 := aM (HJ3.out.set 5 (.int .i64 (sInt sj).1))
                  have HV4 := aM (show kI.R 3 (w2.setCell ⟨gi, 5, none⟩ (.int .i64 (sInt sj).1)) (gi + 1) (fun k => gi < k) va args from Kd.R_step (Kd.R_step HVA.out (fun k hk hl => HK3.out.block k hl (fun e => by have e : k = g := e; have := HJ.out.hg; have := HJ.out.base; omega))) (fun k hk hl => Below.heap_setCell _ _ _ _ (show k ≠ gi by omega)))
                  go_roundw
                  case rel => exact ⟨j + 1, by omega, by go_num, op, d, a, bb, (sInt sj).1, args, (sInt sj).2, va, HFN, HJ4, HV4, by omega⟩
                  case measure => simp [intOf]; omega
                · obtain ⟨cz, s5, hc5⟩ : ∃ c s5, sBelow 4 sj = (c, s5) := ⟨_, _, rfl⟩
                  have hc4 := below_range (m := 4) (by decide) HJ.out.rd.2.1
                  rw [hc5] at hc4
                  obtain ⟨C, hC⟩ : ∃ C : Nat, cz = (C : Int) := ⟨cz.toNat, by simp only at hc4; omega⟩
                  subst hC
                  have hC4 : C < 4 := by simp only at hc4; omega
                  have HFN := aM (show ((letters k).take (j + 1)).foldl sField ((k, 0, 0, 0, 0, 0, []), s3) = ((k, op, d, a, bb, nn, args ++ (sReps C s5).1), (sReps C s5).2) from by
                   rw [List.take_add_one, hL1, List.foldl_append, HFD.out]
                   show sField ((k, op, d, a, bb, nn, args), sj) 82 = _
                   simp [sField, sArgs, hc5])
                  have HC5 := aM hc5
                  clear hL1 hc5 hc4
                  go_wp2_with (first | (go_at_call 53; refine (qs_below HJ.out 4 (by decide) (by decide)).mono ?_; rintro _ w2 ⟨rfl, hq, hk⟩; rw [HC5.out] at hq ⊢; have HJ3 := aM hq; have HV3 := aM (Kd.R_step HVA.out (fun k hk' hl => hk.block k hl (fun e => by have e : k = g := e; have := HJ.out.hg; have := HJ.out.base; omega))); clear hq hk))
                  go_loopw [15] (fun vi wr => ∃ i' : Nat, i' ≤ C ∧ vi = .int .i64 i' ∧ ∃ va, Aside0 (QS 92 wi wr g b gi (sReps i' s5).2 #[.int .u8 k, .int .u8 op, .int .i64 d, .int .i64 a, .int .i64 bb, .int .i64 nn, va]) ∧ Aside0 (kI.R 3 wr (gi + 1) (fun k => gi < k) va (args ++ (sReps i' s5).1))) (fun vi _ => C - (intOf vi).toNat)
                  case atStart => exact ⟨0, by omega, rfl, va, HJ3, ⟨by show kI.R _ _ _ _ _ (args ++ []); rw [List.append_nil]; exact HV3.out⟩⟩
                  case round =>
                   clear HJ3 HV3 HJ HVA
                   obtain ⟨wa, hwa⟩ : ∃ wa, wa = wr := ⟨_, rfl⟩
                   subst hwa
                   obtain ⟨i', hi', rfl, va, HJ, HV⟩ := hrel
                   by_cases hil : i' < C
                   · obtain ⟨x, hx⟩ : ∃ x, (sBelow 4096 (sReps i' s5).2).1 = x := ⟨_, rfl⟩
                     obtain ⟨xs, hxs⟩ : ∃ xs, args ++ (sReps i' s5).1 = xs := ⟨_, rfl⟩
                     have hlen : xs.length ≤ 1000 := by rw [← hxs, List.length_append, reps_len]; omega
                     rw [hxs] at HV
                     have HX := aM hx
                     have HXS := aM hxs
                     clear hx hxs
                     have HGG := aM (show g < gi from by have := HJ.out.hg; have := HJ.out.base; omega)
                     have HC6 := aM (show ∀ W', Keep (fun i => i = g ∨ gi < i) wa.drew W' → W'.heap[gi]? = some (.cells #[.int .u8 k, .int .u8 op, .int .i64 d, .int .i64 a, .int .i64 bb, .int .i64 nn, va] 92 (0, 0)) from fun W' h => (h.block gi (blk_lt HJ.out.bx) (fun e => by have := HGG.out; omega)).trans HJ.out.bx)
                     go_wp2_with fail
                     refine re_start [7] (fun i => i = g ∨ gi < i) (by kernel_rfl) (n := 8) (l := (bl 8 0)) (by kernel_rfl) (by kernel_rfl) ?_
                     refine et 0 (bl 8 1) rfl (fun w' hR => by go_simp; first | done | with_reducible rfl) rfl ?_
                     try simp only [Act.put, pB, pC, pD]
                     refine et 1 (bl 8 3) rfl (fun w' hR => by have x0 := cell_at (HC6.out w' hR) 6 va rfl; go_simp; first | done | with_reducible rfl) rfl ?_
                     try simp only [Act.put, pB, pC, pD]
                     refine et 2 (bl 8 7) rfl (fun w' hR => by go_simp; first | done | with_reducible rfl) rfl ?_
                     try simp only [Act.put, pB, pC, pD]
                     refine re_step (fuel := 4) 3 rfl (by kernel_rfl) (listed' := (bl 8 15)) (by kernel_rfl) (by kernel_rfl) (fun K' hK => ?_)
                     go_wp2_with (go_at_call 53; refine (rq_below g b _ 4096 wa.drew HJ.out.drew.rd (by decide) (by decide)).mono ?_; rintro _ w3 ⟨rfl, hd, hk, -⟩; rw [HX.out]; have HD3 := aM hd; have HK3 := aM hk; clear hd hk)
                     refine hK.out _ _ (HK3.out.mono (fun i _ h => .inl h)) ?_
                     clear hK K'
                     try simp only [Act.put, pB, pC, pD]
                     refine re_step (fuel := 3) 4 rfl (by kernel_rfl) (listed' := (bl 8 31)) (by kernel_rfl) (by kernel_rfl) (fun K' hK => ?_)
                     (go_wp2_with fail); have HD4 := aM (HD3.out.below ((Below.refl w3.heap.size w3).alloc (Nat.le_refl _) (.cells #[.int .i64 x] 3)))
                     refine hK.out _ _ (Keep.of_below ((Below.refl w3.heap.size w3).alloc (Nat.le_refl _) (.cells #[.int .i64 x] 3))) ?_
                     clear hK K'
                     try simp only [Act.put, pB, pC, pD]
                     refine re_step (fuel := 2) 5 rfl (by kernel_rfl) (listed' := (bl 8 63)) (by kernel_rfl) (by kernel_rfl) (fun K' hK => ?_)
                     refine R_append_wp kI (W := w3) (gi + 1) (.tmp 92) (.tmp 95) 31 3 (.int .i64 0) 8 rfl Try.underlying31 infoI rfl (by decide) (by decide) va xs x [.int .i64 x] (fun k => gi < k) (fun _ => False) rfl rfl rfl (fun _ h => h.elim) (fun k hk => Nat.lt_of_lt_of_le (blk_lt HJ.out.bx) (Nat.le_trans HK3.out.size hk)) (Kd.R_step HV.out (fun k hk hl => HK3.out.block k hl (fun e => by have e : k = g := e; have := HGG.out; omega))) (Nat.lt_of_lt_of_le (blk_lt HJ.out.bx) HK3.out.size) (by omega) ?_; intro v4 w4 ho4 hg4 hg4' hat4; obtain ⟨A4, c4, hv4, -, -⟩ := Kd.R_reads ho4; obtain ⟨m4, hm4⟩ : ∃ m4, (xs ++ [x]).length = m4 := ⟨_, rfl⟩; rw [hm4] at hv4; subst hv4; clear hm4; have HO4 := aM ho4; have HK4 := aM (show Keep (fun i => gi < i) (w3.alloc (.cells #[.int .i64 x] 3)) w4 from grown_keep hg4' (fun i hi => HV.out.1 i hi)); clear ho4 hg4 hg4' hat4
                     refine hK.out _ _ (HK4.out.mono (fun i _ h => .inr h)) ?_
                     clear hK K'
                     try simp only [Act.put, pB, pC, pD]
                     refine et 6 (bl 8 127) rfl (fun w' hR => by go_simp; first | done | with_reducible rfl) rfl ?_
                     try simp only [Act.put, pB, pC, pD]
                     refine re_free (fuel := 0) 7 rfl (by kernel_rfl) (listed' := (bl 8 255)) (by kernel_rfl) (by kernel_rfl) (fun K' hK => ?_)
                     have hk4 : Keep (fun i => i = g ∨ gi < i) wa.drew w4 := ((HK3.out.mono (fun i _ h => .inl h)).trans (Keep.of_below ((Below.refl w3.heap.size w3).alloc (Nat.le_refl _) (.cells #[.int .i64 x] 3)))).trans (HK4.out.mono (fun i _ h => .inr h)); have hh := HC6.out w4 hk4; have x7 := cell_at hh 6 va rfl; have x8 := blk_frozen hh 6; have HKW := aM hk4; clear hk4 hh; go_wp2_with fail
                     refine hK.out _ _ trivial ?_
                     clear hK K'
                     try simp only [Act.put, pB, pC, pD]
                     refine re_done (by kernel_rfl) ?_
                     have hrd : Rq w4 g b (sBelow 4096 (sReps i' s5).2).2 := HD4.out.keep HK4.out (fun e => by have := HGG.out; omega) (fun e => by have := HJ.out.hb; have := HJ.out.base; omega)
                     have HIN := aM (show QS 92 wi (w4.setCell ⟨gi, 6, none⟩ (.slice A4 m4 c4)) g b gi (sBelow 4096 (sReps i' s5).2).2 #[.int .u8 k, .int .u8 op, .int .i64 d, .int .i64 a, .int .i64 bb, .int .i64 nn, .slice A4 m4 c4] from (HJ.out.drew.move HKW.out hrd).set 6 (.slice A4 m4 c4))
                     have HRN := aM (show kI.R 3 (w4.setCell ⟨gi, 6, none⟩ (.slice A4 m4 c4)) (gi + 1) (fun k => gi < k) (.slice A4 m4 c4) (xs ++ [x]) from Kd.R_step HO4.out (fun k hk hl => Below.heap_setCell _ _ _ _ (show k ≠ gi by omega)))
                     have HSR := aM (show args ++ (sReps (i' + 1) s5).1 = xs ++ [x] by rw [sReps, HX.out, ← HXS.out, List.append_assoc])
                     clear hrd
                     go_wp2
                     go_roundw
                     case rel => exact ⟨i' + 1, by omega, by go_num, .slice A4 m4 c4, HIN, ⟨by rw [HSR.out]; exact HRN.out⟩⟩
                     case measure => simp [intOf]; omega
                   · obtain rfl : i' = C := by omega
                     have hal2 : (args ++ (sReps i' s5).1).length ≤ 3 * (j + 1) := by rw [List.length_append, reps_len]; omega
                     have HAL2 := aM hal2
                     clear hal2
                     go_wp2
                     go_roundw
                     case rel => exact ⟨j + 1, by omega, by go_num, op, d, a, bb, nn, args ++ (sReps i' s5).1, (sReps i' s5).2, va, HFN, HJ, HV, HAL2.out⟩
                     case measure => simp [intOf]; omega
              · obtain rfl : j = (namesA k).size := by omega
                have HIN := aM (show sIns si = ((k, op, d, a, bb, nn, args), sj) from by
                 have h : sIns si = sBody k s3 := by
                  unfold sIns
                  rw [HKK.out, if_pos hk8]
                 rw [h, ← HFD.out, ← HNL.out, List.take_length]
                 rfl)
                have HNI := aM (show sInss (i + 1) s2 = (is ++ [(k, op, d, a, bb, nn, args)], sj) from by rw [inss_succ (by rw [HS.out.1]; exact HCS.out), HS.out.1, HS.out.2, HIN.out])
                have hil : is.length ≤ 1000 := by rw [HLI.out]; omega
                obtain ⟨Av, cv, hv, -, -⟩ := Kd.R_reads HVA.out
                obtain ⟨mv, hmv⟩ : ∃ m, args.length = m := ⟨_, rfl⟩
                rw [hmv] at hv
                subst hv
                clear hmv
                have x0 := (HJ.out.cell 0 _ rfl).1
                have x1 := (HJ.out.cell 1 _ rfl).1
                have x2 := (HJ.out.cell 2 _ rfl).1
                have x3 := (HJ.out.cell 3 _ rfl).1
                have x4 := (HJ.out.cell 4 _ rfl).1
                have x5 := (HJ.out.cell 5 _ rfl).1
                have x6 := (HJ.out.cell 6 _ rfl).1
                have HBG := aM ((HJ.out.keep.block wo.heap.size HIL.out (fun e => by have e : wo.heap.size = g := e; have := HGL.out.1; omega)).trans HI.out.bx)
                have b0 := cell_at HBG.out 0 _ rfl
                have HVJ := aM (Kd.R_step HV.out (fun k hk hl => HJ.out.keep.block k hl (fun e => by have e : k = g := e; have := HGL.out.1; omega)))
                have HGI := aM (show wo.heap.size < gi ∧ g < gi ∧ b < gi from by have := HIL.out; have := HZ2.out; have := HSZ.out; omega)
                go_wp2_with (first | ((with_reducible refine gate_builtin (b := .append) (xs := #[.tmp 126, .tmp 128]) rfl ?_); at_builtin; refine Kd.R_append kIns (w0 := wj) (wo.heap.size + 1) rfl (.tmp 126) (.tmp 128) 79 92 (.agg #[.int .u8 0, .int .u8 0, .int .i64 0, .int .i64 0, .int .i64 0, .int .i64 0, .slice none 0 0]) 64 rfl Try.underlying79 infoIns rfl (show 0 < 7 by decide) (by decide) vv is (k, op, d, a, bb, nn, args) [.int .u8 k, .int .u8 op, .int .i64 d, .int .i64 a, .int .i64 bb, .int .i64 nn, .slice Av mv cv] (fun k => wo.heap.size < k) (fun k => gi < k) rfl rfl (ins_M (Kd.R_lower HVA.out (by have := HGI.out.1; omega))) (fun k hk => ⟨Nat.lt_trans HGI.out.1 hk, fun e => absurd ((Kd.R_bound HV.out).1 k e.symm).2.2.1 (by have := HZ2.out; omega)⟩) (fun k hk => Nat.lt_of_lt_of_le HIL.out (Nat.le_trans HJ.out.keep.size hk)) HVJ.out (Below.refl _ _) (Nat.le_trans (Nat.succ_le_of_lt HIL.out) HJ.out.keep.size) (ins_fits hil) ?_; intro v4 w4 ho4 hb4 hg4 hat4; obtain ⟨A4, c4, hv4, -, -⟩ := Kd.R_reads ho4; obtain ⟨m4, hm4⟩ : ∃ m4, (is ++ [(k, op, d, a, bb, nn, args)]).length = m4 := ⟨_, rfl⟩; rw [hm4] at hv4; subst hv4; clear hm4; have HO4 := aM ho4; have HK4 := aM (show Keep (fun i => wo.heap.size < i) wj w4 from grown_keep hg4 (fun i hi => HVJ.out.1 i hi)); have HB4 := aM ((HK4.out.block wo.heap.size (Nat.lt_of_lt_of_le HIL.out HJ.out.keep.size) (fun e => by omega)).trans HBG.out); have c0 := cell_at HB4.out 0 _ rfl; have z0 := blk_frozen HB4.out 0; clear ho4 hb4 hg4 hat4 x0 x1 x2 x3 x4 x5 x6 b0))
                have HQ5 := aM (show QS 84 wo (w4.setCell ⟨wo.heap.size, 0, none⟩ (.slice A4 m4 c4)) g b wo.heap.size sj #[.slice A4 m4 c4, .int .u8 0, .int .i64 0, .int .i64 0, .int .i64 0] from (HI.out.move ((HJ.out.keep.mono (fun i _ h => .inl h)).trans (HK4.out.mono (fun i _ h => .inr h))) (HJ.out.rd.keep HK4.out (fun e => by have := HGL.out; omega) (fun e => by have := HGL.out; omega))).set 0 (.slice A4 m4 c4))
                have HR5 := aM (show kIns.R 92 (w4.setCell ⟨wo.heap.size, 0, none⟩ (.slice A4 m4 c4)) (wo.heap.size + 1) (fun k => wo.heap.size < k) (.slice A4 m4 c4) (is ++ [(k, op, d, a, bb, nn, args)]) from Kd.R_step HO4.out (fun k hk hl => Below.heap_setCell _ _ _ _ (show k ≠ wo.heap.size by omega)))
                go_roundw
                case rel => exact ⟨i + 1, by omega, by go_num, .slice A4 m4 c4, _, sj, HQ5, HR5, ⟨by rw [List.length_append, HLI.out]; rfl⟩, ⟨by rw [HNI.out], by rw [HNI.out]⟩⟩
                case measure => simp [intOf]; omega
           · have HSI := aM (show sIns si = ((k, 0, 0, 0, 0, 0, []), sFail 20 s3) from by
              unfold sIns
              rw [HKK.out, if_neg hk8])
             have HGI := aM (show wo.heap.size < gi ∧ g < gi ∧ b < gi from by have := HIL.out; have := HZ2.out; have := HSZ.out; omega)
             obtain ⟨sR, hsR⟩ : ∃ sR, sFail 20 s3 = sR := ⟨_, rfl⟩
             have hcR : sR.2 ≠ 0 := by rw [← hsR]; exact fail_ne 20 (by decide) s3
             have HSR := aM (show (sInss m s2).2 = sR ∧ (sR.2 = 0 → (sInss m s2).1 = is) from by
              have h1 : (sInss (i + 1) s2).2 = sR := by rw [inss_succ (by rw [HS.out.1]; exact HCS.out), HS.out.1, HSI.out]; exact hsR
              have h2 := inss_stuck (n := i + 1) (m := m) (s := s2) (by rw [h1]; exact hcR) (by omega)
              rw [h2]
              exact ⟨h1, fun h => absurd h hcR⟩)
             have HSRE := aM hsR
             have hcn : (sR.2 == 0) = false := beq_eq_false_iff_ne.mpr hcR
             have hcn2 : (sR.2 != 0) = true := bne_iff_ne.mpr hcR
             have HQB := aM (show ∀ W', Keep (· = g) wi W' → Rq W' g b sR → QB wo W' g b wo.heap.size sR #[vv, .int .u8 0, .int .i64 0, .int .i64 0, .int .i64 0] vv is from fun W' hk hr => (QB.mk HI.out HV.out).step hk hr)
             by_cases h30 : s3.2 = 0
             · have d1 : decide (k < 1) = true ∨ (decide (k < 1) = false ∧ decide (8 < k) = true) := by
                rcases Int.lt_or_le k 1 with h | h
                · exact .inl (decide_eq_true h)
                · exact .inr ⟨decide_eq_false (by omega), decide_eq_true (by omega)⟩
               rw [h30] at qc
               clear h30 hcR hsR
               rcases d1 with d1 | ⟨d1, d2⟩
               all_goals
                go_wp2_with (go_at_call 128; refine (qs_fail HJ.out 20).mono ?_; rintro _ w2 ⟨rfl, hq, hk⟩; rw [HSRE.out] at hq; have HR := aM (HQB.out w2 (HJ.out.keep.trans hk) hq.rd); have qc := HR.out.q.rd.code; clear hq hk)
                go_meet
                exact ⟨vv, is, sR, HR, HSR⟩
             · have hs3 : sFail 20 s3 = s3 := fail_stuck _ _ h30
               rw [HSRE.out] at hs3
               subst hs3
               have HR := aM (HQB.out WB HJ.out.keep HJ.out.rd)
               clear hsR h30 hcR
               go_wp2
               go_meet
               exact ⟨vv, is, sR, HR, HSR⟩
         · have hcb0 : (si.2 == 0) = false := beq_eq_false_iff_ne.mpr hc
           have HSR := aM (show (sInss m s2).2 = si ∧ (si.2 = 0 → (sInss m s2).1 = is) from by
            have h2 := inss_stuck (n := i) (m := m) (s := s2) (by rw [HS.out.1]; exact hc) (by omega)
            rw [h2]
            exact ⟨HS.out.1, fun h => absurd h hc⟩)
           have HR := aM (QB.mk HI.out HV.out)
           clear hc
           go_wp2
           go_meet
           exact ⟨vv, is, si, HR, HSR⟩
       · obtain rfl : i = m := by omega
         have HSR := aM (show (sInss i s2).2 = si ∧ (si.2 = 0 → (sInss i s2).1 = is) from ⟨HS.out.1, fun _ => HS.out.2⟩)
         have HR := aM (QB.mk HI.out HV.out)
         go_wp2
         go_meet
         exact ⟨vv, is, si, HR, HSR⟩
    · have hcb : (sx.2 == 0) = false := beq_eq_false_iff_ne.mpr hc
      have HFN := aM (show (sBlkN most N s1) = (sBlkN most x s1) from blkN_stuck (by rw [HB.out.1]; exact hc) (by omega))
      have HCX := aM hc
      clear hc
      go_wp2
      go_returns
      exact ⟨_, bs, rfl, HO.out, fun h0 => absurd (by rw [HFN.out, HB.out.1] at h0; exact h0) HCX.out, by rw [HFN.out, HB.out.1]; exact HD.out, HK.out⟩
  · obtain rfl : x = N := by omega
    go_wp2
    go_returns
    exact ⟨_, bs, rfl, HO.out, fun h0 => (HB.out.2 (by rw [HB.out.1] at h0; exact h0)).symm, by rw [HB.out.1]; exact HD.out, HK.out⟩
end Go.Proofs.Ytnckonglodmfeaa.Ik
