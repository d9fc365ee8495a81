/- Contracts and plain facts that the statements' proofs use (part 6). -/
import Derived.Test.YtnckonglodmfeaaN1
import Derived.Test.YtnckonglodmfeaaN2
import Derived.Test.YtnckonglodmfeaaN3
import Derived.Test.YtnckonglodmfeaaN4
import Derived.Test.YtnckonglodmfeaaN5
import Derived.Handy
import Derived.Laws.StructEq
set_option linter.unusedVariables false
set_option linter.unusedSimpArgs false
namespace Go.Proofs.Ytnckonglodmfeaa.Ik
open Ls Lc Go.RowKit Go.Proofs.YtnckonglodmfeaaW.PrintWords Go.Proofs.YtnckonglodmfeaaW.PrintLast Go.Proofs.YtnckonglodmfeaaW.PrintMore B R S Is Js
structure BlkS (wo W : World) (g b gb : Nat) (s : St) (F : Array Value) : Prop where
 rd : Rd W g b s
 bx : W.heap[gb]? = some (.cells F 84 (0, 0))
 keep : Keep (· = g) wo W
 base : wo.heap.size ≤ gb
 hg : g < wo.heap.size
 hb : b < wo.heap.size
theorem BlkS.move {wo W W' : World} {g b gb : Nat} {s s' : St} {F : Array Value} (h : BlkS wo W g b gb s F) (hk : Keep (fun i => i = g ∨ gb < i) W W') (hr : Rd W' g b s') : BlkS wo W' g b gb s' F := by
 have h1 := h.hg
 have h2 := h.base
 exact ⟨hr, (hk.block gb (blk_lt h.bx) (fun e => by omega)).trans h.bx, h.keep.then hk (fun i hi e => by omega), h2, h1, h.hb⟩
theorem BlkS.step {wo W W' : World} {g b gb : Nat} {s s' : St} {F : Array Value} (h : BlkS wo W g b gb s F) (hk : Keep (· = g) W W') (hr : Rd W' g b s') : BlkS wo W' g b gb s' F := h.move (hk.mono (fun i _ e => .inl e)) hr
theorem BlkS.set {wo W : World} {g b gb : Nat} {s : St} {F : Array Value} (h : BlkS wo W g b gb s F) (j : Nat) (x : Value) : BlkS wo (W.setCell ⟨gb, j, none⟩ x) g b gb s (F.setIfInBounds j x) := by
 have h1 := h.hg
 have h2 := h.base
 have h3 := h.hb
 have hk : Keep (· = gb) W (W.setCell ⟨gb, j, none⟩ x) := (Keep.refl _ _).setCell ⟨gb, j, none⟩ x (fun _ => rfl)
 exact ⟨h.rd.keep hk (by omega) (by omega), heap_setCell_same W gb j F _ _ h.bx, h.keep.setCell _ _ (fun hh => by have hh : gb < wo.heap.size := hh; omega), h2, h1, h3⟩
theorem BlkS.drew {wo W : World} {g b gb : Nat} {s : St} {F : Array Value} (h : BlkS wo W g b gb s F) : BlkS wo W.drew g b gb s F := ⟨⟨h.rd.1, h.rd.2⟩, h.bx, h.keep.drew, h.base, h.hg, h.hb⟩
theorem BlkS.cell {wo W : World} {g b gb : Nat} {s : St} {F : Array Value} (h : BlkS wo W g b gb s F) (j : Nat) (x : Value) (hx : F[j]? = some x) : W.cell? ⟨gb, j, none⟩ = some x ∧ W.frozen? ⟨gb, j, none⟩ = false := ⟨cell_at h.bx j x hx, blk_frozen h.bx j⟩
theorem ins_M {w : World} {base : Nat} {ok : Nat → Prop} {k op d a b n : Int} {args : List Int} {v : Value} (h : kI.R 3 w base ok v args) : kIns.M w base ok (k, op, d, a, b, n, args) [.int .u8 k, .int .u8 op, .int .i64 d, .int .i64 a, .int .i64 b, .int .i64 n, v] :=
 ⟨[_], _, rfl, rfl, [_], _, rfl, rfl, [_], _, rfl, rfl, [_], _, rfl, rfl, [_], _, rfl, rfl, [_], _, rfl, rfl, v, rfl, h⟩
theorem blk_M {w : World} {base : Nat} {ok : Nat → Prop} {k a t e : Int} {l : List Ins} {v : Value} (h : kIns.R 92 w base ok v l) : kBlk.M w base ok (l, k, a, t, e) [v, .int .u8 k, .int .i64 a, .int .i64 t, .int .i64 e] :=
 ⟨[_], _, rfl, ⟨v, rfl, h⟩, [_], _, rfl, rfl, [_], _, rfl, rfl, [_], _, rfl, rfl, rfl⟩
theorem ins_fits {n : Nat} (h : n ≤ 1000) : (n + 1) * 64 ≤ 140737488355328 := by omega
theorem blk_fits {n : Nat} (h : n ≤ 1000) : (n + 1) * 56 ≤ 140737488355328 := by omega
theorem keep_of_below {N : Nat} {w w' : World} (h : Below N w w') : Keep (fun i => N ≤ i) w w' := ⟨h.os, h.tape, h.output, h.size, fun k _ hs => h.block k (Nat.lt_of_not_le hs)⟩
set_option maxHeartbeats 4000000 in
set_option maxRecDepth 100000 in
theorem wread_blocks (g b : Nat) (s : St) (most : Int) (w : World) (h : Rd w g b s) (hg : g < w.heap.size) (hm0 : 0 ≤ most) (hm1 : most ≤ 400) :
 Calls Try.prog 95 #[.pointer (some ⟨g, 0, none⟩), .int .i64 most] w fun e w' => ∃ v bs, e = .returned v ∧ kBlk.R 84 w' w.heap.size (fun _ => True) v bs ∧ ((sBlks most s).2.2 = 0 → bs = (sBlks most s).1) ∧ Rd w' g b (sBlks most s).2 ∧ Keep (· = g) w w' := by
 have mixed : Try.prog.follows .mixedOrders = true := by kernel_rfl
 have H := aM h
 have hr17 := below_range (m := 17) (by decide) h.2.1
 have HP := aM (below_pos (m := 17) (s := s))
 obtain ⟨N, hN⟩ : ∃ N : Nat, (sBelow 17 s).1 = (N : Int) := ⟨(sBelow 17 s).1.toNat, by omega⟩
 obtain ⟨s1, hs1⟩ : ∃ s1, (sBelow 17 s).2 = s1 := ⟨_, rfl⟩
 have hN16 : N ≤ 16 := by omega
 rw [show sBlks most s = sBlkN most N s1 by unfold sBlks; rw [hN, hs1]; rfl]
 have HN := aM hN
 have HS1 := aM hs1
 clear h hr17 hN hs1
 go_enter Try.func95, Try.ntmps95
 go_wp2_with (go_at_call 46; refine (rd_below g b s 17 _ H.out (by decide) (by decide)).mono ?_; rintro _ w1 ⟨rfl, hd, hk, -⟩; rw [HS1.out] at hd; rw [HN.out]; have HD := aM hd; have HK := aM hk; clear hd hk)
 have HC0 := aM (show 0 < N → s1.2 = 0 from fun h => by rw [← HS1.out]; exact HP.out (by rw [HN.out]; omega))
 go_loopw [5, 9] (fun vo vi wr => ∃ x : Nat, x ≤ N ∧ vi = .int .i64 x ∧ ∃ bs, Aside0 (kBlk.R 84 wr w.heap.size (fun _ => True) vo bs) ∧ Aside0 (Rd wr g b (sBlkN most x s1).2) ∧ Aside0 ((sBlkN most x s1).1 = bs ∧ (x < N → (sBlkN most x s1).2.2 = 0)) ∧ Aside0 (Keep (· = g) w wr)) (fun _ vi _ => N - (intOf vi).toNat)
 case atStart => exact ⟨0, by omega, rfl, [], ⟨Kd.R_nil _ _ _ _ _⟩, HD, ⟨rfl, HC0.out⟩, HK⟩
 case round =>
  clear HD HK
  obtain ⟨wo, hwo⟩ : ∃ wo, wo = wr := ⟨_, rfl⟩
  subst hwo
  obtain ⟨x, hx, rfl, bs, HO, HD, HB, HK⟩ := hrel
  by_cases hxN : x < N
  · obtain ⟨sx, hsx⟩ : ∃ sx, (sBlkN most x s1).2 = sx := ⟨_, rfl⟩
    have hc := HB.out.2 hxN
    rw [hsx] at hc
    have HNX := aM (show sBlkN most (x + 1) s1 = (bs ++ [(sBlk most sx).1], (sBlk most sx).2) by rw [blkN_succ (by rw [hsx]; exact hc), hsx, HB.out.1])
    have hbl : bs.length ≤ 16 := by rw [← HB.out.1]; exact Nat.le_trans (blkN_len _ _ _) (by omega)
    rw [hsx] at HD
    have hby := HD.out.2.1
    have hrm := below_range (m := most + 1) (by omega) hby
    obtain ⟨m, hm⟩ : ∃ m : Nat, (sBelow (most + 1) sx).1 = (m : Int) := ⟨(sBelow (most + 1) sx).1.toNat, by omega⟩
    obtain ⟨s2, hs2⟩ : ∃ s2, (sBelow (most + 1) sx).2 = s2 := ⟨_, rfl⟩
    have hm4 : m ≤ 400 := by omega
    have HSB := aM (show sBlk most sx = (((sInss m s2).1, (sEnd (sInss m s2).2).1), (sEnd (sInss m s2).2).2) by rw [blk_eq, hm, hs2]; rfl)
    have HM := aM hm
    have HS2 := aM hs2
    have hwrap := wrap_i64 (most + 1) (by omega) (by omega)
    have HGL := aM (show g < wo.heap.size ∧ b < wo.heap.size from ⟨HD.out.1.lt, HD.out.2.2⟩)
    clear hsx hc hby hrm hm hs2
    go_wp2_with (go_at_call 46; refine (rd_below g b sx (most + 1) _ (HD.out.below ((Below.refl _ _).alloc (Nat.le_refl _) _)) (by omega) (by omega)).mono ?_; rintro _ w1 ⟨rfl, hd, hk, -⟩; rw [HS2.out] at hd; rw [HM.out]; have HD2 := aM hd; have HK2 := aM hk; clear hd hk)
    have HI0 := aM (show BlkS wo w1 g b wo.heap.size s2 #[.slice none 0 0, .int .u8 0, .int .i64 0, .int .i64 0, .int .i64 0] from ⟨HD2.out, (HK2.out.block wo.heap.size (by rw [World.size_alloc]; omega) (fun e => by have e : wo.heap.size = g := e; have := HGL.out.1; omega)).trans (heap_alloc_new _ _), ((Keep.refl (· = g) wo).alloc _).trans HK2.out, Nat.le_refl _, HGL.out.1, HGL.out.2⟩)
    clear HD2 HK2
    go_loopw [15] (fun vi wi => ∃ i : Nat, i ≤ m ∧ vi = .int .i64 i ∧ ∃ vv is, Aside0 (BlkS wo wi g b wo.heap.size (sInss i s2).2 #[vv, .int .u8 0, .int .i64 0, .int .i64 0, .int .i64 0]) ∧ Aside0 (kIns.R 92 wi (wo.heap.size + 1) (fun k => wo.heap.size < k) vv is) ∧ Aside0 ((sInss i s2).1 = is)) (fun vi _ => m - (intOf vi).toNat)
    case atStart => exact ⟨0, by omega, rfl, .slice none 0 0, [], HI0, ⟨Kd.R_nil _ _ _ _ _⟩, ⟨rfl⟩⟩
    case round =>
     clear HI0
     obtain ⟨wi, hwi⟩ : ∃ wi, wi = wr := ⟨_, rfl⟩
     subst hwi
     obtain ⟨i, hi, rfl, vv, is, HI, HV, HS⟩ := hrel
     by_cases him : i < m
     · obtain ⟨si, hsi⟩ : ∃ si, (sInss i s2).2 = si := ⟨_, rfl⟩
       have HSI := aM hsi
       rw [hsi] at HI
       clear hsi
       by_cases hc : si.2 = 0
       · obtain ⟨⟨k, op, d, a, bb, nn, args⟩, s', hx⟩ : ∃ x s', sIns si = (x, s') := ⟨_, _, rfl⟩
         have HNI := aM (show sInss (i + 1) s2 = (is ++ [(k, op, d, a, bb, nn, args)], s') by rw [inss_succ (by rw [HSI.out]; exact hc), HSI.out, HS.out, hx])
         have hil : is.length ≤ 1000 := by rw [← HS.out]; exact Nat.le_trans (inss_len _ _) (by omega)
         have HX := aM hx
         have HL := aM (blk_lt HI.out.bx)
         have HCD := aM hc
         have HC0' := aM (show ∀ W', Keep (fun i => i = g ∨ wo.heap.size < i) wi.drew W' → W'.heap[wo.heap.size]? = some (.cells #[vv, .int .u8 0, .int .i64 0, .int .i64 0, .int .i64 0] 84 (0, 0)) from fun W' h => (h.block wo.heap.size (blk_lt HI.out.bx) (fun e => by have := HI.out.hg; omega)).trans HI.out.bx)
         clear hx hc
         go_wp2_with (go_at_call 99; refine (rd_code g b si _ HI.out.rd).mono ?_; rintro _ _ ⟨rfl, rfl⟩; rw [HCD.out])
         refine re_start [7] (fun i => i = g ∨ wo.heap.size < i) (by kernel_rfl) (n := 8) (l := (bl 8 0)) (by kernel_rfl) (by kernel_rfl) ?_
         refine et 0 (bl 8 1) rfl (fun w' hR => by go_simp; first | done | with_reducible rfl) rfl ?_
         try simp only [Act.put, pB, pC, pD]
         refine et 1 (bl 8 3) rfl (fun w' hR => by have x0 := cell_at (HC0'.out w' hR) 0 vv rfl; go_simp; first | done | with_reducible rfl) rfl ?_
         try simp only [Act.put, pB, pC, pD]
         refine et 2 (bl 8 7) rfl (fun w' hR => by go_simp; first | done | with_reducible rfl) rfl ?_
         try simp only [Act.put, pB, pC, pD]
         refine re_step (fuel := 4) 3 rfl (by kernel_rfl) (listed' := (bl 8 15)) (by kernel_rfl) (by kernel_rfl) (fun K' hK => ?_)
         go_wp2_with (go_at_call 126; refine (wread_ins g b si wi.drew HI.out.drew.rd (HI.out.drew.rd.1.lt)).mono ?_; rintro _ w3 ⟨va, rfl, hra, hd, hk⟩; rw [HX.out] at hra hd ⊢; simp only [insVal]; obtain ⟨Aa, ca, hva, -, -⟩ := Kd.R_reads hra; subst hva; have HRA := aM hra; have HD3 := aM hd; have HK3 := aM hk; clear hra hd hk)
         refine hK.out _ _ (HK3.out.mono (fun i _ h => .inl h)) ?_
         clear hK K'
         try simp only [Act.put, pB, pC, pD]
         refine re_step (fuel := 3) 4 rfl (by kernel_rfl) (listed' := (bl 8 31)) (by kernel_rfl) (by kernel_rfl) (fun K' hK => ?_)
         (go_wp2_with fail)
         refine hK.out _ _ (Keep.of_below ((Below.refl w3.heap.size w3).alloc (Nat.le_refl _) (.cells #[.int .u8 k, .int .u8 op, .int .i64 d, .int .i64 a, .int .i64 bb, .int .i64 nn, .slice Aa args.length ca] 92))) ?_
         clear hK K'
         try simp only [Act.put, pB, pC, pD]
         refine re_step (fuel := 2) 5 rfl (by kernel_rfl) (listed' := (bl 8 63)) (by kernel_rfl) (by kernel_rfl) (fun K' hK => ?_)
         refine R_append_wp kIns (W := w3) (wo.heap.size + 1) (.tmp 21) (.tmp 24) 79 92 (.agg #[.int .u8 0, .int .u8 0, .int .i64 0, .int .i64 0, .int .i64 0, .int .i64 0, .slice none 0 0]) 64 rfl Try.underlying79 infoIns rfl (show 0 < 7 by decide) (by decide) vv is (k, op, d, a, bb, nn, args) [.int .u8 k, .int .u8 op, .int .i64 d, .int .i64 a, .int .i64 bb, .int .i64 nn, .slice Aa args.length ca] (fun k => wo.heap.size < k) (fun k => wi.heap.size ≤ k) rfl rfl (ins_M (Kd.R_lower (Kd.R_mono (Kd.R_bound HRA.out) (fun k hk => hk.2.1)) (Nat.succ_le_of_lt HL.out))) (fun k hk => ⟨Nat.lt_of_lt_of_le HL.out hk, fun e => absurd ((Kd.R_bound HV.out).1 k e.symm).2.2.1 (Nat.not_lt.2 hk)⟩) (fun k hk => Nat.lt_of_lt_of_le HL.out (Nat.le_trans HK3.out.size hk)) (Kd.R_step HV.out (fun k hk hl => HK3.out.block k hl (fun e => by have e : k = g := e; have := HI.out.hg; omega))) (Nat.le_trans (Nat.succ_le_of_lt HL.out) HK3.out.size) (ins_fits hil) ?_; intro v4 w4 ho4 hg4 hg4' hat4; obtain ⟨A4, c4, hv4, -, -⟩ := Kd.R_reads ho4; obtain ⟨m4, hm4⟩ : ∃ m4, (is ++ [(k, op, d, a, bb, nn, args)]).length = m4 := ⟨_, rfl⟩; rw [hm4] at hv4; subst hv4; clear hm4; have HO4 := aM ho4; have HK4 := aM (show Keep (fun i => wo.heap.size < i) (w3.alloc (.cells #[.int .u8 k, .int .u8 op, .int .i64 d, .int .i64 a, .int .i64 bb, .int .i64 nn, .slice Aa args.length ca] 92)) w4 from grown_keep hg4' (fun i hi => HV.out.1 i hi)); clear ho4 hg4 hg4' hat4
         refine hK.out _ _ (HK4.out.mono (fun i _ h => .inr h)) ?_
         clear hK K'
         try simp only [Act.put, pB, pC, pD]
         refine et 6 (bl 8 127) rfl (fun w' hR => by go_simp; first | done | with_reducible rfl) rfl ?_
         try simp only [Act.put, pB, pC, pD]
         refine re_free (fuel := 0) 7 rfl (by kernel_rfl) (listed' := (bl 8 255)) (by kernel_rfl) (by kernel_rfl) (fun K' hK => ?_)
         have hal : Below w3.heap.size w3 (w3.alloc (.cells #[.int .u8 k, .int .u8 op, .int .i64 d, .int .i64 a, .int .i64 bb, .int .i64 nn, .slice Aa args.length ca] 92)) := (Below.refl _ _).alloc (Nat.le_refl _) _; have hk4 : Keep (fun i => i = g ∨ wo.heap.size < i) wi.drew w4 := ((HK3.out.mono (fun i _ h => .inl h)).trans (Keep.of_below hal)).trans (HK4.out.mono (fun i _ h => .inr h)); have hh := HC0'.out w4 hk4; have x7 := cell_at hh 0 vv rfl; have x8 := blk_frozen hh 0; have HKW := aM hk4; have HRD4 := aM ((HD3.out.below hal).keep HK4.out (fun e => by have := HI.out.hg; omega) (fun e => by have := HI.out.hb; omega)); clear hk4 hh hal; go_wp2_with fail
         refine hK.out _ _ trivial ?_
         clear hK K'
         try simp only [Act.put, pB, pC, pD]
         refine re_done (by kernel_rfl) ?_
         have hin := (HI.out.drew.move HKW.out HRD4.out).set 0 (.slice A4 m4 c4)
         have HIN := aM (show BlkS wo (w4.setCell ⟨wo.heap.size, 0, none⟩ (.slice A4 m4 c4)) g b wo.heap.size s' #[.slice A4 m4 c4, .int .u8 0, .int .i64 0, .int .i64 0, .int .i64 0] from hin)
         have HRN := aM (show kIns.R 92 (w4.setCell ⟨wo.heap.size, 0, none⟩ (.slice A4 m4 c4)) (wo.heap.size + 1) (fun k => wo.heap.size < k) (.slice A4 m4 c4) (is ++ [(k, op, d, a, bb, nn, args)]) from Kd.R_step HO4.out (fun k hk hl => Below.heap_setCell _ _ _ _ (show k ≠ wo.heap.size by omega)))
         clear hin
         go_wp2
         go_roundw
         case rel => exact ⟨i + 1, by omega, by go_num, .slice A4 m4 c4, _, ⟨by rw [HNI.out]; exact HIN.out⟩, ⟨HRN.out⟩, ⟨by rw [HNI.out]⟩⟩
         case measure => simp [intOf]; omega
       · have hcb : (si.2 == 0) = false := beq_eq_false_iff_ne.mpr hc
         have HNI := aM (show sInss (i + 1) s2 = (is, si) by rw [sInss, if_neg (by rw [HSI.out]; exact hc), ← HS.out, ← HSI.out])
         clear hc
         go_wp2_with (go_at_call 99; refine (rd_code g b si _ HI.out.rd).mono ?_; rintro _ _ ⟨rfl, rfl⟩)
         go_roundw
         case rel => exact ⟨i + 1, by omega, by go_num, vv, is, ⟨by rw [HNI.out]; exact HI.out⟩, HV, ⟨by rw [HNI.out]⟩⟩
         case measure => simp [intOf]; omega
     · obtain rfl : i = m := by omega
       obtain ⟨⟨k, a, tt, ee⟩, s4, he⟩ : ∃ x s', sEnd (sInss i s2).2 = (x, s') := ⟨_, _, rfl⟩
       have HE := aM he
       have HNY := aM (show sBlkN most (x + 1) s1 = (bs ++ [(is, k, a, tt, ee)], s4) by rw [HNX.out, HSB.out, he, HS.out])
       obtain ⟨Av, cv, hv, -, -⟩ := Kd.R_reads HV.out
       obtain ⟨mv, hmv⟩ : ∃ m, is.length = m := ⟨_, rfl⟩
       rw [hmv] at hv
       subst hv
       clear he hmv
       by_cases hc : s4.2 = 0
       · have HCD := aM hc
         clear hc
         go_wp2_with (first
          | (go_at_call 127; refine (wread_end g b _ _ HI.out.rd HI.out.rd.1.lt).mono ?_; rintro _ w5 ⟨rfl, hd, hk⟩; rw [HE.out] at hd ⊢; simp only [endV]; have HI5 := aM (HI.out.step hk hd); have HK5 := aM hk; obtain ⟨y1, z1⟩ := HI5.out.cell 1 _ rfl; obtain ⟨y2, z2⟩ := HI5.out.cell 2 _ rfl; obtain ⟨y3, z3⟩ := HI5.out.cell 3 _ rfl; obtain ⟨y4, z4⟩ := HI5.out.cell 4 _ rfl; clear hd hk)
          | (go_at_call 99; have HI6 := aM ((((HI5.out.set 1 (.int .u8 k)).set 2 (.int .i64 a)).set 3 (.int .i64 tt)).set 4 (.int .i64 ee)); refine (rd_code g b s4 _ HI6.out.rd).mono ?_; rintro _ w6 ⟨rfl, hw6⟩; rw [HCD.out]; have HK6 := aM (show Keep (· = wo.heap.size) w5 w6 from by rw [← hw6]; exact ((((Keep.refl (fun i => i = wo.heap.size) w5).setCell ⟨wo.heap.size, 1, none⟩ (.int .u8 k) (fun _ => rfl)).setCell ⟨wo.heap.size, 2, none⟩ (.int .i64 a) (fun _ => rfl)).setCell ⟨wo.heap.size, 3, none⟩ (.int .i64 tt) (fun _ => rfl)).setCell ⟨wo.heap.size, 4, none⟩ (.int .i64 ee) (fun _ => rfl)); rw [hw6] at HI6; clear y1 y2 y3 y4 z1 z2 z3 z4; have x0 := (HI6.out.cell 0 _ rfl).1; have x1 := (HI6.out.cell 1 _ rfl).1; have x2 := (HI6.out.cell 2 _ rfl).1; have x3 := (HI6.out.cell 3 _ rfl).1; have x4 := (HI6.out.cell 4 _ rfl).1)
          | ((with_reducible refine gate_builtin (b := .append) (xs := #[.tmp 34, .tmp 36]) rfl ?_); at_builtin; refine Kd.R_append kBlk (w0 := w6) w.heap.size rfl (.tmp 34) (.tmp 36) 23 84 (.agg #[.slice none 0 0, .int .u8 0, .int .i64 0, .int .i64 0, .int .i64 0]) 56 rfl Try.underlying23 infoBlk rfl (show 0 < 5 by decide) (by decide) u5 bs (is, k, a, tt, ee) [.slice Av mv cv, .int .u8 k, .int .i64 a, .int .i64 tt, .int .i64 ee] (fun _ => True) (fun k => wo.heap.size < k) rfl rfl (blk_M (Kd.R_lower (Kd.R_step HV.out (fun k hk hl => (HK6.out.block k (Nat.lt_of_lt_of_le hl HK5.out.size) (fun e => by have e : k = wo.heap.size := e; omega)).trans (HK5.out.block k hl (fun e => by have e : k = g := e; have := HGL.out.1; omega)))) (Nat.le_succ_of_le HK.out.size))) (fun k hk => ⟨trivial, fun e => absurd ((Kd.R_bound HO.out).1 k e.symm).2.2.1 (by omega)⟩) (fun _ _ => trivial) (Kd.R_mono (Kd.R_step (Kd.R_mono (Kd.R_bound HO.out) (ok' := fun k => w.heap.size ≤ k) (fun k hk => hk.2.1)) (fun k hk hl => HI6.out.keep.block k hl (fun e => by have e : k = g := e; omega))) (fun _ _ => trivial)) (Below.refl _ _) (Nat.le_trans HK.out.size HI6.out.keep.size) (blk_fits (by omega)) ?_; intro v7 w7 ho7 hb7 hg7 hat7; have HO7 := aM ho7; have HB7 := aM hb7; clear ho7 hb7 hg7 hat7))
         go_roundw
         case rel => exact ⟨x + 1, by omega, by go_num, _, HO7, ⟨by rw [HNY.out]; exact HI6.out.rd.keep (keep_of_below HB7.out) (by omega) (by have := H.out.2.2; omega)⟩, ⟨by rw [HNY.out], fun _ => by rw [HNY.out]; exact HCD.out⟩, ⟨(HK.out.trans HI6.out.keep).then (keep_of_below HB7.out) (fun i h1 h2 => by omega)⟩⟩
         case measure => simp [intOf]; omega
       · have HCD := aM hc
         have hcn : (s4.2 != 0) = true := bne_iff_ne.mpr hc
         have hcb : (s4.2 == 0) = false := beq_eq_false_iff_ne.mpr hc
         have HFN := aM (show (sBlkN most N s1) = (sBlkN most (x + 1) s1) from blkN_stuck (by rw [HNY.out]; exact hc) (by omega))
         clear hc
         go_wp2_with (first
          | (go_at_call 127; refine (wread_end g b _ _ HI.out.rd HI.out.rd.1.lt).mono ?_; rintro _ w5 ⟨rfl, hd, hk⟩; rw [HE.out] at hd ⊢; simp only [endV]; have HI5 := aM (HI.out.step hk hd); have HK5 := aM hk; obtain ⟨y1, z1⟩ := HI5.out.cell 1 _ rfl; obtain ⟨y2, z2⟩ := HI5.out.cell 2 _ rfl; obtain ⟨y3, z3⟩ := HI5.out.cell 3 _ rfl; obtain ⟨y4, z4⟩ := HI5.out.cell 4 _ rfl; clear hd hk)
          | (go_at_call 99; have HI6 := aM ((((HI5.out.set 1 (.int .u8 k)).set 2 (.int .i64 a)).set 3 (.int .i64 tt)).set 4 (.int .i64 ee)); refine (rd_code g b s4 _ HI6.out.rd).mono ?_; rintro _ w6 ⟨rfl, hw6⟩; skip; have HK6 := aM (show Keep (· = wo.heap.size) w5 w6 from by rw [← hw6]; exact ((((Keep.refl (fun i => i = wo.heap.size) w5).setCell ⟨wo.heap.size, 1, none⟩ (.int .u8 k) (fun _ => rfl)).setCell ⟨wo.heap.size, 2, none⟩ (.int .i64 a) (fun _ => rfl)).setCell ⟨wo.heap.size, 3, none⟩ (.int .i64 tt) (fun _ => rfl)).setCell ⟨wo.heap.size, 4, none⟩ (.int .i64 ee) (fun _ => rfl)); rw [hw6] at HI6; clear y1 y2 y3 y4 z1 z2 z3 z4; have x0 := (HI6.out.cell 0 _ rfl).1; have x1 := (HI6.out.cell 1 _ rfl).1; have x2 := (HI6.out.cell 2 _ rfl).1; have x3 := (HI6.out.cell 3 _ rfl).1; have x4 := (HI6.out.cell 4 _ rfl).1))
         go_returns
         exact ⟨.slice none 0 0, [], rfl, Kd.R_nil _ _ _ _ _, fun h0 => absurd (by rw [HFN.out, HNY.out] at h0; exact h0) HCD.out, by rw [HFN.out, HNY.out]; exact HI6.out.rd, HK.out.trans HI6.out.keep⟩
  · obtain rfl : x = N := by omega
    go_wp2
    go_returns
    exact ⟨_, bs, rfl, HO.out, fun _ => HB.out.1.symm, HD.out, HK.out⟩
end Go.Proofs.Ytnckonglodmfeaa.Ik
namespace Go.Proofs.Ytnckonglodmfeaa.Ik
open Ls Lc Go.RowKit Go.Proofs.YtnckonglodmfeaaW.PrintWords Go.Proofs.YtnckonglodmfeaaW.PrintLast Go.Proofs.YtnckonglodmfeaaW.PrintMore B R S Is Js
def FunRet (w' : World) (base : Nat) (x : Fun × Int) (e : Ending) : Prop :=
 ∃ p v vb bs, e = .returned (.tuple #[.agg #[.int .i64 p, .int .i64 v, vb], .int .i64 x.2]) ∧ kBlk.R 84 w' base (fun _ => True) vb bs ∧ ((x.2 = 0 ∧ x.1 = (p, v, bs)) ∨ (x.2 ≠ 0 ∧ p = 0 ∧ v = 0 ∧ bs = []))
theorem put3 {W : World} {g e : Nat} {u0 u1 u2 : Value} (h : W.heap[g]? = some (.cells #[u0, u1, u2] e (0, 0))) (x0 x1 x2 : Value) :
 (((W.setCell ⟨g, 0, none⟩ x0).setCell ⟨g, 1, none⟩ x1).setCell ⟨g, 2, none⟩ x2).heap[g]? = some (.cells #[x0, x1, x2] e (0, 0)) := by
 have a0 := blk_put h 0 x0 (show _ = #[x0, u1, u2] from rfl)
 have a1 := blk_put a0 1 x1 (show _ = #[x0, x1, u2] from rfl)
 exact blk_put a1 2 x2 rfl
theorem put3_far {W : World} {g : Nat} (x0 x1 x2 : Value) : Keep (fun i => i = g) W (((W.setCell ⟨g, 0, none⟩ x0).setCell ⟨g, 1, none⟩ x1).setCell ⟨g, 2, none⟩ x2) := by
 have a0 := (Keep.refl (fun i => i = g) W).setCell ⟨g, 0, none⟩ x0 (fun _ => rfl)
 have a1 := a0.setCell ⟨g, 1, none⟩ x1 (fun _ => rfl)
 exact a1.setCell ⟨g, 2, none⟩ x2 (fun _ => rfl)
theorem size_set (W : World) (p : Addr) (u : Value) : (W.setCell p u).heap.size = W.heap.size := by simp [World.setCell]
theorem rd_end (g b : Nat) (s : St) (w : World) (h : Rd w g b s) :
 Calls Try.prog 50 #[.pointer (some ⟨g, 0, none⟩)] w fun e w' => e = .returned (.int .i64 (ended s.1 s.2)) ∧ Keep (· = g) w w' ∧ w'.heap.size = w.heap.size := by
 refine (end_calls g b s.1 s.2 w h.1).mono ?_
 rintro e w' ⟨h1, h2, h3, h4⟩
 exact ⟨h1, h3, h4⟩
theorem keep_below {S : Nat → Prop} {N : Nat} {w w' : World} (h : Keep S w w') (hN : N ≤ w.heap.size) (hS : ∀ i, S i → N ≤ i) : Below N w w' := h.below hN (fun i hi hs => by have := hS i hs; omega)
structure RfS (w0 W : World) (g b gb : Nat) (s : St) (F : Array Value) : Prop where
 rd : Rd W g b s
 res : W.heap[w0.heap.size]? = some (.cells #[.int .i64 0, .int .i64 0, .slice none 0 0] 25 (0, 0))
 bx : W.heap[gb]? = some (.cells F 25 (0, 0))
 below : Below w0.heap.size w0 W
 hg : w0.heap.size + 1 ≤ g
 hb : w0.heap.size + 1 ≤ b
 hgb : g < gb
 hbb : b < gb
theorem RfS.step {w0 W W' : World} {g b gb : Nat} {s s' : St} {F : Array Value} (h : RfS w0 W g b gb s F) (hk : Keep (· = g) W W') (hr : Rd W' g b s') : RfS w0 W' g b gb s' F := by
 have h1 := h.hg
 have h2 := h.hgb
 have hs := h.below.size
 exact ⟨hr, (hk.block _ (blk_lt h.res) (fun e => by have e : w0.heap.size = g := e; omega)).trans h.res, (hk.block gb (blk_lt h.bx) (fun e => by have e : gb = g := e; omega)).trans h.bx, h.below.trans (keep_below hk hs (fun i e => by have e : i = g := e; omega)), h1, h.hb, h2, h.hbb⟩
structure RfK (w0 W : World) (gb : Nat) (F : Array Value) : Prop where
 res : W.heap[w0.heap.size]? = some (.cells #[.int .i64 0, .int .i64 0, .slice none 0 0] 25 (0, 0))
 bx : W.heap[gb]? = some (.cells F 25 (0, 0))
 below : Below w0.heap.size w0 W
 hgb : w0.heap.size < gb
theorem RfK.step {w0 W W' : World} {gb : Nat} {F : Array Value} (h : RfK w0 W gb F) (hk : Below W.heap.size W W') : RfK w0 W' gb F :=
 ⟨(hk.block _ (blk_lt h.res)).trans h.res, (hk.block _ (blk_lt h.bx)).trans h.bx, h.below.trans (hk.mono h.below.size), h.hgb⟩
theorem RfS.stepK {w0 W W' : World} {g b gb : Nat} {s : St} {F : Array Value} (h : RfS w0 W g b gb s F) (hk : Keep (· = g) W W') (hs : W'.heap.size = W.heap.size) : RfK w0 W' gb F := by
 have h1 := h.hg
 have h2 := h.hgb
 have hz := h.below.size
 exact ⟨(hk.block _ (blk_lt h.res) (fun e => by have e : w0.heap.size = g := e; omega)).trans h.res, (hk.block gb (blk_lt h.bx) (fun e => by have e : gb = g := e; omega)).trans h.bx, h.below.trans (keep_below hk hz (fun i e => by have e : i = g := e; omega)), by omega⟩
theorem RfS.set {w0 W : World} {g b gb : Nat} {s : St} {F : Array Value} (h : RfS w0 W g b gb s F) (j : Nat) (x : Value) : RfS w0 (W.setCell ⟨gb, j, none⟩ x) g b gb s (F.setIfInBounds j x) := by
 have h1 := h.hg
 have h2 := h.hgb
 have h3 := h.hbb
 have hk : Keep (· = gb) W (W.setCell ⟨gb, j, none⟩ x) := (Keep.refl _ _).setCell ⟨gb, j, none⟩ x (fun _ => rfl)
 have ho : ∀ i, i ≠ gb → (W.setCell ⟨gb, j, none⟩ x).heap[i]? = W.heap[i]? := fun i hi => Below.heap_setCell _ _ _ _ hi
 exact ⟨h.rd.keep hk (by omega) (by omega), (ho _ (by omega)).trans h.res, heap_setCell_same W gb j F _ _ h.bx, h.below.setCell (by show w0.heap.size ≤ gb; omega) _, h1, h.hb, h2, h3⟩
theorem RfK.cells {w0 W : World} {gb : Nat} {F : Array Value} {x0 x1 x2 : Value} (h : RfK w0 W gb F) (hF : F = #[x0, x1, x2]) :
 W.cell? ⟨gb, 0, none⟩ = some x0 ∧ W.cell? ⟨gb, 1, none⟩ = some x1 ∧ W.cell? ⟨gb, 2, none⟩ = some x2 ∧ W.frozen? ⟨gb, 2, none⟩ = false ∧ W.cell? ⟨w0.heap.size, 0, none⟩ = some (.int .i64 0) ∧ W.cell? ⟨w0.heap.size, 1, none⟩ = some (.int .i64 0) ∧ W.cell? ⟨w0.heap.size, 2, none⟩ = some (.slice none 0 0) ∧ W.frozen? ⟨w0.heap.size, 0, none⟩ = false ∧ W.frozen? ⟨w0.heap.size, 1, none⟩ = false ∧ W.frozen? ⟨w0.heap.size, 2, none⟩ = false := by
 subst hF
 exact ⟨cell_at h.bx 0 _ rfl, cell_at h.bx 1 _ rfl, cell_at h.bx 2 _ rfl, blk_frozen h.bx 2, cell_at h.res 0 _ rfl, cell_at h.res 1 _ rfl, cell_at h.res 2 _ rfl, blk_frozen h.res 0, blk_frozen h.res 1, blk_frozen h.res 2⟩
theorem RfS.cells {w0 W : World} {g b gb : Nat} {s : St} {F : Array Value} {x0 x1 x2 : Value} (h : RfS w0 W g b gb s F) (hF : F = #[x0, x1, x2]) :
 W.cell? ⟨gb, 0, none⟩ = some x0 ∧ W.cell? ⟨gb, 1, none⟩ = some x1 ∧ W.cell? ⟨gb, 2, none⟩ = some x2 ∧ W.frozen? ⟨gb, 2, none⟩ = false ∧ W.cell? ⟨w0.heap.size, 0, none⟩ = some (.int .i64 0) ∧ W.cell? ⟨w0.heap.size, 1, none⟩ = some (.int .i64 0) ∧ W.cell? ⟨w0.heap.size, 2, none⟩ = some (.slice none 0 0) ∧ W.frozen? ⟨w0.heap.size, 0, none⟩ = false ∧ W.frozen? ⟨w0.heap.size, 1, none⟩ = false ∧ W.frozen? ⟨w0.heap.size, 2, none⟩ = false :=
 RfK.cells (h := ⟨h.res, h.bx, h.below, by have := h.hg; have := h.hgb; omega⟩) hF
set_option maxHeartbeats 4000000 in
set_option maxRecDepth 100000 in
theorem wread_func (A : Option Addr) (c : Nat) (l : List Int) (w : World) (hC : kU8.C w A l.length l) (hll : l.length ≤ 1000000) (hby : By l) :
 Calls Try.prog 51 #[.slice A l.length c] w fun e w' => FunRet w' w.heap.size (sFun l) e ∧ Below w.heap.size w w' := by
 have mixed : Try.prog.follows .mixedOrders = true := by kernel_rfl
 have hff := fault_field
 have HC := aM hC
 have HBY := aM hby
 obtain ⟨p, s1, hp⟩ : ∃ p s1, sBelow 4096 (l, 0) = (p, s1) := ⟨_, _, rfl⟩
 obtain ⟨v, s2, hv⟩ : ∃ v s2, sBelow 4096 s1 = (v, s2) := ⟨_, _, rfl⟩
 obtain ⟨B, s3, hB⟩ : ∃ B s3, sBlks 32 s2 = (B, s3) := ⟨_, _, rfl⟩
 obtain ⟨E, hE⟩ : ∃ E, ended s3.1 s3.2 = E := ⟨_, rfl⟩
 have hF : sFun l = ((p, v, B), if E = 0 then (if funcErr (p, v, B) = 0 then 0 else 30) else E) := by
  unfold sFun
  simp only [hp, hv, hB, hE]
 have HCD := aM (show E = 0 → s3.2 = 0 from fun h => by
  rw [← hE] at h
  unfold ended failed at h
  by_cases h1 : 0 < s3.1.length
  · rw [if_pos h1] at h
    by_cases h2 : s3.2 = 0
    · exact h2
    · rw [if_neg h2] at h; exact h
  · rwa [if_neg h1] at h)
 have HBL := aM (show B.length ≤ 16 from by
  have h1 : sBlks 32 s2 = sBlkN 32 (sBelow 17 s2).1.toNat (sBelow 17 s2).2 := rfl
  have h2 := blkN_len 32 (sBelow 17 s2).1.toNat (sBelow 17 s2).2
  rw [← h1, hB] at h2
  have hby2 : By s2.1 := by
   have a := sbelow_by (m := 4096) (s := (l, 0)) hby
   rw [hp] at a
   have a := sbelow_by (m := 4096) (s := s1) a
   rw [hv] at a
   exact a
  have h3 := below_range (m := 17) (by decide) hby2
  simp only at h2
  omega)
 obtain ⟨X, hX⟩ : ∃ X : Int, (if E = 0 then (if funcErr (p, v, B) = 0 then 0 else 30) else E) = X := ⟨_, rfl⟩
 rw [hX] at hF
 rw [hF]
 have HXX := aM hX
 clear hX
 have HP := aM hp
 have HV := aM hv
 have HB := aM hB
 have HE := aM hE
 clear hC hby hp hv hB hE hF
 go_enter Try.func51, Try.ntmps51
 go_upto_region 3 with (first
  | (go_at_call 93; refine (new_calls A c l _ (Kd.C_alloc HC.out _) (by omega)).mono ?_; rintro _ w1 ⟨g, b, rfl, hr, hb, hg1, hb1, hb2⟩; have HD := aM (show Rd w1 g b (l, 0) from ⟨hr, HBY.out, hb2⟩); have HK := aM (Keep.refl (· = g) w1); have HW1 := aM hb; have HG := aM (And.intro hg1 hb1); clear hr hb hg1 hb1 hb2)
  | (go_at_call 46; refine (rd_below g b _ 4096 _ HD.out (by decide) (by decide)).mono ?_; rintro _ w2 ⟨rfl, hd, hk, -⟩; (first | rw [HP.out] at hd ⊢; clear HP | rw [HV.out] at hd ⊢); have HKn := aM (HK.out.trans hk); clear HK HD; have HK := HKn; have HD := aM hd; clear hd hk HKn))
 obtain ⟨hg1, hb1⟩ := HG.out
 rw [World.size_alloc] at hg1 hb1
 have hgl := HD.out.1.lt
 have hbl := HD.out.2.2
 have hkw : Below (w.heap.size + 1) w1 w2 := keep_below HK.out (by have := HW1.out.size; rw [World.size_alloc] at this; exact this) (fun i e => by have e : i = g := e; omega)
 have hw2 : Below (w.heap.size + 1) (w.alloc (.cells #[.int .i64 0, .int .i64 0, .slice none 0 0] 25)) w2 := by
  have h := HW1.out
  rw [World.size_alloc] at h
  exact h.trans hkw
 have HI := aM (show RfS w (w2.alloc (.cells #[.int .i64 p, .int .i64 v, .slice none 0 0] 25)) g b w2.heap.size s2 #[.int .i64 p, .int .i64 v, .slice none 0 0] from
  ⟨HD.out.below ((Below.refl _ _).alloc (Nat.le_refl _) _), (((Below.refl (w.heap.size + 1) w2).alloc (by omega) _).block _ (by omega)).trans ((hw2.block _ (by omega)).trans (heap_alloc_new _ _)), heap_alloc_new _ _, (((Below.refl w.heap.size w).alloc (Nat.le_refl _) _).trans (hw2.mono (by omega))).alloc (by omega) _, by omega, by omega, by omega, by omega⟩)
 clear HD HK HW1 HG hkw hw2
 obtain ⟨gb, hgb⟩ : ∃ gb, w2.heap.size = gb := ⟨_, rfl⟩
 rw [hgb] at HI hgl hbl ⊢
 obtain ⟨WB, hWB⟩ : ∃ WB, WB = w2.alloc (.cells #[.int .i64 p, .int .i64 v, .slice none 0 0] 25) := ⟨_, rfl⟩
 rw [← hWB] at HI ⊢
 clear hWB hgb
 obtain ⟨q0, q1, q2, z2, y0, y1, y2, v0, v1, v2⟩ := HI.out.cells rfl
 go_upto_region 5 with (first
  | (go_at_call 95; refine (wread_blocks g b s2 32 _ HI.out.rd HI.out.rd.1.lt (by decide) (by decide)).mono ?_; rintro _ w5 ⟨vb, bs, rfl, hr, hbs, hd, hk⟩; obtain ⟨Ab, cb, hvb, hlb, hCb⟩ := Kd.R_reads hr; obtain ⟨nb, hnb⟩ : ∃ n, bs.length = n := ⟨_, rfl⟩; rw [hnb] at hvb hlb hCb; subst hvb; rw [HB.out] at hbs hd; have HLW := aM (blk_lt HI.out.bx); have HI5 := aM (HI.out.step hk hd); have HR := aM hr; have HBS := aM hbs; have HNB := aM hnb; have HCB := aM hCb; have HRK := aM hk; clear HI; clear q0 q1 q2 z2 y0 y1 y2 v0 v1 v2; obtain ⟨q0, q1, q2, z2, y0, y1, y2, v0, v1, v2⟩ := HI5.out.cells rfl; clear hr hbs hd hk hnb hCb)
  | (go_at_call 50; have HI6 := aM (HI5.out.set 2 (.slice Ab nb cb)); refine (rd_end g b s3 _ HI6.out.rd).mono ?_; rintro _ w6 ⟨rfl, hk, hs⟩; rw [HE.out]; have HI7 := aM (HI6.out.stepK hk hs); have HK7 := aM hk; clear q0 q1 q2 z2 y0 y1 y2 v0 v1 v2 hk hs; obtain ⟨q0, q1, q2, z2, y0, y1, y2, v0, v1, v2⟩ := HI7.out.cells rfl))
 obtain rfl := HNB.out
 have HR6 := aM (show kBlk.R 84 w6 w.heap.size (fun k => gb < k) (.slice Ab bs.length cb) bs from by
  have hz := HI7.out.hgb
  refine Kd.R_lower (Kd.R_step (Kd.R_mono (Kd.R_bound HR.out) (ok' := fun k => gb < k) (fun k hk => by have := hk.2.1; have := HLW.out; omega)) (fun k hk hl => (HK7.out.block k (by rw [size_set]; exact hl) (fun e => by have e : k = g := e; omega)).trans (Below.heap_setCell _ _ _ _ (by show k ≠ gb; omega)))) (by have := HLW.out; omega))
 have HC6 := aM (show kBlk.C w6 Ab bs.length bs from by
  obtain ⟨A', c', e, -, hC⟩ := Kd.R_reads HR6.out
  injection e with e1 e2 e3
  subst e1
  exact hC)
 clear HR HCB HK7 HRK HLW HI6 HNB
 by_cases hE0 : E = 0
 · subst hE0
   have hbs : bs = B := HBS.out (HCD.out rfl)
   subst hbs
   have hl16 := HBL.out
   obtain ⟨FE, hFE⟩ : ∃ FE, funcErr (p, v, bs) = FE := ⟨_, rfl⟩
   have HFE := aM hFE
   clear hFE
   by_cases hF0 : FE = 0
   · subst hF0
     go_wp2_with (first | (go_at_call 85; refine (check_calls p v bs Ab cb _ HC6.out (by omega)).mono ?_; rintro _ w7 ⟨⟨x9, y9, rfl⟩, hb⟩; rw [HFE.out]; have HI8 := aM (HI7.out.step hb); have HB7 := aM hb; clear q0 q1 q2 z2 y0 y1 y2 v0 v1 v2 hb; obtain ⟨q0, q1, q2, z2, y0, y1, y2, v0, v1, v2⟩ := HI8.out.cells rfl))
     have rr := HI8.out.res; have p0 := fun x0 x1 x2 => cell_at (put3 rr x0 x1 x2) 0 _ rfl; have p1 := fun x0 x1 x2 => cell_at (put3 rr x0 x1 x2) 1 _ rfl; have p2 := fun x0 x1 x2 => cell_at (put3 rr x0 x1 x2) 2 _ rfl; (try simp only [Exit.inBlock, Exit.then]); refine bodyPost_ret (by simp [results, Try.results51, go_sem, p0, p1, p2]; try rfl) rfl ?_
     refine ⟨?_, HI8.out.below.trans (keep_below (put3_far _ _ _) HI8.out.below.size (fun i e => by omega))⟩
     rw [show X = 0 from by rw [← HXX.out]; simp [HFE.out]]
     refine ⟨p, v, _, bs, rfl, Kd.R_mono (Kd.R_step (Kd.R_below HR6.out HB7.out) (fun k hk hl => (put3_far _ _ _).block k hl (fun e => by have := HI8.out.hgb; omega))) (fun _ _ => trivial), .inl ⟨rfl, rfl⟩⟩
   · have hcn : (FE != 0) = true := bne_iff_ne.mpr hF0
     have hcb : (FE == 0) = false := beq_eq_false_iff_ne.mpr hF0
     have HF0 := aM hF0
     clear hF0
     go_wp2_with (first | (go_at_call 85; refine (check_calls p v bs Ab cb _ HC6.out (by omega)).mono ?_; rintro _ w7 ⟨⟨x9, y9, rfl⟩, hb⟩; rw [HFE.out]; have HI8 := aM (HI7.out.step hb); have HB7 := aM hb; clear q0 q1 q2 z2 y0 y1 y2 v0 v1 v2 hb; obtain ⟨q0, q1, q2, z2, y0, y1, y2, v0, v1, v2⟩ := HI8.out.cells rfl))
     have rr := HI8.out.res; have p0 := fun x0 x1 x2 => cell_at (put3 rr x0 x1 x2) 0 _ rfl; have p1 := fun x0 x1 x2 => cell_at (put3 rr x0 x1 x2) 1 _ rfl; have p2 := fun x0 x1 x2 => cell_at (put3 rr x0 x1 x2) 2 _ rfl; (try simp only [Exit.inBlock, Exit.then]); refine bodyPost_ret (by simp [results, Try.results51, go_sem, p0, p1, p2]; try rfl) rfl ?_
     refine ⟨?_, HI8.out.below.trans (keep_below (put3_far _ _ _) HI8.out.below.size (fun i e => by omega))⟩
     rw [show X = 30 from by rw [← HXX.out]; simp [HFE.out, HF0.out]]
     exact ⟨0, 0, _, [], rfl, Kd.R_nil _ _ _ _ _, .inr ⟨(by decide : (30 : Int) ≠ 0), rfl, rfl, rfl⟩⟩
 · have hcn : (E != 0) = true := bne_iff_ne.mpr hE0
   have hcb : (E == 0) = false := beq_eq_false_iff_ne.mpr hE0
   have HE0 := aM hE0
   have HI8 := HI7
   clear hE0
   go_wp2
   have rr := HI8.out.res; have p0 := fun x0 x1 x2 => cell_at (put3 rr x0 x1 x2) 0 _ rfl; have p1 := fun x0 x1 x2 => cell_at (put3 rr x0 x1 x2) 1 _ rfl; have p2 := fun x0 x1 x2 => cell_at (put3 rr x0 x1 x2) 2 _ rfl; (try simp only [Exit.inBlock, Exit.then]); refine bodyPost_ret (by simp [results, Try.results51, go_sem, p0, p1, p2]; try rfl) rfl ?_
   refine ⟨?_, HI8.out.below.trans (keep_below (put3_far _ _ _) HI8.out.below.size (fun i e => by omega))⟩
   rw [show X = E from by rw [← HXX.out]; exact if_neg HE0.out]
   exact ⟨0, 0, _, [], rfl, Kd.R_nil _ _ _ _ _, .inr ⟨HE0.out, rfl, rfl, rfl⟩⟩
end Go.Proofs.Ytnckonglodmfeaa.Ik
namespace Go.Proofs.Ytnckonglodmfeaa.Ik
open Ls Lc Go.RowKit Go.Proofs.YtnckonglodmfeaaW.PrintWords Go.Proofs.YtnckonglodmfeaaW.PrintLast Go.Proofs.YtnckonglodmfeaaW.PrintMore B R S Is Js Gs Gc
def AskRet (w' : World) (base : Nat) (x : Ask × Int) (e : Ending) : Prop :=
 ∃ j n r p v vb bs, e = .returned (.tuple #[.agg #[.int .i64 j, .int .u64 n, .int .i64 r, .int .i64 p, .int .i64 v, vb], .int .i64 x.2]) ∧ kBlk.R 84 w' base (fun _ => True) vb bs ∧ x.1 = (j, n, r, p, v, bs)
structure Tk (w0 W : World) (gb : Nat) (F : Array Value) : Prop where
 res : W.heap[w0.heap.size]? = some (.cells #[.int .i64 0, .int .u64 0, .int .i64 0, .int .i64 0, .int .i64 0, .slice none 0 0] 27 (0, 0))
 bx : W.heap[gb]? = some (.cells F 27 (0, 0))
 below : Below w0.heap.size w0 W
 hgb : w0.heap.size < gb
theorem Tk.keep {w0 W W' : World} {gb : Nat} {F : Array Value} {S : Nat → Prop} (h : Tk w0 W gb F) (hk : Keep S W W') (h1 : ¬ S w0.heap.size) (h2 : ¬ S gb) (h3 : ∀ i, S i → w0.heap.size ≤ i) : Tk w0 W' gb F :=
 ⟨(hk.block _ (blk_lt h.res) h1).trans h.res, (hk.block _ (blk_lt h.bx) h2).trans h.bx, h.below.trans (keep_below hk h.below.size h3), h.hgb⟩
theorem Tk.grow {w0 W W' : World} {gb : Nat} {F : Array Value} (h : Tk w0 W gb F) (hb : Below W.heap.size W W') : Tk w0 W' gb F := h.keep (S := fun _ => False) (Keep.of_below hb) id id (fun _ => False.elim)
theorem Tk.set {w0 W : World} {gb : Nat} {F : Array Value} (h : Tk w0 W gb F) (j : Nat) (x : Value) : Tk w0 (W.setCell ⟨gb, j, none⟩ x) gb (F.setIfInBounds j x) := by
 have h1 := h.hgb
 exact ⟨(Below.heap_setCell _ _ _ _ (show w0.heap.size ≠ gb by omega)).trans h.res, heap_setCell_same W gb j F _ _ h.bx, h.below.setCell (by show w0.heap.size ≤ gb; omega) _, h1⟩
theorem Tk.cells {w0 W : World} {gb : Nat} {F : Array Value} {x0 x1 x2 x3 x4 x5 : Value} (h : Tk w0 W gb F) (hF : F = #[x0, x1, x2, x3, x4, x5]) :
 (W.cell? ⟨gb, 0, none⟩ = some x0 ∧ W.cell? ⟨gb, 1, none⟩ = some x1 ∧ W.cell? ⟨gb, 2, none⟩ = some x2 ∧ W.cell? ⟨gb, 3, none⟩ = some x3 ∧ W.cell? ⟨gb, 4, none⟩ = some x4 ∧ W.cell? ⟨gb, 5, none⟩ = some x5) ∧ (∀ j, W.frozen? ⟨gb, j, none⟩ = false) ∧
 (W.cell? ⟨w0.heap.size, 0, none⟩ = some (.int .i64 0) ∧ W.cell? ⟨w0.heap.size, 1, none⟩ = some (.int .u64 0) ∧ W.cell? ⟨w0.heap.size, 2, none⟩ = some (.int .i64 0) ∧ W.cell? ⟨w0.heap.size, 3, none⟩ = some (.int .i64 0) ∧ W.cell? ⟨w0.heap.size, 4, none⟩ = some (.int .i64 0) ∧ W.cell? ⟨w0.heap.size, 5, none⟩ = some (.slice none 0 0)) ∧ ∀ j, W.frozen? ⟨w0.heap.size, j, none⟩ = false := by
 subst hF
 exact ⟨⟨cell_at h.bx 0 _ rfl, cell_at h.bx 1 _ rfl, cell_at h.bx 2 _ rfl, cell_at h.bx 3 _ rfl, cell_at h.bx 4 _ rfl, cell_at h.bx 5 _ rfl⟩, fun j => blk_frozen h.bx j, ⟨cell_at h.res 0 _ rfl, cell_at h.res 1 _ rfl, cell_at h.res 2 _ rfl, cell_at h.res 3 _ rfl, cell_at h.res 4 _ rfl, cell_at h.res 5 _ rfl⟩, fun j => blk_frozen h.res j⟩
theorem put6 {W : World} {g e : Nat} {u0 u1 u2 u3 u4 u5 : Value} (h : W.heap[g]? = some (.cells #[u0, u1, u2, u3, u4, u5] e (0, 0))) (x0 x1 x2 x3 x4 x5 : Value) :
 ((((((W.setCell ⟨g, 0, none⟩ x0).setCell ⟨g, 1, none⟩ x1).setCell ⟨g, 2, none⟩ x2).setCell ⟨g, 3, none⟩ x3).setCell ⟨g, 4, none⟩ x4).setCell ⟨g, 5, none⟩ x5).heap[g]? = some (.cells #[x0, x1, x2, x3, x4, x5] e (0, 0)) := by
 have a0 := blk_put h 0 x0 (show _ = #[x0, u1, u2, u3, u4, u5] from rfl)
 have a1 := blk_put a0 1 x1 (show _ = #[x0, x1, u2, u3, u4, u5] from rfl)
 have a2 := blk_put a1 2 x2 (show _ = #[x0, x1, x2, u3, u4, u5] from rfl)
 have a3 := blk_put a2 3 x3 (show _ = #[x0, x1, x2, x3, u4, u5] from rfl)
 have a4 := blk_put a3 4 x4 (show _ = #[x0, x1, x2, x3, x4, u5] from rfl)
 exact blk_put a4 5 x5 rfl
theorem put6_far {W : World} {g : Nat} (x0 x1 x2 x3 x4 x5 : Value) : Keep (fun i => i = g) W ((((((W.setCell ⟨g, 0, none⟩ x0).setCell ⟨g, 1, none⟩ x1).setCell ⟨g, 2, none⟩ x2).setCell ⟨g, 3, none⟩ x3).setCell ⟨g, 4, none⟩ x4).setCell ⟨g, 5, none⟩ x5) := by
 have a0 := (Keep.refl (fun i => i = g) W).setCell ⟨g, 0, none⟩ x0 (fun _ => rfl)
 have a1 := a0.setCell ⟨g, 1, none⟩ x1 (fun _ => rfl)
 have a2 := a1.setCell ⟨g, 2, none⟩ x2 (fun _ => rfl)
 have a3 := a2.setCell ⟨g, 3, none⟩ x3 (fun _ => rfl)
 have a4 := a3.setCell ⟨g, 4, none⟩ x4 (fun _ => rfl)
 exact a4.setCell ⟨g, 5, none⟩ x5 (fun _ => rfl)
theorem rd_num (g b : Nat) (s : St) (w : World) (h : Rd w g b s) :
 Calls Try.prog 47 #[.pointer (some ⟨g, 0, none⟩)] w fun e w' => e = .returned (.int .u64 (num s.1 s.2).1) ∧ Rd w' g b (num s.1 s.2).2 ∧ Keep (· = g) w w' ∧ w'.heap.size = w.heap.size := by
 refine (num_calls g b s.1 s.2 w h.1 h.2.1).mono ?_
 rintro e w' ⟨h1, h2, h3, h4⟩
 exact ⟨h1, ⟨h2, num_by s.1 s.2 h.2.1, by rw [h4]; exact h.2.2⟩, h3, h4⟩
theorem num_len (l : List Int) (c : Int) : (num l c).2.1.length ≤ l.length := num_left l c
theorem below_len (m : Int) (s : St) : (sBelow m s).2.1.length ≤ s.1.length := by
 have h := num_left s.1 s.2
 unfold sBelow below
 split
 · split
   · exact h
   · exact h
 · exact h
theorem zero6 {W : World} {g : Nat} (h : W.heap[g]? = some (.cells #[.int .i64 0, .int .u64 0, .int .i64 0, .int .i64 0, .int .i64 0, .slice none 0 0] 27 (0, 0))) : (W.cell? ⟨g, 0, none⟩ = some (.int .i64 0) ∧ W.cell? ⟨g, 1, none⟩ = some (.int .u64 0) ∧ W.cell? ⟨g, 2, none⟩ = some (.int .i64 0) ∧ W.cell? ⟨g, 3, none⟩ = some (.int .i64 0) ∧ W.cell? ⟨g, 4, none⟩ = some (.int .i64 0) ∧ W.cell? ⟨g, 5, none⟩ = some (.slice none 0 0)) ∧ ∀ j, W.frozen? ⟨g, j, none⟩ = false :=
 ⟨⟨cell_at h 0 _ rfl, cell_at h 1 _ rfl, cell_at h 2 _ rfl, cell_at h 3 _ rfl, cell_at h 4 _ rfl, cell_at h 5 _ rfl⟩, fun j => blk_frozen h j⟩
theorem readAsk_eq {b body : List Int} {oe : Int} (ho : openL 2 b = (body, oe)) {j n r : Int} {s1 s2 s3 : St} (h1 : sBelow 16 (body, 0) = (j, s1)) (h2 : num s1.1 s1.2 = (n, s2)) (h3 : sBelow 9 s2 = (r, s3)) {fx : Fun} {fe : Int} (hf : sFun s3.1 = (fx, fe)) :
 readAsk b = if oe ≠ 0 then (zeroAsk, oe) else if s3.2 ≠ 0 then (zeroAsk, s3.2) else if fe ≠ 0 then (zeroAsk, fe) else ((j, n, r, fx), 0) := by
 have hh : sHead (body, 0) = ((j, n, r), s3) := by simp only [sHead, h1, h2, h3]
 simp only [readAsk, ho, hh, hf]
set_option maxHeartbeats 4000000 in
set_option maxRecDepth 100000 in
theorem takeask_calls (A : Option Addr) (c : Nat) (b : List Int) (n0 : Nat) (hn : b.length = n0) (w : World) (hC : kU8.C w A n0 b) (hc : n0 ≤ c) (hby : By b) (hl : n0 ≤ 1000000) :
 Calls Try.prog 18 #[.slice A n0 c] w fun e w' => AskRet w' w.heap.size (readAsk b) e ∧ Below w.heap.size w w' := by
 have mixed : Try.prog.follows .mixedOrders = true := by kernel_rfl
 have HC := aM hC
 have HBY := aM hby
 have HN := aM hn
 obtain ⟨body, oe, ho⟩ : ∃ body oe, openL 2 b = (body, oe) := ⟨_, _, rfl⟩
 obtain ⟨j, s1, h1⟩ : ∃ j s1, sBelow 16 (body, 0) = (j, s1) := ⟨_, _, rfl⟩
 obtain ⟨n, s2, h2⟩ : ∃ n s2, num s1.1 s1.2 = (n, s2) := ⟨_, _, rfl⟩
 obtain ⟨r, s3, h3⟩ : ∃ r s3, sBelow 9 s2 = (r, s3) := ⟨_, _, rfl⟩
 obtain ⟨fx, fe, hf⟩ : ∃ fx fe, sFun s3.1 = (fx, fe) := ⟨_, _, rfl⟩
 rw [readAsk_eq ho h1 h2 h3 hf]
 have HO := aM ho
 have H1 := aM h1
 have H2 := aM h2
 have H3 := aM h3
 have HF := aM hf
 have HSZ := aM (World.size_alloc w (.cells #[.int .i64 0, .int .u64 0, .int .i64 0, .int .i64 0, .int .i64 0, .slice none 0 0] 27))
 have HA := aM (show Below w.heap.size w (w.alloc (.cells #[.int .i64 0, .int .u64 0, .int .i64 0, .int .i64 0, .int .i64 0, .slice none 0 0] 27)) from (Below.refl _ _).alloc (Nat.le_refl _) _)
 have HRES := aM (show ∀ W', Below (w.heap.size + 1) (w.alloc (.cells #[.int .i64 0, .int .u64 0, .int .i64 0, .int .i64 0, .int .i64 0, .slice none 0 0] 27)) W' → W'.heap[w.heap.size]? = some (.cells #[.int .i64 0, .int .u64 0, .int .i64 0, .int .i64 0, .int .i64 0, .slice none 0 0] 27 (0, 0)) from fun W' h => below_cells (h.mono (by rw [World.size_alloc]; exact Nat.le_refl _)))
 clear hC hby hn ho h1 h2 h3 hf
 by_cases hoe : oe = 0
 case neg =>
  rw [if_pos hoe]
  have hb1 : (oe == 0) = false := beq_eq_false_iff_ne.mpr hoe
  have hb2 : (oe != 0) = true := bne_iff_ne.mpr hoe
  have HOE := aM hoe
  clear hoe
  go_enter Try.func18, Try.ntmps18
  go_upto_region 3 with (go_at_call 45; refine (wopen_calls 2 A c b n0 HN.out _ (Kd.C_below HC.out HA.out) hc HBY.out hl).mono ?_; rintro _ w1 ⟨hr, hb⟩; rw [HO.out] at hr; have HB1 := aM (show Below (w.heap.size + 1) (w.alloc (.cells #[.int .i64 0, .int .u64 0, .int .i64 0, .int .i64 0, .int .i64 0, .slice none 0 0] 27)) w1 from hb.mono (by rw [HSZ.out]; exact Nat.le_refl _)); clear hb; rcases hr with ⟨-, rfl⟩ | ⟨h0, -⟩; rotate_left; (exact absurd h0 HOE.out); have hres := HRES.out w1 HB1.out)
  obtain ⟨⟨x0, x1, x2, x3, x4, x5⟩, xz⟩ := zero6 hres
  have HRS := aM hres
  clear hres
  go_wp2
  (have rr := HRS.out; have p0 := fun x0 x1 x2 x3 x4 x5 => cell_at (put6 rr x0 x1 x2 x3 x4 x5) 0 _ rfl; have p1 := fun x0 x1 x2 x3 x4 x5 => cell_at (put6 rr x0 x1 x2 x3 x4 x5) 1 _ rfl; have p2 := fun x0 x1 x2 x3 x4 x5 => cell_at (put6 rr x0 x1 x2 x3 x4 x5) 2 _ rfl; have p3 := fun x0 x1 x2 x3 x4 x5 => cell_at (put6 rr x0 x1 x2 x3 x4 x5) 3 _ rfl; have p4 := fun x0 x1 x2 x3 x4 x5 => cell_at (put6 rr x0 x1 x2 x3 x4 x5) 4 _ rfl; have p5 := fun x0 x1 x2 x3 x4 x5 => cell_at (put6 rr x0 x1 x2 x3 x4 x5) 5 _ rfl; (try simp only [Exit.inBlock, Exit.then]); refine bodyPost_ret (by simp [results, Try.results18, go_sem, p0, p1, p2, p3, p4, p5]; try rfl) rfl ?_)
  exact ⟨⟨0, 0, 0, 0, 0, _, [], rfl, Kd.R_nil _ _ _ _ _, rfl⟩, (HA.out.trans (HB1.out.mono (by omega))).trans (keep_below (put6_far _ _ _ _ _ _) (HA.out.trans (HB1.out.mono (by omega))).size (fun i e => by omega))⟩
 subst hoe
 rw [if_neg (by simp)]
 have HBB := aM (show By body ∧ body.length ≤ 1000000 from by
  have h1 := takeL_by HBY.out
  have h2 := takeL_len b
  have h3 := HO.out
  unfold openL at h3
  have h4 := HN.out
  repeat' split at h3
  all_goals (injection h3 with e1 e2; subst e1)
  all_goals first | exact ⟨fun x hx => (by cases hx), by simp⟩ | exact ⟨h1, by omega⟩)
 have hl3 : s3.1.length ≤ 1000000 := by
  have a1 := below_len 16 (body, 0)
  rw [H1.out] at a1
  have a2 := num_len s1.1 s1.2
  rw [H2.out] at a2
  have a3 := below_len 9 s2
  rw [H3.out] at a3
  have := HBB.out.2
  simp only at a1 a2 a3
  omega
 obtain ⟨X, hX⟩ : ∃ X : Ask × Int, (if s3.2 ≠ 0 then (zeroAsk, s3.2) else if fe ≠ 0 then (zeroAsk, fe) else ((j, n, r, fx), 0)) = X := ⟨_, rfl⟩
 rw [hX]
 have HXX := aM hX
 clear hX
 go_enter Try.func18, Try.ntmps18
 go_upto_region 4 with (go_at_call 45; refine (wopen_calls 2 A c b n0 HN.out _ (Kd.C_below HC.out HA.out) hc HBY.out hl).mono ?_; rintro _ w1 ⟨hr, hb⟩; rw [HO.out] at hr; have HB1 := aM (show Below (w.heap.size + 1) (w.alloc (.cells #[.int .i64 0, .int .u64 0, .int .i64 0, .int .i64 0, .int .i64 0, .slice none 0 0] 27)) w1 from hb.mono (by rw [HSZ.out]; exact Nat.le_refl _)); clear hb; rcases hr with ⟨h0, -⟩ | ⟨-, g, bb, rfl, hR, hBy, hg0, hg1, hb1, -⟩; (exact absurd rfl h0); have HD0 := aM (show Rd w1 g bb (body, 0) from ⟨hR, hBy, hb1⟩); have HG := aM (show w.heap.size + 1 ≤ g from by rw [HSZ.out] at hg0; exact hg0); clear hR hBy hg0 hg1 hb1)
 go_upto_region 5 with (first
  | (go_at_call 46; refine (rd_below g bb (body, 0) 16 _ HD0.out (by decide) (by decide)).mono ?_; rintro _ w2 ⟨rfl, hd, hk, -⟩; rw [H1.out] at hd ⊢; have HD1 := aM hd; have HK1 := aM hk; clear hd hk HD0)
  | (go_at_call 47; refine (rd_num g bb s1 _ HD1.out).mono ?_; rintro _ w3 ⟨rfl, hd, hk, -⟩; rw [H2.out] at hd ⊢; have HD2 := aM hd; have HK2 := aM (HK1.out.trans hk); clear hd hk HD1)
  | (go_at_call 46; refine (rd_below g bb s2 9 _ HD2.out (by decide) (by decide)).mono ?_; rintro _ w4 ⟨rfl, hd, hk, -⟩; rw [H3.out] at hd ⊢; have HD3 := aM hd; have HK3 := aM (HK2.out.trans hk); clear hd hk HD2))
 have hzg := HG.out
 have hb4 : Below (w.heap.size + 1) (w.alloc (.cells #[.int .i64 0, .int .u64 0, .int .i64 0, .int .i64 0, .int .i64 0, .slice none 0 0] 27)) w4 := HB1.out.trans (keep_below HK3.out (by have := HB1.out.size; rw [HSZ.out] at this; exact this) (fun i e => by have e : i = g := e; omega))
 have hz4 : w.heap.size + 1 ≤ w4.heap.size := by have := hb4.size; rw [HSZ.out] at this; exact this
 have HT := aM (show Tk w (w4.alloc (.cells #[.int .i64 j, .int .u64 n, .int .i64 r, .int .i64 0, .int .i64 0, .slice none 0 0] 27)) w4.heap.size #[.int .i64 j, .int .u64 n, .int .i64 r, .int .i64 0, .int .i64 0, .slice none 0 0] from
  ⟨HRES.out _ (hb4.alloc hz4 _), heap_alloc_new _ _, (HA.out.trans (hb4.mono (by omega))).alloc (by omega) _, by omega⟩)
 have HD := aM (show Rd (w4.alloc (.cells #[.int .i64 j, .int .u64 n, .int .i64 r, .int .i64 0, .int .i64 0, .slice none 0 0] 27)) g bb s3 from HD3.out.below ((Below.refl _ _).alloc (Nat.le_refl _) _))
 have hgl := HD3.out.1.lt
 obtain ⟨gb, hgb⟩ : ∃ gb, w4.heap.size = gb := ⟨_, rfl⟩
 rw [hgb] at HT hgl ⊢
 obtain ⟨W, hW⟩ : ∃ W, W = w4.alloc (.cells #[.int .i64 j, .int .u64 n, .int .i64 r, .int .i64 0, .int .i64 0, .slice none 0 0] 27) := ⟨_, rfl⟩
 rw [← hW] at HT HD ⊢
 clear hW hgb hz4 hb4 HD3 HK1 HK2 HK3 HB1
 obtain ⟨⟨q0, q1, q2, q3, q4, q5⟩, qz, ⟨x0, x1, x2, x3, x4, x5⟩, xz⟩ := HT.out.cells rfl
 by_cases hs3 : s3.2 = 0
 case neg =>
  have HXE := aM (show X = (zeroAsk, s3.2) from by rw [← HXX.out]; exact if_pos hs3)
  have htk : takes (s3.1.length : Int) s3.1 s3.2 = ([], s3.1, s3.2) := if_neg hs3
  have hend : ended s3.1 s3.2 = s3.2 := by unfold ended failed; rw [if_neg hs3]; split <;> rfl
  have HTK := aM htk
  have HEN := aM hend
  have hb1 : (s3.2 == 0) = false := beq_eq_false_iff_ne.mpr hs3
  have hb2 : (s3.2 != 0) = true := bne_iff_ne.mpr hs3
  clear hs3 htk hend
  go_wp2_with (first
   | (go_at_call 49; refine (left_calls g bb s3.1 s3.2 _ HD.out.1).mono ?_; rintro _ _ ⟨rfl, rfl⟩)
   | (go_at_call 48; refine (bytes_calls g bb s3.1 s3.2 _ _ HD.out.1 HD.out.2.2 (by omega)).mono ?_; rintro _ w5 ⟨v5, rfl, hv5, hr5, hk5⟩; rw [HTK.out] at hv5 hr5; obtain ⟨A5, c5, rfl, -, -⟩ := Kd.R_reads hv5; have HT5 := aM (HT.out.keep hk5 (fun e => by have e : w.heap.size = g := e; omega) (fun e => by have e : gb = g := e; omega) (fun i e => by have e : i = g := e; omega)); have HD5 := aM (show Rdr 170 w5 g bb s3.1 s3.2 from hr5); clear hv5 hr5 hk5 q0 q1 q2 q3 q4 q5 qz x0 x1 x2 x3 x4 x5 xz)
   | (go_at_call 50; refine (end_calls g bb s3.1 s3.2 _ HD5.out).mono ?_; rintro _ w6 ⟨rfl, -, hk6, -⟩; rw [HEN.out]; have HT6 := aM (HT5.out.keep hk6 (fun e => by have e : w.heap.size = g := e; omega) (fun e => by have e : gb = g := e; omega) (fun i e => by have e : i = g := e; omega)); clear hk6; obtain ⟨⟨q0, q1, q2, q3, q4, q5⟩, qz, ⟨x0, x1, x2, x3, x4, x5⟩, xz⟩ := HT6.out.cells rfl))
  (have rr := HT6.out.res; have p0 := fun x0 x1 x2 x3 x4 x5 => cell_at (put6 rr x0 x1 x2 x3 x4 x5) 0 _ rfl; have p1 := fun x0 x1 x2 x3 x4 x5 => cell_at (put6 rr x0 x1 x2 x3 x4 x5) 1 _ rfl; have p2 := fun x0 x1 x2 x3 x4 x5 => cell_at (put6 rr x0 x1 x2 x3 x4 x5) 2 _ rfl; have p3 := fun x0 x1 x2 x3 x4 x5 => cell_at (put6 rr x0 x1 x2 x3 x4 x5) 3 _ rfl; have p4 := fun x0 x1 x2 x3 x4 x5 => cell_at (put6 rr x0 x1 x2 x3 x4 x5) 4 _ rfl; have p5 := fun x0 x1 x2 x3 x4 x5 => cell_at (put6 rr x0 x1 x2 x3 x4 x5) 5 _ rfl; (try simp only [Exit.inBlock, Exit.then]); refine bodyPost_ret (by simp [results, Try.results18, go_sem, p0, p1, p2, p3, p4, p5]; try rfl) rfl ?_)
  rw [HXE.out]
  exact ⟨⟨0, 0, 0, 0, 0, _, [], rfl, Kd.R_nil _ _ _ _ _, rfl⟩, HT6.out.below.trans (keep_below (put6_far _ _ _ _ _ _) HT6.out.below.size (fun i e => by omega))⟩
 obtain ⟨l3, c3⟩ := s3
 simp only at hs3
 subst hs3
 simp only at HF hl3 HXX
 have hgW := HD.out.1.lt
 have htk : takes (l3.length : Int) l3 0 = (l3, [], 0) := by
  unfold Ls.takes
  rw [if_pos rfl, if_neg (by omega), Int.toNat_natCast, List.take_length, List.drop_length]
 have HTK := aM htk
 have HBY3 := aM (show By l3 from HD.out.2.1)
 have HL3 := aM hl3
 clear htk
 go_upto_region 9 with (first
  | (go_at_call 49; refine (left_calls g bb l3 0 _ HD.out.1).mono ?_; rintro _ _ ⟨rfl, rfl⟩)
  | (go_at_call 48; refine (bytes_calls g bb l3 0 _ _ HD.out.1 HD.out.2.2 (by omega)).mono ?_; rintro _ w5 ⟨v5, rfl, hv5, hr5, hk5⟩; rw [HTK.out] at hv5 hr5; obtain ⟨A5, c5, rfl, -, -⟩ := Kd.R_reads hv5; have HT5 := aM (HT.out.keep hk5 (fun e => by have e : w.heap.size = g := e; omega) (fun e => by have e : gb = g := e; omega) (fun i e => by have e : i = g := e; omega)); have HV5 := aM (Kd.R_mono (Kd.R_bound hv5) (ok' := fun k => W.heap.size ≤ k) (fun k hk => hk.2.1)); have HD5 := aM (show Rdr 170 w5 g bb [] 0 from hr5); clear hv5 hr5 hk5 q0 q1 q2 q3 q4 q5 qz x0 x1 x2 x3 x4 x5 xz)
  | (go_at_call 50; refine (end_calls g bb [] 0 _ HD5.out).mono ?_; rintro _ w6 ⟨rfl, -, hk6, -⟩; rw [show ended [] 0 = 0 from rfl]; have HT6 := aM (HT5.out.keep hk6 (fun e => by have e : w.heap.size = g := e; omega) (fun e => by have e : gb = g := e; omega) (fun i e => by have e : i = g := e; omega)); have HV6 := aM (Kd.R_step HV5.out (fun k hk hl => hk6.block k hl (fun e => by have e : k = g := e; omega))); clear hk6; obtain ⟨⟨q0, q1, q2, q3, q4, q5⟩, qz, ⟨x0, x1, x2, x3, x4, x5⟩, xz⟩ := HT6.out.cells rfl))
 obtain ⟨A5', c5', hv6, hl6, hC6⟩ := Kd.R_reads HV6.out
 injection hv6 with hv6 _ hv6'
 subst hv6 hv6'
 have HC6 := aM hC6
 have hgb6 := blk_lt HT6.out.bx
 clear hC6 hl6 HT HT5 HD HD5 HV5 HV6
 by_cases hfe : fe = 0
 case neg =>
  have HXE := aM (show X = (zeroAsk, fe) from by rw [← HXX.out, if_neg (by simp)]; exact if_pos hfe)
  have hb1 : (fe == 0) = false := beq_eq_false_iff_ne.mpr hfe
  have hb2 : (fe != 0) = true := bne_iff_ne.mpr hfe
  clear hfe
  go_wp2_with (go_at_call 51; refine (wread_func A5 c5 l3 _ HC6.out HL3.out HBY3.out).mono ?_; rintro _ w7 ⟨hr7, hb7⟩; rw [HF.out] at hr7; obtain ⟨p, v, vb, bs, rfl, hR7, hx7⟩ := hr7; obtain ⟨Ab, cb, rfl, -, -⟩ := Kd.R_reads hR7; obtain ⟨nb, hnb⟩ : ∃ nb, bs.length = nb := ⟨_, rfl⟩; rw [hnb]; have HT7 := aM (HT6.out.grow hb7); have HT8 := aM (((HT7.out.set 3 (.int .i64 p)).set 4 (.int .i64 v)).set 5 (.slice Ab nb cb)); clear hb7 hR7 hx7 hnb q0 q1 q2 q3 q4 q5 qz x0 x1 x2 x3 x4 x5 xz; obtain ⟨⟨q0, q1, q2, q3, q4, q5⟩, qz, ⟨x0, x1, x2, x3, x4, x5⟩, xz⟩ := HT7.out.cells rfl; obtain ⟨⟨r0, r1, r2, r3, r4, r5⟩, rz, ⟨y0, y1, y2, y3, y4, y5⟩, yz⟩ := HT8.out.cells rfl)
  (have rr := HT8.out.res; have p0 := fun x0 x1 x2 x3 x4 x5 => cell_at (put6 rr x0 x1 x2 x3 x4 x5) 0 _ rfl; have p1 := fun x0 x1 x2 x3 x4 x5 => cell_at (put6 rr x0 x1 x2 x3 x4 x5) 1 _ rfl; have p2 := fun x0 x1 x2 x3 x4 x5 => cell_at (put6 rr x0 x1 x2 x3 x4 x5) 2 _ rfl; have p3 := fun x0 x1 x2 x3 x4 x5 => cell_at (put6 rr x0 x1 x2 x3 x4 x5) 3 _ rfl; have p4 := fun x0 x1 x2 x3 x4 x5 => cell_at (put6 rr x0 x1 x2 x3 x4 x5) 4 _ rfl; have p5 := fun x0 x1 x2 x3 x4 x5 => cell_at (put6 rr x0 x1 x2 x3 x4 x5) 5 _ rfl; (try simp only [Exit.inBlock, Exit.then]); refine bodyPost_ret (by simp [results, Try.results18, go_sem, p0, p1, p2, p3, p4, p5]; try rfl) rfl ?_)
  rw [HXE.out]
  exact ⟨⟨0, 0, 0, 0, 0, _, [], rfl, Kd.R_nil _ _ _ _ _, rfl⟩, HT8.out.below.trans (keep_below (put6_far _ _ _ _ _ _) HT8.out.below.size (fun i e => by omega))⟩
 subst hfe
 have HXE := aM (show X = ((j, n, r, fx), 0) from by rw [← HXX.out, if_neg (by simp), if_neg (by simp)])
 go_wp2_with (go_at_call 51; refine (wread_func A5 c5 l3 _ HC6.out HL3.out HBY3.out).mono ?_; rintro _ w7 ⟨hr7, hb7⟩; rw [HF.out] at hr7; obtain ⟨p, v, vb, bs, rfl, hR7, hx7⟩ := hr7; obtain ⟨Ab, cb, rfl, -, -⟩ := Kd.R_reads hR7; obtain ⟨nb, hnb⟩ : ∃ nb, bs.length = nb := ⟨_, rfl⟩; rw [hnb] at hR7 ⊢; have HT7 := aM (HT6.out.grow hb7); have HR7 := aM hR7; have HX7 := aM hx7; have HT8 := aM (((HT7.out.set 3 (.int .i64 p)).set 4 (.int .i64 v)).set 5 (.slice Ab nb cb)); clear hb7 hR7 hx7 hnb q0 q1 q2 q3 q4 q5 qz x0 x1 x2 x3 x4 x5 xz; obtain ⟨⟨q0, q1, q2, q3, q4, q5⟩, qz, ⟨x0, x1, x2, x3, x4, x5⟩, xz⟩ := HT7.out.cells rfl; obtain ⟨⟨r0, r1, r2, r3, r4, r5⟩, rz, ⟨y0, y1, y2, y3, y4, y5⟩, yz⟩ := HT8.out.cells rfl)
 (have rr := HT8.out.res; have p0 := fun x0 x1 x2 x3 x4 x5 => cell_at (put6 rr x0 x1 x2 x3 x4 x5) 0 _ rfl; have p1 := fun x0 x1 x2 x3 x4 x5 => cell_at (put6 rr x0 x1 x2 x3 x4 x5) 1 _ rfl; have p2 := fun x0 x1 x2 x3 x4 x5 => cell_at (put6 rr x0 x1 x2 x3 x4 x5) 2 _ rfl; have p3 := fun x0 x1 x2 x3 x4 x5 => cell_at (put6 rr x0 x1 x2 x3 x4 x5) 3 _ rfl; have p4 := fun x0 x1 x2 x3 x4 x5 => cell_at (put6 rr x0 x1 x2 x3 x4 x5) 4 _ rfl; have p5 := fun x0 x1 x2 x3 x4 x5 => cell_at (put6 rr x0 x1 x2 x3 x4 x5) 5 _ rfl; (try simp only [Exit.inBlock, Exit.then]); refine bodyPost_ret (by simp [results, Try.results18, go_sem, p0, p1, p2, p3, p4, p5]; try rfl) rfl ?_)
 rw [HXE.out]
 have hfx : fx = (p, v, bs) := by
  rcases HX7.out with ⟨-, h⟩ | ⟨h, -⟩
  · exact h
  · exact absurd rfl h
 refine ⟨⟨j, n, r, p, v, _, bs, rfl, ?_, by rw [hfx]⟩, HT8.out.below.trans (keep_below (put6_far _ _ _ _ _ _) HT8.out.below.size (fun i e => by omega))⟩
 have hgw := HT8.out.hgb
 refine Kd.R_mono (Kd.R_step (Kd.R_lower (Kd.R_mono (Kd.R_bound HR7.out) (ok' := fun k => w6.heap.size ≤ k) (fun k hk => hk.2.1)) (by omega)) (fun k hk hl => ?_)) (fun _ _ => trivial)
 refine ((put6_far _ _ _ _ _ _).block k (by simp only [size_set]; exact hl) (fun e => by omega)).trans ?_
 rw [Below.heap_setCell _ _ _ _ (show k ≠ gb by omega), Below.heap_setCell _ _ _ _ (show k ≠ gb by omega), Below.heap_setCell _ _ _ _ (show k ≠ gb by omega)]
end Go.Proofs.Ytnckonglodmfeaa.Ik
namespace Go.Proofs.Ytnckonglodmfeaa.Ik
open Ls Go.RowKit Go.Proofs.YtnckonglodmfeaaW.PrintWords Go.Proofs.YtnckonglodmfeaaW.PrintLast Go.Proofs.YtnckonglodmfeaaW.PrintMore B R S Is Js
end Go.Proofs.Ytnckonglodmfeaa.Ik
namespace Go.Proofs.Ytnckonglodmfeaa.Ik
open Go.RowKit Go.Proofs.YtnckonglodmfeaaW.PrintWords Go.Proofs.YtnckonglodmfeaaW.PrintLast Go.Proofs.YtnckonglodmfeaaW.PrintMore B R S Is
end Go.Proofs.Ytnckonglodmfeaa.Ik
namespace Go.Proofs.Ytnckonglodmfeaa.Ik
open Go.RowKit Go.Proofs.YtnckonglodmfeaaW.PrintWords Go.Proofs.YtnckonglodmfeaaW.PrintLast Go.Proofs.YtnckonglodmfeaaW.PrintMore B R S Is
end Go.Proofs.Ytnckonglodmfeaa.Ik
namespace Go.Proofs.Ytnckonglodmfeaa.Ik
open Go.RowKit Go.Proofs.YtnckonglodmfeaaW.PrintWords Go.Proofs.YtnckonglodmfeaaW.PrintLast Go.Proofs.YtnckonglodmfeaaW.PrintMore B R S Is
end Go.Proofs.Ytnckonglodmfeaa.Ik
namespace Go.Proofs.Ytnckonglodmfeaa.Ik
open Ls Go.RowKit Go.Proofs.YtnckonglodmfeaaW.PrintWords Go.Proofs.YtnckonglodmfeaaW.PrintLast Go.Proofs.YtnckonglodmfeaaW.PrintMore B R S Is Js
structure QfS (w0 W : World) (g b gb : Nat) (s : St) (F : Array Value) : Prop where
 rd : Rq W g b s
 res : W.heap[w0.heap.size]? = some (.cells #[.int .i64 0, .int .i64 0, .slice none 0 0] 25 (0, 0))
 bx : W.heap[gb]? = some (.cells F 25 (0, 0))
 below : Below w0.heap.size w0 W
 hg : w0.heap.size + 1 ≤ g
 hgb : g < gb
 hbb : b < gb
theorem QfS.step {w0 W W' : World} {g b gb : Nat} {s s' : St} {F : Array Value} (h : QfS w0 W g b gb s F) (hk : Keep (· = g) W W') (hr : Rq W' g b s') : QfS w0 W' g b gb s' F := by
 have h1 := h.hg
 have h2 := h.hgb
 have hs := h.below.size
 exact ⟨hr, (hk.block _ (blk_lt h.res) (fun e => by have e : w0.heap.size = g := e; omega)).trans h.res, (hk.block gb (blk_lt h.bx) (fun e => by have e : gb = g := e; omega)).trans h.bx, h.below.trans (keep_below hk hs (fun i e => by have e : i = g := e; omega)), h1, h2, h.hbb⟩
theorem QfS.set {w0 W : World} {g b gb : Nat} {s : St} {F : Array Value} (h : QfS w0 W g b gb s F) (j : Nat) (x : Value) : QfS w0 (W.setCell ⟨gb, j, none⟩ x) g b gb s (F.setIfInBounds j x) := by
 have h1 := h.hg
 have h2 := h.hgb
 have h3 := h.hbb
 have hk : Keep (· = gb) W (W.setCell ⟨gb, j, none⟩ x) := (Keep.refl _ _).setCell ⟨gb, j, none⟩ x (fun _ => rfl)
 have ho : ∀ i, i ≠ gb → (W.setCell ⟨gb, j, none⟩ x).heap[i]? = W.heap[i]? := fun i hi => Below.heap_setCell _ _ _ _ hi
 exact ⟨h.rd.keep hk (by omega) (by omega), (ho _ (by omega)).trans h.res, heap_setCell_same W gb j F _ _ h.bx, h.below.setCell (by show w0.heap.size ≤ gb; omega) _, h1, h2, h3⟩
end Go.Proofs.Ytnckonglodmfeaa.Ik
namespace Go.Proofs.Ytnckonglodmfeaa.Ik
open Ls Lc Go.RowKit Go.Proofs.YtnckonglodmfeaaW.PrintWords Go.Proofs.YtnckonglodmfeaaW.PrintLast Go.Proofs.YtnckonglodmfeaaW.PrintMore B R S Is Js Gs Gc
theorem Rq.setb {W : World} {g b gb : Nat} {s : St} (h : Rq W g b s) (hg : g ≠ gb) (hb : b ≠ gb) (j : Nat) (x : Value) : Rq (W.setCell ⟨gb, j, none⟩ x) g b s :=
 h.keep (S := (· = gb)) ((Keep.refl _ _).setCell ⟨gb, j, none⟩ x (fun _ => rfl)) hg hb
end Go.Proofs.Ytnckonglodmfeaa.Ik
namespace Go.Proofs.Ytnckonglodmfeaa.Ik
open Ls Lc Go.RowKit Go.Proofs.YtnckonglodmfeaaW.PrintWords Go.Proofs.YtnckonglodmfeaaW.PrintLast Go.Proofs.YtnckonglodmfeaaW.PrintMore B R S Is Js Gs Gc
theorem lput_n (l : List Int) (n : Nat) (hn : l.length = n) (A : Option Addr) (c : Nat) (x : Int) (h0 : 0 ≤ x) (h1 : x < 18446744073709551616) (w : World) (hC : kU8.C w A n l) (hll : n ≤ 100000000) :
 Calls Try.prog 38 #[.slice A n c, .int .u64 x] w fun e w' => ∃ m A' n' c', e = .returned (.slice A' n' c') ∧ m = l ++ putl x.toNat ∧ m.length = n' ∧ n' ≤ n + 10 ∧ n' ≤ c' ∧ kU8.R 5 w' w.heap.size (fun _ => True) (.slice A' n' c') m ∧ kU8.C w' A' n' m ∧ Below w.heap.size w w' := by
 subst hn
 refine (Lc.put_calls A c l x w hC (by omega) h0 h1).mono ?_
 rintro e w' ⟨v, rfl, hr, hb⟩
 obtain ⟨A', c', rfl, hl, hC'⟩ := Kd.R_reads hr
 have h10 := putl_ten x.toNat (by omega)
 exact ⟨_, A', _, c', rfl, rfl, rfl, by rw [List.length_append]; omega, hl, hr, hC', hb⟩
theorem field_num (x : Int) (h0 : 0 ≤ x) (h1 : x < 18446744073709551616) : fieldL x = putl x.toNat := by rw [fieldL, wrU64 x h0 h1]
theorem ask_bad {j n r : Int} {f : Fun} (h1 : funcErr f = 0) (h2 : j < 0 ∨ 16 ≤ j ∨ r < 0 ∨ 8 < r) : askErr (j, n, r, f) = 2 := by
 simp [askErr, h1, h2]
theorem ask_fit {j n r : Int} {f : Fun} (h1 : funcErr f = 0) (h2 : ¬ (j < 0 ∨ 16 ≤ j ∨ r < 0 ∨ 8 < r)) : askErr (j, n, r, f) = 0 := by
 simp [askErr, h1, h2]
def AskC (W : World) (g : Nat) (j n r p v : Int) (s : Value) : Prop := W.cell? ⟨g, 0, none⟩ = some (.int .i64 j) ∧ W.cell? ⟨g, 1, none⟩ = some (.int .u64 n) ∧ W.cell? ⟨g, 2, none⟩ = some (.int .i64 r) ∧ W.cell? ⟨g, 3, none⟩ = some (.int .i64 p) ∧ W.cell? ⟨g, 4, none⟩ = some (.int .i64 v) ∧ W.cell? ⟨g, 5, none⟩ = some s
theorem ask_box {w W' : World} {j n r p v : Int} {s : Value} {e : Nat} (h : Below (w.heap.size + 1) (w.alloc (.cells #[.int .i64 j, .int .u64 n, .int .i64 r, .int .i64 p, .int .i64 v, s] e)) W') : AskC W' w.heap.size j n r p v s := by
 have g := below_cells (h.mono (by rw [World.size_alloc]; exact Nat.le_refl _))
 exact ⟨cell_at g 0 _ rfl, cell_at g 1 _ rfl, cell_at g 2 _ rfl, cell_at g 3 _ rfl, cell_at g 4 _ rfl, cell_at g 5 _ rfl⟩
set_option maxHeartbeats 4000000 in
set_option maxRecDepth 100000 in
theorem putask_calls (j n r p v : Int) (l : List Blk) (A : Option Addr) (c : Nat) (w : World) (hn0 : 0 ≤ n) (hn1 : n < 18446744073709551616) (hC : kBlk.C w A l.length l) (hR : ∀ b ∈ l, BlkR b) (hll : l.length ≤ 100000) :
 Calls Try.prog 13 #[.agg #[.int .i64 j, .int .u64 n, .int .i64 r, .int .i64 p, .int .i64 v, .slice A l.length c]] w fun e w' => BytesOr (askErr (j, n, r, p, v, l)) (askErr (j, n, r, p, v, l)) (askL (j, n, r, p, v, l)) w' e ∧ Below w.heap.size w w' := by
 have mixed : Try.prog.follows .mixedOrders = true := by kernel_rfl
 have HC := aM hC
 have HR := aM hR
 have HA := aM (show Below w.heap.size w (w.alloc (.cells #[.int .i64 j, .int .u64 n, .int .i64 r, .int .i64 p, .int .i64 v, .slice A l.length c] 27)) from (Below.refl _ _).alloc (Nat.le_refl _) _)
 have HSZ := aM (World.size_alloc w (.cells #[.int .i64 j, .int .u64 n, .int .i64 r, .int .i64 p, .int .i64 v, .slice A l.length c] 27))
 have HX := aM (fun W' (h : Below (w.heap.size + 1) (w.alloc (.cells #[.int .i64 j, .int .u64 n, .int .i64 r, .int .i64 p, .int .i64 v, .slice A l.length c] 27)) W') => ask_box h)
 obtain ⟨FE, hFE⟩ : ∃ FE, funcErr (p, v, l) = FE := ⟨_, rfl⟩
 have HFE := aM hFE
 clear hC hR
 by_cases hf : FE = 0
 case neg =>
  have HE := aM (show askErr (j, n, r, p, v, l) = 30 from if_pos (by show funcErr (p, v, l) ≠ 0; rw [hFE]; exact hf))
  rw [HE.out]
  clear hFE
  go_enter Try.func13, Try.ntmps13
  go_wp2_with ((go_at_call 37; refine (wfunc_calls p v l A c _ (Kd.C_below HC.out HA.out) HR.out hll).mono ?_; rintro _ w1 ⟨hbo, hb⟩; have HB1 := aM (show Below (w.heap.size + 1) (w.alloc (.cells #[.int .i64 j, .int .u64 n, .int .i64 r, .int .i64 p, .int .i64 v, .slice A l.length c] 27)) w1 from hb.mono (by rw [HSZ.out]; exact Nat.le_refl _)); rw [HFE.out] at hbo); obtain rfl := hbo.1 hf; clear hbo hb)
  go_returns
  exact ⟨⟨fun _ => rfl, fun h => by cases h⟩, HA.out.trans (HB1.out.mono (by omega))⟩
 subst hf
 by_cases hbad : j < 0 ∨ 16 ≤ j ∨ r < 0 ∨ 8 < r
 · rw [ask_bad hFE hbad]
   have hbd : (j < 0) ∨ (¬ j < 0 ∧ 16 ≤ j) ∨ (¬ j < 0 ∧ ¬ 16 ≤ j ∧ r < 0) ∨ (¬ j < 0 ∧ ¬ 16 ≤ j ∧ ¬ r < 0 ∧ 8 < r) := by omega
   clear hbad hFE
   rcases hbd with h1 | ⟨h1, h2⟩ | ⟨h1, h2, h3⟩ | ⟨h1, h2, h3, h4⟩
   all_goals
    go_enter Try.func13, Try.ntmps13
    go_wp2_with ((go_at_call 37; refine (wfunc_calls p v l A c _ (Kd.C_below HC.out HA.out) HR.out hll).mono ?_; rintro _ w1 ⟨hbo, hb⟩; have HB1 := aM (show Below (w.heap.size + 1) (w.alloc (.cells #[.int .i64 j, .int .u64 n, .int .i64 r, .int .i64 p, .int .i64 v, .slice A l.length c] 27)) w1 from hb.mono (by rw [HSZ.out]; exact Nat.le_refl _)); rw [HFE.out] at hbo); obtain ⟨A1, c1, rfl, hlc1, hC1⟩ := hbo.2 rfl; obtain ⟨n1, hn1'⟩ : ∃ n1, (funcL (p, v, l)).length = n1 := ⟨_, rfl⟩; rw [hn1']; clear hbo hb hC1 hlc1 hn1'; obtain ⟨x0, x1, x2, x3, x4, x5⟩ := HX.out w1 HB1.out)
    go_returns
    exact ⟨⟨fun _ => rfl, fun h => by cases h⟩, HA.out.trans (HB1.out.mono (by omega))⟩
 · rw [ask_fit hFE hbad]
   have hj0 : 0 ≤ j := by omega
   have hj1 : j < 16 := by omega
   have hr0 : 0 ≤ r := by omega
   have hr1 : r ≤ 8 := by omega
   have HFL := aM (func_len p v l hFE HR.out)
   have h1 : ¬ j < 0 := by omega
   have h2 : ¬ 16 ≤ j := by omega
   have h3 : ¬ r < 0 := by omega
   have h4 : ¬ 8 < r := by omega
   obtain ⟨fb, hfb⟩ : ∃ fb, funcL (p, v, l) = fb := ⟨_, rfl⟩
   rw [hfb] at HFL
   have HFB := aM hfb
   clear hbad hFE hfb
   go_enter Try.func13, Try.ntmps13
   go_upto_region 6 with ((go_at_call 37; refine (wfunc_calls p v l A c _ (Kd.C_below HC.out HA.out) HR.out hll).mono ?_; rintro _ w1 ⟨hbo, hb⟩; have HB1 := aM (show Below (w.heap.size + 1) (w.alloc (.cells #[.int .i64 j, .int .u64 n, .int .i64 r, .int .i64 p, .int .i64 v, .slice A l.length c] 27)) w1 from hb.mono (by rw [HSZ.out]; exact Nat.le_refl _)); rw [HFE.out] at hbo); obtain ⟨A1, c1, rfl, hlc1, hC1⟩ := hbo.2 rfl; rw [HFB.out] at hlc1 hC1; obtain ⟨n1, hn1'⟩ : ∃ n1, fb.length = n1 := ⟨_, rfl⟩; rw [HFB.out, hn1']; rw [hn1'] at hC1 hlc1; have HC1 := aM hC1; have HN1 := aM hn1'; clear hbo hb hC1 hn1'; obtain ⟨x0, x1, x2, x3, x4, x5⟩ := HX.out w1 HB1.out)
   have HXK := aM (show ∀ W', Keep (fun _ => False) w1.drew W' → AskC W' w.heap.size j n r p v (.slice A l.length c) from fun W' h => HX.out W' (Keep.below_then HB1.out.drew h (by have h1 := HB1.out.size; rw [HSZ.out] at h1; exact h1) (fun _ _ => id)))
   clear x0 x1 x2 x3 x4 x5
   refine rk_start (fun _ => False) (by kernel_rfl) (n := 12) (l := (bl 12 0)) (by kernel_rfl) (by kernel_rfl) ?_
   refine kt 0 (bl 12 1) rfl (fun w' hR => by go_simp; first | done | with_reducible rfl) rfl ?_
   try simp only [Act.put, pB, pC, pD]
   refine kt 1 (bl 12 3) rfl (fun w' hR => by obtain ⟨x0, x1, x2, x3, x4, x5⟩ := HXK.out w' hR; go_simp; first | done | with_reducible rfl) rfl ?_
   try simp only [Act.put, pB, pC, pD]
   refine kt 2 (bl 12 7) rfl (fun w' hR => by have x9 := wrU64 j (by omega) (by omega); go_simp; first | done | with_reducible rfl) rfl ?_
   try simp only [Act.put, pB, pC, pD]
   refine kt 4 (bl 12 23) rfl (fun w' hR => by go_simp; first | done | with_reducible rfl) rfl ?_
   try simp only [Act.put, pB, pC, pD]
   refine kt 5 (bl 12 55) rfl (fun w' hR => by obtain ⟨x0, x1, x2, x3, x4, x5⟩ := HXK.out w' hR; go_simp; first | done | with_reducible rfl) rfl ?_
   try simp only [Act.put, pB, pC, pD]
   refine kt 7 (bl 12 183) rfl (fun w' hR => by go_simp; first | done | with_reducible rfl) rfl ?_
   try simp only [Act.put, pB, pC, pD]
   refine kt 8 (bl 12 439) rfl (fun w' hR => by obtain ⟨x0, x1, x2, x3, x4, x5⟩ := HXK.out w' hR; go_simp; first | done | with_reducible rfl) rfl ?_
   try simp only [Act.put, pB, pC, pD]
   refine kt 9 (bl 12 951) rfl (fun w' hR => by have x9 := wrU64 r (by omega) (by omega); go_simp; first | done | with_reducible rfl) rfl ?_
   try simp only [Act.put, pB, pC, pD]
   refine rk_step (fuel := 3) 3 rfl (by kernel_rfl) (listed' := (bl 12 959)) (by kernel_rfl) (by kernel_rfl) (fun K' hK => ?_)
   go_wp2_with (go_at_call 38; refine (lput_n [] 0 rfl none 0 j (by omega) (by omega) _ (C_nil .u8 _) (by omega)).mono ?_; rintro _ w2 ⟨m2, A2, n2, c2, rfl, hm2, hmn2, hn2, hc2, -, hC2, hb2⟩; have HM2 := aM hm2; have HMN2 := aM hmn2; have HC2 := aM hC2; have HB2 := aM hb2; clear hm2 hmn2 hC2 hb2)
   refine hK.out _ _ (Keep.of_below HB2.out) ?_
   clear hK K'
   try simp only [Act.put, pB, pC, pD]
   refine rk_step (fuel := 2) 6 rfl (by kernel_rfl) (listed' := (bl 12 1023)) (by kernel_rfl) (by kernel_rfl) (fun K' hK => ?_)
   go_wp2_with (go_at_call 38; refine (lput_n m2 n2 HMN2.out A2 c2 n hn0 hn1 _ HC2.out (by omega)).mono ?_; rintro _ w3 ⟨m3, A3, n3, c3, rfl, hm3, hmn3, hn3, hc3, -, hC3, hb3⟩; have HM3 := aM hm3; have HMN3 := aM hmn3; have HC3 := aM hC3; have HB3 := aM hb3; clear hm3 hmn3 hC3 hb3)
   refine hK.out _ _ (Keep.of_below HB3.out) ?_
   clear hK K'
   try simp only [Act.put, pB, pC, pD]
   refine rk_step (fuel := 1) 10 rfl (by kernel_rfl) (listed' := (bl 12 2047)) (by kernel_rfl) (by kernel_rfl) (fun K' hK => ?_)
   go_wp2_with (go_at_call 38; refine (lput_n m3 n3 HMN3.out A3 c3 r (by omega) (by omega) _ HC3.out (by omega)).mono ?_; rintro _ w4 ⟨m4, A4, n4, c4, rfl, hm4, hmn4, hn4, hc4, hR4, hC4, hb4⟩; have HM4 := aM hm4; have HMN4 := aM hmn4; have HR4 := aM hR4; have HB4 := aM hb4; clear hm4 hmn4 hC4 hR4 hb4)
   refine hK.out _ _ (Keep.of_below HB4.out) ?_
   clear hK K'
   try simp only [Act.put, pB, pC, pD]
   refine kt 11 (bl 12 4095) rfl (fun w' hR => by go_simp; first | done | with_reducible rfl) rfl ?_
   try simp only [Act.put, pB, pC, pD]
   refine rk_done (by kernel_rfl) ?_
   have hz1 := HB1.out.size
   have HW1 := aM (HA.out.trans (HB1.out.mono (by omega)))
   have HW2 := aM (HW1.out.drew.trans (HB2.out.mono HW1.out.size))
   have HW3 := aM (HW2.out.trans (HB3.out.mono HW2.out.size))
   have HW4 := aM (HW3.out.trans (HB4.out.mono HW3.out.size))
   have HR4' := aM (Kd.R_lower HR4.out HW3.out.size)
   have HC14 := aM (Kd.C_below (Kd.C_below (Kd.C_below (Kd.C_drew HC1.out) HB2.out) HB3.out) HB4.out)
   obtain ⟨AL, hAL⟩ : ∃ AL, askB (j, n, r, p, v, l) = AL := ⟨_, rfl⟩
   have HAL := aM (show m4 ++ fb = AL by rw [← hAL, HM4.out, HM3.out, HM2.out, ← HFB.out]; simp [askB, field_num j hj0 (by omega), field_num r hr0 (by omega)])
   have HALB := aM (show By AL by rw [← hAL]; exact ask_byB _)
   have HAL2 := aM hAL
   obtain ⟨fl, hfl⟩ : ∃ fl, layL 2 AL = fl := ⟨_, rfl⟩
   obtain ⟨nf, hnf⟩ : ∃ nf, fl.length = nf := ⟨_, rfl⟩
   obtain ⟨na, hna⟩ : ∃ na, AL.length = na := ⟨_, rfl⟩
   have HNA := aM hna
   have HNF := aM hnf
   have HFLL := aM hfl
   have hnal : na ≤ 65536 := by
    have h5 := HFL.out
    rw [← hna, ← HAL.out, List.length_append, HMN4.out]
    omega
   clear hAL hfl hnf hna
   go_wp2_with (first | ((with_reducible refine gate_builtin (b := .append) (xs := #[.tmp 47, .tmp 48]) rfl ?_); at_builtin; refine Kd.R_append_rows (Kd.int .u8) (w0 := w) w.heap.size rfl (.tmp 47) (.tmp 48) 28 5 (.int .u8 0) 1 rfl Try.underlying28 infoU8 rfl (by decide) (by omega) (.slice A4 n4 c4) m4 fb _ _ _ (fun _ => True) (fun _ => False) rfl rfl ?aO ?aR (fun _ _ h => h) (fun _ h => h.elim) ?aF ?aB ?aS ?aL ?_; (case aR => exact HC14.out); (case aB => exact HW4.out); (case aF => exact (fun _ _ => trivial)); (case aO => exact HR4'.out); (case aS => (have := HW4.out.size; omega)); (case aL => (have := HMN4.out; have := HN1.out; have := HFL.out; omega)); (intro v5 w5 ho hb5 hg hat; rw [HAL.out] at ho; obtain ⟨A5, c5, rfl, hlc5, hC5⟩ := Kd.R_reads ho; rw [HNA.out] at hlc5 hC5 ⊢; have HC5 := aM hC5; have HB5 := aM hb5; clear ho hb5 hg hat hC5)) | (go_at_call 39; refine (lay_n 2 (by decide) (by decide) A5 c5 AL na HNA.out fl nf HFLL.out HNF.out _ HC5.out hlc5 HALB.out hnal).mono ?_; rintro e w6 ⟨A6, c6, rfl, -, hC6, hc6, hb6⟩; have HC6 := aM hC6; have HB6 := aM (HB5.out.trans (hb6.mono HB5.out.size)); clear hC6 hb6))
   go_returns
   have e1 : askL (j, n, r, p, v, l) = fl := by rw [← HFLL.out, ← HAL2.out]; rfl
   rw [e1]
   exact ⟨⟨fun h => absurd rfl h, fun _ => ⟨A6, c6, by rw [HNF.out]; rfl, by rw [HNF.out]; exact hc6, by rw [HNF.out]; exact HC6.out⟩⟩, HB6.out⟩
end Go.Proofs.Ytnckonglodmfeaa.Ik
namespace Go.Proofs.Ytnckonglodmfeaa.Ik
open Ls Lc Go.RowKit Go.Proofs.YtnckonglodmfeaaW.PrintWords Go.Proofs.YtnckonglodmfeaaW.PrintLast Go.Proofs.YtnckonglodmfeaaW.PrintMore B R S Is Js Gs Gc
end Go.Proofs.Ytnckonglodmfeaa.Ik
namespace Go.Proofs.Ytnckonglodmfeaa.Ik
open Go.RowKit Go.Proofs.YtnckonglodmfeaaW.PrintWords Go.Proofs.YtnckonglodmfeaaW.PrintLast Go.Proofs.YtnckonglodmfeaaW.PrintMore B R S Is
set_option maxRecDepth 100000 in
theorem same_ints (l m : List Int) (A B : Option Addr) (c e : Nat) (w : World) (hA : kI.C w A l.length l) (hB : kI.C w B m.length m) :
 Calls Try.prog 117 #[.slice A l.length c, .slice B m.length e] w fun r w' => r = .returned (.bool (decide (l = m))) ∧ Below w.heap.size w w' := by
 have mixed : Try.prog.follows .mixedOrders = true := by kernel_rfl
 have HA := aM hA
 have HB := aM hB
 have hl := hA.2.1
 have hm := hB.2.1
 clear hA hB
 by_cases hlm : l.length = m.length
 · rw [← hlm]
   have HLM := aM hlm
   clear hlm hm
   go_enter Try.func117, Try.ntmps117
   go_wp2_with fail
   go_loopw [5] (fun vi wr => ∃ j : Nat, j ≤ l.length ∧ vi = .int .i64 j ∧ Aside0 (l.take j = m.take j) ∧ Aside0 (Below w.heap.size w wr)) (fun vi _ => l.length - (intOf vi).toNat)
   case atStart => exact ⟨0, by omega, rfl, ⟨by simp⟩, ⟨Below.refl _ _⟩⟩
   case round =>
    obtain ⟨j, hj, rfl, HN, HW⟩ := hrel
    by_cases hjl : j < l.length
    · obtain ⟨x, hx⟩ : ∃ x, l[j]? = some x := ⟨_, List.getElem?_eq_getElem hjl⟩
      obtain ⟨y, hy⟩ : ∃ y, m[j]? = some y := ⟨_, List.getElem?_eq_getElem (by rw [← HLM.out]; exact hjl)⟩
      obtain ⟨ad, rfl⟩ : ∃ ad, A = some ad := by obtain ⟨ad, e, _⟩ := HA.out.2.2 (by omega); exact ⟨ad, e⟩
      obtain ⟨bd, rfl⟩ : ∃ ad, B = some ad := by obtain ⟨ad, e, _⟩ := HB.out.2.2 (by rw [← HLM.out]; omega); exact ⟨ad, e⟩
      have HXC := aM (show ∀ W', Keep (fun _ => False) wr.drew W' → W'.cell? (ad.add j) = some (.int .i64 x) ∧ W'.cell? (bd.add j) = some (.int .i64 y) from fun W' h => by
       have hb : Below w.heap.size w W' := Keep.below_then HW.out.drew h HW.out.size (fun _ _ => id)
       exact ⟨pw_cell_below hb (C_cell HA.out hx), pw_cell_below hb (C_cell HB.out hy)⟩)
      have HX := aM hx
      have HY := aM hy
      clear hx hy
      by_cases hxy : x = y
      · subst hxy
        go_wp2_with fail
        refine rk_start (fun _ => False) (by kernel_rfl) (n := 9) (l := (bl 9 0)) (by kernel_rfl) (by kernel_rfl) ?_
        refine kt 0 (bl 9 1) rfl (fun w' hR => by go_simp; first | done | with_reducible rfl) rfl ?_
        try simp only [Act.put, pB, pC, pD]
        refine kt 1 (bl 9 3) rfl (fun w' hR => by go_simp; first | done | with_reducible rfl) rfl ?_
        try simp only [Act.put, pB, pC, pD]
        refine kt 2 (bl 9 7) rfl (fun w' hR => by go_simp; first | done | with_reducible rfl) rfl ?_
        try simp only [Act.put, pB, pC, pD]
        refine kt 3 (bl 9 15) rfl (fun w' hR => by have x0 := (HXC.out w' hR).1; go_simp; first | done | with_reducible rfl) rfl ?_
        try simp only [Act.put, pB, pC, pD]
        refine kt 4 (bl 9 31) rfl (fun w' hR => by go_simp; first | done | with_reducible rfl) rfl ?_
        try simp only [Act.put, pB, pC, pD]
        refine kt 5 (bl 9 63) rfl (fun w' hR => by go_simp; first | done | with_reducible rfl) rfl ?_
        try simp only [Act.put, pB, pC, pD]
        refine kt 6 (bl 9 127) rfl (fun w' hR => by go_simp; first | done | with_reducible rfl) rfl ?_
        try simp only [Act.put, pB, pC, pD]
        refine kt 7 (bl 9 255) rfl (fun w' hR => by have x0 := (HXC.out w' hR).2; go_simp; first | done | with_reducible rfl) rfl ?_
        try simp only [Act.put, pB, pC, pD]
        refine kt 8 (bl 9 511) rfl (fun w' hR => by go_simp; first | done | with_reducible rfl) rfl ?_
        try simp only [Act.put, pB, pC, pD]
        refine rk_done (by kernel_rfl) ?_
        go_wp2
        go_roundw
        case rel => exact ⟨j + 1, by omega, by go_num, ⟨by rw [List.take_add_one, List.take_add_one, HX.out, HY.out, HN.out]⟩, ⟨HW.out.drew⟩⟩
        case measure => simp [intOf]; omega
      · have hb : (x == y) = false := beq_eq_false_iff_ne.mpr hxy
        have hb2 : (x != y) = true := by simp only [bne, hb]; rfl
        have HD := aM (show decide (l = m) = false from decide_eq_false (fun e => hxy (by have h := HX.out; rw [e, HY.out] at h; injection h with h; exact h.symm)))
        clear hxy
        go_wp2_with fail
        refine rk_start (fun _ => False) (by kernel_rfl) (n := 9) (l := (bl 9 0)) (by kernel_rfl) (by kernel_rfl) ?_
        refine kt 0 (bl 9 1) rfl (fun w' hR => by go_simp; first | done | with_reducible rfl) rfl ?_
        try simp only [Act.put, pB, pC, pD]
        refine kt 1 (bl 9 3) rfl (fun w' hR => by go_simp; first | done | with_reducible rfl) rfl ?_
        try simp only [Act.put, pB, pC, pD]
        refine kt 2 (bl 9 7) rfl (fun w' hR => by go_simp; first | done | with_reducible rfl) rfl ?_
        try simp only [Act.put, pB, pC, pD]
        refine kt 3 (bl 9 15) rfl (fun w' hR => by have x0 := (HXC.out w' hR).1; go_simp; first | done | with_reducible rfl) rfl ?_
        try simp only [Act.put, pB, pC, pD]
        refine kt 4 (bl 9 31) rfl (fun w' hR => by go_simp; first | done | with_reducible rfl) rfl ?_
        try simp only [Act.put, pB, pC, pD]
        refine kt 5 (bl 9 63) rfl (fun w' hR => by go_simp; first | done | with_reducible rfl) rfl ?_
        try simp only [Act.put, pB, pC, pD]
        refine kt 6 (bl 9 127) rfl (fun w' hR => by go_simp; first | done | with_reducible rfl) rfl ?_
        try simp only [Act.put, pB, pC, pD]
        refine kt 7 (bl 9 255) rfl (fun w' hR => by have x0 := (HXC.out w' hR).2; go_simp; first | done | with_reducible rfl) rfl ?_
        try simp only [Act.put, pB, pC, pD]
        refine kt 8 (bl 9 511) rfl (fun w' hR => by go_simp; first | done | with_reducible rfl) rfl ?_
        try simp only [Act.put, pB, pC, pD]
        refine rk_done (by kernel_rfl) ?_
        go_wp2
        go_ret
        exact ⟨by rw [HD.out]; rfl, HW.out.drew⟩
    · obtain rfl : j = l.length := by omega
      have HD := aM (show decide (l = m) = true from decide_eq_true (by have h := HN.out; rw [List.take_length, HLM.out, List.take_length] at h; exact h))
      go_wp2
      go_ret
      exact ⟨by rw [HD.out]; rfl, HW.out⟩
 · have HD := aM (show decide (l = m) = false from decide_eq_false (fun e => hlm (by rw [e])))
   have hb : ((l.length : Int) == (m.length : Int)) = false := beq_eq_false_iff_ne.mpr (by omega)
   have hb2 : ((l.length : Int) != (m.length : Int)) = true := by simp only [bne, hb]; rfl
   go_enter Try.func117, Try.ntmps117
   go_wp2
   go_ret
   exact ⟨by rw [HD.out]; rfl, Below.refl _ _⟩
end Go.Proofs.Ytnckonglodmfeaa.Ik
namespace Go.Proofs.YtnckonglodmfeaaW.PrintWords
open Go.RowKit
section
variable {P : Program} {d : Nat} {xs ys : Array Value} {f : Field} {fs : List Field} {a b : Value} {r s : Bool} {w : World}
theorem eqf_last (hn : (f.name == "_") = false) (ha : (part f.type xs f.offset).run P w = .ok a w) (hb : (part f.type ys f.offset).run P w = .ok b w) (he : (Op.equalIn d f.type a b).run P w = .ok r w) : (Op.eqFields d xs ys [f]).run P w = .ok r w := by
 have hn' : f.name ≠ "_" := by simpa using hn
 simp only [Op.eqFields, if_pos hn', Sem.run_bind, ha, hb, he, Result.andThen_ok]
 cases r <;> simp
theorem eqf_cons (hn : (f.name == "_") = false) (ha : (part f.type xs f.offset).run P w = .ok a w) (hb : (part f.type ys f.offset).run P w = .ok b w) (he : (Op.equalIn d f.type a b).run P w = .ok r w) (hr : (Op.eqFields d xs ys fs).run P w = .ok s w) : (Op.eqFields d xs ys (f :: fs)).run P w = .ok (r && s) w := by
 have hn' : f.name ≠ "_" := by simpa using hn
 rw [Op.eqFields]
 simp only [if_pos hn', Sem.run_bind, ha, hb, he, Result.andThen_ok]
 cases r
 · simp
 · simpa using hr
theorem eqA_of {t : TypeId} {fs : Array Field} (hu : P.underlying t = some (.struct fs)) (hp : P.stoodInHeld t = false) (h : (Op.eqFields d xs ys fs.toList).run P w = .ok r w) : (Op.equalIn (d + 1) t (.agg xs) (.agg ys)).run P w = .ok r w := by
 have hf : P.fieldsOf t = fs := by simp [Program.fieldsOf, hu]
 rw [run_equalIn_struct (P := P) w d t xs ys (by rw [hf]; exact hu) hp, hf]
 exact h
end
end Go.Proofs.YtnckonglodmfeaaW.PrintWords
