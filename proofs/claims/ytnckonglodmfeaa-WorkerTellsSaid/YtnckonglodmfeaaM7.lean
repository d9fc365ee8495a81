/- Contracts and plain facts that the statements' proofs use (part 7). -/
import Derived.Test.YtnckonglodmfeaaM2
import Derived.Test.YtnckonglodmfeaaM3
import Derived.Test.YtnckonglodmfeaaM5
import Derived.Test.YtnckonglodmfeaaM6
import Derived.Handy
set_option linter.unusedVariables false
set_option linter.unusedSimpArgs false
namespace Go.Proofs.Ytnckonglodmfeaa.Ik
open Ls Lc Go.RowKit Go.Proofs.YtnckonglodmfeaaW.PrintWords Go.Proofs.YtnckonglodmfeaaW.PrintLast Go.Proofs.YtnckonglodmfeaaW.PrintMore B R S Is Js
set_option maxHeartbeats 4000000 in
set_option maxRecDepth 100000 in
theorem rins6 (g b : Nat) (s : St) (w : World) (h : Rd w g b s) (hg : g < w.heap.size) (hk : (sBelow 256 s).1 = 6) :
 Calls Try.prog 126 #[.pointer (some ⟨g, 0, none⟩)] w fun e w' => ∃ v, e = .returned (insVal (sBody 6 (sBelow 256 s).2).1 v) ∧ kI.R 3 w' w.heap.size (fun _ => True) v (sBody 6 (sBelow 256 s).2).1.2.2.2.2.2.2 ∧ Rd w' g b (sBody 6 (sBelow 256 s).2).2 ∧ Keep (· = g) w w' := by
 have mixed : Try.prog.follows .mixedOrders = true := by kernel_rfl
 have H := aM h
 have HE := aM hk
 have HWK := aM (trivial)
 obtain ⟨s1, hs1⟩ : ∃ s1, (sBelow 256 s).2 = s1 := ⟨_, rfl⟩
 rw [hs1]
 have HS1 := aM hs1
 have hby1 : By s1.1 := by rw [← hs1]; exact sbelow_by h.2.1
 obtain ⟨d, s2, hd⟩ : ∃ d s2, sBelow 4096 s1 = (d, s2) := ⟨_, _, rfl⟩
 obtain ⟨nn, s3, hn⟩ : ∃ n s3, sInt s2 = (n, s3) := ⟨_, _, rfl⟩
 obtain ⟨c, s4, hc⟩ : ∃ c s4, sBelow 4 s3 = (c, s4) := ⟨_, _, rfl⟩
 have hby2 : By s2.1 := by have := sbelow_by (m := 4096) hby1; rw [hd] at this; exact this
 have hby3 : By s3.1 := by have := sint_by hby2; rw [hn] at this; exact this
 have hc4 := below_range (m := 4) (by decide) hby3
 rw [hc] at hc4
 obtain ⟨N, hN⟩ : ∃ N : Nat, c = (N : Int) := ⟨c.toNat, by simp only at hc4; omega⟩
 subst hN
 have hN4 : N < 4 := by simp only at hc4; omega
 have hbody : sBody 6 s1 = ((6, 0, d, 0, 0, nn, (sReps N s4).1), (sReps N s4).2) := by
  show sField (sField (sField ((6, 0, 0, 0, 0, 0, []), s1) 68) 78) 82 = _
  simp [sField, hd, hn, sArgs, hc]
 rw [hbody]
 have HDD := aM hd
 have HNN := aM hn
 have HCC := aM hc
 clear h hk hs1 hd hn hc hc4 hbody hby1 hby2 hby3
 go_enter Try.func126, Try.ntmps126
 go_upto_region 2 with (go_at_call 46; refine (rd_below g b s 256 _ (H.out.below (((Below.refl _ _).alloc (Nat.le_refl _) _).alloc (by simp) _)) (by decide) (by decide)).mono ?_; rintro _ w1 ⟨rfl, hd, hk, hs⟩; have hwk := HWK.out; rw [HE.out]; rw [HS1.out] at hd; have HD := aM hd; have HK := aM hk; clear hd hk hs)
 have HI := aM (ins_start (F := #[.int .u8 6, .int .u8 0, .int .i64 0, .int .i64 0, .int .i64 0, .int .i64 0, .slice none 0 0]) HK.out HD.out hg H.out.2.2 rfl rfl rfl rfl); clear HD HK; obtain ⟨gb, hgb⟩ : ∃ gb, w1.heap.size = gb := ⟨_, rfl⟩; rw [hgb] at HI ⊢; obtain ⟨WB, hWB⟩ : ∃ WB, WB = w1.alloc (.cells #[.int .u8 6, .int .u8 0, .int .i64 0, .int .i64 0, .int .i64 0, .int .i64 0, .slice none 0 0] 92) := ⟨_, rfl⟩; rw [← hWB] at HI ⊢; clear hWB hgb; have q0 := (HI.out.cell 0 _ rfl).1; obtain ⟨q1, z1⟩ := HI.out.cell 1 _ rfl; obtain ⟨q2, z2⟩ := HI.out.cell 2 _ rfl; obtain ⟨q3, z3⟩ := HI.out.cell 3 _ rfl; obtain ⟨q4, z4⟩ := HI.out.cell 4 _ rfl; obtain ⟨q5, z5⟩ := HI.out.cell 5 _ rfl; obtain ⟨q6, z6⟩ := HI.out.cell 6 _ rfl; have qr := HI.out.ptr; have qs := HI.out.ptrs; obtain ⟨⟨y0, y1, y2, y3, y4, y5, y6⟩, v0, v1, v2, v3, v4, v5, v6⟩ := HI.out.rest
 go_wp2_with (first
  | (go_at_call 145; (first | refine (ins_num HI.out ).mono ?_ | refine (ins_num (HI.out.set _ _) ).mono ?_); rintro _ w2 ⟨rfl, hi⟩; clear HI; clear q0 q1 q2 q3 q4 q5 q6 z1 z2 z3 z4 z5 z6 qr qs y0 y1 y2 y3 y4 y5 y6 v0 v1 v2 v3 v4 v5 v6; rw [HDD.out] at hi ⊢; have HI := aM hi; clear hi; have q0 := (HI.out.cell 0 _ rfl).1; obtain ⟨q1, z1⟩ := HI.out.cell 1 _ rfl; obtain ⟨q2, z2⟩ := HI.out.cell 2 _ rfl; obtain ⟨q3, z3⟩ := HI.out.cell 3 _ rfl; obtain ⟨q4, z4⟩ := HI.out.cell 4 _ rfl; obtain ⟨q5, z5⟩ := HI.out.cell 5 _ rfl; obtain ⟨q6, z6⟩ := HI.out.cell 6 _ rfl; have qr := HI.out.ptr; have qs := HI.out.ptrs; obtain ⟨⟨y0, y1, y2, y3, y4, y5, y6⟩, v0, v1, v2, v3, v4, v5, v6⟩ := HI.out.rest)
  | (go_at_call 146; (first | refine (ins_int HI.out ).mono ?_ | refine (ins_int (HI.out.set _ _) ).mono ?_); rintro _ w2 ⟨rfl, hi⟩; clear HI; clear q0 q1 q2 q3 q4 q5 q6 z1 z2 z3 z4 z5 z6 qr qs y0 y1 y2 y3 y4 y5 y6 v0 v1 v2 v3 v4 v5 v6; rw [HNN.out] at hi ⊢; have HI := aM hi; clear hi; have q0 := (HI.out.cell 0 _ rfl).1; obtain ⟨q1, z1⟩ := HI.out.cell 1 _ rfl; obtain ⟨q2, z2⟩ := HI.out.cell 2 _ rfl; obtain ⟨q3, z3⟩ := HI.out.cell 3 _ rfl; obtain ⟨q4, z4⟩ := HI.out.cell 4 _ rfl; obtain ⟨q5, z5⟩ := HI.out.cell 5 _ rfl; obtain ⟨q6, z6⟩ := HI.out.cell 6 _ rfl; have qr := HI.out.ptr; have qs := HI.out.ptrs; obtain ⟨⟨y0, y1, y2, y3, y4, y5, y6⟩, v0, v1, v2, v3, v4, v5, v6⟩ := HI.out.rest)
  | (go_at_call 46; (first | refine (ins_below HI.out 4 (by decide) (by decide)).mono ?_ | refine (ins_below (HI.out.set _ _) 4 (by decide) (by decide)).mono ?_); rintro _ w2 ⟨rfl, hi⟩; clear HI; clear q0 q1 q2 q3 q4 q5 q6 z1 z2 z3 z4 z5 z6 qr qs y0 y1 y2 y3 y4 y5 y6 v0 v1 v2 v3 v4 v5 v6; rw [HCC.out] at hi ⊢; have HI := aM hi; clear hi))
 obtain ⟨F, hF⟩ : ∃ F : Value → Array Value, F = fun va => #[.int .u8 6, .int .u8 0, .int .i64 d, .int .i64 0, .int .i64 0, .int .i64 nn, va] := ⟨_, rfl⟩
 have hi := HI.out
 rw [show ((#[Value.int .u8 6, .int .u8 0, .int .i64 0, .int .i64 0, .int .i64 0, .int .i64 0, .slice none 0 0].setIfInBounds 2 (.int .i64 d)).setIfInBounds 5 (.int .i64 nn)) = F (.slice none 0 0) from by rw [hF]; rfl] at hi
 have HF := aM hF
 have HF6 := aM (show ∀ va, (F va)[6]? = some va from fun va => by rw [hF]; rfl)
 have HFS := aM (show ∀ va vb, (F va).setIfInBounds 6 vb = F vb from fun va vb => by rw [hF]; rfl)
 have HI0 := aM hi
 clear hi hF HI
 go_loopw [66] (fun vi wr => ∃ j : Nat, j ≤ N ∧ vi = .int .i64 j ∧ ∃ va, Aside0 (InsS w wr g b w.heap.size gb (sReps j s4).2 (F va)) ∧ Aside0 (kI.R 3 wr (gb + 1) (fun k => gb < k) va (sReps j s4).1)) (fun vi _ => N - (intOf vi).toNat)
 case atStart => exact ⟨0, by omega, rfl, .slice none 0 0, HI0, ⟨Kd.R_nil _ _ _ _ _⟩⟩
 case round =>
  clear HI0
  obtain ⟨j, hj, rfl, va, HI, HV⟩ := hrel
  by_cases hjl : j < N
  · obtain ⟨x, hx⟩ : ∃ x, (sBelow 4096 (sReps j s4).2).1 = x := ⟨_, rfl⟩
    obtain ⟨xs, hxs⟩ : ∃ xs, (sReps j s4).1 = xs := ⟨_, rfl⟩
    have hlen : xs.length ≤ 10 := by rw [← hxs, reps_len]; omega
    rw [hxs] at HV
    have HX := aM hx
    have HXS := aM hxs
    clear hx hxs
    have HC6 := aM (show ∀ W', Keep (fun i => i = g ∨ gb < i) wr.drew W' → W'.heap[gb]? = some (.cells (F va) 92 (0, 0)) from fun W' h => (h.block gb (blk_lt HI.out.bx) (fun e => by have := HI.out.hg; have := HI.out.hgb; omega)).trans HI.out.bx)
    have qr := HI.out.ptr
    go_wp2_with fail
    refine re_start [7] (fun i => i = g ∨ gb < i) (by kernel_rfl) (n := 8) (l := (bl 8 0)) (by kernel_rfl) (by kernel_rfl) ?_
    refine et 0 (bl 8 1) rfl (fun w' hR => by go_simp; first | done | with_reducible rfl) rfl ?_
    try simp only [Act.put, pB, pC, pD]
    refine et 1 (bl 8 3) rfl (fun w' hR => by have x0 := cell_at (HC6.out w' hR) 6 va (HF6.out va); go_simp; first | done | with_reducible rfl) rfl ?_
    try simp only [Act.put, pB, pC, pD]
    refine et 2 (bl 8 7) rfl (fun w' hR => by go_simp; first | done | with_reducible rfl) rfl ?_
    try simp only [Act.put, pB, pC, pD]
    refine re_step (fuel := 4) 3 rfl (by kernel_rfl) (listed' := (bl 8 15)) (by kernel_rfl) (by kernel_rfl) (fun K' hK => ?_)
    go_wp2_with (go_at_call 145; refine (insnum_calls g b w.heap.size _ wr.drew HI.out.drew.rd HI.out.drew.ptr).mono ?_; rintro _ w3 ⟨rfl, hd, hk, -⟩; rw [HX.out]; have HD3 := aM hd; have HK3 := aM hk; clear hd hk)
    refine hK.out _ _ (HK3.out.mono (fun i _ h => .inl h)) ?_
    clear hK K'
    try simp only [Act.put, pB, pC, pD]
    refine re_step (fuel := 3) 4 rfl (by kernel_rfl) (listed' := (bl 8 31)) (by kernel_rfl) (by kernel_rfl) (fun K' hK => ?_)
    (go_wp2_with fail); have HD4 := aM (HD3.out.below ((Below.refl w3.heap.size w3).alloc (Nat.le_refl _) (.cells #[.int .i64 x] 3)))
    refine hK.out _ _ (Keep.of_below ((Below.refl w3.heap.size w3).alloc (Nat.le_refl _) (.cells #[.int .i64 x] 3))) ?_
    clear hK K'
    try simp only [Act.put, pB, pC, pD]
    refine re_step (fuel := 2) 5 rfl (by kernel_rfl) (listed' := (bl 8 63)) (by kernel_rfl) (by kernel_rfl) (fun K' hK => ?_)
    refine R_append_wp kI (W := w3) (gb + 1) (.tmp 69) (.tmp 72) 31 3 (.int .i64 0) 8 rfl Try.underlying31 infoI rfl (by decide) (by decide) va xs x [.int .i64 x] (fun k => gb < k) (fun _ => False) rfl rfl rfl (fun _ h => h.elim) (fun k hk => ?_) (Kd.R_step HV.out (fun k hk hl => HK3.out.block k hl (fun e => by have := HI.out.hg; have := HI.out.hgb; omega))) ?_ (by omega) ?_; (have := HK3.out.size; have := blk_lt HI.out.bx; exact Nat.lt_of_lt_of_le this (Nat.le_trans HK3.out.size hk)); (have := HK3.out.size; have := blk_lt HI.out.bx; exact Nat.lt_of_lt_of_le this HK3.out.size); intro v4 w4 ho4 hg4 hg4' hat4; obtain ⟨A4, c4, hv4, -, -⟩ := Kd.R_reads ho4; obtain ⟨m4, hm4⟩ : ∃ m4, (xs ++ [x]).length = m4 := ⟨_, rfl⟩; rw [hm4] at hv4; subst hv4; clear hm4; have HO4 := aM ho4; have HK4 := aM (show Keep (fun i => gb < i) (w3.alloc (.cells #[.int .i64 x] 3)) w4 from grown_keep hg4' (fun i hi => HV.out.1 i hi)); clear ho4 hg4 hg4' hat4
    refine hK.out _ _ (HK4.out.mono (fun i _ h => .inr h)) ?_
    clear hK K'
    try simp only [Act.put, pB, pC, pD]
    refine et 6 (bl 8 127) rfl (fun w' hR => by go_simp; first | done | with_reducible rfl) rfl ?_
    try simp only [Act.put, pB, pC, pD]
    refine re_free (fuel := 0) 7 rfl (by kernel_rfl) (listed' := (bl 8 255)) (by kernel_rfl) (by kernel_rfl) (fun K' hK => ?_)
    have hk4 : Keep (fun i => i = g ∨ gb < i) wr.drew w4 := ((HK3.out.mono (fun i _ h => .inl h)).trans (Keep.of_below ((Below.refl w3.heap.size w3).alloc (Nat.le_refl _) (.cells #[.int .i64 x] 3)))).trans (HK4.out.mono (fun i _ h => .inr h)); have hh := HC6.out w4 hk4; have x7 := cell_at hh 6 va (HF6.out va); have x8 := blk_frozen hh 6; have HKW := aM hk4; clear hk4 hh; go_wp2_with fail
    refine hK.out _ _ trivial ?_
    clear hK K'
    try simp only [Act.put, pB, pC, pD]
    refine re_done (by kernel_rfl) ?_
    have hrd : Rd w4 g b (sBelow 4096 (sReps j s4).2).2 := HD4.out.keep HK4.out (fun e => by have := HI.out.hg; have := HI.out.hgb; omega) (fun e => by have := HI.out.hb; have := HI.out.hgb; omega)
    have hin := (HI.out.drew.move HKW.out hrd).set 6 (.slice A4 m4 c4)
    rw [HFS.out] at hin
    have HIN := aM hin
    have HRN := aM (show kI.R 3 (w4.setCell ⟨gb, 6, none⟩ (.slice A4 m4 c4)) (gb + 1) (fun k => gb < k) (.slice A4 m4 c4) (xs ++ [x]) from Kd.R_step HO4.out (fun k hk hl => Below.heap_setCell _ _ _ _ (show k ≠ gb by omega)))
    have HSR := aM (show sReps (j + 1) s4 = (xs ++ [x], (sBelow 4096 (sReps j s4).2).2) by rw [sReps, HXS.out, HX.out])
    clear hrd hin
    go_wp2
    go_roundw
    case rel => exact ⟨j + 1, by omega, by go_num, .slice A4 m4 c4, ⟨by rw [HSR.out]; exact HIN.out⟩, ⟨by rw [HSR.out]; exact HRN.out⟩⟩
    case measure => simp [intOf]; omega
  · obtain rfl : j = N := by omega
    obtain rfl := HF.out
    obtain ⟨Av, cv, hv, -, -⟩ := Kd.R_reads HV.out
    obtain ⟨mv, hm⟩ : ∃ m, (sReps j s4).1.length = m := ⟨_, rfl⟩
    rw [hm] at hv
    subst hv
    clear hm
    have q0 := (HI.out.cell 0 _ rfl).1; obtain ⟨q1, z1⟩ := HI.out.cell 1 _ rfl; obtain ⟨q2, z2⟩ := HI.out.cell 2 _ rfl; obtain ⟨q3, z3⟩ := HI.out.cell 3 _ rfl; obtain ⟨q4, z4⟩ := HI.out.cell 4 _ rfl; obtain ⟨q5, z5⟩ := HI.out.cell 5 _ rfl; obtain ⟨q6, z6⟩ := HI.out.cell 6 _ rfl; have qr := HI.out.ptr; have qs := HI.out.ptrs; obtain ⟨⟨y0, y1, y2, y3, y4, y5, y6⟩, v0, v1, v2, v3, v4, v5, v6⟩ := HI.out.rest
    go_wp2
    have p := HI.out.res; have p0 := fun x0 x1 x2 x3 x4 x5 x6 => cell_at (put7 p x0 x1 x2 x3 x4 x5 x6) 0 _ rfl; have p1 := fun x0 x1 x2 x3 x4 x5 x6 => cell_at (put7 p x0 x1 x2 x3 x4 x5 x6) 1 _ rfl; have p2 := fun x0 x1 x2 x3 x4 x5 x6 => cell_at (put7 p x0 x1 x2 x3 x4 x5 x6) 2 _ rfl; have p3 := fun x0 x1 x2 x3 x4 x5 x6 => cell_at (put7 p x0 x1 x2 x3 x4 x5 x6) 3 _ rfl; have p4 := fun x0 x1 x2 x3 x4 x5 x6 => cell_at (put7 p x0 x1 x2 x3 x4 x5 x6) 4 _ rfl; have p5 := fun x0 x1 x2 x3 x4 x5 x6 => cell_at (put7 p x0 x1 x2 x3 x4 x5 x6) 5 _ rfl; have p6 := fun x0 x1 x2 x3 x4 x5 x6 => cell_at (put7 p x0 x1 x2 x3 x4 x5 x6) 6 _ rfl; (try simp only [Exit.inBlock, Exit.then]); refine bodyPost_ret (by simp [results, Try.results126, go_sem, p0, p1, p2, p3, p4, p5, p6]; try rfl) rfl ?_
    obtain ⟨-, o2, o3, o4⟩ := HI.out.out _ _ _ _ _ _ _ _ rfl
    have h3 := HI.out.hgb
    exact ⟨.slice Av mv cv, rfl, Kd.R_lower (Kd.R_mono (Kd.R_step HV.out (fun k hk hl => o4.block k hl (fun e => by have e : k = w.heap.size + 1 := e; omega))) (fun _ _ => trivial)) (by omega), o2, o3⟩
theorem wread_ins (g b : Nat) (s : St) (w : World) (h : Rd w g b s) (hg : g < w.heap.size) : Calls Try.prog 126 #[.pointer (some ⟨g, 0, none⟩)] w fun e w' => ∃ v, e = .returned (insVal (sIns s).1 v) ∧ kI.R 3 w' w.heap.size (fun _ => True) v (sIns s).1.2.2.2.2.2.2 ∧ Rd w' g b (sIns s).2 ∧ Keep (· = g) w w' := by
 rcases kinds (sBelow 256 s).1 with hk | hk | hk | hk | hk | hk | hk | hk | hk
 · rw [show sIns s = sBody 1 (sBelow 256 s).2 by simp [sIns, hk]]; exact rins1 g b s w h hg hk
 · rw [show sIns s = sBody 2 (sBelow 256 s).2 by simp [sIns, hk]]; exact rins2 g b s w h hg hk
 · rw [show sIns s = sBody 3 (sBelow 256 s).2 by simp [sIns, hk]]; exact rins3 g b s w h hg hk
 · rw [show sIns s = sBody 4 (sBelow 256 s).2 by simp [sIns, hk]]; exact rins4 g b s w h hg hk
 · rw [show sIns s = sBody 5 (sBelow 256 s).2 by simp [sIns, hk]]; exact rins5 g b s w h hg hk
 · rw [show sIns s = sBody 6 (sBelow 256 s).2 by simp [sIns, hk]]; exact rins6 g b s w h hg hk
 · rw [show sIns s = sBody 7 (sBelow 256 s).2 by simp [sIns, hk]]; exact rins7 g b s w h hg hk
 · rw [show sIns s = sBody 8 (sBelow 256 s).2 by simp [sIns, hk]]; exact rins8 g b s w h hg hk
 · have hk' := hk
   simp only [beq_eq_false_iff_ne] at hk'
   rw [show sIns s = (((sBelow 256 s).1, 0, 0, 0, 0, 0, []), sFail 20 (sBelow 256 s).2) from if_neg (by omega)]
   exact rins0 g b s w h hg _ rfl hk
end Go.Proofs.Ytnckonglodmfeaa.Ik
namespace Go.Proofs.Ytnckonglodmfeaa.Ik
open Ls Lc Go.RowKit Go.Proofs.YtnckonglodmfeaaW.PrintWords Go.Proofs.YtnckonglodmfeaaW.PrintLast Go.Proofs.YtnckonglodmfeaaW.PrintMore B R S Is Js
def endV (e : IEnd) : Value := .agg #[.int .u8 e.1, .int .i64 e.2.1, .int .i64 e.2.2.1, .int .i64 e.2.2.2]
set_option maxRecDepth 100000 in
theorem endnum_calls (g b gr : Nat) (s : St) (w : World) (h : Rd w g b s) (hr : w.cell? ⟨gr, 0, none⟩ = some (.pointer (some ⟨g, 0, none⟩))) :
 Calls Try.prog 147 #[.pointer (some ⟨gr, 0, none⟩)] w fun e w' => e = .returned (.int .i64 (sBelow 4096 s).1) ∧ Rd w' g b (sBelow 4096 s).2 ∧ Keep (· = g) w w' ∧ w'.heap.size = w.heap.size := by
 have H := aM h
 clear h
 go_enter Try.func147, Try.ntmps147
 go_wp2_with (go_at_call 46; refine (rd_below g b s 4096 _ H.out (by decide) (by decide)).mono ?_; rintro _ w1 ⟨rfl, hd, hk, hs⟩; have HD := aM hd; have HK := aM hk; have HS := aM hs; clear hd hk hs)
 go_ret
 exact ⟨rfl, HD.out, HK.out, HS.out⟩
structure EndS (w0 W : World) (g b gr gb : Nat) (s : St) (F : Array Value) : Prop where
 rd : Rd W g b s
 r : W.heap[gr]? = some (.cells #[.pointer (some ⟨g, 0, none⟩)] 109 (0, 0))
 res : W.heap[gr + 1]? = some (.cells #[.int .u8 0, .int .i64 0, .int .i64 0, .int .i64 0] 82 (0, 0))
 bx : W.heap[gb]? = some (.cells F 82 (0, 0))
 keep : Keep (· = g) w0 W
 base : w0.heap.size = gr
 hg : g < gr
 hb : b < gr
 hgb : gr + 2 ≤ gb
theorem EndS.step {w0 W W' : World} {g b gr gb : Nat} {s s' : St} {F : Array Value} (h : EndS w0 W g b gr gb s F) (hk : Keep (· = g) W W') (hr : Rd W' g b s') : EndS w0 W' g b gr gb s' F := by
 have h1 := h.hg
 have h2 := h.hb
 have h3 := h.hgb
 exact ⟨hr, (hk.block gr (blk_lt h.r) (fun e => by have e : gr = g := e; omega)).trans h.r, (hk.block _ (blk_lt h.res) (fun e => by have e : gr + 1 = g := e; omega)).trans h.res, (hk.block gb (blk_lt h.bx) (fun e => by have e : gb = g := e; omega)).trans h.bx, h.keep.trans hk, h.base, h1, h2, h3⟩
theorem EndS.set {w0 W : World} {g b gr gb : Nat} {s : St} {F : Array Value} (h : EndS w0 W g b gr gb s F) (j : Nat) (x : Value) : EndS w0 (W.setCell ⟨gb, j, none⟩ x) g b gr gb s (F.setIfInBounds j x) := by
 have h1 := h.hg
 have h2 := h.hb
 have h3 := h.hgb
 have hk : Keep (· = gb) W (W.setCell ⟨gb, j, none⟩ x) := (Keep.refl _ _).setCell ⟨gb, j, none⟩ x (fun _ => rfl)
 have ho : ∀ i, i ≠ gb → (W.setCell ⟨gb, j, none⟩ x).heap[i]? = W.heap[i]? := fun i hi => Below.heap_setCell _ _ _ _ hi
 exact ⟨h.rd.keep hk (by omega) (by omega), (ho gr (by omega)).trans h.r, (ho _ (by omega)).trans h.res, heap_setCell_same W gb j F _ _ h.bx, h.keep.setCell _ _ (fun hh => by have hh : gb < w0.heap.size := hh; rw [h.base] at hh; omega), h.base, h1, h2, h3⟩
theorem EndS.cell {w0 W : World} {g b gr gb : Nat} {s : St} {F : Array Value} (h : EndS w0 W g b gr gb s F) (j : Nat) (x : Value) (hx : F[j]? = some x) : W.cell? ⟨gb, j, none⟩ = some x ∧ W.frozen? ⟨gb, j, none⟩ = false := ⟨cell_at h.bx j x hx, blk_frozen h.bx j⟩
theorem EndS.ptr {w0 W : World} {g b gr gb : Nat} {s : St} {F : Array Value} (h : EndS w0 W g b gr gb s F) : W.cell? ⟨gr, 0, none⟩ = some (.pointer (some ⟨g, 0, none⟩)) := cell_at h.r 0 _ rfl
theorem EndS.ptrs {w0 W : World} {g b gr gb : Nat} {s : St} {F : Array Value} (h : EndS w0 W g b gr gb s F) : ∀ j x, (W.setCell ⟨gb, j, none⟩ x).cell? ⟨gr, 0, none⟩ = some (.pointer (some ⟨g, 0, none⟩)) := fun j x => (h.set j x).ptr
theorem end_num {w0 W : World} {g b gr gb : Nat} {s : St} {F : Array Value} (h : EndS w0 W g b gr gb s F) :
 Calls Try.prog 147 #[.pointer (some ⟨gr, 0, none⟩)] W fun e w' => e = .returned (.int .i64 (sBelow 4096 s).1) ∧ EndS w0 w' g b gr gb (sBelow 4096 s).2 F := by
 refine (endnum_calls g b gr s W h.rd h.ptr).mono ?_
 rintro e w' ⟨h1, h2, h3, -⟩
 exact ⟨h1, h.step h3 h2⟩
theorem end_fail {w0 W : World} {g b gr gb : Nat} {s : St} {F : Array Value} (h : EndS w0 W g b gr gb s F) (n : Int) :
 Calls Try.prog 94 #[.pointer (some ⟨g, 0, none⟩), .int .i64 n] W fun e w' => e = .returned (.tuple #[]) ∧ EndS w0 w' g b gr gb (sFail n s) F := by
 refine (rd_fail g b s n W h.rd).mono ?_
 rintro e w' ⟨h1, h2, h3, -⟩
 exact ⟨h1, h.step h3 h2⟩
theorem EndS.rest {w0 W : World} {g b gr gb : Nat} {s : St} {F : Array Value} (h : EndS w0 W g b gr gb s F) : (W.cell? ⟨gr + 1, 0, none⟩ = some (.int .u8 0) ∧ W.cell? ⟨gr + 1, 1, none⟩ = some (.int .i64 0) ∧ W.cell? ⟨gr + 1, 2, none⟩ = some (.int .i64 0) ∧ W.cell? ⟨gr + 1, 3, none⟩ = some (.int .i64 0)) ∧
 W.frozen? ⟨gr + 1, 0, none⟩ = false ∧ W.frozen? ⟨gr + 1, 1, none⟩ = false ∧ W.frozen? ⟨gr + 1, 2, none⟩ = false ∧ W.frozen? ⟨gr + 1, 3, none⟩ = false :=
 ⟨⟨cell_at h.res 0 _ rfl, cell_at h.res 1 _ rfl, cell_at h.res 2 _ rfl, cell_at h.res 3 _ rfl⟩, blk_frozen h.res 0, blk_frozen h.res 1, blk_frozen h.res 2, blk_frozen h.res 3⟩
theorem put4 {W : World} {g e : Nat} {u0 u1 u2 u3 : Value} (h : W.heap[g]? = some (.cells #[u0, u1, u2, u3] e (0, 0))) (x0 x1 x2 x3 : Value) :
 ((((W.setCell ⟨g, 0, none⟩ x0).setCell ⟨g, 1, none⟩ x1).setCell ⟨g, 2, none⟩ x2).setCell ⟨g, 3, none⟩ x3).heap[g]? = some (.cells #[x0, x1, x2, x3] e (0, 0)) := by
 have a0 := blk_put h 0 x0 (show _ = #[x0, u1, u2, u3] from rfl)
 have a1 := blk_put a0 1 x1 (show _ = #[x0, x1, u2, u3] from rfl)
 have a2 := blk_put a1 2 x2 (show _ = #[x0, x1, x2, u3] from rfl)
 exact blk_put a2 3 x3 rfl
theorem put4_far {W : World} {g : Nat} (x0 x1 x2 x3 : Value) : Keep (· = g) W ((((W.setCell ⟨g, 0, none⟩ x0).setCell ⟨g, 1, none⟩ x1).setCell ⟨g, 2, none⟩ x2).setCell ⟨g, 3, none⟩ x3) := by
 have a0 := (Keep.refl (· = g) W).setCell ⟨g, 0, none⟩ x0 (fun _ => rfl)
 have a1 := a0.setCell ⟨g, 1, none⟩ x1 (fun _ => rfl)
 have a2 := a1.setCell ⟨g, 2, none⟩ x2 (fun _ => rfl)
 exact a2.setCell ⟨g, 3, none⟩ x3 (fun _ => rfl)
theorem EndS.out {w0 W : World} {g b gr gb : Nat} {s : St} {F : Array Value} (h : EndS w0 W g b gr gb s F) (x0 x1 x2 x3 : Value) (W' : World) (e : W' = ((((W.setCell ⟨gr + 1, 0, none⟩ x0).setCell ⟨gr + 1, 1, none⟩ x1).setCell ⟨gr + 1, 2, none⟩ x2).setCell ⟨gr + 1, 3, none⟩ x3)) :
 W'.heap[gr + 1]? = some (.cells #[x0, x1, x2, x3] 82 (0, 0)) ∧ Rd W' g b s ∧ Keep (· = g) w0 W' ∧ Keep (· = gr + 1) W W' := by
 have h1 := h.hg
 have h2 := h.hb
 have hk := put4_far (W := W) (g := gr + 1) x0 x1 x2 x3
 subst e
 exact ⟨put4 h.res x0 x1 x2 x3, h.rd.keep hk (by omega) (by omega), h.keep.then hk (fun i hi e => by have e : i = gr + 1 := e; rw [h.base] at hi; omega), hk⟩
theorem EndS.drew {w0 W : World} {g b gr gb : Nat} {s : St} {F : Array Value} (h : EndS w0 W g b gr gb s F) : EndS w0 W.drew g b gr gb s F := ⟨⟨h.rd.1, h.rd.2⟩, h.r, h.res, h.bx, h.keep.drew, h.base, h.hg, h.hb, h.hgb⟩
theorem EndS.move {w0 W W' : World} {g b gr gb : Nat} {s s' : St} {F : Array Value} (h : EndS w0 W g b gr gb s F) (hk : Keep (fun i => i = g ∨ gb < i) W W') (hr : Rd W' g b s') : EndS w0 W' g b gr gb s' F := by
 have h1 := h.hg
 have h2 := h.hb
 have h3 := h.hgb
 exact ⟨hr, (hk.block gr (blk_lt h.r) (fun e => by omega)).trans h.r, (hk.block _ (blk_lt h.res) (fun e => by omega)).trans h.res, (hk.block gb (blk_lt h.bx) (fun e => by omega)).trans h.bx, h.keep.then hk (fun i hi e => by rw [h.base] at hi; omega), h.base, h1, h2, h3⟩
theorem end_start {w w1 : World} {g b : Nat} {s : St} {c1 c2 F : Array Value} {e1 e2 : Nat} (hk : Keep (· = g) ((w.alloc (.cells c1 e1)).alloc (.cells c2 e2)) w1) (hr : Rd w1 g b s) (hg : g < w.heap.size) (hb : b < w.heap.size)
 (h1 : c1 = #[.pointer (some ⟨g, 0, none⟩)]) (h2 : e1 = 109) (h3 : c2 = #[.int .u8 0, .int .i64 0, .int .i64 0, .int .i64 0]) (h4 : e2 = 82) :
 EndS w (w1.alloc (.cells F 82)) g b w.heap.size w1.heap.size s F := by
 subst h1 h2 h3 h4
 have hs := hk.size
 rw [World.size_alloc, World.size_alloc] at hs
 have a1 : w1.heap[w.heap.size]? = some (.cells #[.pointer (some ⟨g, 0, none⟩)] 109 (0, 0)) := by
  rw [hk.block _ (by rw [World.size_alloc, World.size_alloc]; omega) (fun e => by have e : w.heap.size = g := e; omega), heap_alloc_old _ _ (by rw [World.size_alloc]; omega), heap_alloc_new]
 have a2 : w1.heap[w.heap.size + 1]? = some (.cells #[.int .u8 0, .int .i64 0, .int .i64 0, .int .i64 0] 82 (0, 0)) := by
  rw [hk.block _ (by rw [World.size_alloc, World.size_alloc]; omega) (fun e => by have e : w.heap.size + 1 = g := e; omega), ← World.size_alloc w (.cells #[.pointer (some ⟨g, 0, none⟩)] 109), heap_alloc_new]
 have hb2 : Below w1.heap.size w1 (w1.alloc (.cells F 82)) := (Below.refl _ _).alloc (Nat.le_refl _) _
 exact ⟨hr.below hb2, (hb2.block _ (by omega)).trans a1, (hb2.block _ (by omega)).trans a2, heap_alloc_new _ _, ((((Keep.refl (· = g) w).alloc _).alloc _).trans hk).alloc _, rfl, hg, hb, hs⟩
set_option maxHeartbeats 4000000 in
set_option maxRecDepth 100000 in
theorem rend1 (g b : Nat) (s : St) (w : World) (h : Rd w g b s) (hg : g < w.heap.size) (hk : (sBelow 256 s).1 = 1) :
 Calls Try.prog 127 #[.pointer (some ⟨g, 0, none⟩)] w fun e w' => e = .returned (endV (sEnd s).1) ∧ Rd w' g b (sEnd s).2 ∧ Keep (· = g) w w' := by
 have mixed : Try.prog.follows .mixedOrders = true := by kernel_rfl
 have H := aM h
 have HE := aM hk
 have HWK := aM (trivial)
 obtain ⟨s1, hs1⟩ : ∃ s1, (sBelow 256 s).2 = s1 := ⟨_, rfl⟩
 have HS1 := aM hs1
 rw [show sEnd s = ((1, 0, (sBelow 4096 s1).1, 0), (sBelow 4096 s1).2) from by simp [sEnd, show sBelow 256 s = (1, s1) from by rw [← hk, ← hs1]]]
 clear h hk hs1
 go_enter Try.func127, Try.ntmps127
 go_upto_region 2 with (go_at_call 46; refine (rd_below g b s 256 _ (H.out.below (((Below.refl _ _).alloc (Nat.le_refl _) _).alloc (by simp) _)) (by decide) (by decide)).mono ?_; rintro _ w1 ⟨rfl, hd, hk, hs⟩; have hwk := HWK.out; rw [HE.out]; rw [HS1.out] at hd; have HD := aM hd; have HK := aM hk; clear hd hk hs)
 have HI := aM (end_start (F := #[.int .u8 1, .int .i64 0, .int .i64 0, .int .i64 0]) HK.out HD.out hg H.out.2.2 rfl rfl rfl rfl); clear HD HK; obtain ⟨gb, hgb⟩ : ∃ gb, w1.heap.size = gb := ⟨_, rfl⟩; rw [hgb] at HI ⊢; obtain ⟨WB, hWB⟩ : ∃ WB, WB = w1.alloc (.cells #[.int .u8 1, .int .i64 0, .int .i64 0, .int .i64 0] 82) := ⟨_, rfl⟩; rw [← hWB] at HI ⊢; clear hWB hgb; have q0 := (HI.out.cell 0 _ rfl).1; obtain ⟨q1, z1⟩ := HI.out.cell 1 _ rfl; obtain ⟨q2, z2⟩ := HI.out.cell 2 _ rfl; obtain ⟨q3, z3⟩ := HI.out.cell 3 _ rfl; have qr := HI.out.ptr; have qs := HI.out.ptrs; obtain ⟨⟨y0, y1, y2, y3⟩, v0, v1, v2, v3⟩ := HI.out.rest
 go_upto_region 13 with (go_at_call 147; (first | refine (end_num HI.out ).mono ?_ | refine (end_num (HI.out.set _ _) ).mono ?_); rintro _ w2 ⟨rfl, hi⟩; clear HI; (try clear q0 q1 q2 q3 z1 z2 z3 qr qs y0 y1 y2 y3 v0 v1 v2 v3); have HI := aM hi; clear hi; have q0 := (HI.out.cell 0 _ rfl).1; obtain ⟨q1, z1⟩ := HI.out.cell 1 _ rfl; obtain ⟨q2, z2⟩ := HI.out.cell 2 _ rfl; obtain ⟨q3, z3⟩ := HI.out.cell 3 _ rfl; have qr := HI.out.ptr; have qs := HI.out.ptrs; obtain ⟨⟨y0, y1, y2, y3⟩, v0, v1, v2, v3⟩ := HI.out.rest)
 have hset := HI.out.set 2 (.int .i64 (sBelow 4096 s1).1)
 generalize w2.setCell ⟨gb, 2, none⟩ (.int .i64 (sBelow 4096 s1).1) = WL at hset ⊢
 clear HI
 have HI := aM hset
 clear q0 q1 q2 q3 z1 z2 z3 qr qs y0 y1 y2 y3 v0 v1 v2 v3
 clear hset
 have q0 := (HI.out.cell 0 _ rfl).1; obtain ⟨q1, z1⟩ := HI.out.cell 1 _ rfl; obtain ⟨q2, z2⟩ := HI.out.cell 2 _ rfl; obtain ⟨q3, z3⟩ := HI.out.cell 3 _ rfl; have qr := HI.out.ptr; have qs := HI.out.ptrs; obtain ⟨⟨y0, y1, y2, y3⟩, v0, v1, v2, v3⟩ := HI.out.rest
 go_wp2
 have p := HI.out.res; have p0 := fun x0 x1 x2 x3 => cell_at (put4 p x0 x1 x2 x3) 0 _ rfl; have p1 := fun x0 x1 x2 x3 => cell_at (put4 p x0 x1 x2 x3) 1 _ rfl; have p2 := fun x0 x1 x2 x3 => cell_at (put4 p x0 x1 x2 x3) 2 _ rfl; have p3 := fun x0 x1 x2 x3 => cell_at (put4 p x0 x1 x2 x3) 3 _ rfl; (try simp only [Exit.inBlock, Exit.then]); refine bodyPost_ret (by simp [results, Try.results127, go_sem, p0, p1, p2, p3]; try rfl) rfl ?_
 obtain ⟨-, o2, o3, -⟩ := HI.out.out _ _ _ _ _ rfl
 exact ⟨rfl, o2, o3⟩
set_option maxHeartbeats 4000000 in
set_option maxRecDepth 100000 in
theorem rend2 (g b : Nat) (s : St) (w : World) (h : Rd w g b s) (hg : g < w.heap.size) (hk : (sBelow 256 s).1 = 2) :
 Calls Try.prog 127 #[.pointer (some ⟨g, 0, none⟩)] w fun e w' => e = .returned (endV (sEnd s).1) ∧ Rd w' g b (sEnd s).2 ∧ Keep (· = g) w w' := by
 have mixed : Try.prog.follows .mixedOrders = true := by kernel_rfl
 have H := aM h
 have HE := aM hk
 have HWK := aM (trivial)
 obtain ⟨s1, hs1⟩ : ∃ s1, (sBelow 256 s).2 = s1 := ⟨_, rfl⟩
 have HS1 := aM hs1
 rw [show sEnd s = ((2, (sBelow 4096 s1).1, (sBelow 4096 (sBelow 4096 s1).2).1, (sBelow 4096 (sBelow 4096 (sBelow 4096 s1).2).2).1), (sBelow 4096 (sBelow 4096 (sBelow 4096 s1).2).2).2) from by simp [sEnd, show sBelow 256 s = (2, s1) from by rw [← hk, ← hs1]]]
 clear h hk hs1
 go_enter Try.func127, Try.ntmps127
 go_upto_region 2 with (go_at_call 46; refine (rd_below g b s 256 _ (H.out.below (((Below.refl _ _).alloc (Nat.le_refl _) _).alloc (by simp) _)) (by decide) (by decide)).mono ?_; rintro _ w1 ⟨rfl, hd, hk, hs⟩; have hwk := HWK.out; rw [HE.out]; rw [HS1.out] at hd; have HD := aM hd; have HK := aM hk; clear hd hk hs)
 have HI := aM (end_start (F := #[.int .u8 2, .int .i64 0, .int .i64 0, .int .i64 0]) HK.out HD.out hg H.out.2.2 rfl rfl rfl rfl); clear HD HK; obtain ⟨gb, hgb⟩ : ∃ gb, w1.heap.size = gb := ⟨_, rfl⟩; rw [hgb] at HI ⊢; obtain ⟨WB, hWB⟩ : ∃ WB, WB = w1.alloc (.cells #[.int .u8 2, .int .i64 0, .int .i64 0, .int .i64 0] 82) := ⟨_, rfl⟩; rw [← hWB] at HI ⊢; clear hWB hgb; have q0 := (HI.out.cell 0 _ rfl).1; obtain ⟨q1, z1⟩ := HI.out.cell 1 _ rfl; obtain ⟨q2, z2⟩ := HI.out.cell 2 _ rfl; obtain ⟨q3, z3⟩ := HI.out.cell 3 _ rfl; have qr := HI.out.ptr; have qs := HI.out.ptrs; obtain ⟨⟨y0, y1, y2, y3⟩, v0, v1, v2, v3⟩ := HI.out.rest
 go_upto_region 13 with (go_at_call 147; (first | refine (end_num HI.out ).mono ?_ | refine (end_num (HI.out.set _ _) ).mono ?_); rintro _ w2 ⟨rfl, hi⟩; clear HI; (try clear q0 q1 q2 q3 z1 z2 z3 qr qs y0 y1 y2 y3 v0 v1 v2 v3); have HI := aM hi; clear hi; have q0 := (HI.out.cell 0 _ rfl).1; obtain ⟨q1, z1⟩ := HI.out.cell 1 _ rfl; obtain ⟨q2, z2⟩ := HI.out.cell 2 _ rfl; obtain ⟨q3, z3⟩ := HI.out.cell 3 _ rfl; have qr := HI.out.ptr; have qs := HI.out.ptrs; obtain ⟨⟨y0, y1, y2, y3⟩, v0, v1, v2, v3⟩ := HI.out.rest)
 have hset := HI.out.set 3 (.int .i64 (sBelow 4096 (sBelow 4096 (sBelow 4096 s1).2).2).1)
 generalize w2.setCell ⟨gb, 3, none⟩ (.int .i64 (sBelow 4096 (sBelow 4096 (sBelow 4096 s1).2).2).1) = WL at hset ⊢
 clear HI
 have HI := aM hset
 clear q0 q1 q2 q3 z1 z2 z3 qr qs y0 y1 y2 y3 v0 v1 v2 v3
 clear hset
 have q0 := (HI.out.cell 0 _ rfl).1; obtain ⟨q1, z1⟩ := HI.out.cell 1 _ rfl; obtain ⟨q2, z2⟩ := HI.out.cell 2 _ rfl; obtain ⟨q3, z3⟩ := HI.out.cell 3 _ rfl; have qr := HI.out.ptr; have qs := HI.out.ptrs; obtain ⟨⟨y0, y1, y2, y3⟩, v0, v1, v2, v3⟩ := HI.out.rest
 go_wp2
 have p := HI.out.res; have p0 := fun x0 x1 x2 x3 => cell_at (put4 p x0 x1 x2 x3) 0 _ rfl; have p1 := fun x0 x1 x2 x3 => cell_at (put4 p x0 x1 x2 x3) 1 _ rfl; have p2 := fun x0 x1 x2 x3 => cell_at (put4 p x0 x1 x2 x3) 2 _ rfl; have p3 := fun x0 x1 x2 x3 => cell_at (put4 p x0 x1 x2 x3) 3 _ rfl; (try simp only [Exit.inBlock, Exit.then]); refine bodyPost_ret (by simp [results, Try.results127, go_sem, p0, p1, p2, p3]; try rfl) rfl ?_
 obtain ⟨-, o2, o3, -⟩ := HI.out.out _ _ _ _ _ rfl
 exact ⟨rfl, o2, o3⟩
set_option maxHeartbeats 4000000 in
set_option maxRecDepth 100000 in
theorem rend3 (g b : Nat) (s : St) (w : World) (h : Rd w g b s) (hg : g < w.heap.size) (hk : (sBelow 256 s).1 = 3) :
 Calls Try.prog 127 #[.pointer (some ⟨g, 0, none⟩)] w fun e w' => e = .returned (endV (sEnd s).1) ∧ Rd w' g b (sEnd s).2 ∧ Keep (· = g) w w' := by
 have mixed : Try.prog.follows .mixedOrders = true := by kernel_rfl
 have H := aM h
 have HE := aM hk
 have HWK := aM (trivial)
 obtain ⟨s1, hs1⟩ : ∃ s1, (sBelow 256 s).2 = s1 := ⟨_, rfl⟩
 have HS1 := aM hs1
 rw [show sEnd s = ((3, (sBelow 4096 s1).1, 0, 0), (sBelow 4096 s1).2) from by simp [sEnd, show sBelow 256 s = (3, s1) from by rw [← hk, ← hs1]]]
 clear h hk hs1
 go_enter Try.func127, Try.ntmps127
 go_upto_region 2 with (go_at_call 46; refine (rd_below g b s 256 _ (H.out.below (((Below.refl _ _).alloc (Nat.le_refl _) _).alloc (by simp) _)) (by decide) (by decide)).mono ?_; rintro _ w1 ⟨rfl, hd, hk, hs⟩; have hwk := HWK.out; rw [HE.out]; rw [HS1.out] at hd; have HD := aM hd; have HK := aM hk; clear hd hk hs)
 have HI := aM (end_start (F := #[.int .u8 3, .int .i64 0, .int .i64 0, .int .i64 0]) HK.out HD.out hg H.out.2.2 rfl rfl rfl rfl); clear HD HK; obtain ⟨gb, hgb⟩ : ∃ gb, w1.heap.size = gb := ⟨_, rfl⟩; rw [hgb] at HI ⊢; obtain ⟨WB, hWB⟩ : ∃ WB, WB = w1.alloc (.cells #[.int .u8 3, .int .i64 0, .int .i64 0, .int .i64 0] 82) := ⟨_, rfl⟩; rw [← hWB] at HI ⊢; clear hWB hgb; have q0 := (HI.out.cell 0 _ rfl).1; obtain ⟨q1, z1⟩ := HI.out.cell 1 _ rfl; obtain ⟨q2, z2⟩ := HI.out.cell 2 _ rfl; obtain ⟨q3, z3⟩ := HI.out.cell 3 _ rfl; have qr := HI.out.ptr; have qs := HI.out.ptrs; obtain ⟨⟨y0, y1, y2, y3⟩, v0, v1, v2, v3⟩ := HI.out.rest
 go_upto_region 13 with (go_at_call 147; (first | refine (end_num HI.out ).mono ?_ | refine (end_num (HI.out.set _ _) ).mono ?_); rintro _ w2 ⟨rfl, hi⟩; clear HI; (try clear q0 q1 q2 q3 z1 z2 z3 qr qs y0 y1 y2 y3 v0 v1 v2 v3); have HI := aM hi; clear hi; have q0 := (HI.out.cell 0 _ rfl).1; obtain ⟨q1, z1⟩ := HI.out.cell 1 _ rfl; obtain ⟨q2, z2⟩ := HI.out.cell 2 _ rfl; obtain ⟨q3, z3⟩ := HI.out.cell 3 _ rfl; have qr := HI.out.ptr; have qs := HI.out.ptrs; obtain ⟨⟨y0, y1, y2, y3⟩, v0, v1, v2, v3⟩ := HI.out.rest)
 have hset := HI.out.set 1 (.int .i64 (sBelow 4096 s1).1)
 generalize w2.setCell ⟨gb, 1, none⟩ (.int .i64 (sBelow 4096 s1).1) = WL at hset ⊢
 clear HI
 have HI := aM hset
 clear q0 q1 q2 q3 z1 z2 z3 qr qs y0 y1 y2 y3 v0 v1 v2 v3
 clear hset
 have q0 := (HI.out.cell 0 _ rfl).1; obtain ⟨q1, z1⟩ := HI.out.cell 1 _ rfl; obtain ⟨q2, z2⟩ := HI.out.cell 2 _ rfl; obtain ⟨q3, z3⟩ := HI.out.cell 3 _ rfl; have qr := HI.out.ptr; have qs := HI.out.ptrs; obtain ⟨⟨y0, y1, y2, y3⟩, v0, v1, v2, v3⟩ := HI.out.rest
 go_wp2
 have p := HI.out.res; have p0 := fun x0 x1 x2 x3 => cell_at (put4 p x0 x1 x2 x3) 0 _ rfl; have p1 := fun x0 x1 x2 x3 => cell_at (put4 p x0 x1 x2 x3) 1 _ rfl; have p2 := fun x0 x1 x2 x3 => cell_at (put4 p x0 x1 x2 x3) 2 _ rfl; have p3 := fun x0 x1 x2 x3 => cell_at (put4 p x0 x1 x2 x3) 3 _ rfl; (try simp only [Exit.inBlock, Exit.then]); refine bodyPost_ret (by simp [results, Try.results127, go_sem, p0, p1, p2, p3]; try rfl) rfl ?_
 obtain ⟨-, o2, o3, -⟩ := HI.out.out _ _ _ _ _ rfl
 exact ⟨rfl, o2, o3⟩
set_option maxHeartbeats 4000000 in
set_option maxRecDepth 100000 in
theorem rend0 (g b : Nat) (s : St) (w : World) (h : Rd w g b s) (hg : g < w.heap.size) (k : Int) (hk : (sBelow 256 s).1 = k) (hkk : (k == 1) = false ∧ (k == 2) = false ∧ (k == 3) = false) :
 Calls Try.prog 127 #[.pointer (some ⟨g, 0, none⟩)] w fun e w' => e = .returned (endV (sEnd s).1) ∧ Rd w' g b (sEnd s).2 ∧ Keep (· = g) w w' := by
 have mixed : Try.prog.follows .mixedOrders = true := by kernel_rfl
 have H := aM h
 have HE := aM hk
 have HWK := aM (show IntKind.u8.wrap k = k from by have := below_range (m := 256) (s := s) (by decide) h.2.1; rw [hk] at this; exact wraps_u8' _ this.1 this.2)
 obtain ⟨s1, hs1⟩ : ∃ s1, (sBelow 256 s).2 = s1 := ⟨_, rfl⟩
 have HS1 := aM hs1
 obtain ⟨e1, e2, e3⟩ := hkk
 have k1 := beq_eq_false_iff_ne.1 e1
 have k2 := beq_eq_false_iff_ne.1 e2
 have k3 := beq_eq_false_iff_ne.1 e3
 rw [show sEnd s = ((k, 0, 0, 0), sFail 20 s1) from by simp [sEnd, show sBelow 256 s = (k, s1) from by rw [← hk, ← hs1], k1, k2, k3]]
 clear h hk hs1
 go_enter Try.func127, Try.ntmps127
 go_upto_region 2 with (go_at_call 46; refine (rd_below g b s 256 _ (H.out.below (((Below.refl _ _).alloc (Nat.le_refl _) _).alloc (by simp) _)) (by decide) (by decide)).mono ?_; rintro _ w1 ⟨rfl, hd, hk, hs⟩; have hwk := HWK.out; rw [HE.out]; rw [HS1.out] at hd; have HD := aM hd; have HK := aM hk; clear hd hk hs)
 have HI := aM (end_start (F := #[.int .u8 k, .int .i64 0, .int .i64 0, .int .i64 0]) HK.out HD.out hg H.out.2.2 rfl rfl rfl rfl); clear HD HK; obtain ⟨gb, hgb⟩ : ∃ gb, w1.heap.size = gb := ⟨_, rfl⟩; rw [hgb] at HI ⊢; obtain ⟨WB, hWB⟩ : ∃ WB, WB = w1.alloc (.cells #[.int .u8 k, .int .i64 0, .int .i64 0, .int .i64 0] 82) := ⟨_, rfl⟩; rw [← hWB] at HI ⊢; clear hWB hgb; have q0 := (HI.out.cell 0 _ rfl).1; obtain ⟨q1, z1⟩ := HI.out.cell 1 _ rfl; obtain ⟨q2, z2⟩ := HI.out.cell 2 _ rfl; obtain ⟨q3, z3⟩ := HI.out.cell 3 _ rfl; have qr := HI.out.ptr; have qs := HI.out.ptrs; obtain ⟨⟨y0, y1, y2, y3⟩, v0, v1, v2, v3⟩ := HI.out.rest
 go_upto_region 13 with (go_at_call 94; (first | refine (end_fail HI.out 20).mono ?_ | refine (end_fail (HI.out.set _ _) 20).mono ?_); rintro _ w2 ⟨rfl, hi⟩; clear HI; (try clear q0 q1 q2 q3 z1 z2 z3 qr qs y0 y1 y2 y3 v0 v1 v2 v3); have HI := aM hi; clear hi; have q0 := (HI.out.cell 0 _ rfl).1; obtain ⟨q1, z1⟩ := HI.out.cell 1 _ rfl; obtain ⟨q2, z2⟩ := HI.out.cell 2 _ rfl; obtain ⟨q3, z3⟩ := HI.out.cell 3 _ rfl; have qr := HI.out.ptr; have qs := HI.out.ptrs; obtain ⟨⟨y0, y1, y2, y3⟩, v0, v1, v2, v3⟩ := HI.out.rest)
 go_wp2
 have p := HI.out.res; have p0 := fun x0 x1 x2 x3 => cell_at (put4 p x0 x1 x2 x3) 0 _ rfl; have p1 := fun x0 x1 x2 x3 => cell_at (put4 p x0 x1 x2 x3) 1 _ rfl; have p2 := fun x0 x1 x2 x3 => cell_at (put4 p x0 x1 x2 x3) 2 _ rfl; have p3 := fun x0 x1 x2 x3 => cell_at (put4 p x0 x1 x2 x3) 3 _ rfl; (try simp only [Exit.inBlock, Exit.then]); refine bodyPost_ret (by simp [results, Try.results127, go_sem, p0, p1, p2, p3]; try rfl) rfl ?_
 obtain ⟨-, o2, o3, -⟩ := HI.out.out _ _ _ _ _ rfl
 exact ⟨rfl, o2, o3⟩
theorem wread_end (g b : Nat) (s : St) (w : World) (h : Rd w g b s) (hg : g < w.heap.size) : Calls Try.prog 127 #[.pointer (some ⟨g, 0, none⟩)] w fun e w' => e = .returned (endV (sEnd s).1) ∧ Rd w' g b (sEnd s).2 ∧ Keep (· = g) w w' := by
 rcases (by simp only [beq_eq_false_iff_ne]; omega : (sBelow 256 s).1 = 1 ∨ (sBelow 256 s).1 = 2 ∨ (sBelow 256 s).1 = 3 ∨ (((sBelow 256 s).1 == 1) = false ∧ ((sBelow 256 s).1 == 2) = false ∧ ((sBelow 256 s).1 == 3) = false)) with hk | hk | hk | hk
 · exact rend1 g b s w h hg hk
 · exact rend2 g b s w h hg hk
 · exact rend3 g b s w h hg hk
 · exact rend0 g b s w h hg _ rfl hk
end Go.Proofs.Ytnckonglodmfeaa.Ik
namespace Go.Proofs.Ytnckonglodmfeaa.Ik
open Ls Lc Go.RowKit Go.Proofs.YtnckonglodmfeaaW.PrintWords Go.Proofs.YtnckonglodmfeaaW.PrintLast Go.Proofs.YtnckonglodmfeaaW.PrintMore B R S Is Js
structure BlkS (wo W : World) (g b gb : Nat) (s : St) (F : Array Value) : Prop where
 rd : Rd W g b s
 bx : W.heap[gb]? = some (.cells F 84 (0, 0))
 keep : Keep (· = g) wo W
 base : wo.heap.size ≤ gb
 hg : g < wo.heap.size
 hb : b < wo.heap.size
theorem BlkS.move {wo W W' : World} {g b gb : Nat} {s s' : St} {F : Array Value} (h : BlkS wo W g b gb s F) (hk : Keep (fun i => i = g ∨ gb < i) W W') (hr : Rd W' g b s') : BlkS wo W' g b gb s' F := by
 have h1 := h.hg
 have h2 := h.base
 exact ⟨hr, (hk.block gb (blk_lt h.bx) (fun e => by omega)).trans h.bx, h.keep.then hk (fun i hi e => by omega), h2, h1, h.hb⟩
theorem BlkS.step {wo W W' : World} {g b gb : Nat} {s s' : St} {F : Array Value} (h : BlkS wo W g b gb s F) (hk : Keep (· = g) W W') (hr : Rd W' g b s') : BlkS wo W' g b gb s' F := h.move (hk.mono (fun i _ e => .inl e)) hr
theorem BlkS.set {wo W : World} {g b gb : Nat} {s : St} {F : Array Value} (h : BlkS wo W g b gb s F) (j : Nat) (x : Value) : BlkS wo (W.setCell ⟨gb, j, none⟩ x) g b gb s (F.setIfInBounds j x) := by
 have h1 := h.hg
 have h2 := h.base
 have h3 := h.hb
 have hk : Keep (· = gb) W (W.setCell ⟨gb, j, none⟩ x) := (Keep.refl _ _).setCell ⟨gb, j, none⟩ x (fun _ => rfl)
 exact ⟨h.rd.keep hk (by omega) (by omega), heap_setCell_same W gb j F _ _ h.bx, h.keep.setCell _ _ (fun hh => by have hh : gb < wo.heap.size := hh; omega), h2, h1, h3⟩
theorem BlkS.drew {wo W : World} {g b gb : Nat} {s : St} {F : Array Value} (h : BlkS wo W g b gb s F) : BlkS wo W.drew g b gb s F := ⟨⟨h.rd.1, h.rd.2⟩, h.bx, h.keep.drew, h.base, h.hg, h.hb⟩
theorem BlkS.cell {wo W : World} {g b gb : Nat} {s : St} {F : Array Value} (h : BlkS wo W g b gb s F) (j : Nat) (x : Value) (hx : F[j]? = some x) : W.cell? ⟨gb, j, none⟩ = some x ∧ W.frozen? ⟨gb, j, none⟩ = false := ⟨cell_at h.bx j x hx, blk_frozen h.bx j⟩
theorem ins_M {w : World} {base : Nat} {ok : Nat → Prop} {k op d a b n : Int} {args : List Int} {v : Value} (h : kI.R 3 w base ok v args) : kIns.M w base ok (k, op, d, a, b, n, args) [.int .u8 k, .int .u8 op, .int .i64 d, .int .i64 a, .int .i64 b, .int .i64 n, v] :=
 ⟨[_], _, rfl, rfl, [_], _, rfl, rfl, [_], _, rfl, rfl, [_], _, rfl, rfl, [_], _, rfl, rfl, [_], _, rfl, rfl, v, rfl, h⟩
theorem blk_M {w : World} {base : Nat} {ok : Nat → Prop} {k a t e : Int} {l : List Ins} {v : Value} (h : kIns.R 92 w base ok v l) : kBlk.M w base ok (l, k, a, t, e) [v, .int .u8 k, .int .i64 a, .int .i64 t, .int .i64 e] :=
 ⟨[_], _, rfl, ⟨v, rfl, h⟩, [_], _, rfl, rfl, [_], _, rfl, rfl, [_], _, rfl, rfl, rfl⟩
theorem ins_fits {n : Nat} (h : n ≤ 1000) : (n + 1) * 64 ≤ 140737488355328 := by omega
theorem blk_fits {n : Nat} (h : n ≤ 1000) : (n + 1) * 56 ≤ 140737488355328 := by omega
theorem keep_of_below {N : Nat} {w w' : World} (h : Below N w w') : Keep (fun i => N ≤ i) w w' := ⟨h.os, h.tape, h.output, h.size, fun k _ hs => h.block k (Nat.lt_of_not_le hs)⟩
set_option maxHeartbeats 4000000 in
set_option maxRecDepth 100000 in
theorem wread_blocks (g b : Nat) (s : St) (most : Int) (w : World) (h : Rd w g b s) (hg : g < w.heap.size) (hm0 : 0 ≤ most) (hm1 : most ≤ 400) :
 Calls Try.prog 95 #[.pointer (some ⟨g, 0, none⟩), .int .i64 most] w fun e w' => ∃ v bs, e = .returned v ∧ kBlk.R 84 w' w.heap.size (fun _ => True) v bs ∧ ((sBlks most s).2.2 = 0 → bs = (sBlks most s).1) ∧ Rd w' g b (sBlks most s).2 ∧ Keep (· = g) w w' := by
 have mixed : Try.prog.follows .mixedOrders = true := by kernel_rfl
 have H := aM h
 have hr17 := below_range (m := 17) (by decide) h.2.1
 have HP := aM (below_pos (m := 17) (s := s))
 obtain ⟨N, hN⟩ : ∃ N : Nat, (sBelow 17 s).1 = (N : Int) := ⟨(sBelow 17 s).1.toNat, by omega⟩
 obtain ⟨s1, hs1⟩ : ∃ s1, (sBelow 17 s).2 = s1 := ⟨_, rfl⟩
 have hN16 : N ≤ 16 := by omega
 rw [show sBlks most s = sBlkN most N s1 by unfold sBlks; rw [hN, hs1]; rfl]
 have HN := aM hN
 have HS1 := aM hs1
 clear h hr17 hN hs1
 go_enter Try.func95, Try.ntmps95
 go_wp2_with (go_at_call 46; refine (rd_below g b s 17 _ H.out (by decide) (by decide)).mono ?_; rintro _ w1 ⟨rfl, hd, hk, -⟩; rw [HS1.out] at hd; rw [HN.out]; have HD := aM hd; have HK := aM hk; clear hd hk)
 have HC0 := aM (show 0 < N → s1.2 = 0 from fun h => by rw [← HS1.out]; exact HP.out (by rw [HN.out]; omega))
 go_loopw [5, 9] (fun vo vi wr => ∃ x : Nat, x ≤ N ∧ vi = .int .i64 x ∧ ∃ bs, Aside0 (kBlk.R 84 wr w.heap.size (fun _ => True) vo bs) ∧ Aside0 (Rd wr g b (sBlkN most x s1).2) ∧ Aside0 ((sBlkN most x s1).1 = bs ∧ (x < N → (sBlkN most x s1).2.2 = 0)) ∧ Aside0 (Keep (· = g) w wr)) (fun _ vi _ => N - (intOf vi).toNat)
 case atStart => exact ⟨0, by omega, rfl, [], ⟨Kd.R_nil _ _ _ _ _⟩, HD, ⟨rfl, HC0.out⟩, HK⟩
 case round =>
  clear HD HK
  obtain ⟨wo, hwo⟩ : ∃ wo, wo = wr := ⟨_, rfl⟩
  subst hwo
  obtain ⟨x, hx, rfl, bs, HO, HD, HB, HK⟩ := hrel
  by_cases hxN : x < N
  · obtain ⟨sx, hsx⟩ : ∃ sx, (sBlkN most x s1).2 = sx := ⟨_, rfl⟩
    have hc := HB.out.2 hxN
    rw [hsx] at hc
    have HNX := aM (show sBlkN most (x + 1) s1 = (bs ++ [(sBlk most sx).1], (sBlk most sx).2) by rw [blkN_succ (by rw [hsx]; exact hc), hsx, HB.out.1])
    have hbl : bs.length ≤ 16 := by rw [← HB.out.1]; exact Nat.le_trans (blkN_len _ _ _) (by omega)
    rw [hsx] at HD
    have hby := HD.out.2.1
    have hrm := below_range (m := most + 1) (by omega) hby
    obtain ⟨m, hm⟩ : ∃ m : Nat, (sBelow (most + 1) sx).1 = (m : Int) := ⟨(sBelow (most + 1) sx).1.toNat, by omega⟩
    obtain ⟨s2, hs2⟩ : ∃ s2, (sBelow (most + 1) sx).2 = s2 := ⟨_, rfl⟩
    have hm4 : m ≤ 400 := by omega
    have HSB := aM (show sBlk most sx = (((sInss m s2).1, (sEnd (sInss m s2).2).1), (sEnd (sInss m s2).2).2) by rw [blk_eq, hm, hs2]; rfl)
    have HM := aM hm
    have HS2 := aM hs2
    have hwrap := wrap_i64 (most + 1) (by omega) (by omega)
    have HGL := aM (show g < wo.heap.size ∧ b < wo.heap.size from ⟨HD.out.1.lt, HD.out.2.2⟩)
    clear hsx hc hby hrm hm hs2
    go_wp2_with (go_at_call 46; refine (rd_below g b sx (most + 1) _ (HD.out.below ((Below.refl _ _).alloc (Nat.le_refl _) _)) (by omega) (by omega)).mono ?_; rintro _ w1 ⟨rfl, hd, hk, -⟩; rw [HS2.out] at hd; rw [HM.out]; have HD2 := aM hd; have HK2 := aM hk; clear hd hk)
    have HI0 := aM (show BlkS wo w1 g b wo.heap.size s2 #[.slice none 0 0, .int .u8 0, .int .i64 0, .int .i64 0, .int .i64 0] from ⟨HD2.out, (HK2.out.block wo.heap.size (by rw [World.size_alloc]; omega) (fun e => by have e : wo.heap.size = g := e; have := HGL.out.1; omega)).trans (heap_alloc_new _ _), ((Keep.refl (· = g) wo).alloc _).trans HK2.out, Nat.le_refl _, HGL.out.1, HGL.out.2⟩)
    clear HD2 HK2
    go_loopw [15] (fun vi wi => ∃ i : Nat, i ≤ m ∧ vi = .int .i64 i ∧ ∃ vv is, Aside0 (BlkS wo wi g b wo.heap.size (sInss i s2).2 #[vv, .int .u8 0, .int .i64 0, .int .i64 0, .int .i64 0]) ∧ Aside0 (kIns.R 92 wi (wo.heap.size + 1) (fun k => wo.heap.size < k) vv is) ∧ Aside0 ((sInss i s2).1 = is)) (fun vi _ => m - (intOf vi).toNat)
    case atStart => exact ⟨0, by omega, rfl, .slice none 0 0, [], HI0, ⟨Kd.R_nil _ _ _ _ _⟩, ⟨rfl⟩⟩
    case round =>
     clear HI0
     obtain ⟨wi, hwi⟩ : ∃ wi, wi = wr := ⟨_, rfl⟩
     subst hwi
     obtain ⟨i, hi, rfl, vv, is, HI, HV, HS⟩ := hrel
     by_cases him : i < m
     · obtain ⟨si, hsi⟩ : ∃ si, (sInss i s2).2 = si := ⟨_, rfl⟩
       have HSI := aM hsi
       rw [hsi] at HI
       clear hsi
       by_cases hc : si.2 = 0
       · obtain ⟨⟨k, op, d, a, bb, nn, args⟩, s', hx⟩ : ∃ x s', sIns si = (x, s') := ⟨_, _, rfl⟩
         have HNI := aM (show sInss (i + 1) s2 = (is ++ [(k, op, d, a, bb, nn, args)], s') by rw [inss_succ (by rw [HSI.out]; exact hc), HSI.out, HS.out, hx])
         have hil : is.length ≤ 1000 := by rw [← HS.out]; exact Nat.le_trans (inss_len _ _) (by omega)
         have HX := aM hx
         have HL := aM (blk_lt HI.out.bx)
         have HCD := aM hc
         have HC0' := aM (show ∀ W', Keep (fun i => i = g ∨ wo.heap.size < i) wi.drew W' → W'.heap[wo.heap.size]? = some (.cells #[vv, .int .u8 0, .int .i64 0, .int .i64 0, .int .i64 0] 84 (0, 0)) from fun W' h => (h.block wo.heap.size (blk_lt HI.out.bx) (fun e => by have := HI.out.hg; omega)).trans HI.out.bx)
         clear hx hc
         go_wp2_with (go_at_call 99; refine (rd_code g b si _ HI.out.rd).mono ?_; rintro _ _ ⟨rfl, rfl⟩; rw [HCD.out])
         refine re_start [7] (fun i => i = g ∨ wo.heap.size < i) (by kernel_rfl) (n := 8) (l := (bl 8 0)) (by kernel_rfl) (by kernel_rfl) ?_
         refine et 0 (bl 8 1) rfl (fun w' hR => by go_simp; first | done | with_reducible rfl) rfl ?_
         try simp only [Act.put, pB, pC, pD]
         refine et 1 (bl 8 3) rfl (fun w' hR => by have x0 := cell_at (HC0'.out w' hR) 0 vv rfl; go_simp; first | done | with_reducible rfl) rfl ?_
         try simp only [Act.put, pB, pC, pD]
         refine et 2 (bl 8 7) rfl (fun w' hR => by go_simp; first | done | with_reducible rfl) rfl ?_
         try simp only [Act.put, pB, pC, pD]
         refine re_step (fuel := 4) 3 rfl (by kernel_rfl) (listed' := (bl 8 15)) (by kernel_rfl) (by kernel_rfl) (fun K' hK => ?_)
         go_wp2_with (go_at_call 126; refine (wread_ins g b si wi.drew HI.out.drew.rd (HI.out.drew.rd.1.lt)).mono ?_; rintro _ w3 ⟨va, rfl, hra, hd, hk⟩; rw [HX.out] at hra hd ⊢; simp only [insVal]; obtain ⟨Aa, ca, hva, -, -⟩ := Kd.R_reads hra; subst hva; have HRA := aM hra; have HD3 := aM hd; have HK3 := aM hk; clear hra hd hk)
         refine hK.out _ _ (HK3.out.mono (fun i _ h => .inl h)) ?_
         clear hK K'
         try simp only [Act.put, pB, pC, pD]
         refine re_step (fuel := 3) 4 rfl (by kernel_rfl) (listed' := (bl 8 31)) (by kernel_rfl) (by kernel_rfl) (fun K' hK => ?_)
         (go_wp2_with fail)
         refine hK.out _ _ (Keep.of_below ((Below.refl w3.heap.size w3).alloc (Nat.le_refl _) (.cells #[.int .u8 k, .int .u8 op, .int .i64 d, .int .i64 a, .int .i64 bb, .int .i64 nn, .slice Aa args.length ca] 92))) ?_
         clear hK K'
         try simp only [Act.put, pB, pC, pD]
         refine re_step (fuel := 2) 5 rfl (by kernel_rfl) (listed' := (bl 8 63)) (by kernel_rfl) (by kernel_rfl) (fun K' hK => ?_)
         refine R_append_wp kIns (W := w3) (wo.heap.size + 1) (.tmp 21) (.tmp 24) 79 92 (.agg #[.int .u8 0, .int .u8 0, .int .i64 0, .int .i64 0, .int .i64 0, .int .i64 0, .slice none 0 0]) 64 rfl Try.underlying79 infoIns rfl (show 0 < 7 by decide) (by decide) vv is (k, op, d, a, bb, nn, args) [.int .u8 k, .int .u8 op, .int .i64 d, .int .i64 a, .int .i64 bb, .int .i64 nn, .slice Aa args.length ca] (fun k => wo.heap.size < k) (fun k => wi.heap.size ≤ k) rfl rfl (ins_M (Kd.R_lower (Kd.R_mono (Kd.R_bound HRA.out) (fun k hk => hk.2.1)) (Nat.succ_le_of_lt HL.out))) (fun k hk => ⟨Nat.lt_of_lt_of_le HL.out hk, fun e => absurd ((Kd.R_bound HV.out).1 k e.symm).2.2.1 (Nat.not_lt.2 hk)⟩) (fun k hk => Nat.lt_of_lt_of_le HL.out (Nat.le_trans HK3.out.size hk)) (Kd.R_step HV.out (fun k hk hl => HK3.out.block k hl (fun e => by have e : k = g := e; have := HI.out.hg; omega))) (Nat.le_trans (Nat.succ_le_of_lt HL.out) HK3.out.size) (ins_fits hil) ?_; intro v4 w4 ho4 hg4 hg4' hat4; obtain ⟨A4, c4, hv4, -, -⟩ := Kd.R_reads ho4; obtain ⟨m4, hm4⟩ : ∃ m4, (is ++ [(k, op, d, a, bb, nn, args)]).length = m4 := ⟨_, rfl⟩; rw [hm4] at hv4; subst hv4; clear hm4; have HO4 := aM ho4; have HK4 := aM (show Keep (fun i => wo.heap.size < i) (w3.alloc (.cells #[.int .u8 k, .int .u8 op, .int .i64 d, .int .i64 a, .int .i64 bb, .int .i64 nn, .slice Aa args.length ca] 92)) w4 from grown_keep hg4' (fun i hi => HV.out.1 i hi)); clear ho4 hg4 hg4' hat4
         refine hK.out _ _ (HK4.out.mono (fun i _ h => .inr h)) ?_
         clear hK K'
         try simp only [Act.put, pB, pC, pD]
         refine et 6 (bl 8 127) rfl (fun w' hR => by go_simp; first | done | with_reducible rfl) rfl ?_
         try simp only [Act.put, pB, pC, pD]
         refine re_free (fuel := 0) 7 rfl (by kernel_rfl) (listed' := (bl 8 255)) (by kernel_rfl) (by kernel_rfl) (fun K' hK => ?_)
         have hal : Below w3.heap.size w3 (w3.alloc (.cells #[.int .u8 k, .int .u8 op, .int .i64 d, .int .i64 a, .int .i64 bb, .int .i64 nn, .slice Aa args.length ca] 92)) := (Below.refl _ _).alloc (Nat.le_refl _) _; have hk4 : Keep (fun i => i = g ∨ wo.heap.size < i) wi.drew w4 := ((HK3.out.mono (fun i _ h => .inl h)).trans (Keep.of_below hal)).trans (HK4.out.mono (fun i _ h => .inr h)); have hh := HC0'.out w4 hk4; have x7 := cell_at hh 0 vv rfl; have x8 := blk_frozen hh 0; have HKW := aM hk4; have HRD4 := aM ((HD3.out.below hal).keep HK4.out (fun e => by have := HI.out.hg; omega) (fun e => by have := HI.out.hb; omega)); clear hk4 hh hal; go_wp2_with fail
         refine hK.out _ _ trivial ?_
         clear hK K'
         try simp only [Act.put, pB, pC, pD]
         refine re_done (by kernel_rfl) ?_
         have hin := (HI.out.drew.move HKW.out HRD4.out).set 0 (.slice A4 m4 c4)
         have HIN := aM (show BlkS wo (w4.setCell ⟨wo.heap.size, 0, none⟩ (.slice A4 m4 c4)) g b wo.heap.size s' #[.slice A4 m4 c4, .int .u8 0, .int .i64 0, .int .i64 0, .int .i64 0] from hin)
         have HRN := aM (show kIns.R 92 (w4.setCell ⟨wo.heap.size, 0, none⟩ (.slice A4 m4 c4)) (wo.heap.size + 1) (fun k => wo.heap.size < k) (.slice A4 m4 c4) (is ++ [(k, op, d, a, bb, nn, args)]) from Kd.R_step HO4.out (fun k hk hl => Below.heap_setCell _ _ _ _ (show k ≠ wo.heap.size by omega)))
         clear hin
         go_wp2
         go_roundw
         case rel => exact ⟨i + 1, by omega, by go_num, .slice A4 m4 c4, _, ⟨by rw [HNI.out]; exact HIN.out⟩, ⟨HRN.out⟩, ⟨by rw [HNI.out]⟩⟩
         case measure => simp [intOf]; omega
       · have hcb : (si.2 == 0) = false := beq_eq_false_iff_ne.mpr hc
         have HNI := aM (show sInss (i + 1) s2 = (is, si) by rw [sInss, if_neg (by rw [HSI.out]; exact hc), ← HS.out, ← HSI.out])
         clear hc
         go_wp2_with (go_at_call 99; refine (rd_code g b si _ HI.out.rd).mono ?_; rintro _ _ ⟨rfl, rfl⟩)
         go_roundw
         case rel => exact ⟨i + 1, by omega, by go_num, vv, is, ⟨by rw [HNI.out]; exact HI.out⟩, HV, ⟨by rw [HNI.out]⟩⟩
         case measure => simp [intOf]; omega
     · obtain rfl : i = m := by omega
       obtain ⟨⟨k, a, tt, ee⟩, s4, he⟩ : ∃ x s', sEnd (sInss i s2).2 = (x, s') := ⟨_, _, rfl⟩
       have HE := aM he
       have HNY := aM (show sBlkN most (x + 1) s1 = (bs ++ [(is, k, a, tt, ee)], s4) by rw [HNX.out, HSB.out, he, HS.out])
       obtain ⟨Av, cv, hv, -, -⟩ := Kd.R_reads HV.out
       obtain ⟨mv, hmv⟩ : ∃ m, is.length = m := ⟨_, rfl⟩
       rw [hmv] at hv
       subst hv
       clear he hmv
       by_cases hc : s4.2 = 0
       · have HCD := aM hc
         clear hc
         go_wp2_with (first
          | (go_at_call 127; refine (wread_end g b _ _ HI.out.rd HI.out.rd.1.lt).mono ?_; rintro _ w5 ⟨rfl, hd, hk⟩; rw [HE.out] at hd ⊢; simp only [endV]; have HI5 := aM (HI.out.step hk hd); have HK5 := aM hk; obtain ⟨y1, z1⟩ := HI5.out.cell 1 _ rfl; obtain ⟨y2, z2⟩ := HI5.out.cell 2 _ rfl; obtain ⟨y3, z3⟩ := HI5.out.cell 3 _ rfl; obtain ⟨y4, z4⟩ := HI5.out.cell 4 _ rfl; clear hd hk)
          | (go_at_call 99; have HI6 := aM ((((HI5.out.set 1 (.int .u8 k)).set 2 (.int .i64 a)).set 3 (.int .i64 tt)).set 4 (.int .i64 ee)); refine (rd_code g b s4 _ HI6.out.rd).mono ?_; rintro _ w6 ⟨rfl, hw6⟩; rw [HCD.out]; have HK6 := aM (show Keep (· = wo.heap.size) w5 w6 from by rw [← hw6]; exact ((((Keep.refl (fun i => i = wo.heap.size) w5).setCell ⟨wo.heap.size, 1, none⟩ (.int .u8 k) (fun _ => rfl)).setCell ⟨wo.heap.size, 2, none⟩ (.int .i64 a) (fun _ => rfl)).setCell ⟨wo.heap.size, 3, none⟩ (.int .i64 tt) (fun _ => rfl)).setCell ⟨wo.heap.size, 4, none⟩ (.int .i64 ee) (fun _ => rfl)); rw [hw6] at HI6; clear y1 y2 y3 y4 z1 z2 z3 z4; have x0 := (HI6.out.cell 0 _ rfl).1; have x1 := (HI6.out.cell 1 _ rfl).1; have x2 := (HI6.out.cell 2 _ rfl).1; have x3 := (HI6.out.cell 3 _ rfl).1; have x4 := (HI6.out.cell 4 _ rfl).1)
          | ((with_reducible refine gate_builtin (b := .append) (xs := #[.tmp 34, .tmp 36]) rfl ?_); at_builtin; refine Kd.R_append kBlk (w0 := w6) w.heap.size rfl (.tmp 34) (.tmp 36) 23 84 (.agg #[.slice none 0 0, .int .u8 0, .int .i64 0, .int .i64 0, .int .i64 0]) 56 rfl Try.underlying23 infoBlk rfl (show 0 < 5 by decide) (by decide) u5 bs (is, k, a, tt, ee) [.slice Av mv cv, .int .u8 k, .int .i64 a, .int .i64 tt, .int .i64 ee] (fun _ => True) (fun k => wo.heap.size < k) rfl rfl (blk_M (Kd.R_lower (Kd.R_step HV.out (fun k hk hl => (HK6.out.block k (Nat.lt_of_lt_of_le hl HK5.out.size) (fun e => by have e : k = wo.heap.size := e; omega)).trans (HK5.out.block k hl (fun e => by have e : k = g := e; have := HGL.out.1; omega)))) (Nat.le_succ_of_le HK.out.size))) (fun k hk => ⟨trivial, fun e => absurd ((Kd.R_bound HO.out).1 k e.symm).2.2.1 (by omega)⟩) (fun _ _ => trivial) (Kd.R_mono (Kd.R_step (Kd.R_mono (Kd.R_bound HO.out) (ok' := fun k => w.heap.size ≤ k) (fun k hk => hk.2.1)) (fun k hk hl => HI6.out.keep.block k hl (fun e => by have e : k = g := e; omega))) (fun _ _ => trivial)) (Below.refl _ _) (Nat.le_trans HK.out.size HI6.out.keep.size) (blk_fits (by omega)) ?_; intro v7 w7 ho7 hb7 hg7 hat7; have HO7 := aM ho7; have HB7 := aM hb7; clear ho7 hb7 hg7 hat7))
         go_roundw
         case rel => exact ⟨x + 1, by omega, by go_num, _, HO7, ⟨by rw [HNY.out]; exact HI6.out.rd.keep (keep_of_below HB7.out) (by omega) (by have := H.out.2.2; omega)⟩, ⟨by rw [HNY.out], fun _ => by rw [HNY.out]; exact HCD.out⟩, ⟨(HK.out.trans HI6.out.keep).then (keep_of_below HB7.out) (fun i h1 h2 => by omega)⟩⟩
         case measure => simp [intOf]; omega
       · have HCD := aM hc
         have hcn : (s4.2 != 0) = true := bne_iff_ne.mpr hc
         have hcb : (s4.2 == 0) = false := beq_eq_false_iff_ne.mpr hc
         have HFN := aM (show (sBlkN most N s1) = (sBlkN most (x + 1) s1) from blkN_stuck (by rw [HNY.out]; exact hc) (by omega))
         clear hc
         go_wp2_with (first
          | (go_at_call 127; refine (wread_end g b _ _ HI.out.rd HI.out.rd.1.lt).mono ?_; rintro _ w5 ⟨rfl, hd, hk⟩; rw [HE.out] at hd ⊢; simp only [endV]; have HI5 := aM (HI.out.step hk hd); have HK5 := aM hk; obtain ⟨y1, z1⟩ := HI5.out.cell 1 _ rfl; obtain ⟨y2, z2⟩ := HI5.out.cell 2 _ rfl; obtain ⟨y3, z3⟩ := HI5.out.cell 3 _ rfl; obtain ⟨y4, z4⟩ := HI5.out.cell 4 _ rfl; clear hd hk)
          | (go_at_call 99; have HI6 := aM ((((HI5.out.set 1 (.int .u8 k)).set 2 (.int .i64 a)).set 3 (.int .i64 tt)).set 4 (.int .i64 ee)); refine (rd_code g b s4 _ HI6.out.rd).mono ?_; rintro _ w6 ⟨rfl, hw6⟩; skip; have HK6 := aM (show Keep (· = wo.heap.size) w5 w6 from by rw [← hw6]; exact ((((Keep.refl (fun i => i = wo.heap.size) w5).setCell ⟨wo.heap.size, 1, none⟩ (.int .u8 k) (fun _ => rfl)).setCell ⟨wo.heap.size, 2, none⟩ (.int .i64 a) (fun _ => rfl)).setCell ⟨wo.heap.size, 3, none⟩ (.int .i64 tt) (fun _ => rfl)).setCell ⟨wo.heap.size, 4, none⟩ (.int .i64 ee) (fun _ => rfl)); rw [hw6] at HI6; clear y1 y2 y3 y4 z1 z2 z3 z4; have x0 := (HI6.out.cell 0 _ rfl).1; have x1 := (HI6.out.cell 1 _ rfl).1; have x2 := (HI6.out.cell 2 _ rfl).1; have x3 := (HI6.out.cell 3 _ rfl).1; have x4 := (HI6.out.cell 4 _ rfl).1))
         go_returns
         exact ⟨.slice none 0 0, [], rfl, Kd.R_nil _ _ _ _ _, fun h0 => absurd (by rw [HFN.out, HNY.out] at h0; exact h0) HCD.out, by rw [HFN.out, HNY.out]; exact HI6.out.rd, HK.out.trans HI6.out.keep⟩
  · obtain rfl : x = N := by omega
    go_wp2
    go_returns
    exact ⟨_, bs, rfl, HO.out, fun _ => HB.out.1.symm, HD.out, HK.out⟩
end Go.Proofs.Ytnckonglodmfeaa.Ik
namespace Go.Proofs.Ytnckonglodmfeaa.Ik
open Ls Lc Go.RowKit Go.Proofs.YtnckonglodmfeaaW.PrintWords Go.Proofs.YtnckonglodmfeaaW.PrintLast Go.Proofs.YtnckonglodmfeaaW.PrintMore B R S Is Js
def FunRet (w' : World) (base : Nat) (x : Fun × Int) (e : Ending) : Prop :=
 ∃ p v vb bs, e = .returned (.tuple #[.agg #[.int .i64 p, .int .i64 v, vb], .int .i64 x.2]) ∧ kBlk.R 84 w' base (fun _ => True) vb bs ∧ ((x.2 = 0 ∧ x.1 = (p, v, bs)) ∨ (x.2 ≠ 0 ∧ p = 0 ∧ v = 0 ∧ bs = []))
theorem put3 {W : World} {g e : Nat} {u0 u1 u2 : Value} (h : W.heap[g]? = some (.cells #[u0, u1, u2] e (0, 0))) (x0 x1 x2 : Value) :
 (((W.setCell ⟨g, 0, none⟩ x0).setCell ⟨g, 1, none⟩ x1).setCell ⟨g, 2, none⟩ x2).heap[g]? = some (.cells #[x0, x1, x2] e (0, 0)) := by
 have a0 := blk_put h 0 x0 (show _ = #[x0, u1, u2] from rfl)
 have a1 := blk_put a0 1 x1 (show _ = #[x0, x1, u2] from rfl)
 exact blk_put a1 2 x2 rfl
theorem put3_far {W : World} {g : Nat} (x0 x1 x2 : Value) : Keep (fun i => i = g) W (((W.setCell ⟨g, 0, none⟩ x0).setCell ⟨g, 1, none⟩ x1).setCell ⟨g, 2, none⟩ x2) := by
 have a0 := (Keep.refl (fun i => i = g) W).setCell ⟨g, 0, none⟩ x0 (fun _ => rfl)
 have a1 := a0.setCell ⟨g, 1, none⟩ x1 (fun _ => rfl)
 exact a1.setCell ⟨g, 2, none⟩ x2 (fun _ => rfl)
theorem size_set (W : World) (p : Addr) (u : Value) : (W.setCell p u).heap.size = W.heap.size := by simp [World.setCell]
theorem rd_end (g b : Nat) (s : St) (w : World) (h : Rd w g b s) :
 Calls Try.prog 50 #[.pointer (some ⟨g, 0, none⟩)] w fun e w' => e = .returned (.int .i64 (ended s.1 s.2)) ∧ Keep (· = g) w w' ∧ w'.heap.size = w.heap.size := by
 refine (end_calls g b s.1 s.2 w h.1).mono ?_
 rintro e w' ⟨h1, h2, h3, h4⟩
 exact ⟨h1, h3, h4⟩
theorem keep_below {S : Nat → Prop} {N : Nat} {w w' : World} (h : Keep S w w') (hN : N ≤ w.heap.size) (hS : ∀ i, S i → N ≤ i) : Below N w w' := h.below hN (fun i hi hs => by have := hS i hs; omega)
structure RfS (w0 W : World) (g b gb : Nat) (s : St) (F : Array Value) : Prop where
 rd : Rd W g b s
 res : W.heap[w0.heap.size]? = some (.cells #[.int .i64 0, .int .i64 0, .slice none 0 0] 25 (0, 0))
 bx : W.heap[gb]? = some (.cells F 25 (0, 0))
 below : Below w0.heap.size w0 W
 hg : w0.heap.size + 1 ≤ g
 hb : w0.heap.size + 1 ≤ b
 hgb : g < gb
 hbb : b < gb
theorem RfS.step {w0 W W' : World} {g b gb : Nat} {s s' : St} {F : Array Value} (h : RfS w0 W g b gb s F) (hk : Keep (· = g) W W') (hr : Rd W' g b s') : RfS w0 W' g b gb s' F := by
 have h1 := h.hg
 have h2 := h.hgb
 have hs := h.below.size
 exact ⟨hr, (hk.block _ (blk_lt h.res) (fun e => by have e : w0.heap.size = g := e; omega)).trans h.res, (hk.block gb (blk_lt h.bx) (fun e => by have e : gb = g := e; omega)).trans h.bx, h.below.trans (keep_below hk hs (fun i e => by have e : i = g := e; omega)), h1, h.hb, h2, h.hbb⟩
structure RfK (w0 W : World) (gb : Nat) (F : Array Value) : Prop where
 res : W.heap[w0.heap.size]? = some (.cells #[.int .i64 0, .int .i64 0, .slice none 0 0] 25 (0, 0))
 bx : W.heap[gb]? = some (.cells F 25 (0, 0))
 below : Below w0.heap.size w0 W
 hgb : w0.heap.size < gb
theorem RfK.step {w0 W W' : World} {gb : Nat} {F : Array Value} (h : RfK w0 W gb F) (hk : Below W.heap.size W W') : RfK w0 W' gb F :=
 ⟨(hk.block _ (blk_lt h.res)).trans h.res, (hk.block _ (blk_lt h.bx)).trans h.bx, h.below.trans (hk.mono h.below.size), h.hgb⟩
theorem RfS.stepK {w0 W W' : World} {g b gb : Nat} {s : St} {F : Array Value} (h : RfS w0 W g b gb s F) (hk : Keep (· = g) W W') (hs : W'.heap.size = W.heap.size) : RfK w0 W' gb F := by
 have h1 := h.hg
 have h2 := h.hgb
 have hz := h.below.size
 exact ⟨(hk.block _ (blk_lt h.res) (fun e => by have e : w0.heap.size = g := e; omega)).trans h.res, (hk.block gb (blk_lt h.bx) (fun e => by have e : gb = g := e; omega)).trans h.bx, h.below.trans (keep_below hk hz (fun i e => by have e : i = g := e; omega)), by omega⟩
theorem RfS.set {w0 W : World} {g b gb : Nat} {s : St} {F : Array Value} (h : RfS w0 W g b gb s F) (j : Nat) (x : Value) : RfS w0 (W.setCell ⟨gb, j, none⟩ x) g b gb s (F.setIfInBounds j x) := by
 have h1 := h.hg
 have h2 := h.hgb
 have h3 := h.hbb
 have hk : Keep (· = gb) W (W.setCell ⟨gb, j, none⟩ x) := (Keep.refl _ _).setCell ⟨gb, j, none⟩ x (fun _ => rfl)
 have ho : ∀ i, i ≠ gb → (W.setCell ⟨gb, j, none⟩ x).heap[i]? = W.heap[i]? := fun i hi => Below.heap_setCell _ _ _ _ hi
 exact ⟨h.rd.keep hk (by omega) (by omega), (ho _ (by omega)).trans h.res, heap_setCell_same W gb j F _ _ h.bx, h.below.setCell (by show w0.heap.size ≤ gb; omega) _, h1, h.hb, h2, h3⟩
theorem RfK.cells {w0 W : World} {gb : Nat} {F : Array Value} {x0 x1 x2 : Value} (h : RfK w0 W gb F) (hF : F = #[x0, x1, x2]) :
 W.cell? ⟨gb, 0, none⟩ = some x0 ∧ W.cell? ⟨gb, 1, none⟩ = some x1 ∧ W.cell? ⟨gb, 2, none⟩ = some x2 ∧ W.frozen? ⟨gb, 2, none⟩ = false ∧ W.cell? ⟨w0.heap.size, 0, none⟩ = some (.int .i64 0) ∧ W.cell? ⟨w0.heap.size, 1, none⟩ = some (.int .i64 0) ∧ W.cell? ⟨w0.heap.size, 2, none⟩ = some (.slice none 0 0) ∧ W.frozen? ⟨w0.heap.size, 0, none⟩ = false ∧ W.frozen? ⟨w0.heap.size, 1, none⟩ = false ∧ W.frozen? ⟨w0.heap.size, 2, none⟩ = false := by
 subst hF
 exact ⟨cell_at h.bx 0 _ rfl, cell_at h.bx 1 _ rfl, cell_at h.bx 2 _ rfl, blk_frozen h.bx 2, cell_at h.res 0 _ rfl, cell_at h.res 1 _ rfl, cell_at h.res 2 _ rfl, blk_frozen h.res 0, blk_frozen h.res 1, blk_frozen h.res 2⟩
theorem RfS.cells {w0 W : World} {g b gb : Nat} {s : St} {F : Array Value} {x0 x1 x2 : Value} (h : RfS w0 W g b gb s F) (hF : F = #[x0, x1, x2]) :
 W.cell? ⟨gb, 0, none⟩ = some x0 ∧ W.cell? ⟨gb, 1, none⟩ = some x1 ∧ W.cell? ⟨gb, 2, none⟩ = some x2 ∧ W.frozen? ⟨gb, 2, none⟩ = false ∧ W.cell? ⟨w0.heap.size, 0, none⟩ = some (.int .i64 0) ∧ W.cell? ⟨w0.heap.size, 1, none⟩ = some (.int .i64 0) ∧ W.cell? ⟨w0.heap.size, 2, none⟩ = some (.slice none 0 0) ∧ W.frozen? ⟨w0.heap.size, 0, none⟩ = false ∧ W.frozen? ⟨w0.heap.size, 1, none⟩ = false ∧ W.frozen? ⟨w0.heap.size, 2, none⟩ = false :=
 RfK.cells (h := ⟨h.res, h.bx, h.below, by have := h.hg; have := h.hgb; omega⟩) hF
set_option maxHeartbeats 4000000 in
set_option maxRecDepth 100000 in
theorem wread_func (A : Option Addr) (c : Nat) (l : List Int) (w : World) (hC : kU8.C w A l.length l) (hll : l.length ≤ 1000000) (hby : By l) :
 Calls Try.prog 51 #[.slice A l.length c] w fun e w' => FunRet w' w.heap.size (sFun l) e ∧ Below w.heap.size w w' := by
 have mixed : Try.prog.follows .mixedOrders = true := by kernel_rfl
 have hff := fault_field
 have HC := aM hC
 have HBY := aM hby
 obtain ⟨p, s1, hp⟩ : ∃ p s1, sBelow 4096 (l, 0) = (p, s1) := ⟨_, _, rfl⟩
 obtain ⟨v, s2, hv⟩ : ∃ v s2, sBelow 4096 s1 = (v, s2) := ⟨_, _, rfl⟩
 obtain ⟨B, s3, hB⟩ : ∃ B s3, sBlks 32 s2 = (B, s3) := ⟨_, _, rfl⟩
 obtain ⟨E, hE⟩ : ∃ E, ended s3.1 s3.2 = E := ⟨_, rfl⟩
 have hF : sFun l = ((p, v, B), if E = 0 then (if funcErr (p, v, B) = 0 then 0 else 30) else E) := by
  unfold sFun
  simp only [hp, hv, hB, hE]
 have HCD := aM (show E = 0 → s3.2 = 0 from fun h => by
  rw [← hE] at h
  unfold ended failed at h
  by_cases h1 : 0 < s3.1.length
  · rw [if_pos h1] at h
    by_cases h2 : s3.2 = 0
    · exact h2
    · rw [if_neg h2] at h; exact h
  · rwa [if_neg h1] at h)
 have HBL := aM (show B.length ≤ 16 from by
  have h1 : sBlks 32 s2 = sBlkN 32 (sBelow 17 s2).1.toNat (sBelow 17 s2).2 := rfl
  have h2 := blkN_len 32 (sBelow 17 s2).1.toNat (sBelow 17 s2).2
  rw [← h1, hB] at h2
  have hby2 : By s2.1 := by
   have a := sbelow_by (m := 4096) (s := (l, 0)) hby
   rw [hp] at a
   have a := sbelow_by (m := 4096) (s := s1) a
   rw [hv] at a
   exact a
  have h3 := below_range (m := 17) (by decide) hby2
  simp only at h2
  omega)
 obtain ⟨X, hX⟩ : ∃ X : Int, (if E = 0 then (if funcErr (p, v, B) = 0 then 0 else 30) else E) = X := ⟨_, rfl⟩
 rw [hX] at hF
 rw [hF]
 have HXX := aM hX
 clear hX
 have HP := aM hp
 have HV := aM hv
 have HB := aM hB
 have HE := aM hE
 clear hC hby hp hv hB hE hF
 go_enter Try.func51, Try.ntmps51
 go_upto_region 3 with (first
  | (go_at_call 93; refine (new_calls A c l _ (Kd.C_alloc HC.out _) (by omega)).mono ?_; rintro _ w1 ⟨g, b, rfl, hr, hb, hg1, hb1, hb2⟩; have HD := aM (show Rd w1 g b (l, 0) from ⟨hr, HBY.out, hb2⟩); have HK := aM (Keep.refl (· = g) w1); have HW1 := aM hb; have HG := aM (And.intro hg1 hb1); clear hr hb hg1 hb1 hb2)
  | (go_at_call 46; refine (rd_below g b _ 4096 _ HD.out (by decide) (by decide)).mono ?_; rintro _ w2 ⟨rfl, hd, hk, -⟩; (first | rw [HP.out] at hd ⊢; clear HP | rw [HV.out] at hd ⊢); have HKn := aM (HK.out.trans hk); clear HK HD; have HK := HKn; have HD := aM hd; clear hd hk HKn))
 obtain ⟨hg1, hb1⟩ := HG.out
 rw [World.size_alloc] at hg1 hb1
 have hgl := HD.out.1.lt
 have hbl := HD.out.2.2
 have hkw : Below (w.heap.size + 1) w1 w2 := keep_below HK.out (by have := HW1.out.size; rw [World.size_alloc] at this; exact this) (fun i e => by have e : i = g := e; omega)
 have hw2 : Below (w.heap.size + 1) (w.alloc (.cells #[.int .i64 0, .int .i64 0, .slice none 0 0] 25)) w2 := by
  have h := HW1.out
  rw [World.size_alloc] at h
  exact h.trans hkw
 have HI := aM (show RfS w (w2.alloc (.cells #[.int .i64 p, .int .i64 v, .slice none 0 0] 25)) g b w2.heap.size s2 #[.int .i64 p, .int .i64 v, .slice none 0 0] from
  ⟨HD.out.below ((Below.refl _ _).alloc (Nat.le_refl _) _), (((Below.refl (w.heap.size + 1) w2).alloc (by omega) _).block _ (by omega)).trans ((hw2.block _ (by omega)).trans (heap_alloc_new _ _)), heap_alloc_new _ _, (((Below.refl w.heap.size w).alloc (Nat.le_refl _) _).trans (hw2.mono (by omega))).alloc (by omega) _, by omega, by omega, by omega, by omega⟩)
 clear HD HK HW1 HG hkw hw2
 obtain ⟨gb, hgb⟩ : ∃ gb, w2.heap.size = gb := ⟨_, rfl⟩
 rw [hgb] at HI hgl hbl ⊢
 obtain ⟨WB, hWB⟩ : ∃ WB, WB = w2.alloc (.cells #[.int .i64 p, .int .i64 v, .slice none 0 0] 25) := ⟨_, rfl⟩
 rw [← hWB] at HI ⊢
 clear hWB hgb
 obtain ⟨q0, q1, q2, z2, y0, y1, y2, v0, v1, v2⟩ := HI.out.cells rfl
 go_upto_region 5 with (first
  | (go_at_call 95; refine (wread_blocks g b s2 32 _ HI.out.rd HI.out.rd.1.lt (by decide) (by decide)).mono ?_; rintro _ w5 ⟨vb, bs, rfl, hr, hbs, hd, hk⟩; obtain ⟨Ab, cb, hvb, hlb, hCb⟩ := Kd.R_reads hr; obtain ⟨nb, hnb⟩ : ∃ n, bs.length = n := ⟨_, rfl⟩; rw [hnb] at hvb hlb hCb; subst hvb; rw [HB.out] at hbs hd; have HLW := aM (blk_lt HI.out.bx); have HI5 := aM (HI.out.step hk hd); have HR := aM hr; have HBS := aM hbs; have HNB := aM hnb; have HCB := aM hCb; have HRK := aM hk; clear HI; clear q0 q1 q2 z2 y0 y1 y2 v0 v1 v2; obtain ⟨q0, q1, q2, z2, y0, y1, y2, v0, v1, v2⟩ := HI5.out.cells rfl; clear hr hbs hd hk hnb hCb)
  | (go_at_call 50; have HI6 := aM (HI5.out.set 2 (.slice Ab nb cb)); refine (rd_end g b s3 _ HI6.out.rd).mono ?_; rintro _ w6 ⟨rfl, hk, hs⟩; rw [HE.out]; have HI7 := aM (HI6.out.stepK hk hs); have HK7 := aM hk; clear q0 q1 q2 z2 y0 y1 y2 v0 v1 v2 hk hs; obtain ⟨q0, q1, q2, z2, y0, y1, y2, v0, v1, v2⟩ := HI7.out.cells rfl))
 obtain rfl := HNB.out
 have HR6 := aM (show kBlk.R 84 w6 w.heap.size (fun k => gb < k) (.slice Ab bs.length cb) bs from by
  have hz := HI7.out.hgb
  refine Kd.R_lower (Kd.R_step (Kd.R_mono (Kd.R_bound HR.out) (ok' := fun k => gb < k) (fun k hk => by have := hk.2.1; have := HLW.out; omega)) (fun k hk hl => (HK7.out.block k (by rw [size_set]; exact hl) (fun e => by have e : k = g := e; omega)).trans (Below.heap_setCell _ _ _ _ (by show k ≠ gb; omega)))) (by have := HLW.out; omega))
 have HC6 := aM (show kBlk.C w6 Ab bs.length bs from by
  obtain ⟨A', c', e, -, hC⟩ := Kd.R_reads HR6.out
  injection e with e1 e2 e3
  subst e1
  exact hC)
 clear HR HCB HK7 HRK HLW HI6 HNB
 by_cases hE0 : E = 0
 · subst hE0
   have hbs : bs = B := HBS.out (HCD.out rfl)
   subst hbs
   have hl16 := HBL.out
   obtain ⟨FE, hFE⟩ : ∃ FE, funcErr (p, v, bs) = FE := ⟨_, rfl⟩
   have HFE := aM hFE
   clear hFE
   by_cases hF0 : FE = 0
   · subst hF0
     go_wp2_with (first | (go_at_call 85; refine (check_calls p v bs Ab cb _ HC6.out (by omega)).mono ?_; rintro _ w7 ⟨⟨x9, y9, rfl⟩, hb⟩; rw [HFE.out]; have HI8 := aM (HI7.out.step hb); have HB7 := aM hb; clear q0 q1 q2 z2 y0 y1 y2 v0 v1 v2 hb; obtain ⟨q0, q1, q2, z2, y0, y1, y2, v0, v1, v2⟩ := HI8.out.cells rfl))
     have rr := HI8.out.res; have p0 := fun x0 x1 x2 => cell_at (put3 rr x0 x1 x2) 0 _ rfl; have p1 := fun x0 x1 x2 => cell_at (put3 rr x0 x1 x2) 1 _ rfl; have p2 := fun x0 x1 x2 => cell_at (put3 rr x0 x1 x2) 2 _ rfl; (try simp only [Exit.inBlock, Exit.then]); refine bodyPost_ret (by simp [results, Try.results51, go_sem, p0, p1, p2]; try rfl) rfl ?_
     refine ⟨?_, HI8.out.below.trans (keep_below (put3_far _ _ _) HI8.out.below.size (fun i e => by omega))⟩
     rw [show X = 0 from by rw [← HXX.out]; simp [HFE.out]]
     refine ⟨p, v, _, bs, rfl, Kd.R_mono (Kd.R_step (Kd.R_below HR6.out HB7.out) (fun k hk hl => (put3_far _ _ _).block k hl (fun e => by have := HI8.out.hgb; omega))) (fun _ _ => trivial), .inl ⟨rfl, rfl⟩⟩
   · have hcn : (FE != 0) = true := bne_iff_ne.mpr hF0
     have hcb : (FE == 0) = false := beq_eq_false_iff_ne.mpr hF0
     have HF0 := aM hF0
     clear hF0
     go_wp2_with (first | (go_at_call 85; refine (check_calls p v bs Ab cb _ HC6.out (by omega)).mono ?_; rintro _ w7 ⟨⟨x9, y9, rfl⟩, hb⟩; rw [HFE.out]; have HI8 := aM (HI7.out.step hb); have HB7 := aM hb; clear q0 q1 q2 z2 y0 y1 y2 v0 v1 v2 hb; obtain ⟨q0, q1, q2, z2, y0, y1, y2, v0, v1, v2⟩ := HI8.out.cells rfl))
     have rr := HI8.out.res; have p0 := fun x0 x1 x2 => cell_at (put3 rr x0 x1 x2) 0 _ rfl; have p1 := fun x0 x1 x2 => cell_at (put3 rr x0 x1 x2) 1 _ rfl; have p2 := fun x0 x1 x2 => cell_at (put3 rr x0 x1 x2) 2 _ rfl; (try simp only [Exit.inBlock, Exit.then]); refine bodyPost_ret (by simp [results, Try.results51, go_sem, p0, p1, p2]; try rfl) rfl ?_
     refine ⟨?_, HI8.out.below.trans (keep_below (put3_far _ _ _) HI8.out.below.size (fun i e => by omega))⟩
     rw [show X = 30 from by rw [← HXX.out]; simp [HFE.out, HF0.out]]
     exact ⟨0, 0, _, [], rfl, Kd.R_nil _ _ _ _ _, .inr ⟨(by decide : (30 : Int) ≠ 0), rfl, rfl, rfl⟩⟩
 · have hcn : (E != 0) = true := bne_iff_ne.mpr hE0
   have hcb : (E == 0) = false := beq_eq_false_iff_ne.mpr hE0
   have HE0 := aM hE0
   have HI8 := HI7
   clear hE0
   go_wp2
   have rr := HI8.out.res; have p0 := fun x0 x1 x2 => cell_at (put3 rr x0 x1 x2) 0 _ rfl; have p1 := fun x0 x1 x2 => cell_at (put3 rr x0 x1 x2) 1 _ rfl; have p2 := fun x0 x1 x2 => cell_at (put3 rr x0 x1 x2) 2 _ rfl; (try simp only [Exit.inBlock, Exit.then]); refine bodyPost_ret (by simp [results, Try.results51, go_sem, p0, p1, p2]; try rfl) rfl ?_
   refine ⟨?_, HI8.out.below.trans (keep_below (put3_far _ _ _) HI8.out.below.size (fun i e => by omega))⟩
   rw [show X = E from by rw [← HXX.out]; exact if_neg HE0.out]
   exact ⟨0, 0, _, [], rfl, Kd.R_nil _ _ _ _ _, .inr ⟨HE0.out, rfl, rfl, rfl⟩⟩
end Go.Proofs.Ytnckonglodmfeaa.Ik
namespace Go.Proofs.Ytnckonglodmfeaa.Ik
open Ls Lc Go.RowKit Go.Proofs.YtnckonglodmfeaaW.PrintWords Go.Proofs.YtnckonglodmfeaaW.PrintLast Go.Proofs.YtnckonglodmfeaaW.PrintMore B R S Is Js Gs Gc
def AskRet (w' : World) (base : Nat) (x : Ask × Int) (e : Ending) : Prop :=
 ∃ j n r p v vb bs, e = .returned (.tuple #[.agg #[.int .i64 j, .int .u64 n, .int .i64 r, .int .i64 p, .int .i64 v, vb], .int .i64 x.2]) ∧ kBlk.R 84 w' base (fun _ => True) vb bs ∧ x.1 = (j, n, r, p, v, bs)
structure Tk (w0 W : World) (gb : Nat) (F : Array Value) : Prop where
 res : W.heap[w0.heap.size]? = some (.cells #[.int .i64 0, .int .u64 0, .int .i64 0, .int .i64 0, .int .i64 0, .slice none 0 0] 27 (0, 0))
 bx : W.heap[gb]? = some (.cells F 27 (0, 0))
 below : Below w0.heap.size w0 W
 hgb : w0.heap.size < gb
theorem Tk.keep {w0 W W' : World} {gb : Nat} {F : Array Value} {S : Nat → Prop} (h : Tk w0 W gb F) (hk : Keep S W W') (h1 : ¬ S w0.heap.size) (h2 : ¬ S gb) (h3 : ∀ i, S i → w0.heap.size ≤ i) : Tk w0 W' gb F :=
 ⟨(hk.block _ (blk_lt h.res) h1).trans h.res, (hk.block _ (blk_lt h.bx) h2).trans h.bx, h.below.trans (keep_below hk h.below.size h3), h.hgb⟩
theorem Tk.grow {w0 W W' : World} {gb : Nat} {F : Array Value} (h : Tk w0 W gb F) (hb : Below W.heap.size W W') : Tk w0 W' gb F := h.keep (S := fun _ => False) (Keep.of_below hb) id id (fun _ => False.elim)
theorem Tk.set {w0 W : World} {gb : Nat} {F : Array Value} (h : Tk w0 W gb F) (j : Nat) (x : Value) : Tk w0 (W.setCell ⟨gb, j, none⟩ x) gb (F.setIfInBounds j x) := by
 have h1 := h.hgb
 exact ⟨(Below.heap_setCell _ _ _ _ (show w0.heap.size ≠ gb by omega)).trans h.res, heap_setCell_same W gb j F _ _ h.bx, h.below.setCell (by show w0.heap.size ≤ gb; omega) _, h1⟩
theorem Tk.cells {w0 W : World} {gb : Nat} {F : Array Value} {x0 x1 x2 x3 x4 x5 : Value} (h : Tk w0 W gb F) (hF : F = #[x0, x1, x2, x3, x4, x5]) :
 (W.cell? ⟨gb, 0, none⟩ = some x0 ∧ W.cell? ⟨gb, 1, none⟩ = some x1 ∧ W.cell? ⟨gb, 2, none⟩ = some x2 ∧ W.cell? ⟨gb, 3, none⟩ = some x3 ∧ W.cell? ⟨gb, 4, none⟩ = some x4 ∧ W.cell? ⟨gb, 5, none⟩ = some x5) ∧ (∀ j, W.frozen? ⟨gb, j, none⟩ = false) ∧
 (W.cell? ⟨w0.heap.size, 0, none⟩ = some (.int .i64 0) ∧ W.cell? ⟨w0.heap.size, 1, none⟩ = some (.int .u64 0) ∧ W.cell? ⟨w0.heap.size, 2, none⟩ = some (.int .i64 0) ∧ W.cell? ⟨w0.heap.size, 3, none⟩ = some (.int .i64 0) ∧ W.cell? ⟨w0.heap.size, 4, none⟩ = some (.int .i64 0) ∧ W.cell? ⟨w0.heap.size, 5, none⟩ = some (.slice none 0 0)) ∧ ∀ j, W.frozen? ⟨w0.heap.size, j, none⟩ = false := by
 subst hF
 exact ⟨⟨cell_at h.bx 0 _ rfl, cell_at h.bx 1 _ rfl, cell_at h.bx 2 _ rfl, cell_at h.bx 3 _ rfl, cell_at h.bx 4 _ rfl, cell_at h.bx 5 _ rfl⟩, fun j => blk_frozen h.bx j, ⟨cell_at h.res 0 _ rfl, cell_at h.res 1 _ rfl, cell_at h.res 2 _ rfl, cell_at h.res 3 _ rfl, cell_at h.res 4 _ rfl, cell_at h.res 5 _ rfl⟩, fun j => blk_frozen h.res j⟩
theorem put6 {W : World} {g e : Nat} {u0 u1 u2 u3 u4 u5 : Value} (h : W.heap[g]? = some (.cells #[u0, u1, u2, u3, u4, u5] e (0, 0))) (x0 x1 x2 x3 x4 x5 : Value) :
 ((((((W.setCell ⟨g, 0, none⟩ x0).setCell ⟨g, 1, none⟩ x1).setCell ⟨g, 2, none⟩ x2).setCell ⟨g, 3, none⟩ x3).setCell ⟨g, 4, none⟩ x4).setCell ⟨g, 5, none⟩ x5).heap[g]? = some (.cells #[x0, x1, x2, x3, x4, x5] e (0, 0)) := by
 have a0 := blk_put h 0 x0 (show _ = #[x0, u1, u2, u3, u4, u5] from rfl)
 have a1 := blk_put a0 1 x1 (show _ = #[x0, x1, u2, u3, u4, u5] from rfl)
 have a2 := blk_put a1 2 x2 (show _ = #[x0, x1, x2, u3, u4, u5] from rfl)
 have a3 := blk_put a2 3 x3 (show _ = #[x0, x1, x2, x3, u4, u5] from rfl)
 have a4 := blk_put a3 4 x4 (show _ = #[x0, x1, x2, x3, x4, u5] from rfl)
 exact blk_put a4 5 x5 rfl
theorem put6_far {W : World} {g : Nat} (x0 x1 x2 x3 x4 x5 : Value) : Keep (fun i => i = g) W ((((((W.setCell ⟨g, 0, none⟩ x0).setCell ⟨g, 1, none⟩ x1).setCell ⟨g, 2, none⟩ x2).setCell ⟨g, 3, none⟩ x3).setCell ⟨g, 4, none⟩ x4).setCell ⟨g, 5, none⟩ x5) := by
 have a0 := (Keep.refl (fun i => i = g) W).setCell ⟨g, 0, none⟩ x0 (fun _ => rfl)
 have a1 := a0.setCell ⟨g, 1, none⟩ x1 (fun _ => rfl)
 have a2 := a1.setCell ⟨g, 2, none⟩ x2 (fun _ => rfl)
 have a3 := a2.setCell ⟨g, 3, none⟩ x3 (fun _ => rfl)
 have a4 := a3.setCell ⟨g, 4, none⟩ x4 (fun _ => rfl)
 exact a4.setCell ⟨g, 5, none⟩ x5 (fun _ => rfl)
theorem rd_num (g b : Nat) (s : St) (w : World) (h : Rd w g b s) :
 Calls Try.prog 47 #[.pointer (some ⟨g, 0, none⟩)] w fun e w' => e = .returned (.int .u64 (num s.1 s.2).1) ∧ Rd w' g b (num s.1 s.2).2 ∧ Keep (· = g) w w' ∧ w'.heap.size = w.heap.size := by
 refine (num_calls g b s.1 s.2 w h.1 h.2.1).mono ?_
 rintro e w' ⟨h1, h2, h3, h4⟩
 exact ⟨h1, ⟨h2, num_by s.1 s.2 h.2.1, by rw [h4]; exact h.2.2⟩, h3, h4⟩
theorem num_len (l : List Int) (c : Int) : (num l c).2.1.length ≤ l.length := num_left l c
theorem below_len (m : Int) (s : St) : (sBelow m s).2.1.length ≤ s.1.length := by
 have h := num_left s.1 s.2
 unfold sBelow below
 split
 · split
   · exact h
   · exact h
 · exact h
theorem zero6 {W : World} {g : Nat} (h : W.heap[g]? = some (.cells #[.int .i64 0, .int .u64 0, .int .i64 0, .int .i64 0, .int .i64 0, .slice none 0 0] 27 (0, 0))) : (W.cell? ⟨g, 0, none⟩ = some (.int .i64 0) ∧ W.cell? ⟨g, 1, none⟩ = some (.int .u64 0) ∧ W.cell? ⟨g, 2, none⟩ = some (.int .i64 0) ∧ W.cell? ⟨g, 3, none⟩ = some (.int .i64 0) ∧ W.cell? ⟨g, 4, none⟩ = some (.int .i64 0) ∧ W.cell? ⟨g, 5, none⟩ = some (.slice none 0 0)) ∧ ∀ j, W.frozen? ⟨g, j, none⟩ = false :=
 ⟨⟨cell_at h 0 _ rfl, cell_at h 1 _ rfl, cell_at h 2 _ rfl, cell_at h 3 _ rfl, cell_at h 4 _ rfl, cell_at h 5 _ rfl⟩, fun j => blk_frozen h j⟩
theorem readAsk_eq {b body : List Int} {oe : Int} (ho : openL 2 b = (body, oe)) {j n r : Int} {s1 s2 s3 : St} (h1 : sBelow 16 (body, 0) = (j, s1)) (h2 : num s1.1 s1.2 = (n, s2)) (h3 : sBelow 9 s2 = (r, s3)) {fx : Fun} {fe : Int} (hf : sFun s3.1 = (fx, fe)) :
 readAsk b = if oe ≠ 0 then (zeroAsk, oe) else if s3.2 ≠ 0 then (zeroAsk, s3.2) else if fe ≠ 0 then (zeroAsk, fe) else ((j, n, r, fx), 0) := by
 have hh : sHead (body, 0) = ((j, n, r), s3) := by simp only [sHead, h1, h2, h3]
 simp only [readAsk, ho, hh, hf]
set_option maxHeartbeats 4000000 in
set_option maxRecDepth 100000 in
theorem takeask_calls (A : Option Addr) (c : Nat) (b : List Int) (n0 : Nat) (hn : b.length = n0) (w : World) (hC : kU8.C w A n0 b) (hc : n0 ≤ c) (hby : By b) (hl : n0 ≤ 1000000) :
 Calls Try.prog 18 #[.slice A n0 c] w fun e w' => AskRet w' w.heap.size (readAsk b) e ∧ Below w.heap.size w w' := by
 have mixed : Try.prog.follows .mixedOrders = true := by kernel_rfl
 have HC := aM hC
 have HBY := aM hby
 have HN := aM hn
 obtain ⟨body, oe, ho⟩ : ∃ body oe, openL 2 b = (body, oe) := ⟨_, _, rfl⟩
 obtain ⟨j, s1, h1⟩ : ∃ j s1, sBelow 16 (body, 0) = (j, s1) := ⟨_, _, rfl⟩
 obtain ⟨n, s2, h2⟩ : ∃ n s2, num s1.1 s1.2 = (n, s2) := ⟨_, _, rfl⟩
 obtain ⟨r, s3, h3⟩ : ∃ r s3, sBelow 9 s2 = (r, s3) := ⟨_, _, rfl⟩
 obtain ⟨fx, fe, hf⟩ : ∃ fx fe, sFun s3.1 = (fx, fe) := ⟨_, _, rfl⟩
 rw [readAsk_eq ho h1 h2 h3 hf]
 have HO := aM ho
 have H1 := aM h1
 have H2 := aM h2
 have H3 := aM h3
 have HF := aM hf
 have HSZ := aM (World.size_alloc w (.cells #[.int .i64 0, .int .u64 0, .int .i64 0, .int .i64 0, .int .i64 0, .slice none 0 0] 27))
 have HA := aM (show Below w.heap.size w (w.alloc (.cells #[.int .i64 0, .int .u64 0, .int .i64 0, .int .i64 0, .int .i64 0, .slice none 0 0] 27)) from (Below.refl _ _).alloc (Nat.le_refl _) _)
 have HRES := aM (show ∀ W', Below (w.heap.size + 1) (w.alloc (.cells #[.int .i64 0, .int .u64 0, .int .i64 0, .int .i64 0, .int .i64 0, .slice none 0 0] 27)) W' → W'.heap[w.heap.size]? = some (.cells #[.int .i64 0, .int .u64 0, .int .i64 0, .int .i64 0, .int .i64 0, .slice none 0 0] 27 (0, 0)) from fun W' h => below_cells (h.mono (by rw [World.size_alloc]; exact Nat.le_refl _)))
 clear hC hby hn ho h1 h2 h3 hf
 by_cases hoe : oe = 0
 case neg =>
  rw [if_pos hoe]
  have hb1 : (oe == 0) = false := beq_eq_false_iff_ne.mpr hoe
  have hb2 : (oe != 0) = true := bne_iff_ne.mpr hoe
  have HOE := aM hoe
  clear hoe
  go_enter Try.func18, Try.ntmps18
  go_upto_region 3 with (go_at_call 45; refine (wopen_calls 2 A c b n0 HN.out _ (Kd.C_below HC.out HA.out) hc HBY.out hl).mono ?_; rintro _ w1 ⟨hr, hb⟩; rw [HO.out] at hr; have HB1 := aM (show Below (w.heap.size + 1) (w.alloc (.cells #[.int .i64 0, .int .u64 0, .int .i64 0, .int .i64 0, .int .i64 0, .slice none 0 0] 27)) w1 from hb.mono (by rw [HSZ.out]; exact Nat.le_refl _)); clear hb; rcases hr with ⟨-, rfl⟩ | ⟨h0, -⟩; rotate_left; (exact absurd h0 HOE.out); have hres := HRES.out w1 HB1.out)
  obtain ⟨⟨x0, x1, x2, x3, x4, x5⟩, xz⟩ := zero6 hres
  have HRS := aM hres
  clear hres
  go_wp2
  (have rr := HRS.out; have p0 := fun x0 x1 x2 x3 x4 x5 => cell_at (put6 rr x0 x1 x2 x3 x4 x5) 0 _ rfl; have p1 := fun x0 x1 x2 x3 x4 x5 => cell_at (put6 rr x0 x1 x2 x3 x4 x5) 1 _ rfl; have p2 := fun x0 x1 x2 x3 x4 x5 => cell_at (put6 rr x0 x1 x2 x3 x4 x5) 2 _ rfl; have p3 := fun x0 x1 x2 x3 x4 x5 => cell_at (put6 rr x0 x1 x2 x3 x4 x5) 3 _ rfl; have p4 := fun x0 x1 x2 x3 x4 x5 => cell_at (put6 rr x0 x1 x2 x3 x4 x5) 4 _ rfl; have p5 := fun x0 x1 x2 x3 x4 x5 => cell_at (put6 rr x0 x1 x2 x3 x4 x5) 5 _ rfl; (try simp only [Exit.inBlock, Exit.then]); refine bodyPost_ret (by simp [results, Try.results18, go_sem, p0, p1, p2, p3, p4, p5]; try rfl) rfl ?_)
  exact ⟨⟨0, 0, 0, 0, 0, _, [], rfl, Kd.R_nil _ _ _ _ _, rfl⟩, (HA.out.trans (HB1.out.mono (by omega))).trans (keep_below (put6_far _ _ _ _ _ _) (HA.out.trans (HB1.out.mono (by omega))).size (fun i e => by omega))⟩
 subst hoe
 rw [if_neg (by simp)]
 have HBB := aM (show By body ∧ body.length ≤ 1000000 from by
  have h1 := takeL_by HBY.out
  have h2 := takeL_len b
  have h3 := HO.out
  unfold openL at h3
  have h4 := HN.out
  repeat' split at h3
  all_goals (injection h3 with e1 e2; subst e1)
  all_goals first | exact ⟨fun x hx => (by cases hx), by simp⟩ | exact ⟨h1, by omega⟩)
 have hl3 : s3.1.length ≤ 1000000 := by
  have a1 := below_len 16 (body, 0)
  rw [H1.out] at a1
  have a2 := num_len s1.1 s1.2
  rw [H2.out] at a2
  have a3 := below_len 9 s2
  rw [H3.out] at a3
  have := HBB.out.2
  simp only at a1 a2 a3
  omega
 obtain ⟨X, hX⟩ : ∃ X : Ask × Int, (if s3.2 ≠ 0 then (zeroAsk, s3.2) else if fe ≠ 0 then (zeroAsk, fe) else ((j, n, r, fx), 0)) = X := ⟨_, rfl⟩
 rw [hX]
 have HXX := aM hX
 clear hX
 go_enter Try.func18, Try.ntmps18
 go_upto_region 4 with (go_at_call 45; refine (wopen_calls 2 A c b n0 HN.out _ (Kd.C_below HC.out HA.out) hc HBY.out hl).mono ?_; rintro _ w1 ⟨hr, hb⟩; rw [HO.out] at hr; have HB1 := aM (show Below (w.heap.size + 1) (w.alloc (.cells #[.int .i64 0, .int .u64 0, .int .i64 0, .int .i64 0, .int .i64 0, .slice none 0 0] 27)) w1 from hb.mono (by rw [HSZ.out]; exact Nat.le_refl _)); clear hb; rcases hr with ⟨h0, -⟩ | ⟨-, g, bb, rfl, hR, hBy, hg0, hg1, hb1, -⟩; (exact absurd rfl h0); have HD0 := aM (show Rd w1 g bb (body, 0) from ⟨hR, hBy, hb1⟩); have HG := aM (show w.heap.size + 1 ≤ g from by rw [HSZ.out] at hg0; exact hg0); clear hR hBy hg0 hg1 hb1)
 go_upto_region 5 with (first
  | (go_at_call 46; refine (rd_below g bb (body, 0) 16 _ HD0.out (by decide) (by decide)).mono ?_; rintro _ w2 ⟨rfl, hd, hk, -⟩; rw [H1.out] at hd ⊢; have HD1 := aM hd; have HK1 := aM hk; clear hd hk HD0)
  | (go_at_call 47; refine (rd_num g bb s1 _ HD1.out).mono ?_; rintro _ w3 ⟨rfl, hd, hk, -⟩; rw [H2.out] at hd ⊢; have HD2 := aM hd; have HK2 := aM (HK1.out.trans hk); clear hd hk HD1)
  | (go_at_call 46; refine (rd_below g bb s2 9 _ HD2.out (by decide) (by decide)).mono ?_; rintro _ w4 ⟨rfl, hd, hk, -⟩; rw [H3.out] at hd ⊢; have HD3 := aM hd; have HK3 := aM (HK2.out.trans hk); clear hd hk HD2))
 have hzg := HG.out
 have hb4 : Below (w.heap.size + 1) (w.alloc (.cells #[.int .i64 0, .int .u64 0, .int .i64 0, .int .i64 0, .int .i64 0, .slice none 0 0] 27)) w4 := HB1.out.trans (keep_below HK3.out (by have := HB1.out.size; rw [HSZ.out] at this; exact this) (fun i e => by have e : i = g := e; omega))
 have hz4 : w.heap.size + 1 ≤ w4.heap.size := by have := hb4.size; rw [HSZ.out] at this; exact this
 have HT := aM (show Tk w (w4.alloc (.cells #[.int .i64 j, .int .u64 n, .int .i64 r, .int .i64 0, .int .i64 0, .slice none 0 0] 27)) w4.heap.size #[.int .i64 j, .int .u64 n, .int .i64 r, .int .i64 0, .int .i64 0, .slice none 0 0] from
  ⟨HRES.out _ (hb4.alloc hz4 _), heap_alloc_new _ _, (HA.out.trans (hb4.mono (by omega))).alloc (by omega) _, by omega⟩)
 have HD := aM (show Rd (w4.alloc (.cells #[.int .i64 j, .int .u64 n, .int .i64 r, .int .i64 0, .int .i64 0, .slice none 0 0] 27)) g bb s3 from HD3.out.below ((Below.refl _ _).alloc (Nat.le_refl _) _))
 have hgl := HD3.out.1.lt
 obtain ⟨gb, hgb⟩ : ∃ gb, w4.heap.size = gb := ⟨_, rfl⟩
 rw [hgb] at HT hgl ⊢
 obtain ⟨W, hW⟩ : ∃ W, W = w4.alloc (.cells #[.int .i64 j, .int .u64 n, .int .i64 r, .int .i64 0, .int .i64 0, .slice none 0 0] 27) := ⟨_, rfl⟩
 rw [← hW] at HT HD ⊢
 clear hW hgb hz4 hb4 HD3 HK1 HK2 HK3 HB1
 obtain ⟨⟨q0, q1, q2, q3, q4, q5⟩, qz, ⟨x0, x1, x2, x3, x4, x5⟩, xz⟩ := HT.out.cells rfl
 by_cases hs3 : s3.2 = 0
 case neg =>
  have HXE := aM (show X = (zeroAsk, s3.2) from by rw [← HXX.out]; exact if_pos hs3)
  have htk : takes (s3.1.length : Int) s3.1 s3.2 = ([], s3.1, s3.2) := if_neg hs3
  have hend : ended s3.1 s3.2 = s3.2 := by unfold ended failed; rw [if_neg hs3]; split <;> rfl
  have HTK := aM htk
  have HEN := aM hend
  have hb1 : (s3.2 == 0) = false := beq_eq_false_iff_ne.mpr hs3
  have hb2 : (s3.2 != 0) = true := bne_iff_ne.mpr hs3
  clear hs3 htk hend
  go_wp2_with (first
   | (go_at_call 49; refine (left_calls g bb s3.1 s3.2 _ HD.out.1).mono ?_; rintro _ _ ⟨rfl, rfl⟩)
   | (go_at_call 48; refine (bytes_calls g bb s3.1 s3.2 _ _ HD.out.1 HD.out.2.2 (by omega)).mono ?_; rintro _ w5 ⟨v5, rfl, hv5, hr5, hk5⟩; rw [HTK.out] at hv5 hr5; obtain ⟨A5, c5, rfl, -, -⟩ := Kd.R_reads hv5; have HT5 := aM (HT.out.keep hk5 (fun e => by have e : w.heap.size = g := e; omega) (fun e => by have e : gb = g := e; omega) (fun i e => by have e : i = g := e; omega)); have HD5 := aM (show Rdr 170 w5 g bb s3.1 s3.2 from hr5); clear hv5 hr5 hk5 q0 q1 q2 q3 q4 q5 qz x0 x1 x2 x3 x4 x5 xz)
   | (go_at_call 50; refine (end_calls g bb s3.1 s3.2 _ HD5.out).mono ?_; rintro _ w6 ⟨rfl, -, hk6, -⟩; rw [HEN.out]; have HT6 := aM (HT5.out.keep hk6 (fun e => by have e : w.heap.size = g := e; omega) (fun e => by have e : gb = g := e; omega) (fun i e => by have e : i = g := e; omega)); clear hk6; obtain ⟨⟨q0, q1, q2, q3, q4, q5⟩, qz, ⟨x0, x1, x2, x3, x4, x5⟩, xz⟩ := HT6.out.cells rfl))
  (have rr := HT6.out.res; have p0 := fun x0 x1 x2 x3 x4 x5 => cell_at (put6 rr x0 x1 x2 x3 x4 x5) 0 _ rfl; have p1 := fun x0 x1 x2 x3 x4 x5 => cell_at (put6 rr x0 x1 x2 x3 x4 x5) 1 _ rfl; have p2 := fun x0 x1 x2 x3 x4 x5 => cell_at (put6 rr x0 x1 x2 x3 x4 x5) 2 _ rfl; have p3 := fun x0 x1 x2 x3 x4 x5 => cell_at (put6 rr x0 x1 x2 x3 x4 x5) 3 _ rfl; have p4 := fun x0 x1 x2 x3 x4 x5 => cell_at (put6 rr x0 x1 x2 x3 x4 x5) 4 _ rfl; have p5 := fun x0 x1 x2 x3 x4 x5 => cell_at (put6 rr x0 x1 x2 x3 x4 x5) 5 _ rfl; (try simp only [Exit.inBlock, Exit.then]); refine bodyPost_ret (by simp [results, Try.results18, go_sem, p0, p1, p2, p3, p4, p5]; try rfl) rfl ?_)
  rw [HXE.out]
  exact ⟨⟨0, 0, 0, 0, 0, _, [], rfl, Kd.R_nil _ _ _ _ _, rfl⟩, HT6.out.below.trans (keep_below (put6_far _ _ _ _ _ _) HT6.out.below.size (fun i e => by omega))⟩
 obtain ⟨l3, c3⟩ := s3
 simp only at hs3
 subst hs3
 simp only at HF hl3 HXX
 have hgW := HD.out.1.lt
 have htk : takes (l3.length : Int) l3 0 = (l3, [], 0) := by
  unfold Ls.takes
  rw [if_pos rfl, if_neg (by omega), Int.toNat_natCast, List.take_length, List.drop_length]
 have HTK := aM htk
 have HBY3 := aM (show By l3 from HD.out.2.1)
 have HL3 := aM hl3
 clear htk
 go_upto_region 9 with (first
  | (go_at_call 49; refine (left_calls g bb l3 0 _ HD.out.1).mono ?_; rintro _ _ ⟨rfl, rfl⟩)
  | (go_at_call 48; refine (bytes_calls g bb l3 0 _ _ HD.out.1 HD.out.2.2 (by omega)).mono ?_; rintro _ w5 ⟨v5, rfl, hv5, hr5, hk5⟩; rw [HTK.out] at hv5 hr5; obtain ⟨A5, c5, rfl, -, -⟩ := Kd.R_reads hv5; have HT5 := aM (HT.out.keep hk5 (fun e => by have e : w.heap.size = g := e; omega) (fun e => by have e : gb = g := e; omega) (fun i e => by have e : i = g := e; omega)); have HV5 := aM (Kd.R_mono (Kd.R_bound hv5) (ok' := fun k => W.heap.size ≤ k) (fun k hk => hk.2.1)); have HD5 := aM (show Rdr 170 w5 g bb [] 0 from hr5); clear hv5 hr5 hk5 q0 q1 q2 q3 q4 q5 qz x0 x1 x2 x3 x4 x5 xz)
  | (go_at_call 50; refine (end_calls g bb [] 0 _ HD5.out).mono ?_; rintro _ w6 ⟨rfl, -, hk6, -⟩; rw [show ended [] 0 = 0 from rfl]; have HT6 := aM (HT5.out.keep hk6 (fun e => by have e : w.heap.size = g := e; omega) (fun e => by have e : gb = g := e; omega) (fun i e => by have e : i = g := e; omega)); have HV6 := aM (Kd.R_step HV5.out (fun k hk hl => hk6.block k hl (fun e => by have e : k = g := e; omega))); clear hk6; obtain ⟨⟨q0, q1, q2, q3, q4, q5⟩, qz, ⟨x0, x1, x2, x3, x4, x5⟩, xz⟩ := HT6.out.cells rfl))
 obtain ⟨A5', c5', hv6, hl6, hC6⟩ := Kd.R_reads HV6.out
 injection hv6 with hv6 _ hv6'
 subst hv6 hv6'
 have HC6 := aM hC6
 have hgb6 := blk_lt HT6.out.bx
 clear hC6 hl6 HT HT5 HD HD5 HV5 HV6
 by_cases hfe : fe = 0
 case neg =>
  have HXE := aM (show X = (zeroAsk, fe) from by rw [← HXX.out, if_neg (by simp)]; exact if_pos hfe)
  have hb1 : (fe == 0) = false := beq_eq_false_iff_ne.mpr hfe
  have hb2 : (fe != 0) = true := bne_iff_ne.mpr hfe
  clear hfe
  go_wp2_with (go_at_call 51; refine (wread_func A5 c5 l3 _ HC6.out HL3.out HBY3.out).mono ?_; rintro _ w7 ⟨hr7, hb7⟩; rw [HF.out] at hr7; obtain ⟨p, v, vb, bs, rfl, hR7, hx7⟩ := hr7; obtain ⟨Ab, cb, rfl, -, -⟩ := Kd.R_reads hR7; obtain ⟨nb, hnb⟩ : ∃ nb, bs.length = nb := ⟨_, rfl⟩; rw [hnb]; have HT7 := aM (HT6.out.grow hb7); have HT8 := aM (((HT7.out.set 3 (.int .i64 p)).set 4 (.int .i64 v)).set 5 (.slice Ab nb cb)); clear hb7 hR7 hx7 hnb q0 q1 q2 q3 q4 q5 qz x0 x1 x2 x3 x4 x5 xz; obtain ⟨⟨q0, q1, q2, q3, q4, q5⟩, qz, ⟨x0, x1, x2, x3, x4, x5⟩, xz⟩ := HT7.out.cells rfl; obtain ⟨⟨r0, r1, r2, r3, r4, r5⟩, rz, ⟨y0, y1, y2, y3, y4, y5⟩, yz⟩ := HT8.out.cells rfl)
  (have rr := HT8.out.res; have p0 := fun x0 x1 x2 x3 x4 x5 => cell_at (put6 rr x0 x1 x2 x3 x4 x5) 0 _ rfl; have p1 := fun x0 x1 x2 x3 x4 x5 => cell_at (put6 rr x0 x1 x2 x3 x4 x5) 1 _ rfl; have p2 := fun x0 x1 x2 x3 x4 x5 => cell_at (put6 rr x0 x1 x2 x3 x4 x5) 2 _ rfl; have p3 := fun x0 x1 x2 x3 x4 x5 => cell_at (put6 rr x0 x1 x2 x3 x4 x5) 3 _ rfl; have p4 := fun x0 x1 x2 x3 x4 x5 => cell_at (put6 rr x0 x1 x2 x3 x4 x5) 4 _ rfl; have p5 := fun x0 x1 x2 x3 x4 x5 => cell_at (put6 rr x0 x1 x2 x3 x4 x5) 5 _ rfl; (try simp only [Exit.inBlock, Exit.then]); refine bodyPost_ret (by simp [results, Try.results18, go_sem, p0, p1, p2, p3, p4, p5]; try rfl) rfl ?_)
  rw [HXE.out]
  exact ⟨⟨0, 0, 0, 0, 0, _, [], rfl, Kd.R_nil _ _ _ _ _, rfl⟩, HT8.out.below.trans (keep_below (put6_far _ _ _ _ _ _) HT8.out.below.size (fun i e => by omega))⟩
 subst hfe
 have HXE := aM (show X = ((j, n, r, fx), 0) from by rw [← HXX.out, if_neg (by simp), if_neg (by simp)])
 go_wp2_with (go_at_call 51; refine (wread_func A5 c5 l3 _ HC6.out HL3.out HBY3.out).mono ?_; rintro _ w7 ⟨hr7, hb7⟩; rw [HF.out] at hr7; obtain ⟨p, v, vb, bs, rfl, hR7, hx7⟩ := hr7; obtain ⟨Ab, cb, rfl, -, -⟩ := Kd.R_reads hR7; obtain ⟨nb, hnb⟩ : ∃ nb, bs.length = nb := ⟨_, rfl⟩; rw [hnb] at hR7 ⊢; have HT7 := aM (HT6.out.grow hb7); have HR7 := aM hR7; have HX7 := aM hx7; have HT8 := aM (((HT7.out.set 3 (.int .i64 p)).set 4 (.int .i64 v)).set 5 (.slice Ab nb cb)); clear hb7 hR7 hx7 hnb q0 q1 q2 q3 q4 q5 qz x0 x1 x2 x3 x4 x5 xz; obtain ⟨⟨q0, q1, q2, q3, q4, q5⟩, qz, ⟨x0, x1, x2, x3, x4, x5⟩, xz⟩ := HT7.out.cells rfl; obtain ⟨⟨r0, r1, r2, r3, r4, r5⟩, rz, ⟨y0, y1, y2, y3, y4, y5⟩, yz⟩ := HT8.out.cells rfl)
 (have rr := HT8.out.res; have p0 := fun x0 x1 x2 x3 x4 x5 => cell_at (put6 rr x0 x1 x2 x3 x4 x5) 0 _ rfl; have p1 := fun x0 x1 x2 x3 x4 x5 => cell_at (put6 rr x0 x1 x2 x3 x4 x5) 1 _ rfl; have p2 := fun x0 x1 x2 x3 x4 x5 => cell_at (put6 rr x0 x1 x2 x3 x4 x5) 2 _ rfl; have p3 := fun x0 x1 x2 x3 x4 x5 => cell_at (put6 rr x0 x1 x2 x3 x4 x5) 3 _ rfl; have p4 := fun x0 x1 x2 x3 x4 x5 => cell_at (put6 rr x0 x1 x2 x3 x4 x5) 4 _ rfl; have p5 := fun x0 x1 x2 x3 x4 x5 => cell_at (put6 rr x0 x1 x2 x3 x4 x5) 5 _ rfl; (try simp only [Exit.inBlock, Exit.then]); refine bodyPost_ret (by simp [results, Try.results18, go_sem, p0, p1, p2, p3, p4, p5]; try rfl) rfl ?_)
 rw [HXE.out]
 have hfx : fx = (p, v, bs) := by
  rcases HX7.out with ⟨-, h⟩ | ⟨h, -⟩
  · exact h
  · exact absurd rfl h
 refine ⟨⟨j, n, r, p, v, _, bs, rfl, ?_, by rw [hfx]⟩, HT8.out.below.trans (keep_below (put6_far _ _ _ _ _ _) HT8.out.below.size (fun i e => by omega))⟩
 have hgw := HT8.out.hgb
 refine Kd.R_mono (Kd.R_step (Kd.R_lower (Kd.R_mono (Kd.R_bound HR7.out) (ok' := fun k => w6.heap.size ≤ k) (fun k hk => hk.2.1)) (by omega)) (fun k hk hl => ?_)) (fun _ _ => trivial)
 refine ((put6_far _ _ _ _ _ _).block k (by simp only [size_set]; exact hl) (fun e => by omega)).trans ?_
 rw [Below.heap_setCell _ _ _ _ (show k ≠ gb by omega), Below.heap_setCell _ _ _ _ (show k ≠ gb by omega), Below.heap_setCell _ _ _ _ (show k ≠ gb by omega)]
end Go.Proofs.Ytnckonglodmfeaa.Ik
