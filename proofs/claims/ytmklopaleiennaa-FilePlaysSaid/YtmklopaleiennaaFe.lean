/- What the calls of package file come to: Cut, Write. -/
import Derived.Test.YtmklopaleiennaaFd
import Derived.Test.YtmklopaleiennaaE
namespace Go.Proofs.Ytmklopaleiennaa.Fd
open Go.RowKit Go.Proofs.YtmklopaleiennaaW.PrintWords Go.Proofs.YtmklopaleiennaaW.PrintLast Go.Proofs.YtmklopaleiennaaW.PrintMore Go.Proofs.Ytmklopaleiennaa.B Go.Proofs.Ytmklopaleiennaa.Fs Go.Proofs.Ytmklopaleiennaa.Fc Go.Proofs.Ytmklopaleiennaa.Fw Go.Proofs.Ytmklopaleiennaa.R
set_option linter.unusedVariables false
set_option linter.unusedSimpArgs false
theorem infoW : (Try.prog.info? 75).map (fun i => (i.zero, i.size, i.bytes)) = some (some (.agg #[.int .i64 0, .slice none 0 0]), 2, 32) := by kernel_rfl
section
variable {w : World} {g : Nat} {own : Nat → Prop} {room : Int} {s : List Int} {q : List (Int × List Int)}
set_option maxHeartbeats 2000000 in
set_option maxRecDepth 100000 in
theorem cut_calls (h : FF w g own room s q) (hok : FOk room s q) (n : Int) :
    Calls Try.prog 23 #[.pointer (some ⟨g, 0, none⟩), .int .i64 n] w fun e w' => e = .returned (.int .i64 (cErr (over q s).length n)) ∧
      (∃ own', FF w' g own' room (cutS s q n) (cutQ s q n) ∧ ∀ k, own' k → own k ∨ w.heap.size ≤ k) ∧ Keep own w w' := by
  have HF := Aside0.mk h
  have HOK := Aside0.mk hok
  obtain ⟨u1, u2, -, -, hh, -⟩ := h
  have hbn := hok.all.1
  have hr1 := hok.r1
  clear hok
  by_cases h0 : n < 0
  · have hce : cErr (over q s).length n = 2 := if_pos (Or.inl h0)
    have HE := Aside0.mk hce
    clear hce hh
    go_enter Try.func23, Try.ntmps23
    go_wp2
    go_ret
    rw [HE.out, show cutS s q n = s from if_neg (by rw [HE.out]; decide), show cutQ s q n = q from if_neg (by rw [HE.out]; decide)]
    exact ⟨rfl, ⟨own, HF.out, fun k hk => .inl hk⟩, Keep.refl _ _⟩
  by_cases h1 : ((over q s).length : Int) < n
  · have hce : cErr (over q s).length n = 2 := if_pos (Or.inr h1)
    have HE := Aside0.mk hce
    clear hce hh
    go_enter Try.func23, Try.ntmps23
    go_wp2_with (first | (go_at_call 19; refine (bytes_calls HF.out HOK.out).mono ?_; rintro e w1 ⟨v1, rfl, hu1, hb1⟩; obtain ⟨A9, c9, rfl, -, -, -⟩ := hu1.reads; have HB1 := Aside0.mk hb1; clear hu1 hb1))
    go_ret
    rw [HE.out, show cutS s q n = s from if_neg (by rw [HE.out]; decide), show cutQ s q n = q from if_neg (by rw [HE.out]; decide)]
    exact ⟨rfl, ⟨own, HF.out.below HB1.out, fun k hk => .inl hk⟩, Keep.of_below HB1.out⟩
  have hce : cErr (over q s).length n = 0 := if_neg (by omega)
  have HE := Aside0.mk hce
  clear hce
  obtain ⟨i5, hi5, -, hi5s, -⟩ := info_ex infoU8
  obtain ⟨m, hm⟩ : ∃ m, m = (over q s).length := ⟨_, rfl⟩
  have hh' := hh
  go_enter Try.func23, Try.ntmps23
  go_wp2_with (first
    | (go_at_call 19; (refine (Calls.mono (bytes_calls (w := w) HF.out HOK.out) ?_)); rintro e w1 ⟨v1, rfl, hu1, hb1⟩; obtain ⟨A9, c9, rfl, -, -, -⟩ := hu1.reads; have HB1 := Aside0.mk hb1; clear hu1 hb1)
    | (go_at_call 19; refine (bytes_calls (HF.out.below HB1.out) HOK.out).mono ?_; rintro e w2 ⟨v2, rfl, hu2, hb2⟩; obtain ⟨A8, c8, rfl, hlc8, -, hA8⟩ := hu2.reads; have hrun := fun W : World => slice_cap 22 5 .i64 .i64 Try.underlying22 hi5 A8 (over q s).length c8 n (by omega) (by omega) W; have HU2 := Aside0.mk hu2; have HB2 := Aside0.mk hb2; have hh2 := (hb2.block g (by have := HB1.out.size; have := blk_lt hh; omega)).trans ((HB1.out.block g (blk_lt hh)).trans hh'); have hfz1 := blk_frozen hh2 1; have hfz2 := blk_frozen hh2 2; have hce1 : w2.cell? ⟨g, 1, none⟩ = some u1 := (by simp [World.cell?, hh2]); have hce2 : w2.cell? ⟨g, 2, none⟩ = some u2 := (by simp [World.cell?, hh2]); clear hu2 hb2 hh2 hA8))
  go_ret
  rw [HE.out, show cutS s q n = (over q s).take n.toNat from if_pos HE.out, show cutQ s q n = [] from if_pos HE.out]
  have hz1 := HB1.out.size
  have hv : Buf .u8 5 w2 (fun k => w1.heap.size ≤ k) (.slice A8 n.toNat n.toNat) ((over q s).take n.toNat) := HU2.out.short rfl (by omega) (Nat.le_refl _) (by omega) (fun e => by
    subst e
    rcases HU2.out with ⟨_, h⟩ | ⟨_, _, _, h, _⟩
    · rw [h] at h1; simp only [List.length_nil] at h1; omega
    · cases h)
  obtain ⟨r1, r2, r3, r4⟩ := set_two (HF.out.below HB1.out) HB2.out hv
  exact ⟨rfl, ⟨_, r1, fun k hk => hk.elim (fun e => .inl (by rw [e]; exact r3)) (fun e => .inr (by omega))⟩, (Keep.of_below HB1.out).trans r2⟩
set_option maxHeartbeats 4000000 in
set_option maxRecDepth 100000 in
theorem write_calls (h : FF w g own room s q) (hok : FOk room s q) (hql : q.length ≤ 1000000) (i : Int) (hi0 : -9223372036854775808 ≤ i) (hi1 : i ≤ 9223372036854775807) (A : Option Addr) (cap : Nat) (c : List Int) (hC : kU8.C w A c.length c) :
    Calls Try.prog 16 #[.pointer (some ⟨g, 0, none⟩), .int .i64 i, .slice A c.length cap] w fun e w' => e = .returned (.int .i64 (wErr room (over q s).length i c.length)) ∧
      (∃ own', FF w' g own' room s (wrQ room s q i c) ∧ ∀ k, own' k → own k ∨ w.heap.size ≤ k) ∧ Keep own w w' := by
  have HF := Aside0.mk h
  have HOK := Aside0.mk hok
  have HC := Aside0.mk hC
  have hbn := hok.all.1
  have hr1 := hok.r1
  have hr0 := hok.r0
  have hcl := hC.2.1
  by_cases h0 : i < 0
  · have hce : wErr room (over q s).length i c.length = 2 := if_pos (Or.inl h0)
    have HE := Aside0.mk hce
    clear hce hok hC h
    go_enter Try.func16, Try.ntmps16
    go_wp2
    go_ret
    rw [HE.out, show wrQ room s q i c = q from if_neg (by rw [HE.out]; decide)]
    exact ⟨rfl, ⟨own, HF.out, fun k hk => .inl hk⟩, Keep.refl _ _⟩
  by_cases h1 : ((over q s).length : Int) < i
  · have hce : wErr room (over q s).length i c.length = 2 := if_pos (Or.inr h1)
    have HE := Aside0.mk hce
    clear hce hok hC h
    go_enter Try.func16, Try.ntmps16
    go_wp2_with (first | (go_at_call 19; refine (bytes_calls HF.out HOK.out).mono ?_; rintro e w1 ⟨v1, rfl, hu1, hb1⟩; obtain ⟨A9, c9, rfl, -, -, -⟩ := hu1.reads; have HB1 := Aside0.mk hb1; clear hu1 hb1))
    go_ret
    rw [HE.out, show wrQ room s q i c = q from if_neg (by rw [HE.out]; decide)]
    exact ⟨rfl, ⟨own, HF.out.below HB1.out, fun k hk => .inl hk⟩, Keep.of_below HB1.out⟩
  obtain ⟨u1, u2, S1, S2, hh, hb, hr, hsep, ho, hg, hlt⟩ := h
  obtain ⟨A2, c2, rfl, hlc2, -⟩ := Kd.R_reads hr
  have hgl := blk_lt hh
  have q0 : w.cell? ⟨g, 0, none⟩ = some (.int .i64 room) := by simp [World.cell?, hh]
  by_cases h2 : room < i + c.length
  · have hce : wErr room (over q s).length i c.length = 50 := by unfold wErr; rw [if_neg (by omega), if_pos h2]
    have HE := Aside0.mk hce
    have hh' := hh
    clear hce hok hC hb hr hsep ho hg hlt hlc2
    go_enter Try.func16, Try.ntmps16
    go_wp2_with (first | (go_at_call 19; refine (bytes_calls HF.out HOK.out).mono ?_; rintro e w1 ⟨v1, rfl, hu1, hb1⟩; obtain ⟨A9, c9, rfl, -, -, -⟩ := hu1.reads; have HB1 := Aside0.mk hb1; have q1 : w1.cell? ⟨g, 0, none⟩ = some (.int .i64 room) := (by simp [World.cell?, (hb1.block g hgl).trans hh']); clear hu1 hb1))
    go_ret
    rw [HE.out, show wrQ room s q i c = q from if_neg (by rw [HE.out]; decide)]
    exact ⟨rfl, ⟨own, HF.out.below HB1.out, fun k hk => .inl hk⟩, Keep.of_below HB1.out⟩
  have hce : wErr room (over q s).length i c.length = 0 := by unfold wErr; rw [if_neg (by omega), if_neg h2]
  have HE := Aside0.mk hce
  have HH := Aside0.mk hh
  have HBf := Aside0.mk hb
  have HR := Aside0.mk hr
  have HSEP := Aside0.mk hsep
  have HO := Aside0.mk ho
  have HLT := Aside0.mk (And.intro hg hlt)
  clear hce hok hC hb hr hsep ho hg hlt hh
  go_enter Try.func16, Try.ntmps16
  go_wp2_with (first | (go_at_call 19; refine (bytes_calls HF.out HOK.out).mono ?_; rintro e w1 ⟨v1, rfl, hu1, hb1⟩; obtain ⟨A9, c9, rfl, -, -, -⟩ := hu1.reads; have HB1 := Aside0.mk hb1; have q1 : w1.cell? ⟨g, 0, none⟩ = some (.int .i64 room) := (by simp [World.cell?, (hb1.block g hgl).trans HH.out]); clear hu1 hb1))
  have hz1 := HB1.out.size
  have HF1 := Aside0.mk (show ∀ W, Keep S2 w1.drew W → W.cell? ⟨g, 2, none⟩ = some (.slice A2 q.length c2) from fun W hW => by
    have h := (hW.block g (by show g < w1.heap.size; omega) (fun h => (HO.out g (.inr h)).2 rfl)).trans ((HB1.out.block g hgl).trans HH.out)
    simp [World.cell?, h])
  have HCUR := Aside0.mk (Keep.refl S2 w1.drew)
  have HC1 := Aside0.mk (Kd.C_below HC.out HB1.out)
  clear q0 q1
  have HA2 := Aside0.mk (show ∀ k, (Value.slice A2 q.length c2).ownBlock = some k → S2 k ∧ k < w.heap.size from fun k hk => ⟨HR.out.1 k hk, HLT.out.2 k (HO.out k (.inr (HR.out.1 k hk))).1⟩)
  refine re_start [13] (S2) (by kernel_rfl) (n := 14) (l := #[false, false, false, false, false, false, false, false, false, false, false, false, false, false]) (by kernel_rfl) (by kernel_rfl) ?_
  refine re_take (fuel := 13) 0 rfl (by kernel_rfl) (listed' := #[true, false, false, false, false, false, false, false, false, false, false, false, false, false]) (by kernel_rfl) (fun _ _ _ h => h) (by kernel_rfl) (fun w' hR => by have x0 := HF1.out w' (HCUR.out.trans hR); go_simp; first | done | with_reducible rfl) rfl ?_
  try simp only [Act.put, List.setIfInBounds_toArray, List.set_cons_zero, List.set_cons_succ]
  refine re_take (fuel := 12) 1 rfl (by kernel_rfl) (listed' := #[true, true, false, false, false, false, false, false, false, false, false, false, false, false]) (by kernel_rfl) (fun _ _ _ h => h) (by kernel_rfl) (fun w' hR => by have x0 := HF1.out w' (HCUR.out.trans hR); go_simp; first | done | with_reducible rfl) rfl ?_
  try simp only [Act.put, List.setIfInBounds_toArray, List.set_cons_zero, List.set_cons_succ]
  refine re_take (fuel := 11) 2 rfl (by kernel_rfl) (listed' := #[true, true, true, false, false, false, false, false, false, false, false, false, false, false]) (by kernel_rfl) (fun _ _ _ h => h) (by kernel_rfl) (fun w' hR => by have x0 := HF1.out w' (HCUR.out.trans hR); go_simp; first | done | with_reducible rfl) rfl ?_
  try simp only [Act.put, List.setIfInBounds_toArray, List.set_cons_zero, List.set_cons_succ]
  refine re_take (fuel := 10) 3 rfl (by kernel_rfl) (listed' := #[true, true, true, true, false, false, false, false, false, false, false, false, false, false]) (by kernel_rfl) (fun _ _ _ h => h) (by kernel_rfl) (fun w' hR => by have x0 := HF1.out w' (HCUR.out.trans hR); go_simp; first | done | with_reducible rfl) rfl ?_
  try simp only [Act.put, List.setIfInBounds_toArray, List.set_cons_zero, List.set_cons_succ]
  refine re_take (fuel := 9) 4 rfl (by kernel_rfl) (listed' := #[true, true, true, true, true, false, false, false, false, false, false, false, false, false]) (by kernel_rfl) (fun _ _ _ h => h) (by kernel_rfl) (fun w' hR => by have x0 := HF1.out w' (HCUR.out.trans hR); go_simp; first | done | with_reducible rfl) rfl ?_
  try simp only [Act.put, List.setIfInBounds_toArray, List.set_cons_zero, List.set_cons_succ]
  refine re_take (fuel := 8) 5 rfl (by kernel_rfl) (listed' := #[true, true, true, true, true, true, false, false, false, false, false, false, false, false]) (by kernel_rfl) (fun _ _ _ h => h) (by kernel_rfl) (fun w' hR => by have x0 := HF1.out w' (HCUR.out.trans hR); go_simp; first | done | with_reducible rfl) rfl ?_
  try simp only [Act.put, List.setIfInBounds_toArray, List.set_cons_zero, List.set_cons_succ]
  refine re_take (fuel := 7) 6 rfl (by kernel_rfl) (listed' := #[true, true, true, true, true, true, true, false, false, false, false, false, false, false]) (by kernel_rfl) (fun _ _ _ h => h) (by kernel_rfl) (fun w' hR => by have x0 := HF1.out w' (HCUR.out.trans hR); go_simp; first | done | with_reducible rfl) rfl ?_
  try simp only [Act.put, List.setIfInBounds_toArray, List.set_cons_zero, List.set_cons_succ]
  refine re_step (fuel := 6) 7 rfl (by kernel_rfl) (listed' := #[true, true, true, true, true, true, true, true, false, false, false, false, false, false]) (by kernel_rfl) (by kernel_rfl) (fun K' hK => ?_)
  go_wp2_with (first | (go_at_call 35; refine (clone_calls A cap c _ (Kd.C_drew HC1.out) (by omega)).mono ?_; rintro e w2 ⟨v2, rfl, ho2, hb2⟩; obtain ⟨A3, c3, rfl, -, -⟩ := Kd.R_reads ho2; have HO2 := Aside0.mk ho2; have HB2 := Aside0.mk hb2; have HCUR := Aside0.mk (HCUR.out.trans (Keep.of_below HB2.out)); clear ho2 hb2))
  refine hK.out _ _ (Keep.of_below HB2.out) ?_
  clear hK K'
  try simp only [Act.put, List.setIfInBounds_toArray, List.set_cons_zero, List.set_cons_succ]
  refine re_take (fuel := 5) 8 rfl (by kernel_rfl) (listed' := #[true, true, true, true, true, true, true, true, true, false, false, false, false, false]) (by kernel_rfl) (fun _ _ _ h => h) (by kernel_rfl) (fun w' hR => by have x0 := HF1.out w' (HCUR.out.trans hR); go_simp; first | done | with_reducible rfl) rfl ?_
  try simp only [Act.put, List.setIfInBounds_toArray, List.set_cons_zero, List.set_cons_succ]
  refine re_step (fuel := 4) 9 rfl (by kernel_rfl) (listed' := #[true, true, true, true, true, true, true, true, true, true, false, false, false, false]) (by kernel_rfl) (by kernel_rfl) (fun K' hK => ?_)
  (go_wp2_with fail); have HAL := Aside0.mk (Keep.of_below (S := S2) ((Below.refl w2.heap.size w2).alloc (Nat.le_refl _) (.cells #[.int .i64 i, .slice A3 c.length c3] 75))); have HCUR := Aside0.mk (HCUR.out.trans HAL.out)
  refine hK.out _ _ HAL.out ?_
  clear hK K'
  try simp only [Act.put, List.setIfInBounds_toArray, List.set_cons_zero, List.set_cons_succ]
  refine re_step (fuel := 3) 10 rfl (by kernel_rfl) (listed' := #[true, true, true, true, true, true, true, true, true, true, true, false, false, false]) (by kernel_rfl) (by kernel_rfl) (fun K' hK => ?_)
  refine R_append_wp kW (W := w2) 0 (.tmp 34) (.tmp 39) 70 75 (.agg #[.int .i64 0, .slice none 0 0]) 32 rfl Try.underlying70 infoW rfl (by decide) (by decide) (.slice A2 q.length c2) q (i, c) [.int .i64 i, .slice A3 c.length c3] (fun k => S2 k ∨ w1.heap.size ≤ k) (fun k => w1.heap.size ≤ k) rfl rfl ⟨[_], [_], rfl, rfl, _, rfl, Kd.R_mono (Kd.R_lower (Kd.R_bound HO2.out) (Nat.zero_le _)) (fun k hk => hk.2.1)⟩ (fun k hk => ⟨.inr hk, fun e => by have := HA2.out k e.symm; omega⟩) (fun k hk => .inr (Nat.le_trans HB2.out.size hk)) (Kd.R_mono (Kd.R_step (Kd.R_below HR.out HB1.out) (fun k _ hk => HB2.out.block k hk)) (fun k hk => .inl hk)) (Nat.zero_le _) (by omega) ?_; intro v3 w3 hr3 hg3 hg3' hat3; obtain ⟨A4, c4, rfl, -, -⟩ := Kd.R_reads hr3; have HG3 := Aside0.mk (grown_keep (S := S2) hg3' (fun k hk => (HA2.out k hk).1)); have HR3 := Aside0.mk hr3; have HCUR := Aside0.mk (HCUR.out.trans HG3.out); clear hr3 hg3 hg3' hat3
  refine hK.out _ _ HG3.out ?_
  clear hK K'
  try simp only [Act.put, List.setIfInBounds_toArray, List.set_cons_zero, List.set_cons_succ]
  refine re_take (fuel := 2) 11 rfl (by kernel_rfl) (listed' := #[true, true, true, true, true, true, true, true, true, true, true, true, false, false]) (by kernel_rfl) (fun _ _ _ h => h) (by kernel_rfl) (fun w' hR => by have x0 := HF1.out w' (HCUR.out.trans hR); go_simp; first | done | with_reducible rfl) rfl ?_
  try simp only [Act.put, List.setIfInBounds_toArray, List.set_cons_zero, List.set_cons_succ]
  refine re_take (fuel := 1) 12 rfl (by kernel_rfl) (listed' := #[true, true, true, true, true, true, true, true, true, true, true, true, true, false]) (by kernel_rfl) (fun _ _ _ h => h) (by kernel_rfl) (fun w' hR => by have x0 := HF1.out w' (HCUR.out.trans hR); go_simp; first | done | with_reducible rfl) rfl ?_
  try simp only [Act.put, List.setIfInBounds_toArray, List.set_cons_zero, List.set_cons_succ]
  refine re_free (fuel := 0) 13 rfl (by kernel_rfl) (listed' := #[true, true, true, true, true, true, true, true, true, true, true, true, true, true]) (by kernel_rfl) (by kernel_rfl) (fun K' hK => ?_)
  have hh3 := (HCUR.out.block g (by show g < w1.heap.size; omega) (fun h => (HO.out g (.inr h)).2 rfl)).trans ((HB1.out.block g hgl).trans HH.out); have hfz := blk_frozen hh3 2; have hx3 : w3.cell? ⟨g, 2, none⟩ = some (.slice A2 q.length c2) := (by simp [World.cell?, hh3]); have HH3 := Aside0.mk hh3; clear hh3; go_wp2_with fail
  refine hK.out _ _ trivial ?_
  clear hK K'
  try simp only [Act.put, List.setIfInBounds_toArray, List.set_cons_zero, List.set_cons_succ]
  refine re_done (by kernel_rfl) ?_
  go_wp2
  go_ret
  rw [HE.out, show wrQ room s q i c = q ++ [(i, c)] from if_pos HE.out]
  obtain ⟨hg, hlt⟩ := HLT.out
  have hz3 := HCUR.out.size
  have hz1' : w1.drew.heap.size = w1.heap.size := rfl
  have hK3 : Keep S2 w w3 := (Keep.of_below HB1.out).trans ((Keep.refl S2 w1).drew.trans HCUR.out)
  have hres := heap_setCell_same w3 g 2 _ 72 (.slice A4 (q.length + 1) c4) HH3.out
  have hR3 := HR3.out
  rw [show (q ++ [(i, c)]).length = q.length + 1 by simp] at hR3
  have hown : ∀ k, S1 k ∨ S2 k → own k ∧ k ≠ g := HO.out
  refine ⟨rfl, ⟨fun k => own k ∨ w1.heap.size ≤ k ∧ k < w3.heap.size, ⟨u1, _, S1, fun k => S2 k ∨ w1.heap.size ≤ k ∧ k < w3.heap.size, hres, ?_, ?_, fun k h1 h2 => ?_, fun k hk => ?_, .inl hg, fun k hk => ?_⟩, fun k hk => hk.imp id (fun h => by omega)⟩, ?_⟩
  · refine HBf.out.step (fun k hk hl => ?_)
    rw [Below.heap_setCell _ _ _ _ (by show k ≠ g; exact (hown k (.inl hk)).2)]
    exact hK3.block k hl (HSEP.out k hk)
  · refine Kd.R_mono (Kd.R_far (p := ⟨g, 2, none⟩) (Kd.R_mono (ok' := fun k => (S2 k ∨ w1.heap.size ≤ k) ∧ k < w3.heap.size) (Kd.R_bound hR3) (fun k hk => ⟨hk.1, hk.2.2.1⟩)) (fun k hk => ?_) _) (fun k hk => ?_)
    · show k ≠ g
      rcases hk.1 with h | h
      · exact (hown k (.inr h)).2
      · omega
    · rcases hk with ⟨h | h, h'⟩
      · exact .inl h
      · exact .inr ⟨h, h'⟩
  · rcases h2 with h2 | h2
    · exact HSEP.out k h1 h2
    · have := hlt k (hown k (.inl h1)).1
      omega
  · rcases hk with hk | hk | hk
    · exact ⟨.inl (hown k (.inl hk)).1, (hown k (.inl hk)).2⟩
    · exact ⟨.inl (hown k (.inr hk)).1, (hown k (.inr hk)).2⟩
    · exact ⟨.inr hk, by omega⟩
  · rw [World.size_setCell]
    rcases hk with hk | hk
    · have := hlt k hk; omega
    · exact hk.2
  · exact (hK3.mono (fun k _ hk => (hown k (.inr hk)).1)).setCell _ _ (fun _ => hg)
end
end Go.Proofs.Ytmklopaleiennaa.Fd
