/- What the calls of the reference's file come to. -/
import Derived.Test.YtmklopaleiennaaFr
namespace Go.Proofs.Ytmklopaleiennaa.Fr
open Go.RowKit Go.Proofs.YtmklopaleiennaaW.PrintWords Go.Proofs.YtmklopaleiennaaW.PrintLast Go.Proofs.YtmklopaleiennaaW.PrintMore Go.Proofs.Ytmklopaleiennaa.B Go.Proofs.Ytmklopaleiennaa.Fs Go.Proofs.Ytmklopaleiennaa.Fc Go.Proofs.Ytmklopaleiennaa.Fw Go.Proofs.Ytmklopaleiennaa.R Go.Proofs.Ytmklopaleiennaa.S
set_option linter.unusedVariables false
set_option linter.unusedSimpArgs false
theorem infoW : (Try.prog.info? 79).map (fun i => (i.zero, i.size, i.bytes)) = some (some (.agg #[.int .i64 0, .slice none 0 0]), 2, 32) := by kernel_rfl
section
variable {w : World} {g : Nat} {own : Nat → Prop} {room : Int} {s : List Int} {q : List (Int × List Int)}
set_option maxHeartbeats 4000000 in
set_option maxRecDepth 100000 in
theorem bytes_calls (h : FM w g own room s q) (hok : FOk room s q) :
    Calls Try.prog 21 #[.pointer (some ⟨g, 0, none⟩)] w fun e w' => ∃ v, e = .returned v ∧ Buf .u8 5 w' (fun k => w.heap.size ≤ k) v (over q s) ∧ Below w.heap.size w w' := by
  obtain ⟨v1, v2, S1, S2, hh, hb, hr, hs, ho, hg, hlt⟩ := h
  obtain ⟨A1, c1, rfl, hlc1, hC1, hA1⟩ := hb.reads
  obtain ⟨A2, c2, rfl, hlc2, hC2⟩ := Kd.R_reads hr
  have hql := hC2.2.1
  clear hC2
  have q0 : w.cell? ⟨g, 1, none⟩ = some (.slice A1 s.length c1) := by simp [World.cell?, hh]
  have HH := Aside0.mk hh
  have HR := Aside0.mk hr
  have HOK := Aside0.mk hok
  have HC1 := Aside0.mk hC1
  have hsl : s.length ≤ 4194304 := by have := hok.s0; have := hok.r1; omega
  have HS2 := Aside0.mk (show ∀ k, S2 k → k < w.heap.size from fun k hk => hlt k (ho k (.inr hk)).1)
  clear hh hb hr hok hs ho hg hlt hA1 hC1
  go_enter Try.func21, Try.ntmps21
  have q0' : (w.alloc (.cells #[] 5)).cell? ⟨g, 1, none⟩ = some (.slice A1 s.length c1) := by simp [World.cell?, (Below.heap_alloc w (.cells #[] 5) g (blk_lt HH.out)).trans HH.out]
  go_wp2_with (first | ((with_reducible refine gate_builtin (b := .append) (xs := #[.tmp 5, .tmp 9]) rfl ?_); at_builtin; refine Kd.R_append_rows (Kd.int .u8) (w0 := w) w.heap.size rfl (.tmp 5) (.tmp 9) 22 5 (.int .u8 0) 1 rfl Try.underlying22 infoU8 rfl (by decide) (by omega) (.slice (some ⟨w.heap.size, 0, none⟩) 0 0) ([] : List Int) s _ _ _ (fun _ => True) (fun _ => False) rfl rfl ?aO ?aR (fun _ _ h => h) (fun _ h => h.elim) ?aF ?aB ?aS ?aL ?_; (case aR => exact Kd.C_alloc HC1.out _); (case aB => exact (Below.refl _ _).alloc (Nat.le_refl _) _); (case aF => exact (fun _ _ => trivial)); (case aO => exact R_lit0 kU8 5 w); (case aS => simp); (case aL => (simp only [List.length_nil]; omega)); (intro v1 w1 ho hb1 hg hat; rw [List.nil_append] at ho; have HU1 := Aside0.mk ((Buf.of_R ho).mono (S' := fun k => w.heap.size ≤ k) (fun k hk _ => hk.2.1)); have HB1 := Aside0.mk hb1; clear ho hb1 hg hat)))
  clear q0 q0'
  go_loopw [3, 4] (fun vo vi wr => ∃ k : Nat, k ≤ q.length ∧ vi = .int .i64 k ∧ Aside0 (Buf .u8 5 wr (fun k => w.heap.size ≤ k) vo (over (q.take k) s)) ∧ Aside0 (Below w.heap.size w wr)) (fun _ vi _ => q.length - (intOf vi).toNat)
  case atStart => exact ⟨0, by omega, rfl, HU1, HB1⟩
  case round =>
    clear HB1 HU1
    obtain ⟨k, hk, rfl, HU, HB⟩ := hrel
    have hgw : wr.heap[g]? = some (.cells #[.int .i64 room, .slice A1 s.length c1, .slice A2 q.length c2] 44 (0, 0)) := (HB.out.block g (blk_lt HH.out)).trans HH.out
    have q1 : wr.cell? ⟨g, 2, none⟩ = some (.slice A2 q.length c2) := by simp [World.cell?, hgw]
    have HGW := Aside0.mk hgw
    clear hgw
    by_cases hlt : k < q.length
    · obtain ⟨⟨i, c⟩, hp⟩ : ∃ p, q[k]? = some p := ⟨_, List.getElem?_eq_getElem hlt⟩
      obtain ⟨ad, A, c', rfl, hs2, hadl, q2, q3, hcc, hCc, hAc⟩ := W_get (Kd.R_below HR.out HB.out) hp
      have hpt := HOK.out.part k
      obtain ⟨hi0, hi1, hi2, hby⟩ := HOK.out.ok.get hp
      simp only at hi0 hi1 hi2 hby
      have hr1 := HOK.out.r1
      have hbnd : i + c.length ≤ 16777216 := by omega
      have hbn2 : (over (q.take k) s).length ≤ 16777216 := by omega
      have HT := Aside0.mk (over_take (b := s) hp)
      have HCc := Aside0.mk hCc
      clear hCc hAc hby hpt hi2 hr1 hs2 hadl
      obtain ⟨A3, c3, rfl, hlc3, hC3, -⟩ := HU.out.reads
      have HC3 := Aside0.mk hC3
      clear hC3
      have HF := Aside0.mk (show ∀ W, Keep (fun _ => False) wr.drew W → W.cell? ⟨g, 2, none⟩ = some (.slice (some ad) q.length c2) ∧ W.cell? (ad.add (k * 2)) = some (.int .i64 i) ∧ W.cell? ⟨(ad.add (k * 2)).block, (ad.add (k * 2)).off + 1, none⟩ = some (.slice A c.length c') from fun W hW => by
        have hbl := hW.below (N := wr.heap.size) (Nat.le_refl _) (fun _ _ h => h)
        have h := (hbl.block g (blk_lt HGW.out)).trans HGW.out
        exact ⟨by simp [World.cell?, h], (World.cell?_of_block (hbl.block _ (World.block_lt_of_cell? wr _ q2))).trans q2, (World.cell?_of_block (hbl.block _ (World.block_lt_of_cell? wr _ q3))).trans q3⟩)
      have HCUR := Aside0.mk (Keep.refl (fun _ => False) wr.drew)
      go_wp2_with fail
      clear q1 q2 q3
      refine rk_start (fun _ => False) (by kernel_rfl) (n := 19) (l := #[false, false, false, false, false, false, false, false, false, false, false, false, false, false, false, false, false, false, false]) (by kernel_rfl) (by kernel_rfl) ?_
      refine rk_take (fuel := 18) 0 rfl (by kernel_rfl) (listed' := #[true, false, false, false, false, false, false, false, false, false, false, false, false, false, false, false, false, false, false]) (by kernel_rfl) (fun _ _ _ h => h) (by kernel_rfl) (fun w' hR => by obtain ⟨x0, x1, x2⟩ := HF.out w' (HCUR.out.trans hR); go_simp; first | done | with_reducible rfl) rfl ?_
      try simp only [Act.put, List.setIfInBounds_toArray, List.set_cons_zero, List.set_cons_succ]
      refine rk_take (fuel := 17) 1 rfl (by kernel_rfl) (listed' := #[true, true, false, false, false, false, false, false, false, false, false, false, false, false, false, false, false, false, false]) (by kernel_rfl) (fun _ _ _ h => h) (by kernel_rfl) (fun w' hR => by obtain ⟨x0, x1, x2⟩ := HF.out w' (HCUR.out.trans hR); go_simp; first | done | with_reducible rfl) rfl ?_
      try simp only [Act.put, List.setIfInBounds_toArray, List.set_cons_zero, List.set_cons_succ]
      refine rk_take (fuel := 16) 2 rfl (by kernel_rfl) (listed' := #[true, true, true, false, false, false, false, false, false, false, false, false, false, false, false, false, false, false, false]) (by kernel_rfl) (fun _ _ _ h => h) (by kernel_rfl) (fun w' hR => by obtain ⟨x0, x1, x2⟩ := HF.out w' (HCUR.out.trans hR); go_simp; first | done | with_reducible rfl) rfl ?_
      try simp only [Act.put, List.setIfInBounds_toArray, List.set_cons_zero, List.set_cons_succ]
      refine rk_take (fuel := 15) 3 rfl (by kernel_rfl) (listed' := #[true, true, true, true, false, false, false, false, false, false, false, false, false, false, false, false, false, false, false]) (by kernel_rfl) (fun _ _ _ h => h) (by kernel_rfl) (fun w' hR => by obtain ⟨x0, x1, x2⟩ := HF.out w' (HCUR.out.trans hR); go_simp; first | done | with_reducible rfl) rfl ?_
      try simp only [Act.put, List.setIfInBounds_toArray, List.set_cons_zero, List.set_cons_succ]
      refine rk_take (fuel := 14) 4 rfl (by kernel_rfl) (listed' := #[true, true, true, true, true, false, false, false, false, false, false, false, false, false, false, false, false, false, false]) (by kernel_rfl) (fun _ _ _ h => h) (by kernel_rfl) (fun w' hR => by obtain ⟨x0, x1, x2⟩ := HF.out w' (HCUR.out.trans hR); go_simp; first | done | with_reducible rfl) rfl ?_
      try simp only [Act.put, List.setIfInBounds_toArray, List.set_cons_zero, List.set_cons_succ]
      refine rk_take (fuel := 13) 5 rfl (by kernel_rfl) (listed' := #[true, true, true, true, true, true, false, false, false, false, false, false, false, false, false, false, false, false, false]) (by kernel_rfl) (fun _ _ _ h => h) (by kernel_rfl) (fun w' hR => by obtain ⟨x0, x1, x2⟩ := HF.out w' (HCUR.out.trans hR); go_simp; first | done | with_reducible rfl) rfl ?_
      try simp only [Act.put, List.setIfInBounds_toArray, List.set_cons_zero, List.set_cons_succ]
      refine rk_take (fuel := 12) 6 rfl (by kernel_rfl) (listed' := #[true, true, true, true, true, true, true, false, false, false, false, false, false, false, false, false, false, false, false]) (by kernel_rfl) (fun _ _ _ h => h) (by kernel_rfl) (fun w' hR => by obtain ⟨x0, x1, x2⟩ := HF.out w' (HCUR.out.trans hR); go_simp; first | done | with_reducible rfl) rfl ?_
      try simp only [Act.put, List.setIfInBounds_toArray, List.set_cons_zero, List.set_cons_succ]
      refine rk_take (fuel := 11) 7 rfl (by kernel_rfl) (listed' := #[true, true, true, true, true, true, true, true, false, false, false, false, false, false, false, false, false, false, false]) (by kernel_rfl) (fun _ _ _ h => h) (by kernel_rfl) (fun w' hR => by obtain ⟨x0, x1, x2⟩ := HF.out w' (HCUR.out.trans hR); go_simp; first | done | with_reducible rfl) rfl ?_
      try simp only [Act.put, List.setIfInBounds_toArray, List.set_cons_zero, List.set_cons_succ]
      refine rk_take (fuel := 10) 8 rfl (by kernel_rfl) (listed' := #[true, true, true, true, true, true, true, true, true, false, false, false, false, false, false, false, false, false, false]) (by kernel_rfl) (fun _ _ _ h => h) (by kernel_rfl) (fun w' hR => by obtain ⟨x0, x1, x2⟩ := HF.out w' (HCUR.out.trans hR); go_simp; first | done | with_reducible rfl) rfl ?_
      try simp only [Act.put, List.setIfInBounds_toArray, List.set_cons_zero, List.set_cons_succ]
      refine rk_take (fuel := 9) 9 rfl (by kernel_rfl) (listed' := #[true, true, true, true, true, true, true, true, true, true, false, false, false, false, false, false, false, false, false]) (by kernel_rfl) (fun _ _ _ h => h) (by kernel_rfl) (fun w' hR => by obtain ⟨x0, x1, x2⟩ := HF.out w' (HCUR.out.trans hR); go_simp; first | done | with_reducible rfl) rfl ?_
      try simp only [Act.put, List.setIfInBounds_toArray, List.set_cons_zero, List.set_cons_succ]
      refine rk_take (fuel := 8) 10 rfl (by kernel_rfl) (listed' := #[true, true, true, true, true, true, true, true, true, true, true, false, false, false, false, false, false, false, false]) (by kernel_rfl) (fun _ _ _ h => h) (by kernel_rfl) (fun w' hR => by obtain ⟨x0, x1, x2⟩ := HF.out w' (HCUR.out.trans hR); go_simp; first | done | with_reducible rfl) rfl ?_
      try simp only [Act.put, List.setIfInBounds_toArray, List.set_cons_zero, List.set_cons_succ]
      refine rk_take (fuel := 7) 11 rfl (by kernel_rfl) (listed' := #[true, true, true, true, true, true, true, true, true, true, true, true, false, false, false, false, false, false, false]) (by kernel_rfl) (fun _ _ _ h => h) (by kernel_rfl) (fun w' hR => by obtain ⟨x0, x1, x2⟩ := HF.out w' (HCUR.out.trans hR); go_simp; first | done | with_reducible rfl) rfl ?_
      try simp only [Act.put, List.setIfInBounds_toArray, List.set_cons_zero, List.set_cons_succ]
      refine rk_take (fuel := 6) 12 rfl (by kernel_rfl) (listed' := #[true, true, true, true, true, true, true, true, true, true, true, true, true, false, false, false, false, false, false]) (by kernel_rfl) (fun _ _ _ h => h) (by kernel_rfl) (fun w' hR => by obtain ⟨x0, x1, x2⟩ := HF.out w' (HCUR.out.trans hR); go_simp; first | done | with_reducible rfl) rfl ?_
      try simp only [Act.put, List.setIfInBounds_toArray, List.set_cons_zero, List.set_cons_succ]
      refine rk_take (fuel := 5) 13 rfl (by kernel_rfl) (listed' := #[true, true, true, true, true, true, true, true, true, true, true, true, true, true, false, false, false, false, false]) (by kernel_rfl) (fun _ _ _ h => h) (by kernel_rfl) (fun w' hR => by obtain ⟨x0, x1, x2⟩ := HF.out w' (HCUR.out.trans hR); go_simp; first | done | with_reducible rfl) rfl ?_
      try simp only [Act.put, List.setIfInBounds_toArray, List.set_cons_zero, List.set_cons_succ]
      refine rk_take (fuel := 4) 14 rfl (by kernel_rfl) (listed' := #[true, true, true, true, true, true, true, true, true, true, true, true, true, true, true, false, false, false, false]) (by kernel_rfl) (fun _ _ _ h => h) (by kernel_rfl) (fun w' hR => by obtain ⟨x0, x1, x2⟩ := HF.out w' (HCUR.out.trans hR); go_simp; first | done | with_reducible rfl) rfl ?_
      try simp only [Act.put, List.setIfInBounds_toArray, List.set_cons_zero, List.set_cons_succ]
      refine rk_take (fuel := 3) 15 rfl (by kernel_rfl) (listed' := #[true, true, true, true, true, true, true, true, true, true, true, true, true, true, true, true, false, false, false]) (by kernel_rfl) (fun _ _ _ h => h) (by kernel_rfl) (fun w' hR => by obtain ⟨x0, x1, x2⟩ := HF.out w' (HCUR.out.trans hR); go_simp; first | done | with_reducible rfl) rfl ?_
      try simp only [Act.put, List.setIfInBounds_toArray, List.set_cons_zero, List.set_cons_succ]
      refine rk_take (fuel := 2) 16 rfl (by kernel_rfl) (listed' := #[true, true, true, true, true, true, true, true, true, true, true, true, true, true, true, true, true, false, false]) (by kernel_rfl) (fun _ _ _ h => h) (by kernel_rfl) (fun w' hR => by obtain ⟨x0, x1, x2⟩ := HF.out w' (HCUR.out.trans hR); go_simp; first | done | with_reducible rfl) rfl ?_
      try simp only [Act.put, List.setIfInBounds_toArray, List.set_cons_zero, List.set_cons_succ]
      refine rk_step (fuel := 1) 17 rfl (by kernel_rfl) (listed' := #[true, true, true, true, true, true, true, true, true, true, true, true, true, true, true, true, true, true, false]) (by kernel_rfl) (by kernel_rfl) (fun K' hK => ?_)
      go_wp2_with (first | (go_at_call 37; refine (lay_calls A3 c3 (over (q.take k) s) i A c' c c.length rfl _ (Kd.C_drew HC3.out) (Kd.C_drew HCc.out) hi0 (by omega) hbn2 (Or.inl hi1)).mono ?_; rintro e w2 ⟨v2, rfl, hb2, hk2⟩; have HB2 := Aside0.mk hb2; have HK2 := Aside0.mk hk2; clear hb2 hk2))
      refine hK.out _ _ (Keep.of_below HK2.out) ?_
      clear hK K'
      try simp only [Act.put, List.setIfInBounds_toArray, List.set_cons_zero, List.set_cons_succ]
      refine rk_take (fuel := 0) 18 rfl (by kernel_rfl) (listed' := #[true, true, true, true, true, true, true, true, true, true, true, true, true, true, true, true, true, true, true]) (by kernel_rfl) (fun _ _ _ h => h) (by kernel_rfl) (fun w' hR => by skip; go_simp; first | done | with_reducible rfl) rfl ?_
      try simp only [Act.put, List.setIfInBounds_toArray, List.set_cons_zero, List.set_cons_succ]
      refine rk_done (by kernel_rfl) ?_
      go_wp2
      go_roundw
      case rel =>
        have hz : wr.drew.heap.size = wr.heap.size := rfl
        have hz2 := HB.out.size
        exact ⟨k + 1, by omega, by go_num, ⟨by rw [HT.out]; exact HB2.out.mono (fun j hj _ => by omega)⟩, ⟨HB.out.drew.trans (HK2.out.mono (by omega))⟩⟩
      case measure => simp [intOf]; omega
    · have hke : k = q.length := by omega
      subst hke
      go_wp2
      go_ret
      rw [List.take_length] at HU
      exact ⟨_, rfl, HU.out, HB.out⟩
theorem sync_calls (h : FM w g own room s q) (hok : FOk room s q) :
    Calls Try.prog 22 #[.pointer (some ⟨g, 0, none⟩)] w fun e w' => e = .returned (.tuple #[]) ∧ (∃ own', FM w' g own' room (over q s) [] ∧ ∀ k, own' k → own k ∨ w.heap.size ≤ k) ∧ Keep own w w' := by
  have HF := Aside0.mk h
  have HOK := Aside0.mk hok
  obtain ⟨u1, u2, -, -, hh, -⟩ := h
  clear hok
  go_enter Try.func22, Try.ntmps22
  go_wp2_with (first | (go_at_call 21; refine (bytes_calls HF.out HOK.out).mono ?_; rintro e w1 ⟨v1, rfl, hu1, hb1⟩; obtain ⟨A9, c9, rfl, -, -, -⟩ := hu1.reads; have HU1 := Aside0.mk hu1; have hh1 := (hb1.block g (blk_lt hh)).trans hh; have HB1 := Aside0.mk hb1; have hfz1 := blk_frozen hh1 1; have hfz2 := blk_frozen hh1 2; have hce1 : w1.cell? ⟨g, 1, none⟩ = some u1 := (by simp [World.cell?, hh1]); have hce2 : w1.cell? ⟨g, 2, none⟩ = some u2 := (by simp [World.cell?, hh1]); clear hu1 hb1 hh1))
  first | go_end0 | ((try simp only [Exit.inBlock, Exit.then]); refine bodyPost_ret (results_none rfl _ _ _) rfl ?_)
  obtain ⟨h1, h2⟩ := HF.out.two HB1.out HU1.out (fun k hk => .inr hk)
  exact ⟨rfl, ⟨_, h1, fun k hk => hk.imp id (fun e => e.1)⟩, h2⟩
set_option maxHeartbeats 2000000 in
set_option maxRecDepth 100000 in
theorem cut_calls (h : FM w g own room s q) (hok : FOk room s q) (n : Int) :
    Calls Try.prog 24 #[.pointer (some ⟨g, 0, none⟩), .int .i64 n] w fun e w' => e = .returned (.int .i64 (cErr (over q s).length n)) ∧
      (∃ own', FM w' g own' room (cutS s q n) (cutQ s q n) ∧ ∀ k, own' k → own k ∨ w.heap.size ≤ k) ∧ Keep own w w' := by
  have HF := Aside0.mk h
  have HOK := Aside0.mk hok
  obtain ⟨u1, u2, -, -, hh, -⟩ := h
  have hbn := hok.all.1
  have hr1 := hok.r1
  clear hok
  by_cases h0 : n < 0 ∨ ((over q s).length : Int) < n
  · have hce : cErr (over q s).length n = 2 := if_pos h0
    have HE := Aside0.mk hce
    clear hce hh
    have h0' : n < 0 ∨ 0 ≤ n ∧ ((over q s).length : Int) < n := by omega
    clear h0
    rcases h0' with h0 | ⟨h0, h1⟩
    all_goals
      go_enter Try.func24, Try.ntmps24
      go_wp2_with (first | (go_at_call 21; refine (bytes_calls HF.out HOK.out).mono ?_; rintro e w1 ⟨v1, rfl, hu1, hb1⟩; obtain ⟨A9, c9, rfl, -, -, -⟩ := hu1.reads; have HB1 := Aside0.mk hb1; clear hu1 hb1))
      go_ret
      rw [HE.out, show cutS s q n = s from if_neg (by rw [HE.out]; decide), show cutQ s q n = q from if_neg (by rw [HE.out]; decide)]
      exact ⟨rfl, ⟨own, HF.out.below HB1.out, fun k hk => .inl hk⟩, Keep.of_below HB1.out⟩
  have hce : cErr (over q s).length n = 0 := if_neg h0
  have HE := Aside0.mk hce
  clear hce
  obtain ⟨i5, hi5, -, hi5s, -⟩ := info_ex infoU8
  have hh' := hh
  have hn0 : 0 ≤ n := by omega
  have hn1 : n ≤ (over q s).length := by omega
  clear h0
  go_enter Try.func24, Try.ntmps24
  go_wp2_with (first | (go_at_call 21; refine (bytes_calls HF.out HOK.out).mono ?_; rintro e w2 ⟨v2, rfl, hu2, hb2⟩; obtain ⟨A8, c8, rfl, hlc8, -, hA8⟩ := hu2.reads; have hrun : ∀ W : World, (Instr.slice 22 (.slice A8 (over q s).length c8) none (some (.int .i64 n)) none).run Try.prog W = .ok (.slice A8 n.toNat c8) W := (fun W => cut_to (P := Try.prog) 22 5 .i64 Try.underlying22 hi5 A8 (over q s).length c8 n (by omega) (by omega) hlc8 W); have HU2 := Aside0.mk hu2; have HB2 := Aside0.mk hb2; have hh2 := (hb2.block g (blk_lt hh)).trans hh'; have hfz1 := blk_frozen hh2 1; have hfz2 := blk_frozen hh2 2; have hce1 : w2.cell? ⟨g, 1, none⟩ = some u1 := (by simp [World.cell?, hh2]); have hce2 : w2.cell? ⟨g, 2, none⟩ = some u2 := (by simp [World.cell?, hh2]); have HLC := Aside0.mk hlc8; clear hu2 hb2 hh2 hA8 hlc8))
  go_ret
  rw [HE.out, show cutS s q n = (over q s).take n.toNat from if_pos HE.out, show cutQ s q n = [] from if_pos HE.out]
  have hlc8 := HLC.out
  have hv : Buf .u8 5 w2 (fun k => w.heap.size ≤ k) (.slice A8 n.toNat c8) ((over q s).take n.toNat) := HU2.out.short rfl (by omega) (by omega) (Nat.le_refl _) (fun e => by
    subst e
    rcases HU2.out with ⟨h', h⟩ | ⟨_, _, _, h, _⟩
    · rw [h] at hn1
      injection h' with _ _ h'
      simp only [List.length_nil] at hn1
      omega
    · cases h)
  obtain ⟨h1, h2⟩ := HF.out.two HB2.out hv (fun k hk => .inr hk)
  exact ⟨rfl, ⟨_, h1, fun k hk => hk.imp id (fun e => e.1)⟩, h2⟩
set_option maxHeartbeats 4000000 in
set_option maxRecDepth 100000 in
theorem crash_calls (h : FM w g own room s q) (hok : FOk room s q) (B : Option Addr) (kc : Nat) (keep : List Int) (hK : (Kd.int .i64).C w B keep.length keep) (hkr : ∀ x ∈ keep, -9223372036854775808 ≤ x ∧ x ≤ 9223372036854775807) :
    Calls Try.prog 25 #[.pointer (some ⟨g, 0, none⟩), .slice B keep.length kc] w fun e w' => e = .returned (.tuple #[]) ∧
      (∃ own', FM w' g own' room (fallen keep 0 q s) [] ∧ ∀ k, own' k → own k ∨ w.heap.size ≤ k) ∧ Keep own w w' := by
  have HFM := Aside0.mk h
  obtain ⟨v1, v2, S1, S2, hh, hb, hr, hsep, ho, hg, hlt⟩ := h
  obtain ⟨A1, c1, rfl, hlc1, -, -⟩ := hb.reads
  obtain ⟨A2, c2, rfl, hlc2, hC2⟩ := Kd.R_reads hr
  have hql := hC2.2.1
  have hkl := hK.2.1
  have hgl := blk_lt hh
  have q0 : w.cell? ⟨g, 1, none⟩ = some (.slice A1 s.length c1) := by simp [World.cell?, hh]
  have HOK := Aside0.mk hok
  have HK := Aside0.mk hK
  have HKR := Aside0.mk hkr
  have HH := Aside0.mk hh
  have HBf := Aside0.mk (hb.mono (S' := fun k => S1 k ∨ w.heap.size ≤ k) (fun k hk _ => .inl hk))
  have HR := Aside0.mk hr
  have HO := Aside0.mk ho
  have HKP := Aside0.mk (Below.refl w.heap.size w)
  clear hok hb hr hsep ho hg hlt hh hK hkr hC2
  go_enter Try.func25, Try.ntmps25
  go_wp2_with fail
  clear q0
  go_loopw [4, 5] (fun vb vi wr => ∃ k : Nat, k ≤ q.length ∧ vi = .int .i64 k ∧ Aside0 (Buf .u8 5 wr (fun k => S1 k ∨ w.heap.size ≤ k) vb (fallen keep 0 (q.take k) s)) ∧ Aside0 (Below w.heap.size w wr)) (fun _ vi _ => q.length - (intOf vi).toNat)
  case atStart => exact ⟨0, by omega, rfl, HBf, HKP⟩
  case round =>
    clear HBf HKP
    obtain ⟨k, hk, rfl, HBf, HKP⟩ := hrel
    have hzs : w.heap.size ≤ wr.heap.size := HKP.out.size
    have hgw : wr.heap[g]? = some (.cells #[.int .i64 room, .slice A1 s.length c1, .slice A2 q.length c2] 44 (0, 0)) := (HKP.out.block g hgl).trans HH.out
    have q1 : wr.cell? ⟨g, 2, none⟩ = some (.slice A2 q.length c2) := by simp [World.cell?, hgw]
    have HGW := Aside0.mk hgw
    clear hgw
    by_cases hlt : k < q.length
    · obtain ⟨⟨i, c⟩, hp⟩ : ∃ p, q[k]? = some p := ⟨_, List.getElem?_eq_getElem hlt⟩
      obtain ⟨ad, A, c', rfl, hs2, hadl, q2, q3, hcc, hCc, hAc⟩ := W_get (Kd.R_below HR.out HKP.out) hp
      have hpt := HOK.out.crashPart keep k
      obtain ⟨hi0, hi1, hi2, hby⟩ := HOK.out.ok.get hp
      simp only at hi0 hi1 hi2 hby
      have hr1 := HOK.out.r1
      have hbnd : i + c.length ≤ 16777216 := by omega
      have hbn2 : (fallen keep 0 (q.take k) s).length ≤ 16777216 := by omega
      have HT := Aside0.mk (fallen_take (keep := keep) (b := s) hp)
      have HCc := Aside0.mk hCc
      obtain ⟨A5, c5, rfl, -, hC5, -⟩ := HBf.out.reads
      have HC5 := Aside0.mk hC5
      obtain ⟨i5, hi5, -, hi5s, -⟩ := info_ex infoU8
      have HF := Aside0.mk (show ∀ W, Keep (fun _ => False) wr.drew W → W.cell? ⟨g, 2, none⟩ = some (.slice (some ad) q.length c2) ∧ W.cell? (ad.add (k * 2)) = some (.int .i64 i) ∧ W.cell? ⟨(ad.add (k * 2)).block, (ad.add (k * 2)).off + 1, none⟩ = some (.slice A c.length c') from fun W hW => by
        have hbl := hW.below (N := wr.heap.size) (Nat.le_refl _) (fun _ _ h => h)
        have h := (hbl.block g (blk_lt HGW.out)).trans HGW.out
        exact ⟨by simp [World.cell?, h], (World.cell?_of_block (hbl.block _ (World.block_lt_of_cell? wr _ q2))).trans q2, (World.cell?_of_block (hbl.block _ (World.block_lt_of_cell? wr _ q3))).trans q3⟩)
      clear hp hCc hAc hby hpt hi2 hr1 hs2 hadl hC5
      by_cases hkk : k < keep.length
      · obtain ⟨x, hx⟩ : ∃ x, keep[k]? = some x := ⟨_, List.getElem?_eq_getElem hkk⟩
        obtain ⟨bd, rfl⟩ := C_some HK.out (by omega)
        have hxr := HKR.out x (List.mem_of_getElem? hx)
        have hcx : wr.cell? (bd.add k) = some (.int .i64 x) := C_cell (Kd.C_below HK.out HKP.out) hx
        have hkx : kept keep k c.length = (max 0 (min x c.length)).toNat := by unfold kept; rw [hx]
        rw [hkx] at HT
        clear hkx hx
        by_cases hxc : (c.length : Int) < x
        · have hkn : (max 0 (min x (c.length : Int))).toNat = c.length := by omega
          rw [hkn] at HT
          clear hkn
          have hkc : c.length ≤ c.length := Nat.le_refl _
          by_cases hk0 : 0 < c.length
          · have hrun : ∀ W : World, (Instr.slice 22 (.slice A c.length c') none (some (.int .i64 (c.length : Int))) none).run Try.prog W = .ok (.slice A c.length c') W := fun W => by simpa using cut_to (P := Try.prog) 22 5 .i64 Try.underlying22 hi5 A c.length c' ((c.length : Nat) : Int) (by omega) (by omega) hcc W
            have hCt := Kd.C_take HCc.out hkc
            have hkl : (c.take c.length).length = c.length := by rw [List.length_take]; omega
            rw [hkl] at hCt
            have HCT := Aside0.mk hCt
            have HKL := Aside0.mk hkl
            have HCUR := Aside0.mk (Keep.refl (fun _ => False) wr.drew)
            clear hCt hkl hi5 hi5s
            go_wp2_with fail
            refine rk_start (fun _ => False) (by kernel_rfl) (n := 21) (l := #[false, false, false, false, false, false, false, false, false, false, false, false, false, false, false, false, false, false, false, false, false]) (by kernel_rfl) (by kernel_rfl) ?_
            refine rk_take (fuel := 20) 0 rfl (by kernel_rfl) (listed' := #[true, false, false, false, false, false, false, false, false, false, false, false, false, false, false, false, false, false, false, false, false]) (by kernel_rfl) (fun _ _ _ h => h) (by kernel_rfl) (fun w' hR => by obtain ⟨x0, x1, x2⟩ := HF.out w' (HCUR.out.trans hR); go_simp; first | done | with_reducible rfl) rfl ?_
            try simp only [Act.put, List.setIfInBounds_toArray, List.set_cons_zero, List.set_cons_succ]
            refine rk_take (fuel := 19) 1 rfl (by kernel_rfl) (listed' := #[true, true, false, false, false, false, false, false, false, false, false, false, false, false, false, false, false, false, false, false, false]) (by kernel_rfl) (fun _ _ _ h => h) (by kernel_rfl) (fun w' hR => by obtain ⟨x0, x1, x2⟩ := HF.out w' (HCUR.out.trans hR); go_simp; first | done | with_reducible rfl) rfl ?_
            try simp only [Act.put, List.setIfInBounds_toArray, List.set_cons_zero, List.set_cons_succ]
            refine rk_take (fuel := 18) 2 rfl (by kernel_rfl) (listed' := #[true, true, true, false, false, false, false, false, false, false, false, false, false, false, false, false, false, false, false, false, false]) (by kernel_rfl) (fun _ _ _ h => h) (by kernel_rfl) (fun w' hR => by obtain ⟨x0, x1, x2⟩ := HF.out w' (HCUR.out.trans hR); go_simp; first | done | with_reducible rfl) rfl ?_
            try simp only [Act.put, List.setIfInBounds_toArray, List.set_cons_zero, List.set_cons_succ]
            refine rk_take (fuel := 17) 3 rfl (by kernel_rfl) (listed' := #[true, true, true, true, false, false, false, false, false, false, false, false, false, false, false, false, false, false, false, false, false]) (by kernel_rfl) (fun _ _ _ h => h) (by kernel_rfl) (fun w' hR => by obtain ⟨x0, x1, x2⟩ := HF.out w' (HCUR.out.trans hR); go_simp; first | done | with_reducible rfl) rfl ?_
            try simp only [Act.put, List.setIfInBounds_toArray, List.set_cons_zero, List.set_cons_succ]
            refine rk_take (fuel := 16) 4 rfl (by kernel_rfl) (listed' := #[true, true, true, true, true, false, false, false, false, false, false, false, false, false, false, false, false, false, false, false, false]) (by kernel_rfl) (fun _ _ _ h => h) (by kernel_rfl) (fun w' hR => by obtain ⟨x0, x1, x2⟩ := HF.out w' (HCUR.out.trans hR); go_simp; first | done | with_reducible rfl) rfl ?_
            try simp only [Act.put, List.setIfInBounds_toArray, List.set_cons_zero, List.set_cons_succ]
            refine rk_take (fuel := 15) 5 rfl (by kernel_rfl) (listed' := #[true, true, true, true, true, true, false, false, false, false, false, false, false, false, false, false, false, false, false, false, false]) (by kernel_rfl) (fun _ _ _ h => h) (by kernel_rfl) (fun w' hR => by obtain ⟨x0, x1, x2⟩ := HF.out w' (HCUR.out.trans hR); go_simp; first | done | with_reducible rfl) rfl ?_
            try simp only [Act.put, List.setIfInBounds_toArray, List.set_cons_zero, List.set_cons_succ]
            refine rk_take (fuel := 14) 6 rfl (by kernel_rfl) (listed' := #[true, true, true, true, true, true, true, false, false, false, false, false, false, false, false, false, false, false, false, false, false]) (by kernel_rfl) (fun _ _ _ h => h) (by kernel_rfl) (fun w' hR => by obtain ⟨x0, x1, x2⟩ := HF.out w' (HCUR.out.trans hR); go_simp; first | done | with_reducible rfl) rfl ?_
            try simp only [Act.put, List.setIfInBounds_toArray, List.set_cons_zero, List.set_cons_succ]
            refine rk_take (fuel := 13) 7 rfl (by kernel_rfl) (listed' := #[true, true, true, true, true, true, true, true, false, false, false, false, false, false, false, false, false, false, false, false, false]) (by kernel_rfl) (fun _ _ _ h => h) (by kernel_rfl) (fun w' hR => by obtain ⟨x0, x1, x2⟩ := HF.out w' (HCUR.out.trans hR); go_simp; first | done | with_reducible rfl) rfl ?_
            try simp only [Act.put, List.setIfInBounds_toArray, List.set_cons_zero, List.set_cons_succ]
            refine rk_take (fuel := 12) 8 rfl (by kernel_rfl) (listed' := #[true, true, true, true, true, true, true, true, true, false, false, false, false, false, false, false, false, false, false, false, false]) (by kernel_rfl) (fun _ _ _ h => h) (by kernel_rfl) (fun w' hR => by obtain ⟨x0, x1, x2⟩ := HF.out w' (HCUR.out.trans hR); go_simp; first | done | with_reducible rfl) rfl ?_
            try simp only [Act.put, List.setIfInBounds_toArray, List.set_cons_zero, List.set_cons_succ]
            refine rk_take (fuel := 11) 9 rfl (by kernel_rfl) (listed' := #[true, true, true, true, true, true, true, true, true, true, false, false, false, false, false, false, false, false, false, false, false]) (by kernel_rfl) (fun _ _ _ h => h) (by kernel_rfl) (fun w' hR => by obtain ⟨x0, x1, x2⟩ := HF.out w' (HCUR.out.trans hR); go_simp; first | done | with_reducible rfl) rfl ?_
            try simp only [Act.put, List.setIfInBounds_toArray, List.set_cons_zero, List.set_cons_succ]
            refine rk_take (fuel := 10) 10 rfl (by kernel_rfl) (listed' := #[true, true, true, true, true, true, true, true, true, true, true, false, false, false, false, false, false, false, false, false, false]) (by kernel_rfl) (fun _ _ _ h => h) (by kernel_rfl) (fun w' hR => by obtain ⟨x0, x1, x2⟩ := HF.out w' (HCUR.out.trans hR); go_simp; first | done | with_reducible rfl) rfl ?_
            try simp only [Act.put, List.setIfInBounds_toArray, List.set_cons_zero, List.set_cons_succ]
            refine rk_take (fuel := 9) 11 rfl (by kernel_rfl) (listed' := #[true, true, true, true, true, true, true, true, true, true, true, true, false, false, false, false, false, false, false, false, false]) (by kernel_rfl) (fun _ _ _ h => h) (by kernel_rfl) (fun w' hR => by obtain ⟨x0, x1, x2⟩ := HF.out w' (HCUR.out.trans hR); go_simp; first | done | with_reducible rfl) rfl ?_
            try simp only [Act.put, List.setIfInBounds_toArray, List.set_cons_zero, List.set_cons_succ]
            refine rk_take (fuel := 8) 12 rfl (by kernel_rfl) (listed' := #[true, true, true, true, true, true, true, true, true, true, true, true, true, false, false, false, false, false, false, false, false]) (by kernel_rfl) (fun _ _ _ h => h) (by kernel_rfl) (fun w' hR => by obtain ⟨x0, x1, x2⟩ := HF.out w' (HCUR.out.trans hR); go_simp; first | done | with_reducible rfl) rfl ?_
            try simp only [Act.put, List.setIfInBounds_toArray, List.set_cons_zero, List.set_cons_succ]
            refine rk_take (fuel := 7) 13 rfl (by kernel_rfl) (listed' := #[true, true, true, true, true, true, true, true, true, true, true, true, true, true, false, false, false, false, false, false, false]) (by kernel_rfl) (fun _ _ _ h => h) (by kernel_rfl) (fun w' hR => by obtain ⟨x0, x1, x2⟩ := HF.out w' (HCUR.out.trans hR); go_simp; first | done | with_reducible rfl) rfl ?_
            try simp only [Act.put, List.setIfInBounds_toArray, List.set_cons_zero, List.set_cons_succ]
            refine rk_take (fuel := 6) 14 rfl (by kernel_rfl) (listed' := #[true, true, true, true, true, true, true, true, true, true, true, true, true, true, true, false, false, false, false, false, false]) (by kernel_rfl) (fun _ _ _ h => h) (by kernel_rfl) (fun w' hR => by obtain ⟨x0, x1, x2⟩ := HF.out w' (HCUR.out.trans hR); go_simp; first | done | with_reducible rfl) rfl ?_
            try simp only [Act.put, List.setIfInBounds_toArray, List.set_cons_zero, List.set_cons_succ]
            refine rk_take (fuel := 5) 15 rfl (by kernel_rfl) (listed' := #[true, true, true, true, true, true, true, true, true, true, true, true, true, true, true, true, false, false, false, false, false]) (by kernel_rfl) (fun _ _ _ h => h) (by kernel_rfl) (fun w' hR => by obtain ⟨x0, x1, x2⟩ := HF.out w' (HCUR.out.trans hR); go_simp; first | done | with_reducible rfl) rfl ?_
            try simp only [Act.put, List.setIfInBounds_toArray, List.set_cons_zero, List.set_cons_succ]
            refine rk_take (fuel := 4) 16 rfl (by kernel_rfl) (listed' := #[true, true, true, true, true, true, true, true, true, true, true, true, true, true, true, true, true, false, false, false, false]) (by kernel_rfl) (fun _ _ _ h => h) (by kernel_rfl) (fun w' hR => by obtain ⟨x0, x1, x2⟩ := HF.out w' (HCUR.out.trans hR); go_simp; first | done | with_reducible rfl) rfl ?_
            try simp only [Act.put, List.setIfInBounds_toArray, List.set_cons_zero, List.set_cons_succ]
            refine rk_take (fuel := 3) 17 rfl (by kernel_rfl) (listed' := #[true, true, true, true, true, true, true, true, true, true, true, true, true, true, true, true, true, true, false, false, false]) (by kernel_rfl) (fun _ _ _ h => h) (by kernel_rfl) (fun w' hR => by obtain ⟨x0, x1, x2⟩ := HF.out w' (HCUR.out.trans hR); go_simp; first | done | with_reducible rfl) rfl ?_
            try simp only [Act.put, List.setIfInBounds_toArray, List.set_cons_zero, List.set_cons_succ]
            refine rk_take (fuel := 2) 18 rfl (by kernel_rfl) (listed' := #[true, true, true, true, true, true, true, true, true, true, true, true, true, true, true, true, true, true, true, false, false]) (by kernel_rfl) (fun _ _ _ h => h) (by kernel_rfl) (fun w' hR => by obtain ⟨x0, x1, x2⟩ := HF.out w' (HCUR.out.trans hR); go_simp; first | done | with_reducible rfl) rfl ?_
            try simp only [Act.put, List.setIfInBounds_toArray, List.set_cons_zero, List.set_cons_succ]
            refine rk_step (fuel := 1) 19 rfl (by kernel_rfl) (listed' := #[true, true, true, true, true, true, true, true, true, true, true, true, true, true, true, true, true, true, true, true, false]) (by kernel_rfl) (by kernel_rfl) (fun K' hK => ?_)
            go_wp2_with (first | (go_at_call 37; refine (lay_calls A5 c5 (fallen keep 0 (q.take k) s) i A c' (c.take c.length) c.length HKL.out _ (Kd.C_drew HC5.out) (Kd.C_drew HCT.out) hi0 (by omega) hbn2 (Or.inr hk0)).mono ?_; rintro e w2 ⟨v2, rfl, hb2, hk2⟩; obtain ⟨A6, c6, rfl, -, -, -⟩ := hb2.reads; have HB2 := Aside0.mk hb2; have HK2 := Aside0.mk hk2; clear hb2 hk2))
            refine hK.out _ _ (Keep.of_below HK2.out) ?_
            clear hK K'
            try simp only [Act.put, List.setIfInBounds_toArray, List.set_cons_zero, List.set_cons_succ]
            refine rk_take (fuel := 0) 20 rfl (by kernel_rfl) (listed' := #[true, true, true, true, true, true, true, true, true, true, true, true, true, true, true, true, true, true, true, true, true]) (by kernel_rfl) (fun _ _ _ h => h) (by kernel_rfl) (fun w' hR => by skip; go_simp; first | done | with_reducible rfl) rfl ?_
            try simp only [Act.put, List.setIfInBounds_toArray, List.set_cons_zero, List.set_cons_succ]
            refine rk_done (by kernel_rfl) ?_
            go_wp2
            go_roundw
            case rel =>
              have hz : wr.drew.heap.size = wr.heap.size := rfl
              refine ⟨k + 1, by omega, by go_num, ⟨?_⟩, ⟨HKP.out.drew.trans (HK2.out.mono (by omega))⟩⟩
              rw [HT.out, if_pos hk0]
              first | exact HB2.out.mono (fun j hj _ => .inr (by omega)) | (rw [List.take_length] at HB2 ⊢; exact HB2.out.mono (fun j hj _ => .inr (by omega)))
            case measure => simp [intOf]; omega
          · clear hi5 hi5s
            go_wp2
            go_roundw
            case rel =>
              refine ⟨k + 1, by omega, by go_num, ⟨?_⟩, HKP⟩
              rw [HT.out, if_neg (by omega)]
              exact HBf.out
            case measure => simp [intOf]; omega
        · by_cases hx0 : 0 < x
          · obtain ⟨kn, rfl⟩ : ∃ kn : Nat, x = kn := ⟨x.toNat, by omega⟩
            have hkn : (max 0 (min (kn : Int) (c.length : Int))).toNat = kn := by omega
            rw [hkn] at HT
            clear hkn
            have hkc : kn ≤ c.length := by omega
            have hk0 : 0 < kn := by omega
            have hrun : ∀ W : World, (Instr.slice 22 (.slice A c.length c') none (some (.int .i64 (kn : Int))) none).run Try.prog W = .ok (.slice A kn c') W := fun W => by simpa using cut_to (P := Try.prog) 22 5 .i64 Try.underlying22 hi5 A c.length c' ((kn : Nat) : Int) (by omega) (by omega) hcc W
            have hCt := Kd.C_take HCc.out hkc
            have hkl : (c.take kn).length = kn := by rw [List.length_take]; omega
            rw [hkl] at hCt
            have HCT := Aside0.mk hCt
            have HKL := Aside0.mk hkl
            have HCUR := Aside0.mk (Keep.refl (fun _ => False) wr.drew)
            clear hCt hkl hi5 hi5s
            go_wp2_with fail
            refine rk_start (fun _ => False) (by kernel_rfl) (n := 21) (l := #[false, false, false, false, false, false, false, false, false, false, false, false, false, false, false, false, false, false, false, false, false]) (by kernel_rfl) (by kernel_rfl) ?_
            refine rk_take (fuel := 20) 0 rfl (by kernel_rfl) (listed' := #[true, false, false, false, false, false, false, false, false, false, false, false, false, false, false, false, false, false, false, false, false]) (by kernel_rfl) (fun _ _ _ h => h) (by kernel_rfl) (fun w' hR => by obtain ⟨x0, x1, x2⟩ := HF.out w' (HCUR.out.trans hR); go_simp; first | done | with_reducible rfl) rfl ?_
            try simp only [Act.put, List.setIfInBounds_toArray, List.set_cons_zero, List.set_cons_succ]
            refine rk_take (fuel := 19) 1 rfl (by kernel_rfl) (listed' := #[true, true, false, false, false, false, false, false, false, false, false, false, false, false, false, false, false, false, false, false, false]) (by kernel_rfl) (fun _ _ _ h => h) (by kernel_rfl) (fun w' hR => by obtain ⟨x0, x1, x2⟩ := HF.out w' (HCUR.out.trans hR); go_simp; first | done | with_reducible rfl) rfl ?_
            try simp only [Act.put, List.setIfInBounds_toArray, List.set_cons_zero, List.set_cons_succ]
            refine rk_take (fuel := 18) 2 rfl (by kernel_rfl) (listed' := #[true, true, true, false, false, false, false, false, false, false, false, false, false, false, false, false, false, false, false, false, false]) (by kernel_rfl) (fun _ _ _ h => h) (by kernel_rfl) (fun w' hR => by obtain ⟨x0, x1, x2⟩ := HF.out w' (HCUR.out.trans hR); go_simp; first | done | with_reducible rfl) rfl ?_
            try simp only [Act.put, List.setIfInBounds_toArray, List.set_cons_zero, List.set_cons_succ]
            refine rk_take (fuel := 17) 3 rfl (by kernel_rfl) (listed' := #[true, true, true, true, false, false, false, false, false, false, false, false, false, false, false, false, false, false, false, false, false]) (by kernel_rfl) (fun _ _ _ h => h) (by kernel_rfl) (fun w' hR => by obtain ⟨x0, x1, x2⟩ := HF.out w' (HCUR.out.trans hR); go_simp; first | done | with_reducible rfl) rfl ?_
            try simp only [Act.put, List.setIfInBounds_toArray, List.set_cons_zero, List.set_cons_succ]
            refine rk_take (fuel := 16) 4 rfl (by kernel_rfl) (listed' := #[true, true, true, true, true, false, false, false, false, false, false, false, false, false, false, false, false, false, false, false, false]) (by kernel_rfl) (fun _ _ _ h => h) (by kernel_rfl) (fun w' hR => by obtain ⟨x0, x1, x2⟩ := HF.out w' (HCUR.out.trans hR); go_simp; first | done | with_reducible rfl) rfl ?_
            try simp only [Act.put, List.setIfInBounds_toArray, List.set_cons_zero, List.set_cons_succ]
            refine rk_take (fuel := 15) 5 rfl (by kernel_rfl) (listed' := #[true, true, true, true, true, true, false, false, false, false, false, false, false, false, false, false, false, false, false, false, false]) (by kernel_rfl) (fun _ _ _ h => h) (by kernel_rfl) (fun w' hR => by obtain ⟨x0, x1, x2⟩ := HF.out w' (HCUR.out.trans hR); go_simp; first | done | with_reducible rfl) rfl ?_
            try simp only [Act.put, List.setIfInBounds_toArray, List.set_cons_zero, List.set_cons_succ]
            refine rk_take (fuel := 14) 6 rfl (by kernel_rfl) (listed' := #[true, true, true, true, true, true, true, false, false, false, false, false, false, false, false, false, false, false, false, false, false]) (by kernel_rfl) (fun _ _ _ h => h) (by kernel_rfl) (fun w' hR => by obtain ⟨x0, x1, x2⟩ := HF.out w' (HCUR.out.trans hR); go_simp; first | done | with_reducible rfl) rfl ?_
            try simp only [Act.put, List.setIfInBounds_toArray, List.set_cons_zero, List.set_cons_succ]
            refine rk_take (fuel := 13) 7 rfl (by kernel_rfl) (listed' := #[true, true, true, true, true, true, true, true, false, false, false, false, false, false, false, false, false, false, false, false, false]) (by kernel_rfl) (fun _ _ _ h => h) (by kernel_rfl) (fun w' hR => by obtain ⟨x0, x1, x2⟩ := HF.out w' (HCUR.out.trans hR); go_simp; first | done | with_reducible rfl) rfl ?_
            try simp only [Act.put, List.setIfInBounds_toArray, List.set_cons_zero, List.set_cons_succ]
            refine rk_take (fuel := 12) 8 rfl (by kernel_rfl) (listed' := #[true, true, true, true, true, true, true, true, true, false, false, false, false, false, false, false, false, false, false, false, false]) (by kernel_rfl) (fun _ _ _ h => h) (by kernel_rfl) (fun w' hR => by obtain ⟨x0, x1, x2⟩ := HF.out w' (HCUR.out.trans hR); go_simp; first | done | with_reducible rfl) rfl ?_
            try simp only [Act.put, List.setIfInBounds_toArray, List.set_cons_zero, List.set_cons_succ]
            refine rk_take (fuel := 11) 9 rfl (by kernel_rfl) (listed' := #[true, true, true, true, true, true, true, true, true, true, false, false, false, false, false, false, false, false, false, false, false]) (by kernel_rfl) (fun _ _ _ h => h) (by kernel_rfl) (fun w' hR => by obtain ⟨x0, x1, x2⟩ := HF.out w' (HCUR.out.trans hR); go_simp; first | done | with_reducible rfl) rfl ?_
            try simp only [Act.put, List.setIfInBounds_toArray, List.set_cons_zero, List.set_cons_succ]
            refine rk_take (fuel := 10) 10 rfl (by kernel_rfl) (listed' := #[true, true, true, true, true, true, true, true, true, true, true, false, false, false, false, false, false, false, false, false, false]) (by kernel_rfl) (fun _ _ _ h => h) (by kernel_rfl) (fun w' hR => by obtain ⟨x0, x1, x2⟩ := HF.out w' (HCUR.out.trans hR); go_simp; first | done | with_reducible rfl) rfl ?_
            try simp only [Act.put, List.setIfInBounds_toArray, List.set_cons_zero, List.set_cons_succ]
            refine rk_take (fuel := 9) 11 rfl (by kernel_rfl) (listed' := #[true, true, true, true, true, true, true, true, true, true, true, true, false, false, false, false, false, false, false, false, false]) (by kernel_rfl) (fun _ _ _ h => h) (by kernel_rfl) (fun w' hR => by obtain ⟨x0, x1, x2⟩ := HF.out w' (HCUR.out.trans hR); go_simp; first | done | with_reducible rfl) rfl ?_
            try simp only [Act.put, List.setIfInBounds_toArray, List.set_cons_zero, List.set_cons_succ]
            refine rk_take (fuel := 8) 12 rfl (by kernel_rfl) (listed' := #[true, true, true, true, true, true, true, true, true, true, true, true, true, false, false, false, false, false, false, false, false]) (by kernel_rfl) (fun _ _ _ h => h) (by kernel_rfl) (fun w' hR => by obtain ⟨x0, x1, x2⟩ := HF.out w' (HCUR.out.trans hR); go_simp; first | done | with_reducible rfl) rfl ?_
            try simp only [Act.put, List.setIfInBounds_toArray, List.set_cons_zero, List.set_cons_succ]
            refine rk_take (fuel := 7) 13 rfl (by kernel_rfl) (listed' := #[true, true, true, true, true, true, true, true, true, true, true, true, true, true, false, false, false, false, false, false, false]) (by kernel_rfl) (fun _ _ _ h => h) (by kernel_rfl) (fun w' hR => by obtain ⟨x0, x1, x2⟩ := HF.out w' (HCUR.out.trans hR); go_simp; first | done | with_reducible rfl) rfl ?_
            try simp only [Act.put, List.setIfInBounds_toArray, List.set_cons_zero, List.set_cons_succ]
            refine rk_take (fuel := 6) 14 rfl (by kernel_rfl) (listed' := #[true, true, true, true, true, true, true, true, true, true, true, true, true, true, true, false, false, false, false, false, false]) (by kernel_rfl) (fun _ _ _ h => h) (by kernel_rfl) (fun w' hR => by obtain ⟨x0, x1, x2⟩ := HF.out w' (HCUR.out.trans hR); go_simp; first | done | with_reducible rfl) rfl ?_
            try simp only [Act.put, List.setIfInBounds_toArray, List.set_cons_zero, List.set_cons_succ]
            refine rk_take (fuel := 5) 15 rfl (by kernel_rfl) (listed' := #[true, true, true, true, true, true, true, true, true, true, true, true, true, true, true, true, false, false, false, false, false]) (by kernel_rfl) (fun _ _ _ h => h) (by kernel_rfl) (fun w' hR => by obtain ⟨x0, x1, x2⟩ := HF.out w' (HCUR.out.trans hR); go_simp; first | done | with_reducible rfl) rfl ?_
            try simp only [Act.put, List.setIfInBounds_toArray, List.set_cons_zero, List.set_cons_succ]
            refine rk_take (fuel := 4) 16 rfl (by kernel_rfl) (listed' := #[true, true, true, true, true, true, true, true, true, true, true, true, true, true, true, true, true, false, false, false, false]) (by kernel_rfl) (fun _ _ _ h => h) (by kernel_rfl) (fun w' hR => by obtain ⟨x0, x1, x2⟩ := HF.out w' (HCUR.out.trans hR); go_simp; first | done | with_reducible rfl) rfl ?_
            try simp only [Act.put, List.setIfInBounds_toArray, List.set_cons_zero, List.set_cons_succ]
            refine rk_take (fuel := 3) 17 rfl (by kernel_rfl) (listed' := #[true, true, true, true, true, true, true, true, true, true, true, true, true, true, true, true, true, true, false, false, false]) (by kernel_rfl) (fun _ _ _ h => h) (by kernel_rfl) (fun w' hR => by obtain ⟨x0, x1, x2⟩ := HF.out w' (HCUR.out.trans hR); go_simp; first | done | with_reducible rfl) rfl ?_
            try simp only [Act.put, List.setIfInBounds_toArray, List.set_cons_zero, List.set_cons_succ]
            refine rk_take (fuel := 2) 18 rfl (by kernel_rfl) (listed' := #[true, true, true, true, true, true, true, true, true, true, true, true, true, true, true, true, true, true, true, false, false]) (by kernel_rfl) (fun _ _ _ h => h) (by kernel_rfl) (fun w' hR => by obtain ⟨x0, x1, x2⟩ := HF.out w' (HCUR.out.trans hR); go_simp; first | done | with_reducible rfl) rfl ?_
            try simp only [Act.put, List.setIfInBounds_toArray, List.set_cons_zero, List.set_cons_succ]
            refine rk_step (fuel := 1) 19 rfl (by kernel_rfl) (listed' := #[true, true, true, true, true, true, true, true, true, true, true, true, true, true, true, true, true, true, true, true, false]) (by kernel_rfl) (by kernel_rfl) (fun K' hK => ?_)
            go_wp2_with (first | (go_at_call 37; refine (lay_calls A5 c5 (fallen keep 0 (q.take k) s) i A c' (c.take kn) kn HKL.out _ (Kd.C_drew HC5.out) (Kd.C_drew HCT.out) hi0 (by omega) hbn2 (Or.inr hk0)).mono ?_; rintro e w2 ⟨v2, rfl, hb2, hk2⟩; obtain ⟨A6, c6, rfl, -, -, -⟩ := hb2.reads; have HB2 := Aside0.mk hb2; have HK2 := Aside0.mk hk2; clear hb2 hk2))
            refine hK.out _ _ (Keep.of_below HK2.out) ?_
            clear hK K'
            try simp only [Act.put, List.setIfInBounds_toArray, List.set_cons_zero, List.set_cons_succ]
            refine rk_take (fuel := 0) 20 rfl (by kernel_rfl) (listed' := #[true, true, true, true, true, true, true, true, true, true, true, true, true, true, true, true, true, true, true, true, true]) (by kernel_rfl) (fun _ _ _ h => h) (by kernel_rfl) (fun w' hR => by skip; go_simp; first | done | with_reducible rfl) rfl ?_
            try simp only [Act.put, List.setIfInBounds_toArray, List.set_cons_zero, List.set_cons_succ]
            refine rk_done (by kernel_rfl) ?_
            go_wp2
            go_roundw
            case rel =>
              have hz : wr.drew.heap.size = wr.heap.size := rfl
              refine ⟨k + 1, by omega, by go_num, ⟨?_⟩, ⟨HKP.out.drew.trans (HK2.out.mono (by omega))⟩⟩
              rw [HT.out, if_pos hk0]
              first | exact HB2.out.mono (fun j hj _ => .inr (by omega)) | (rw [List.take_length] at HB2 ⊢; exact HB2.out.mono (fun j hj _ => .inr (by omega)))
            case measure => simp [intOf]; omega
          · have hkn : (max 0 (min x (c.length : Int))).toNat = 0 := by omega
            rw [hkn] at HT
            clear hkn hi5 hi5s
            go_wp2
            go_roundw
            case rel =>
              refine ⟨k + 1, by omega, by go_num, ⟨?_⟩, HKP⟩
              rw [HT.out, if_neg (by omega)]
              exact HBf.out
            case measure => simp [intOf]; omega
      · have hkx : kept keep k c.length = 0 := by unfold kept; rw [List.getElem?_eq_none (by omega)]
        rw [hkx] at HT
        clear hkx hi5 hi5s
        go_wp2
        go_roundw
        case rel =>
          refine ⟨k + 1, by omega, by go_num, ⟨?_⟩, HKP⟩
          rw [HT.out, if_neg (by omega)]
          exact HBf.out
        case measure => simp [intOf]; omega
    · have hke : k = q.length := by omega
      subst hke
      have hh := HGW.out
      have hfz1 := blk_frozen hh 1
      have hfz2 := blk_frozen hh 2
      have hx1 : wr.cell? ⟨g, 1, none⟩ = some (.slice A1 s.length c1) := by simp [World.cell?, hh]
      clear hh
      obtain ⟨A5, c5, rfl, -, -, -⟩ := HBf.out.reads
      rw [List.take_length] at HBf
      go_wp2
      first | go_end0 | ((try simp only [Exit.inBlock, Exit.then]); refine bodyPost_ret (results_none rfl _ _ _) rfl ?_)
      obtain ⟨h1, h2⟩ := HFM.out.two HKP.out HBf.out (fun k hk => hk.elim (fun h => .inl (HO.out k (.inl h))) .inr)
      exact ⟨rfl, ⟨_, h1, fun k hk => hk.imp id (fun e => e.1)⟩, h2⟩
set_option maxHeartbeats 4000000 in
set_option maxRecDepth 100000 in
theorem write_calls (h : FM w g own room s q) (hok : FOk room s q) (hql : q.length ≤ 1000000) (i : Int) (hi0 : -9223372036854775808 ≤ i) (hi1 : i ≤ 9223372036854775807) (A : Option Addr) (cap : Nat) (c : List Int) (hcl : c.length ≤ 1000000) (hC : kU8.C w A c.length c) :
    Calls Try.prog 26 #[.pointer (some ⟨g, 0, none⟩), .int .i64 i, .slice A c.length cap] w fun e w' => e = .returned (.int .i64 (wErr room (over q s).length i c.length)) ∧
      (∃ own', FM w' g own' room s (wrQ room s q i c) ∧ ∀ k, own' k → own k ∨ w.heap.size ≤ k) ∧ Keep own w w' := by
  have HF := Aside0.mk h
  have HOK := Aside0.mk hok
  have HC := Aside0.mk hC
  have hbn := hok.all.1
  have hr1 := hok.r1
  have hr0 := hok.r0
  by_cases h0 : i < 0
  · have hce : wErr room (over q s).length i c.length = 2 := if_pos (Or.inl h0)
    have HE := Aside0.mk hce
    clear hce hok hC h
    go_enter Try.func26, Try.ntmps26
    go_wp2
    go_ret
    rw [HE.out, show wrQ room s q i c = q from if_neg (by rw [HE.out]; decide)]
    exact ⟨rfl, ⟨own, HF.out, fun k hk => .inl hk⟩, Keep.refl _ _⟩
  by_cases h1 : ((over q s).length : Int) < i
  · have hce : wErr room (over q s).length i c.length = 2 := if_pos (Or.inr h1)
    have HE := Aside0.mk hce
    clear hce hok hC h
    go_enter Try.func26, Try.ntmps26
    go_wp2_with (first | (go_at_call 21; refine (bytes_calls HF.out HOK.out).mono ?_; rintro e w1 ⟨v1, rfl, hu1, hb1⟩; obtain ⟨A9, c9, rfl, -, -, -⟩ := hu1.reads; have HB1 := Aside0.mk hb1; clear hu1 hb1))
    go_ret
    rw [HE.out, show wrQ room s q i c = q from if_neg (by rw [HE.out]; decide)]
    exact ⟨rfl, ⟨own, HF.out.below HB1.out, fun k hk => .inl hk⟩, Keep.of_below HB1.out⟩
  obtain ⟨u1, u2, S1, S2, hh, hb, hr, hsep, ho, hg, hlt⟩ := h
  obtain ⟨A2, c2, rfl, hlc2, -⟩ := Kd.R_reads hr
  have hgl := blk_lt hh
  have q0 : w.cell? ⟨g, 0, none⟩ = some (.int .i64 room) := by simp [World.cell?, hh]
  have y1 := wrI64 (i + c.length) (by omega) (by omega)
  by_cases h2 : room < i + c.length
  · have hce : wErr room (over q s).length i c.length = 50 := by unfold wErr; rw [if_neg (by omega), if_pos h2]
    have HE := Aside0.mk hce
    have hh' := hh
    clear hce hok hC hb hr hsep ho hg hlt hlc2
    go_enter Try.func26, Try.ntmps26
    go_wp2_with (first | (go_at_call 21; refine (bytes_calls HF.out HOK.out).mono ?_; rintro e w1 ⟨v1, rfl, hu1, hb1⟩; obtain ⟨A9, c9, rfl, -, -, -⟩ := hu1.reads; have HB1 := Aside0.mk hb1; have q1 : w1.cell? ⟨g, 0, none⟩ = some (.int .i64 room) := (by simp [World.cell?, (hb1.block g hgl).trans hh']); clear hu1 hb1))
    go_ret
    rw [HE.out, show wrQ room s q i c = q from if_neg (by rw [HE.out]; decide)]
    exact ⟨rfl, ⟨own, HF.out.below HB1.out, fun k hk => .inl hk⟩, Keep.of_below HB1.out⟩
  have hce : wErr room (over q s).length i c.length = 0 := by unfold wErr; rw [if_neg (by omega), if_neg h2]
  have HE := Aside0.mk hce
  have HH := Aside0.mk hh
  have HBf := Aside0.mk hb
  have HR := Aside0.mk hr
  have HSEP := Aside0.mk hsep
  have HO := Aside0.mk ho
  have HLT := Aside0.mk (And.intro hg hlt)
  clear hce hok hC hb hr hsep ho hg hlt hh
  go_enter Try.func26, Try.ntmps26
  go_wp2_with (first | (go_at_call 21; refine (bytes_calls HF.out HOK.out).mono ?_; rintro e w1 ⟨v1, rfl, hu1, hb1⟩; obtain ⟨A9, c9, rfl, -, -, -⟩ := hu1.reads; have HB1 := Aside0.mk hb1; have q1 : w1.cell? ⟨g, 0, none⟩ = some (.int .i64 room) := (by simp [World.cell?, (hb1.block g hgl).trans HH.out]); clear hu1 hb1))
  have hz1 := HB1.out.size
  have HF1 := Aside0.mk (show ∀ W, Keep (fun k => S2 k ∨ w1.heap.size ≤ k) w1.drew W → W.cell? ⟨g, 2, none⟩ = some (.slice A2 q.length c2) from fun W hW => by
    have h := (hW.block g (by show g < w1.heap.size; omega) (fun h => h.elim (fun h => (HO.out g (.inr h)).2 rfl) (fun h => by omega))).trans ((HB1.out.block g hgl).trans HH.out)
    simp [World.cell?, h])
  have HCUR := Aside0.mk (Keep.refl (fun k => S2 k ∨ w1.heap.size ≤ k) w1.drew)
  have HC1 := Aside0.mk (Kd.C_below HC.out HB1.out)
  clear q0 q1 y1
  have HA2 := Aside0.mk (show ∀ k, (Value.slice A2 q.length c2).ownBlock = some k → S2 k ∧ k < w.heap.size from fun k hk => ⟨HR.out.1 k hk, HLT.out.2 k (HO.out k (.inr (HR.out.1 k hk))).1⟩)
  obtain ⟨v2, w2, hr2, ho2, hg2, -⟩ := run_append_rows (P := Try.prog) 22 22 5 1 w1.heap.size Try.underlying22 infoU8 (by decide) (.slice (some ⟨w1.heap.size, 0, none⟩) 0 0) [] c A c.length cap (R_lit0 kU8 5 w1.drew) (Kd.C_alloc (Kd.C_drew HC1.out) (.cells #[] 5)) (by simp) (by simp; omega)
  rw [List.nil_append] at ho2
  obtain ⟨A3, c3, rfl, -, -⟩ := Kd.R_reads ho2
  have HAL0 := Aside0.mk (Keep.of_below (S := fun k => S2 k ∨ w1.heap.size ≤ k) ((Below.refl w1.drew.heap.size w1.drew).alloc (Nat.le_refl _) (.cells #[] 5)))
  have HB2 := Aside0.mk (show Below w1.heap.size w1.drew w2 from ((Below.refl w1.heap.size w1.drew).alloc (Nat.le_refl _) (.cells #[] 5)).grown hg2 (by simp) (fun k hk => by simp only [Value.ownBlock, Option.some.injEq] at hk; omega))
  have HO2 := Aside0.mk ho2
  have HR2 := Aside0.mk hr2
  have HG2 := Aside0.mk (show Keep (fun k => S2 k ∨ w1.heap.size ≤ k) (w1.drew.alloc (.cells #[] 5)) w2 from ⟨hg2.os, hg2.tape, hg2.output, hg2.size, fun k hk hs => hg2.block k hk (fun e => by simp only [Value.ownBlock, Option.some.injEq] at e; exact hs (.inr (by omega)))⟩)
  clear ho2 hr2 hg2
  refine re_start [14] (fun k => S2 k ∨ w1.heap.size ≤ k) (by kernel_rfl) (n := 15) (l := #[false, false, false, false, false, false, false, false, false, false, false, false, false, false, false]) (by kernel_rfl) (by kernel_rfl) ?_
  refine re_take (fuel := 14) 0 rfl (by kernel_rfl) (listed' := #[true, false, false, false, false, false, false, false, false, false, false, false, false, false, false]) (by kernel_rfl) (fun _ _ _ h => h) (by kernel_rfl) (fun w' hR => by have x0 := HF1.out w' (HCUR.out.trans hR); go_simp; first | done | with_reducible rfl) rfl ?_
  try simp only [Act.put, List.setIfInBounds_toArray, List.set_cons_zero, List.set_cons_succ]
  refine re_take (fuel := 13) 1 rfl (by kernel_rfl) (listed' := #[true, true, false, false, false, false, false, false, false, false, false, false, false, false, false]) (by kernel_rfl) (fun _ _ _ h => h) (by kernel_rfl) (fun w' hR => by have x0 := HF1.out w' (HCUR.out.trans hR); go_simp; first | done | with_reducible rfl) rfl ?_
  try simp only [Act.put, List.setIfInBounds_toArray, List.set_cons_zero, List.set_cons_succ]
  refine re_take (fuel := 12) 2 rfl (by kernel_rfl) (listed' := #[true, true, true, false, false, false, false, false, false, false, false, false, false, false, false]) (by kernel_rfl) (fun _ _ _ h => h) (by kernel_rfl) (fun w' hR => by have x0 := HF1.out w' (HCUR.out.trans hR); go_simp; first | done | with_reducible rfl) rfl ?_
  try simp only [Act.put, List.setIfInBounds_toArray, List.set_cons_zero, List.set_cons_succ]
  refine re_take (fuel := 11) 3 rfl (by kernel_rfl) (listed' := #[true, true, true, true, false, false, false, false, false, false, false, false, false, false, false]) (by kernel_rfl) (fun _ _ _ h => h) (by kernel_rfl) (fun w' hR => by have x0 := HF1.out w' (HCUR.out.trans hR); go_simp; first | done | with_reducible rfl) rfl ?_
  try simp only [Act.put, List.setIfInBounds_toArray, List.set_cons_zero, List.set_cons_succ]
  refine re_take (fuel := 10) 4 rfl (by kernel_rfl) (listed' := #[true, true, true, true, true, false, false, false, false, false, false, false, false, false, false]) (by kernel_rfl) (fun _ _ _ h => h) (by kernel_rfl) (fun w' hR => by have x0 := HF1.out w' (HCUR.out.trans hR); go_simp; first | done | with_reducible rfl) rfl ?_
  try simp only [Act.put, List.setIfInBounds_toArray, List.set_cons_zero, List.set_cons_succ]
  refine re_take (fuel := 9) 5 rfl (by kernel_rfl) (listed' := #[true, true, true, true, true, true, false, false, false, false, false, false, false, false, false]) (by kernel_rfl) (fun _ _ _ h => h) (by kernel_rfl) (fun w' hR => by have x0 := HF1.out w' (HCUR.out.trans hR); go_simp; first | done | with_reducible rfl) rfl ?_
  try simp only [Act.put, List.setIfInBounds_toArray, List.set_cons_zero, List.set_cons_succ]
  refine re_take (fuel := 8) 7 rfl (by kernel_rfl) (listed' := #[true, true, true, true, true, true, false, true, false, false, false, false, false, false, false]) (by kernel_rfl) (fun _ _ _ h => h) (by kernel_rfl) (fun w' hR => by have x0 := HF1.out w' (HCUR.out.trans hR); go_simp; first | done | with_reducible rfl) rfl ?_
  try simp only [Act.put, List.setIfInBounds_toArray, List.set_cons_zero, List.set_cons_succ]
  refine re_step (fuel := 7) 6 rfl (by kernel_rfl) (listed' := #[true, true, true, true, true, true, true, true, false, false, false, false, false, false, false]) (by kernel_rfl) (by kernel_rfl) (fun K' hK => ?_)
  (go_wp2_with fail)
  refine hK.out _ _ HAL0.out ?_
  clear hK K'
  try simp only [Act.put, List.setIfInBounds_toArray, List.set_cons_zero, List.set_cons_succ]
  refine re_step (fuel := 6) 8 rfl (by kernel_rfl) (listed' := #[true, true, true, true, true, true, true, true, true, false, false, false, false, false, false]) (by kernel_rfl) (by kernel_rfl) (fun K' hK => ?_)
  refine wp_append (.tmp 31) (.tmp 32) 22 22 rfl _ _ _ rfl rfl HR2.out ?_
  refine hK.out _ _ HG2.out ?_
  clear hK K'
  try simp only [Act.put, List.setIfInBounds_toArray, List.set_cons_zero, List.set_cons_succ]
  refine re_take (fuel := 5) 9 rfl (by kernel_rfl) (listed' := #[true, true, true, true, true, true, true, true, true, true, false, false, false, false, false]) (by kernel_rfl) (fun _ _ _ h => h) (by kernel_rfl) (fun w' hR => by skip; go_simp; first | done | with_reducible rfl) rfl ?_
  try simp only [Act.put, List.setIfInBounds_toArray, List.set_cons_zero, List.set_cons_succ]
  refine re_step (fuel := 4) 10 rfl (by kernel_rfl) (listed' := #[true, true, true, true, true, true, true, true, true, true, true, false, false, false, false]) (by kernel_rfl) (by kernel_rfl) (fun K' hK => ?_)
  (go_wp2_with fail); have HAL := Aside0.mk (Keep.of_below (S := fun k => S2 k ∨ w1.heap.size ≤ k) ((Below.refl w2.heap.size w2).alloc (Nat.le_refl _) (.cells #[.int .i64 i, .slice A3 c.length c3] 79))); have HCUR := Aside0.mk (((HCUR.out.trans HAL0.out).trans HG2.out).trans HAL.out)
  refine hK.out _ _ HAL.out ?_
  clear hK K'
  try simp only [Act.put, List.setIfInBounds_toArray, List.set_cons_zero, List.set_cons_succ]
  refine re_step (fuel := 3) 11 rfl (by kernel_rfl) (listed' := #[true, true, true, true, true, true, true, true, true, true, true, true, false, false, false]) (by kernel_rfl) (by kernel_rfl) (fun K' hK => ?_)
  refine R_append_wp kW (W := w2) 0 (.tmp 29) (.tmp 35) 42 79 (.agg #[.int .i64 0, .slice none 0 0]) 32 rfl Try.underlying42 infoW rfl (by decide) (by decide) (.slice A2 q.length c2) q (i, c) [.int .i64 i, .slice A3 c.length c3] (fun k => S2 k ∨ w1.heap.size ≤ k) (fun k => w1.heap.size ≤ k) rfl rfl ⟨[_], [_], rfl, rfl, _, rfl, Kd.R_mono (Kd.R_lower (Kd.R_bound HO2.out) (Nat.zero_le _)) (fun k hk => hk.2.1)⟩ (fun k hk => ⟨.inr hk, fun e => by have := HA2.out k e.symm; omega⟩) (fun k hk => .inr (Nat.le_trans HB2.out.size hk)) (Kd.R_mono (Kd.R_step (Kd.R_below HR.out HB1.out) (fun k _ hk => HB2.out.block k hk)) (fun k hk => .inl hk)) (Nat.zero_le _) (by omega) ?_; intro v3 w3 hr3 hg3 hg3' hat3; obtain ⟨A4, c4, rfl, -, -⟩ := Kd.R_reads hr3; have HG3 := Aside0.mk (grown_keep (S := fun k => S2 k ∨ w1.heap.size ≤ k) hg3' (fun k hk => .inl (HA2.out k hk).1)); have HR3 := Aside0.mk hr3; have HCUR := Aside0.mk (HCUR.out.trans HG3.out); clear hr3 hg3 hg3' hat3
  refine hK.out _ _ HG3.out ?_
  clear hK K'
  try simp only [Act.put, List.setIfInBounds_toArray, List.set_cons_zero, List.set_cons_succ]
  refine re_take (fuel := 2) 12 rfl (by kernel_rfl) (listed' := #[true, true, true, true, true, true, true, true, true, true, true, true, true, false, false]) (by kernel_rfl) (fun _ _ _ h => h) (by kernel_rfl) (fun w' hR => by skip; go_simp; first | done | with_reducible rfl) rfl ?_
  try simp only [Act.put, List.setIfInBounds_toArray, List.set_cons_zero, List.set_cons_succ]
  refine re_take (fuel := 1) 13 rfl (by kernel_rfl) (listed' := #[true, true, true, true, true, true, true, true, true, true, true, true, true, true, false]) (by kernel_rfl) (fun _ _ _ h => h) (by kernel_rfl) (fun w' hR => by skip; go_simp; first | done | with_reducible rfl) rfl ?_
  try simp only [Act.put, List.setIfInBounds_toArray, List.set_cons_zero, List.set_cons_succ]
  refine re_free (fuel := 0) 14 rfl (by kernel_rfl) (listed' := #[true, true, true, true, true, true, true, true, true, true, true, true, true, true, true]) (by kernel_rfl) (by kernel_rfl) (fun K' hK => ?_)
  have hh3 := (HCUR.out.block g (by show g < w1.heap.size; omega) (fun h => h.elim (fun h => (HO.out g (.inr h)).2 rfl) (fun h => by omega))).trans ((HB1.out.block g hgl).trans HH.out); have hfz := blk_frozen hh3 2; have hx3 : w3.cell? ⟨g, 2, none⟩ = some (.slice A2 q.length c2) := (by simp [World.cell?, hh3]); have HH3 := Aside0.mk hh3; clear hh3; go_wp2_with fail
  refine hK.out _ _ trivial ?_
  clear hK K'
  try simp only [Act.put, List.setIfInBounds_toArray, List.set_cons_zero, List.set_cons_succ]
  refine re_done (by kernel_rfl) ?_
  go_wp2
  go_ret
  rw [HE.out, show wrQ room s q i c = q ++ [(i, c)] from if_pos HE.out]
  obtain ⟨hg, hlt⟩ := HLT.out
  have hz3 := HCUR.out.size
  have hz1' : w1.drew.heap.size = w1.heap.size := rfl
  have hK3 : Keep S2 w w3 := (Keep.of_below (S := S2) HB1.out).drew.then HCUR.out (fun k hl h => h.elim id (fun h => by omega))
  have hres := heap_setCell_same w3 g 2 _ 44 (.slice A4 (q.length + 1) c4) HH3.out
  have hR3 := HR3.out
  rw [show (q ++ [(i, c)]).length = q.length + 1 by simp] at hR3
  have hown : ∀ k, S1 k ∨ S2 k → own k ∧ k ≠ g := HO.out
  refine ⟨rfl, ⟨fun k => own k ∨ w1.heap.size ≤ k ∧ k < w3.heap.size, ⟨u1, _, S1, fun k => S2 k ∨ w1.heap.size ≤ k ∧ k < w3.heap.size, hres, ?_, ?_, fun k h1 h2 => ?_, fun k hk => ?_, .inl hg, fun k hk => ?_⟩, fun k hk => hk.imp id (fun h => by omega)⟩, ?_⟩
  · refine HBf.out.step (fun k hk hl => ?_)
    rw [Below.heap_setCell _ _ _ _ (by show k ≠ g; exact (hown k (.inl hk)).2)]
    exact hK3.block k hl (HSEP.out k hk)
  · refine Kd.R_mono (Kd.R_far (p := ⟨g, 2, none⟩) (Kd.R_mono (ok' := fun k => (S2 k ∨ w1.heap.size ≤ k) ∧ k < w3.heap.size) (Kd.R_bound hR3) (fun k hk => ⟨hk.1, hk.2.2.1⟩)) (fun k hk => ?_) _) (fun k hk => ?_)
    · show k ≠ g
      rcases hk.1 with h | h
      · exact (hown k (.inr h)).2
      · omega
    · rcases hk with ⟨h | h, h'⟩
      · exact .inl h
      · exact .inr ⟨h, h'⟩
  · rcases h2 with h2 | h2
    · exact HSEP.out k h1 h2
    · have := hlt k (hown k (.inl h1)).1
      omega
  · rcases hk with hk | hk | hk
    · exact ⟨.inl (hown k (.inl hk)).1, (hown k (.inl hk)).2⟩
    · exact ⟨.inl (hown k (.inr hk)).1, (hown k (.inr hk)).2⟩
    · exact ⟨.inr hk, by omega⟩
  · rw [World.size_setCell]
    rcases hk with hk | hk
    · have := hlt k hk; omega
    · exact hk.2
  · exact (hK3.mono (fun k _ hk => (hown k (.inr hk)).1)).setCell _ _ (fun _ => hg)
end
end Go.Proofs.Ytmklopaleiennaa.Fr
