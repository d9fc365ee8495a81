/- What the calls of package file come to: Crash. -/
import Derived.Test.YtmklopaleiennaaFe
namespace Go.Proofs.Ytmklopaleiennaa.Fd
open Go.RowKit Go.Proofs.YtmklopaleiennaaW.PrintWords Go.Proofs.YtmklopaleiennaaW.PrintLast Go.Proofs.YtmklopaleiennaaW.PrintMore Go.Proofs.Ytmklopaleiennaa.B Go.Proofs.Ytmklopaleiennaa.Fs Go.Proofs.Ytmklopaleiennaa.Fc Go.Proofs.Ytmklopaleiennaa.Fw Go.Proofs.Ytmklopaleiennaa.R
set_option linter.unusedVariables false
set_option linter.unusedSimpArgs false
section
variable {w : World} {g : Nat} {own : Nat → Prop} {room : Int} {s : List Int} {q : List (Int × List Int)}
set_option maxHeartbeats 4000000 in
set_option maxRecDepth 100000 in
theorem crash_calls (h : FF w g own room s q) (hok : FOk room s q) (B : Option Addr) (kc : Nat) (keep : List Int) (hK : (Kd.int .i64).C w B keep.length keep) (hB : ∀ a, B = some a → 0 < keep.length → ¬ own a.block ∧ a.block < w.heap.size) (hkr : ∀ x ∈ keep, -9223372036854775808 ≤ x ∧ x ≤ 9223372036854775807) :
    Calls Try.prog 18 #[.pointer (some ⟨g, 0, none⟩), .slice B keep.length kc] w fun e w' => e = .returned (.tuple #[]) ∧
      (∃ own', FF w' g own' room (fallen keep 0 q s) [] ∧ ∀ k, own' k → own k ∨ w.heap.size ≤ k) ∧ Keep own w w' := by
  obtain ⟨v1, v2, S1, S2, hh, hb, hr, hsep, ho, hg, hlt⟩ := h
  obtain ⟨A2, c2, rfl, hlc2, hC2⟩ := Kd.R_reads hr
  have hql := hC2.2.1
  have hkl := hK.2.1
  have hgl := blk_lt hh
  have q2 : w.cell? ⟨g, 2, none⟩ = some (.slice A2 q.length c2) := by simp [World.cell?, hh]
  have HOK := Aside0.mk hok
  have HK := Aside0.mk hK
  have HKB := Aside0.mk hB
  have HKR := Aside0.mk hkr
  have HH := Aside0.mk hh
  have HBf := Aside0.mk (hb.mono (S' := fun k => S1 k ∨ w.heap.size ≤ k) (fun k hk _ => .inl hk))
  have HR := Aside0.mk hr
  have HSEP := Aside0.mk hsep
  have HO := Aside0.mk ho
  have HLT := Aside0.mk (And.intro hg hlt)
  have HKP := Aside0.mk (Keep.refl (fun k => k = g ∨ S1 k) w)
  clear hok hb hr hsep ho hg hlt hh hK hB hkr hC2
  go_enter Try.func18, Try.ntmps18
  go_wp2_with fail
  clear q2
  go_loopw [14] (fun vi wr => ∃ (k : Nat) (v1 : Value), k ≤ q.length ∧ vi = .int .i64 k ∧ Aside0 (wr.heap[g]? = some (.cells #[.int .i64 room, v1, .slice A2 q.length c2] 72 (0, 0))) ∧ Aside0 (Buf .u8 5 wr (fun k => S1 k ∨ w.heap.size ≤ k) v1 (fallen keep 0 (q.take k) s)) ∧ Aside0 (Keep (fun k => k = g ∨ S1 k) w wr)) (fun vi _ => q.length - (intOf vi).toNat)
  case atStart => exact ⟨0, v1, by omega, rfl, HH, HBf, HKP⟩
  case round =>
    clear HH HBf HKP
    obtain ⟨k, v1, hk, rfl, HH, HBf, HKP⟩ := hrel
    have hzs : w.heap.size ≤ wr.heap.size := HKP.out.size
    by_cases hlt : k < q.length
    · obtain ⟨⟨i, c⟩, hp⟩ : ∃ p, q[k]? = some p := ⟨_, List.getElem?_eq_getElem hlt⟩
      have HR1 := Aside0.mk (Kd.R_step (w1 := wr) HR.out (fun j hj hl => HKP.out.block j hl (fun h => h.elim (fun e => (HO.out j (.inr hj)).2 e) (fun h => HSEP.out j h hj))))
      obtain ⟨ad, A, c', rfl, hs2, hadl, q2, q3, hcc, hCc, hAc⟩ := W_get HR1.out hp
      have hpt := HOK.out.crashPart keep k
      obtain ⟨hi0, hi1, hi2, hby⟩ := HOK.out.ok.get hp
      simp only at hi0 hi1 hi2 hby
      have hr1 := HOK.out.r1
      have hbnd : i + c.length ≤ 16777216 := by omega
      have hbn2 : (fallen keep 0 (q.take k) s).length ≤ 16777216 := by omega
      have HT := Aside0.mk (fallen_take (keep := keep) (b := s) hp)
      have HCc := Aside0.mk hCc
      have HAc := Aside0.mk hAc
      have HI := Aside0.mk (And.intro hs2 hadl)
      clear hp hCc hAc hby hpt hi2 hr1 hs2 hadl
      obtain ⟨W, hW⟩ : ∃ W, W = wr.alloc (.cells #[.int .i64 i, .slice A c.length c'] 75) := ⟨_, rfl⟩
      have hws : W.heap.size = wr.heap.size + 1 := by rw [hW]; exact World.size_alloc _ _
      have hwk : Below wr.heap.size wr W := by rw [hW]; exact (Below.refl _ _).alloc (Nat.le_refl _) _
      have hwn : W.heap[wr.heap.size]? = some (.cells #[.int .i64 i, .slice A c.length c'] 75 (0, 0)) := by rw [hW]; exact heap_alloc_new _ _
      have HWK := Aside0.mk hwk
      have HWN := Aside0.mk hwn
      clear hwk hwn
      by_cases hkk : k < keep.length
      · obtain ⟨x, hx⟩ : ∃ x, keep[k]? = some x := ⟨_, List.getElem?_eq_getElem hkk⟩
        obtain ⟨bd, rfl⟩ := C_some HK.out (by omega)
        have hxr := HKR.out x (List.mem_of_getElem? hx)
        have hcx : wr.cell? (bd.add k) = some (.int .i64 x) := C_cell (C_blk HK.out (fun a e => HKP.out.block a.block (HKB.out a e (by omega)).2 (fun h => (HKB.out a e (by omega)).1 (h.elim (fun e => by rw [e]; exact HLT.out.1) (fun h => (HO.out _ (.inl h)).1))))) hx
        have hkx : kept keep k c.length = (max 0 (min x c.length)).toNat := by unfold kept; rw [hx]
        have HKX := Aside0.mk hkx
        clear hkx hx
        go_wp2_with fail
        rw [← hW]
        clear hW
        have HF1 := Aside0.mk (show ∀ W', Keep (fun _ => False) W W' → W'.cell? ⟨wr.heap.size, 1, none⟩ = some (.slice A c.length c') ∧ W'.cell? (bd.add k) = some (.int .i64 x) from fun W' hW' => by
          have h := (hW'.block wr.heap.size (by omega) (fun h => h)).trans HWN.out
          have hb : (bd.add k).block < wr.heap.size := World.block_lt_of_cell? wr _ hcx
          exact ⟨by simp [World.cell?, h], (World.cell?_of_block ((hW'.block _ (by omega) (fun h => h)).trans (HWK.out.block _ hb))).trans hcx⟩)
        have HCUR := Aside0.mk (Keep.drew (Keep.refl (fun _ => False) W))
        clear q2 q3 hcx
        refine rk_start (fun _ => False) (by kernel_rfl) (n := 10) (l := #[false, false, false, false, false, false, false, false, false, false]) (by kernel_rfl) (by kernel_rfl) ?_
        refine rk_take (fuel := 9) 0 rfl (by kernel_rfl) (listed' := #[true, false, false, false, false, false, false, false, false, false]) (by kernel_rfl) (fun _ _ _ h => h) (by kernel_rfl) (fun w' hR => by obtain ⟨x0, x1⟩ := HF1.out w' (HCUR.out.trans hR); go_simp; first | done | with_reducible rfl) rfl ?_
        try simp only [Act.put, List.setIfInBounds_toArray, List.set_cons_zero, List.set_cons_succ]
        refine rk_take (fuel := 8) 1 rfl (by kernel_rfl) (listed' := #[true, true, false, false, false, false, false, false, false, false]) (by kernel_rfl) (fun _ _ _ h => h) (by kernel_rfl) (fun w' hR => by obtain ⟨x0, x1⟩ := HF1.out w' (HCUR.out.trans hR); go_simp; first | done | with_reducible rfl) rfl ?_
        try simp only [Act.put, List.setIfInBounds_toArray, List.set_cons_zero, List.set_cons_succ]
        refine rk_take (fuel := 7) 2 rfl (by kernel_rfl) (listed' := #[true, true, true, false, false, false, false, false, false, false]) (by kernel_rfl) (fun _ _ _ h => h) (by kernel_rfl) (fun w' hR => by obtain ⟨x0, x1⟩ := HF1.out w' (HCUR.out.trans hR); go_simp; first | done | with_reducible rfl) rfl ?_
        try simp only [Act.put, List.setIfInBounds_toArray, List.set_cons_zero, List.set_cons_succ]
        refine rk_take (fuel := 6) 3 rfl (by kernel_rfl) (listed' := #[true, true, true, true, false, false, false, false, false, false]) (by kernel_rfl) (fun _ _ _ h => h) (by kernel_rfl) (fun w' hR => by obtain ⟨x0, x1⟩ := HF1.out w' (HCUR.out.trans hR); go_simp; first | done | with_reducible rfl) rfl ?_
        try simp only [Act.put, List.setIfInBounds_toArray, List.set_cons_zero, List.set_cons_succ]
        refine rk_take (fuel := 5) 4 rfl (by kernel_rfl) (listed' := #[true, true, true, true, true, false, false, false, false, false]) (by kernel_rfl) (fun _ _ _ h => h) (by kernel_rfl) (fun w' hR => by obtain ⟨x0, x1⟩ := HF1.out w' (HCUR.out.trans hR); go_simp; first | done | with_reducible rfl) rfl ?_
        try simp only [Act.put, List.setIfInBounds_toArray, List.set_cons_zero, List.set_cons_succ]
        refine rk_take (fuel := 4) 5 rfl (by kernel_rfl) (listed' := #[true, true, true, true, true, true, false, false, false, false]) (by kernel_rfl) (fun _ _ _ h => h) (by kernel_rfl) (fun w' hR => by obtain ⟨x0, x1⟩ := HF1.out w' (HCUR.out.trans hR); go_simp; first | done | with_reducible rfl) rfl ?_
        try simp only [Act.put, List.setIfInBounds_toArray, List.set_cons_zero, List.set_cons_succ]
        refine rk_take (fuel := 3) 6 rfl (by kernel_rfl) (listed' := #[true, true, true, true, true, true, true, false, false, false]) (by kernel_rfl) (fun _ _ _ h => h) (by kernel_rfl) (fun w' hR => by obtain ⟨x0, x1⟩ := HF1.out w' (HCUR.out.trans hR); go_simp; first | done | with_reducible rfl) rfl ?_
        try simp only [Act.put, List.setIfInBounds_toArray, List.set_cons_zero, List.set_cons_succ]
        refine rk_take (fuel := 2) 7 rfl (by kernel_rfl) (listed' := #[true, true, true, true, true, true, true, true, false, false]) (by kernel_rfl) (fun _ _ _ h => h) (by kernel_rfl) (fun w' hR => by obtain ⟨x0, x1⟩ := HF1.out w' (HCUR.out.trans hR); go_simp; first | done | with_reducible rfl) rfl ?_
        try simp only [Act.put, List.setIfInBounds_toArray, List.set_cons_zero, List.set_cons_succ]
        refine rk_take (fuel := 1) 8 rfl (by kernel_rfl) (listed' := #[true, true, true, true, true, true, true, true, true, false]) (by kernel_rfl) (fun _ _ _ h => h) (by kernel_rfl) (fun w' hR => by obtain ⟨x0, x1⟩ := HF1.out w' (HCUR.out.trans hR); go_simp; first | done | with_reducible rfl) rfl ?_
        try simp only [Act.put, List.setIfInBounds_toArray, List.set_cons_zero, List.set_cons_succ]
        refine rk_take (fuel := 0) 9 rfl (by kernel_rfl) (listed' := #[true, true, true, true, true, true, true, true, true, true]) (by kernel_rfl) (fun _ _ _ h => h) (by kernel_rfl) (fun w' hR => by obtain ⟨x0, x1⟩ := HF1.out w' (HCUR.out.trans hR); go_simp; first | done | with_reducible rfl) rfl ?_
        try simp only [Act.put, List.setIfInBounds_toArray, List.set_cons_zero, List.set_cons_succ]
        refine rk_done (by kernel_rfl) ?_
        obtain ⟨kn, hkn⟩ : ∃ kn, kn = kept keep k c.length := ⟨_, rfl⟩
        have hT : (if 0 < (if (c.length : Int) < x then (c.length : Int) else x) then (if (c.length : Int) < x then (c.length : Int) else x) else 0) = (kn : Int) := by
          rw [hkn, HKX.out]
          split <;> split at * <;> omega
        have hkc : kn ≤ c.length := by rw [hkn]; exact kept_le _ _ _
        rw [← hkn] at HT
        rw [hT]
        generalize (if (c.length : Int) < x then (c.length : Int) else x) = zz
        clear hT hxr HKX HF1 hkn
        by_cases hk0 : 0 < kn
        · obtain ⟨A5, c5, rfl, hlc5, -, -⟩ := HBf.out.reads
          have hA5 := HBf.out.own
          have hg5 : (Value.slice A5 (fallen keep 0 (q.take k) s).length c5).ownBlock ≠ some g := fun e => by
            rcases (hA5 g e).1 with h | h
            · exact (HO.out g (.inl h)).2 rfl
            · omega
          have hw5 : (Value.slice A5 (fallen keep 0 (q.take k) s).length c5).ownBlock ≠ some wr.heap.size := fun e => by
            have := (hA5 _ e).2
            omega
          have HA5 := Aside0.mk hA5
          have HF2 := Aside0.mk (show ∀ W', Keep (fun j => (Value.slice A5 (fallen keep 0 (q.take k) s).length c5).ownBlock = some j) W.drew W' → W'.cell? ⟨g, 1, none⟩ = some (.slice A5 (fallen keep 0 (q.take k) s).length c5) ∧ W'.cell? ⟨wr.heap.size, 0, none⟩ = some (.int .i64 i) ∧ W'.cell? ⟨wr.heap.size, 1, none⟩ = some (.slice A c.length c') from fun W' hW' => by
            have h := (hW'.block wr.heap.size (by show wr.heap.size < W.heap.size; omega) hw5).trans HWN.out
            have h2 := (hW'.block g (by show g < W.heap.size; omega) hg5).trans ((HWK.out.block g (by omega)).trans HH.out)
            exact ⟨by simp [World.cell?, h2], by simp [World.cell?, h], by simp [World.cell?, h]⟩)
          have HCUR := Aside0.mk ((Keep.refl (fun j => (Value.slice A5 (fallen keep 0 (q.take k) s).length c5).ownBlock = some j) W.drew).drew)
          obtain ⟨i5, hi5, -, hi5s, -⟩ := info_ex infoU8
          have hrun : ∀ W : World, (Instr.slice 22 (.slice A c.length c') none (some (.int .i64 (kn : Int))) none).run Try.prog W = .ok (.slice A kn c') W := fun W => by simpa using cut_to (P := Try.prog) 22 5 .i64 Try.underlying22 hi5 A c.length c' (kn : Int) (by omega) (by omega) hcc W
          have hCt : kU8.C wr A (c.take kn).length (c.take kn) := by
            exact Kd.C_take HCc.out hkc
          have HCT := Aside0.mk hCt
          have hAx : ∀ a, A = some a → ¬ (Value.slice A5 (fallen keep 0 (q.take k) s).length c5).ownBlock = some a.block ∧ a.block < W.heap.size := fun a ha => by
            obtain ⟨h1, h2⟩ := HAc.out a ha
            refine ⟨fun e => ?_, by omega⟩
            rcases (HA5.out _ e).1 with h | h
            · exact HSEP.out _ h h1
            · have := HLT.out.2 _ (HO.out _ (.inr h1)).1
              omega
          have HAX := Aside0.mk hAx
          have hgW : g < W.heap.size := by omega
          clear hA5 hCt hAx hi5 hi5s
          go_wp2_with fail
          refine re_start [15] (fun j => (Value.slice A5 (fallen keep 0 (q.take k) s).length c5).ownBlock = some j) (by kernel_rfl) (n := 16) (l := #[false, false, false, false, false, false, false, false, false, false, false, false, false, false, false, false]) (by kernel_rfl) (by kernel_rfl) ?_
          refine re_take (fuel := 15) 0 rfl (by kernel_rfl) (listed' := #[true, false, false, false, false, false, false, false, false, false, false, false, false, false, false, false]) (by kernel_rfl) (fun _ _ _ h => h) (by kernel_rfl) (fun w' hR => by obtain ⟨x0, x1, x2⟩ := HF2.out w' (HCUR.out.trans hR); go_simp; first | done | with_reducible rfl) rfl ?_
          try simp only [Act.put, List.setIfInBounds_toArray, List.set_cons_zero, List.set_cons_succ]
          refine re_take (fuel := 14) 1 rfl (by kernel_rfl) (listed' := #[true, true, false, false, false, false, false, false, false, false, false, false, false, false, false, false]) (by kernel_rfl) (fun _ _ _ h => h) (by kernel_rfl) (fun w' hR => by obtain ⟨x0, x1, x2⟩ := HF2.out w' (HCUR.out.trans hR); go_simp; first | done | with_reducible rfl) rfl ?_
          try simp only [Act.put, List.setIfInBounds_toArray, List.set_cons_zero, List.set_cons_succ]
          refine re_take (fuel := 13) 2 rfl (by kernel_rfl) (listed' := #[true, true, true, false, false, false, false, false, false, false, false, false, false, false, false, false]) (by kernel_rfl) (fun _ _ _ h => h) (by kernel_rfl) (fun w' hR => by obtain ⟨x0, x1, x2⟩ := HF2.out w' (HCUR.out.trans hR); go_simp; first | done | with_reducible rfl) rfl ?_
          try simp only [Act.put, List.setIfInBounds_toArray, List.set_cons_zero, List.set_cons_succ]
          refine re_take (fuel := 12) 3 rfl (by kernel_rfl) (listed' := #[true, true, true, true, false, false, false, false, false, false, false, false, false, false, false, false]) (by kernel_rfl) (fun _ _ _ h => h) (by kernel_rfl) (fun w' hR => by obtain ⟨x0, x1, x2⟩ := HF2.out w' (HCUR.out.trans hR); go_simp; first | done | with_reducible rfl) rfl ?_
          try simp only [Act.put, List.setIfInBounds_toArray, List.set_cons_zero, List.set_cons_succ]
          refine re_take (fuel := 11) 4 rfl (by kernel_rfl) (listed' := #[true, true, true, true, true, false, false, false, false, false, false, false, false, false, false, false]) (by kernel_rfl) (fun _ _ _ h => h) (by kernel_rfl) (fun w' hR => by obtain ⟨x0, x1, x2⟩ := HF2.out w' (HCUR.out.trans hR); go_simp; first | done | with_reducible rfl) rfl ?_
          try simp only [Act.put, List.setIfInBounds_toArray, List.set_cons_zero, List.set_cons_succ]
          refine re_take (fuel := 10) 5 rfl (by kernel_rfl) (listed' := #[true, true, true, true, true, true, false, false, false, false, false, false, false, false, false, false]) (by kernel_rfl) (fun _ _ _ h => h) (by kernel_rfl) (fun w' hR => by obtain ⟨x0, x1, x2⟩ := HF2.out w' (HCUR.out.trans hR); go_simp; first | done | with_reducible rfl) rfl ?_
          try simp only [Act.put, List.setIfInBounds_toArray, List.set_cons_zero, List.set_cons_succ]
          refine re_take (fuel := 9) 6 rfl (by kernel_rfl) (listed' := #[true, true, true, true, true, true, true, false, false, false, false, false, false, false, false, false]) (by kernel_rfl) (fun _ _ _ h => h) (by kernel_rfl) (fun w' hR => by obtain ⟨x0, x1, x2⟩ := HF2.out w' (HCUR.out.trans hR); go_simp; first | done | with_reducible rfl) rfl ?_
          try simp only [Act.put, List.setIfInBounds_toArray, List.set_cons_zero, List.set_cons_succ]
          refine re_take (fuel := 8) 7 rfl (by kernel_rfl) (listed' := #[true, true, true, true, true, true, true, true, false, false, false, false, false, false, false, false]) (by kernel_rfl) (fun _ _ _ h => h) (by kernel_rfl) (fun w' hR => by obtain ⟨x0, x1, x2⟩ := HF2.out w' (HCUR.out.trans hR); go_simp; first | done | with_reducible rfl) rfl ?_
          try simp only [Act.put, List.setIfInBounds_toArray, List.set_cons_zero, List.set_cons_succ]
          refine re_take (fuel := 7) 8 rfl (by kernel_rfl) (listed' := #[true, true, true, true, true, true, true, true, true, false, false, false, false, false, false, false]) (by kernel_rfl) (fun _ _ _ h => h) (by kernel_rfl) (fun w' hR => by obtain ⟨x0, x1, x2⟩ := HF2.out w' (HCUR.out.trans hR); go_simp; first | done | with_reducible rfl) rfl ?_
          try simp only [Act.put, List.setIfInBounds_toArray, List.set_cons_zero, List.set_cons_succ]
          refine re_take (fuel := 6) 9 rfl (by kernel_rfl) (listed' := #[true, true, true, true, true, true, true, true, true, true, false, false, false, false, false, false]) (by kernel_rfl) (fun _ _ _ h => h) (by kernel_rfl) (fun w' hR => by obtain ⟨x0, x1, x2⟩ := HF2.out w' (HCUR.out.trans hR); go_simp; first | done | with_reducible rfl) rfl ?_
          try simp only [Act.put, List.setIfInBounds_toArray, List.set_cons_zero, List.set_cons_succ]
          refine re_take (fuel := 5) 10 rfl (by kernel_rfl) (listed' := #[true, true, true, true, true, true, true, true, true, true, true, false, false, false, false, false]) (by kernel_rfl) (fun _ _ _ h => h) (by kernel_rfl) (fun w' hR => by obtain ⟨x0, x1, x2⟩ := HF2.out w' (HCUR.out.trans hR); go_simp; first | done | with_reducible rfl) rfl ?_
          try simp only [Act.put, List.setIfInBounds_toArray, List.set_cons_zero, List.set_cons_succ]
          refine re_take (fuel := 4) 11 rfl (by kernel_rfl) (listed' := #[true, true, true, true, true, true, true, true, true, true, true, true, false, false, false, false]) (by kernel_rfl) (fun _ _ _ h => h) (by kernel_rfl) (fun w' hR => by obtain ⟨x0, x1, x2⟩ := HF2.out w' (HCUR.out.trans hR); go_simp; first | done | with_reducible rfl) rfl ?_
          try simp only [Act.put, List.setIfInBounds_toArray, List.set_cons_zero, List.set_cons_succ]
          refine re_step (fuel := 3) 12 rfl (by kernel_rfl) (listed' := #[true, true, true, true, true, true, true, true, true, true, true, true, true, false, false, false]) (by kernel_rfl) (by kernel_rfl) (fun K' hK => ?_)
          go_wp2_with (first | (go_at_call 36; refine (put_any _ (fun j => (Value.slice A5 (fallen keep 0 (q.take k) s).length c5).ownBlock = some j) (fallen keep 0 (q.take k) s) i A c' (c.take kn) kn (by rw [List.length_take]; omega) _ ((HBf.out.exact.below HWK.out).step (w' := W.drew.drew) (fun _ _ _ => rfl)) (Kd.C_drew (Kd.C_drew (Kd.C_below HCT.out HWK.out))) HAX.out hi0 (by rw [List.length_take]; omega) hbn2 (Or.inr (by rw [List.length_take]; omega))).mono ?_; rintro e w2 ⟨v2, rfl, hb2, hk2⟩; obtain ⟨A6, c6, rfl, -, -, -⟩ := hb2.reads; have HB2 := Aside0.mk hb2; have HK2 := Aside0.mk hk2; clear hb2 hk2))
          refine hK.out _ _ HK2.out ?_
          clear hK K'
          try simp only [Act.put, List.setIfInBounds_toArray, List.set_cons_zero, List.set_cons_succ]
          refine re_take (fuel := 2) 13 rfl (by kernel_rfl) (listed' := #[true, true, true, true, true, true, true, true, true, true, true, true, true, true, false, false]) (by kernel_rfl) (fun _ _ _ h => h) (by kernel_rfl) (fun w' hR => by skip; go_simp; first | done | with_reducible rfl) rfl ?_
          try simp only [Act.put, List.setIfInBounds_toArray, List.set_cons_zero, List.set_cons_succ]
          refine re_take (fuel := 1) 14 rfl (by kernel_rfl) (listed' := #[true, true, true, true, true, true, true, true, true, true, true, true, true, true, true, false]) (by kernel_rfl) (fun _ _ _ h => h) (by kernel_rfl) (fun w' hR => by skip; go_simp; first | done | with_reducible rfl) rfl ?_
          try simp only [Act.put, List.setIfInBounds_toArray, List.set_cons_zero, List.set_cons_succ]
          refine re_free (fuel := 0) 15 rfl (by kernel_rfl) (listed' := #[true, true, true, true, true, true, true, true, true, true, true, true, true, true, true, true]) (by kernel_rfl) (by kernel_rfl) (fun K' hK => ?_)
          have hh3 := (HK2.out.block g hgW hg5).trans ((HWK.out.block g (by omega)).trans HH.out); have hfz := blk_frozen hh3 1; have hx3 : w2.cell? ⟨g, 1, none⟩ = some (.slice A5 (fallen keep 0 (q.take k) s).length c5) := (by simp [World.cell?, hh3]); have HH3 := Aside0.mk hh3; clear hh3; go_wp2_with fail
          refine hK.out _ _ trivial ?_
          clear hK K'
          try simp only [Act.put, List.setIfInBounds_toArray, List.set_cons_zero, List.set_cons_succ]
          refine re_done (by kernel_rfl) ?_
          go_wp2_with fail
          go_roundw
          case rel =>
            refine ⟨k + 1, _, by omega, by go_num, ⟨heap_setCell_same w2 g 1 _ 72 _ HH3.out⟩, ⟨?_⟩, ⟨?_⟩⟩
            · rw [HT.out, if_pos hk0]
              have hb := (HB2.out.exact.mono (S' := fun j => (S1 j ∨ w.heap.size ≤ j) ∧ j ≠ g) (fun j hj _ => ?_)).step (w' := w2.setCell ⟨g, 1, none⟩ (.slice A6 (laid (fallen keep 0 (q.take k) s) i.toNat (c.take kn)).length c6)) (fun j hj _ => Below.heap_setCell _ _ _ _ hj.2)
              · exact hb.mono (fun j hj _ => hj.1)
              · rcases (HB2.out.own j hj).1 with h | h
                · exact ⟨(HA5.out j h).1, fun e => hg5 (by rw [h, e])⟩
                · have h : W.heap.size ≤ j := h
                  exact ⟨.inr (by omega), by omega⟩
            · exact ((HKP.out.trans (Keep.of_below HWK.out)).drew.drew.then (HK2.out) (fun j hj h => (HA5.out j h).1.elim .inr (fun h => by omega))).setCell _ _ (fun _ => .inl rfl)
          case measure => simp [intOf]; omega
        · have h0k : kn = 0 := by omega
          subst h0k
          go_wp2
          go_roundw
          case rel =>
            refine ⟨k + 1, v1, by omega, by go_num, ⟨(HWK.out.block g (by omega)).trans HH.out⟩, ⟨?_⟩, ⟨(HKP.out.trans (Keep.of_below HWK.out)).drew⟩⟩
            rw [HT.out, if_neg (by omega)]
            exact (HBf.out.below HWK.out).step (fun _ _ _ => rfl)
          case measure => simp [intOf]; omega
      · have hkx : kept keep k c.length = 0 := by unfold kept; rw [List.getElem?_eq_none (by omega)]
        rw [hkx] at HT
        clear hkx
        go_wp2_with fail
        rw [← hW]
        clear hW
        go_wp2
        go_roundw
        case rel =>
          refine ⟨k + 1, v1, by omega, by go_num, ⟨(HWK.out.block g (by omega)).trans HH.out⟩, ⟨?_⟩, ⟨HKP.out.trans (Keep.of_below HWK.out)⟩⟩
          rw [HT.out, if_neg (by omega)]
          exact HBf.out.below HWK.out
        case measure => simp [intOf]; omega
    · have hke : k = q.length := by omega
      subst hke
      have hh := HH.out
      have hfz := blk_frozen hh 2
      have hx3 : wr.cell? ⟨g, 2, none⟩ = some (.slice A2 q.length c2) := by simp [World.cell?, hh]
      clear hh
      go_wp2
      first | go_end0 | ((try simp only [Exit.inBlock, Exit.then]); refine bodyPost_ret (results_none rfl _ _ _) rfl ?_)
      rw [List.take_length] at HBf
      have hgo := HLT.out.1
      have hb := HBf.out.exact.mono (S' := fun j => (S1 j ∨ w.heap.size ≤ j) ∧ j < wr.heap.size) (fun j hj hl => ⟨(HBf.out.own j hj).1, hl⟩)
      have hne : ∀ j, ((S1 j ∨ w.heap.size ≤ j) ∧ j < wr.heap.size) → j ≠ g := fun j hj e => by
        rcases hj.1 with h | h
        · exact (HO.out j (.inl h)).2 e
        · omega
      refine ⟨rfl, ⟨fun j => own j ∨ w.heap.size ≤ j ∧ j < wr.heap.size, ⟨_, _, fun j => (S1 j ∨ w.heap.size ≤ j) ∧ j < wr.heap.size, fun _ => False, heap_setCell_same wr g 2 _ 72 _ HH.out, hb.step (fun j hj _ => Below.heap_setCell _ _ _ _ (hne j hj)), Kd.R_nil _ _ _ _ _, fun _ _ h => h, fun j hj => ?_, .inl hgo, fun j hj => ?_⟩, fun j hj => hj.imp id (fun h => h.1)⟩, ?_⟩
      · rcases hj with hj | hj
        · refine ⟨?_, hne j hj⟩
          rcases hj.1 with h | h
          · exact .inl (HO.out j (.inl h)).1
          · exact .inr ⟨h, hj.2⟩
        · exact hj.elim
      · rw [World.size_setCell]
        rcases hj with hj | hj
        · have := HLT.out.2 j hj; omega
        · exact hj.2
      · exact (HKP.out.mono (fun j _ hj => hj.elim (fun e => by rw [e]; exact hgo) (fun h => (HO.out j (.inl h)).1))).setCell _ _ (fun _ => hgo)
end
end Go.Proofs.Ytmklopaleiennaa.Fd
