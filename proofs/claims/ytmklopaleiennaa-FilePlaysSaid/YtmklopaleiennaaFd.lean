/- What the calls of package file come to: Bytes, Sure, New, Sync. -/
import Derived.Test.YtmklopaleiennaaFw
namespace Go.Proofs.Ytmklopaleiennaa.Fd
open Go.RowKit Go.Proofs.YtmklopaleiennaaW.PrintWords Go.Proofs.YtmklopaleiennaaW.PrintLast Go.Proofs.YtmklopaleiennaaW.PrintMore Go.Proofs.Ytmklopaleiennaa.B Go.Proofs.Ytmklopaleiennaa.Fs Go.Proofs.Ytmklopaleiennaa.Fc Go.Proofs.Ytmklopaleiennaa.Fw Go.Proofs.Ytmklopaleiennaa.R
set_option linter.unusedVariables false
set_option linter.unusedSimpArgs false
abbrev FF := Fl 72 75
section
variable {w : World} {g : Nat} {own : Nat → Prop} {room : Int} {s : List Int} {q : List (Int × List Int)}
set_option maxHeartbeats 2000000 in
set_option maxRecDepth 100000 in
theorem bytes_calls (h : FF w g own room s q) (hok : FOk room s q) :
    Calls Try.prog 19 #[.pointer (some ⟨g, 0, none⟩)] w fun e w' => ∃ v, e = .returned v ∧ Buf .u8 5 w' (fun k => w.heap.size ≤ k) v (over q s) ∧ Below w.heap.size w w' := by
  obtain ⟨v1, v2, S1, S2, hh, hb, hr, hs, ho, hg, hlt⟩ := h
  obtain ⟨A1, c1, rfl, hlc1, hC1, hA1⟩ := hb.reads
  obtain ⟨A2, c2, rfl, hlc2, hC2⟩ := Kd.R_reads hr
  have hql := hC2.2.1
  clear hC2
  have q0 : w.cell? ⟨g, 1, none⟩ = some (.slice A1 s.length c1) := by simp [World.cell?, hh]
  have q1 : w.cell? ⟨g, 2, none⟩ = some (.slice A2 q.length c2) := by simp [World.cell?, hh]
  have HH := Aside0.mk hh
  have HR := Aside0.mk hr
  have HOK := Aside0.mk hok
  have HC1 := Aside0.mk hC1
  have hsl : s.length ≤ 4194304 := by have := hok.s0; have := hok.r1; omega
  have HS2 := Aside0.mk (show ∀ k, S2 k → k < w.heap.size from fun k hk => hlt k (ho k (.inr hk)).1)
  clear hh hb hr hok hs ho hg hlt hA1 hC1
  go_enter Try.func19, Try.ntmps19
  go_wp2_with (first | (go_at_call 35; refine (clone_calls A1 c1 s _ HC1.out (by omega)).mono ?_; rintro e w1 ⟨v1, rfl, ho1, hb1⟩; have HB1 := Aside0.mk hb1; have HU1 := Aside0.mk ((Buf.of_R ho1).mono (S' := fun k => w.heap.size ≤ k) (fun k hk _ => hk.2.1)); have q1 : w1.cell? ⟨g, 2, none⟩ = some (.slice A2 q.length c2) := (by simp [World.cell?, (hb1.block g (blk_lt HH.out)).trans HH.out]); clear hb1 ho1))
  clear q0 q1
  have HR1 := Aside0.mk (Kd.R_below HR.out HB1.out)
  go_loopw [3, 18] (fun vo vi wr => ∃ k : Nat, k ≤ q.length ∧ vi = .int .i64 k ∧ Aside0 (Buf .u8 5 wr (fun k => w.heap.size ≤ k) vo (over (q.take k) s)) ∧ Aside0 (Below w.heap.size w wr)) (fun _ vi _ => q.length - (intOf vi).toNat)
  case atStart => exact ⟨0, by omega, rfl, HU1, HB1⟩
  case round =>
    clear HB1 HU1 HR1
    obtain ⟨k, hk, rfl, HU, HB⟩ := hrel
    by_cases hlt : k < q.length
    · obtain ⟨⟨i, c⟩, hp⟩ : ∃ p, q[k]? = some p := ⟨_, List.getElem?_eq_getElem hlt⟩
      obtain ⟨ad, A, c', rfl, hs2, hadl, q2, q3, hcc, hCc, hAc⟩ := W_get (Kd.R_below HR.out HB.out) hp
      have hpt := HOK.out.part k
      obtain ⟨hi0, hi1, hi2, hby⟩ := HOK.out.ok.get hp
      simp only at hi0 hi1 hi2 hby
      have hr1 := HOK.out.r1
      have hbnd : i + c.length ≤ 16777216 := by omega
      have hbn2 : (over (q.take k) s).length ≤ 16777216 := by omega
      have HT := Aside0.mk (over_take (b := s) hp)
      have HCc := Aside0.mk hCc
      have HAc := Aside0.mk hAc
      clear hp hCc hAc hby hpt hi2 hr1 hs2 hadl
      obtain ⟨A3, c3, rfl, hlc3, -, -⟩ := HU.out.reads
      have hal : Below wr.heap.size wr (wr.alloc (.cells #[.int .i64 i, .slice A c.length c'] 75)) := (Below.refl _ _).alloc (Nat.le_refl _) _
      have HAL := Aside0.mk hal
      have HCc2 := Aside0.mk (Kd.C_below HCc.out HAL.out)
      have hzs : w.heap.size ≤ wr.heap.size := HB.out.size
      clear hal
      go_wp2_with (first | (go_at_call 36; refine (put_any _ (fun k => w.heap.size ≤ k) (over (q.take k) s) i A c' c _ rfl _ (HU.out.below HAL.out) HCc2.out (fun a ha => ⟨Nat.not_le.2 (HS2.out _ (HAc.out a ha).1), Nat.lt_of_lt_of_le (HAc.out a ha).2 HAL.out.size⟩) hi0 hbnd hbn2 (Or.inl hi1)).mono ?_; rintro e w2 ⟨v2, rfl, hb2, hk2⟩; have HB2 := Aside0.mk hb2; have HK2 := Aside0.mk hk2; clear hb2 hk2))
      go_roundw
      case rel =>
        have hz := HAL.out.size
        refine ⟨k + 1, by omega, by go_num, ⟨by rw [HT.out]; exact HB2.out.mono (fun j hj _ => by omega)⟩, ⟨Keep.below_then (HB.out.trans (HAL.out.mono hzs)) HK2.out (by omega) (fun j hj h => by omega)⟩⟩
      case measure => simp [intOf]; omega
    · have hke : k = q.length := by omega
      subst hke
      go_wp2
      go_ret
      rw [List.take_length] at HU
      exact ⟨_, rfl, HU.out, HB.out⟩
theorem sure_calls (h : FF w g own room s q) :
    Calls Try.prog 20 #[.pointer (some ⟨g, 0, none⟩)] w fun e w' => e = .returned (.int .i64 s.length) ∧ w = w' := by
  obtain ⟨v1, v2, S1, S2, hh, hb, hr, hs, ho, hg, hlt⟩ := h
  obtain ⟨A1, c1, rfl, hlc1, hC1, hA1⟩ := hb.reads
  have q0 : w.cell? ⟨g, 1, none⟩ = some (.slice A1 s.length c1) := by simp [World.cell?, hh]
  clear hh hb hr hs ho hg hlt hA1 hC1
  go_enter Try.func20, Try.ntmps20
  go_wp2
  go_ret
  exact ⟨rfl, rfl⟩
/-- Two cells of the file's block are turned. -/
theorem set_two (h : FF w g own room s q) {w1 : World} (hb : Below w.heap.size w w1) {v : Value} {s' : List Int} (hv : Buf .u8 5 w1 (fun k => w.heap.size ≤ k) v s') :
    FF ((w1.setCell ⟨g, 1, none⟩ v).setCell ⟨g, 2, none⟩ (.slice none 0 0)) g (fun k => k = g ∨ w.heap.size ≤ k ∧ k < w1.heap.size) room s' [] ∧ Keep own w ((w1.setCell ⟨g, 1, none⟩ v).setCell ⟨g, 2, none⟩ (.slice none 0 0)) ∧ own g ∧ g < w.heap.size := by
  obtain ⟨v1, v2, S1, S2, hh, hb1, hr, hs, ho, hg, hlt⟩ := h
  have hgl := blk_lt hh
  have hh1 := (hb.block g hgl).trans hh
  have hh2 := heap_setCell_same w1 g 1 _ 72 v hh1
  have hh3 := heap_setCell_same _ g 2 _ 72 (.slice none 0 0) hh2
  refine ⟨⟨v, .slice none 0 0, fun k => w.heap.size ≤ k ∧ k < w1.heap.size, fun _ => False, hh3, ?_, Kd.R_nil _ _ _ _ _, fun _ _ h => h, fun k hk => ?_, .inl rfl, fun k hk => ?_⟩, ((Keep.of_below hb).setCell _ _ (fun _ => hg)).setCell _ _ (fun _ => hg), hg, hgl⟩
  · refine (hv.mono (fun k h h' => ⟨h, h'⟩)).step (fun k hk hl => ?_)
    rw [Below.heap_setCell _ _ _ _ (by show k ≠ g; omega), Below.heap_setCell _ _ _ _ (by show k ≠ g; omega)]
  · rcases hk with hk | hk
    · exact ⟨.inr hk, by omega⟩
    · exact hk.elim
  · have := hb.size
    simp only [World.size_setCell]
    omega
theorem sync_calls (h : FF w g own room s q) (hok : FOk room s q) :
    Calls Try.prog 17 #[.pointer (some ⟨g, 0, none⟩)] w fun e w' => e = .returned (.tuple #[]) ∧ (∃ own', FF w' g own' room (over q s) [] ∧ ∀ k, own' k → own k ∨ w.heap.size ≤ k) ∧ Keep own w w' := by
  have HF := Aside0.mk h
  have HOK := Aside0.mk hok
  obtain ⟨u1, u2, -, -, hh, -⟩ := h
  clear hok
  go_enter Try.func17, Try.ntmps17
  go_wp2_with (first | (go_at_call 19; refine (bytes_calls HF.out HOK.out).mono ?_; rintro e w1 ⟨v1, rfl, hu1, hb1⟩; obtain ⟨A9, c9, rfl, -, -, -⟩ := hu1.reads; have HU1 := Aside0.mk hu1; have hh1 := (hb1.block g (blk_lt hh)).trans hh; have HB1 := Aside0.mk hb1; have hfz1 := blk_frozen hh1 1; have hfz2 := blk_frozen hh1 2; have hce1 : w1.cell? ⟨g, 1, none⟩ = some u1 := (by simp [World.cell?, hh1]); have hce2 : w1.cell? ⟨g, 2, none⟩ = some u2 := (by simp [World.cell?, hh1]); clear hu1 hb1 hh1))
  first | go_end0 | ((try simp only [Exit.inBlock, Exit.then]); refine bodyPost_ret (results_none rfl _ _ _) rfl ?_)
  obtain ⟨h1, h2, h3, h4⟩ := set_two HF.out HB1.out HU1.out
  exact ⟨rfl, ⟨_, h1, fun k hk => hk.elim (fun e => .inl (by rw [e]; exact h3)) (fun e => .inr e.1)⟩, h2⟩
theorem new_calls (room : Int) (w : World) (h0 : 0 ≤ room) (h1 : room ≤ 4194304) :
    Calls Try.prog 15 #[.int .i64 room] w fun e w' => e = .returned (.tuple #[.pointer (some ⟨w.heap.size, 0, none⟩), .int .i64 0]) ∧ FF w' w.heap.size (fun k => k = w.heap.size) room [] [] ∧ Below w.heap.size w w' := by
  go_enter Try.func15, Try.ntmps15
  go_wp2
  go_ret2
  exact ⟨rfl, Fl.made room _ _ w, (Below.refl _ _).alloc (Nat.le_refl _) _⟩
theorem new_refused (room : Int) (w : World) (h : room < 0 ∨ 4194304 < room) :
    Calls Try.prog 15 #[.int .i64 room] w fun e w' => e = .returned (.tuple #[.pointer none, .int .i64 2]) ∧ w = w' := by
  by_cases h0 : room < 0
  · go_enter Try.func15, Try.ntmps15
    go_wp2
    go_ret2
    exact ⟨rfl, rfl⟩
  · have h1 : 4194304 < room := by omega
    clear h
    go_enter Try.func15, Try.ntmps15
    go_wp2
    go_ret2
    exact ⟨rfl, rfl⟩
end
end Go.Proofs.Ytmklopaleiennaa.Fd
