/- What the calls of package leb come to: the rest of the reader. -/
import Derived.Test.YtfcpnjoiloahcaaLc
namespace Go.Proofs.Ytfcpnjoiloahcaa.Lc
open Go.RowKit Go.Proofs.YtfcpnjoiloahcaaW.PrintWords Go.Proofs.YtfcpnjoiloahcaaW.PrintLast Go.Proofs.YtfcpnjoiloahcaaW.PrintMore Go.Proofs.Ytfcpnjoiloahcaa.B Go.Proofs.Ytfcpnjoiloahcaa.Ls
set_option linter.unusedVariables false
set_option linter.unusedSimpArgs false

theorem code_calls (g b : Nat) (l : List Int) (code : Int) (w : World) (h : Rdr 122 w g b l code) :
    Calls Try.prog 57 #[.pointer (some ⟨g, 0, none⟩)] w fun e w' => e = .returned (.int .i64 code) ∧ w = w' := by
  obtain ⟨hc, hf⟩ := h.code
  clear h
  go_enter Try.func57, Try.ntmps57
  go_wp2
  go_ret
  exact ⟨rfl, rfl⟩
theorem left_calls (g b : Nat) (l : List Int) (code : Int) (w : World) (h : Rdr 122 w g b l code) :
    Calls Try.prog 58 #[.pointer (some ⟨g, 0, none⟩)] w fun e w' => e = .returned (.int .i64 l.length) ∧ w = w' := by
  obtain ⟨A, c, hc, -⟩ := h.left
  clear h
  go_enter Try.func58, Try.ntmps58
  go_wp2
  go_ret
  exact ⟨rfl, rfl⟩
theorem end_calls (g b : Nat) (l : List Int) (code : Int) (w : World) (h : Rdr 122 w g b l code) :
    Calls Try.prog 63 #[.pointer (some ⟨g, 0, none⟩)] w fun e w' => e = .returned (.int .i64 (ended l code)) ∧ Rdr 122 w' g b l (ended l code) ∧ Keep (· = g) w w' ∧ w'.heap.size = w.heap.size := by
  have HR := Aside0.mk h
  obtain ⟨A, c, hc0, -⟩ := h.left
  obtain ⟨hc1, -⟩ := h.code
  clear h
  by_cases h0 : 0 < l.length
  · have he : ended l code = failed 5 code := if_pos h0
    have HE := Aside0.mk he
    clear he
    go_enter Try.func63, Try.ntmps63
    go_wp2_with (first | (go_at_call 70; refine (fail_calls g b l code 5 _ HR.out).mono ?_; rintro e w1 ⟨rfl, hr1, hk1, hs1⟩; have hc2 := hr1.code.1))
    go_ret
    exact ⟨ret_eq HE.out.symm, by rw [HE.out]; exact hr1, hk1, hs1⟩
  · have he : ended l code = code := if_neg h0
    have HE := Aside0.mk he
    clear he
    go_enter Try.func63, Try.ntmps63
    go_wp2
    go_ret
    exact ⟨ret_eq HE.out.symm, by rw [HE.out]; exact HR.out, Keep.refl _ _, rfl⟩
set_option maxHeartbeats 1000000 in
theorem below_calls (g b : Nat) (l : List Int) (code m : Int) (w : World) (h : Rdr 122 w g b l code) (hby : By l) (hm0 : -9223372036854775808 ≤ m) (hm1 : m ≤ 9223372036854775807) :
    Calls Try.prog 61 #[.pointer (some ⟨g, 0, none⟩), .int .i64 m] w fun e w' => e = .returned (.int .i64 (below m l code).1) ∧ Rdr 122 w' g b (below m l code).2.1 (below m l code).2.2 ∧ Keep (· = g) w w' ∧ w'.heap.size = w.heap.size := by
  have HN := num_calls g b l code w h hby
  have hr := num_range l code hby
  have hd : below m l code = if (num l code).2.2 = 0 then (if m < 1 ∨ m ≤ (num l code).1 then (0, (num l code).2.1, 2) else num l code) else (0, (num l code).2) := rfl
  rw [hd]
  clear hd
  generalize num l code = r at *
  obtain ⟨n, l', c'⟩ := r
  simp only at hr HN ⊢
  obtain ⟨h0, h1⟩ := hr
  have HN := Aside0.mk HN
  have hlt : n < 2 ^ 64 := by rw [two64]; exact h1
  clear h hby
  by_cases hc : c' = 0
  · subst hc
    have hf2 : failed 2 0 = 2 := rfl
    rw [if_pos rfl]
    by_cases hm : m < 1
    · rw [if_pos (Or.inl hm)]
      go_enter Try.func61, Try.ntmps61
      go_wp2_with (first | (go_at_call 56; refine HN.out.mono ?_; rintro e w1 ⟨rfl, hr1, hk1, hs1⟩; have hc2 := hr1.code.1; have HR1 := Aside0.mk hr1; clear hr1) | (go_at_call 70; refine (fail_calls g b l' 0 2 _ HR1.out).mono ?_; rintro e w2 ⟨rfl, hr2, hk2, hs2⟩; rw [hf2] at hr2; have hc3 := hr2.code.1))
      go_ret
      exact ⟨rfl, hr2, hk1.trans hk2, hs2.trans hs1⟩
    · by_cases hn : m ≤ n
      · rw [if_pos (Or.inr hn)]
        go_enter Try.func61, Try.ntmps61
        go_wp2_with (first | (go_at_call 56; refine HN.out.mono ?_; rintro e w1 ⟨rfl, hr1, hk1, hs1⟩; have hc2 := hr1.code.1; have HR1 := Aside0.mk hr1; clear hr1) | (go_at_call 70; refine (fail_calls g b l' 0 2 _ HR1.out).mono ?_; rintro e w2 ⟨rfl, hr2, hk2, hs2⟩; rw [hf2] at hr2; have hc3 := hr2.code.1))
        go_ret
        exact ⟨rfl, hr2, hk1.trans hk2, hs2.trans hs1⟩
      · rw [if_neg (by omega)]
        go_enter Try.func61, Try.ntmps61
        go_wp2_with (first | (go_at_call 56; refine HN.out.mono ?_; rintro e w1 ⟨rfl, hr1, hk1, hs1⟩; have hc2 := hr1.code.1))
        go_ret
        exact ⟨rfl, hr1, hk1, hs1⟩
  · rw [if_neg hc]
    have hcb : (c' == 0) = false := beq_eq_false_iff_ne.mpr hc
    have hcn : (c' != 0) = true := bne_iff_ne.mpr hc
    clear hc
    go_enter Try.func61, Try.ntmps61
    go_wp2_with (first | (go_at_call 56; refine HN.out.mono ?_; rintro e w1 ⟨rfl, hr1, hk1, hs1⟩; have hc2 := hr1.code.1))
    go_ret
    exact ⟨rfl, hr1, hk1, hs1⟩

set_option maxHeartbeats 1000000 in
theorem bytes_calls (g b : Nat) (l : List Int) (code m : Int) (w : World) (h : Rdr 122 w g b l code) (hlb : b < w.heap.size) (hll : l.length ≤ 140737488355328) :
    Calls Try.prog 62 #[.pointer (some ⟨g, 0, none⟩), .int .i64 m] w fun e w' => ∃ v, e = .returned v ∧ kU8.R 5 w' w.heap.size (fun _ => True) v (takes m l code).1 ∧ Rdr 122 w' g b (takes m l code).2.1 (takes m l code).2.2 ∧ Keep (· = g) w w' := by
  have HR := Aside0.mk h
  obtain ⟨A, c, hc0, hf0, hb, hlc, hA, hC, hne⟩ := h.left
  have hgl := h.lt
  obtain ⟨hc1, -⟩ := h.code
  clear h
  by_cases h0 : code = 0
  · subst h0
    have hd : takes m l 0 = if m < 0 ∨ (l.length : Int) < m then ([], l, 3) else (l.take m.toNat, l.drop m.toNat, 0) := rfl
    by_cases hm : m < 0 ∨ (l.length : Int) < m
    · rw [if_pos hm] at hd
      have HD := Aside0.mk hd
      clear hd
      have hb2 : (m < 0) ∨ (¬ m < 0 ∧ (l.length : Int) < m) := by omega
      clear hm
      have HB := Aside0.mk hb
      have HC := Aside0.mk hC
      have HA := Aside0.mk hA
      clear hb hC hA
      rcases hb2 with hb2 | ⟨hb2, hb3⟩
      all_goals
        go_enter Try.func62, Try.ntmps62
        go_wp2_with (first | (go_at_call 70; refine (fail_calls g b l 0 3 _ HR.out).mono ?_; rintro e w1 ⟨rfl, hr1, hk1, hs1⟩))
        go_ret
        refine ⟨_, rfl, ?_, ?_, hk1⟩
        · rw [HD.out]; exact Kd.R_nil _ _ _ _ _
        · rw [HD.out]; exact hr1
    · rw [if_neg hm] at hd
      have HD := Aside0.mk hd
      clear hd
      have hm0 : 0 ≤ m := by omega
      have hm1 : m ≤ l.length := by omega
      clear hm
      have hd0 : decide (m < 0) = false := by simp; omega
      have hd1 : decide ((l.length : Int) < m) = false := by simp; omega
      obtain ⟨i5, hi5, -, hi5s, -⟩ := info_ex infoU8
      obtain ⟨A', hrun, hC', hblk, hlc'⟩ := sl_from kU8 24 5 .i64 Try.underlying24 hi5 A c l hi5s m hm0 hm1 hlc
      obtain ⟨hrun2, hC2, -⟩ := sl_to kU8 24 5 .i64 Try.underlying24 hi5 A c l m hm0 hm1 hlc
      have hct := hC2 _ hC
      rw [show (l.take m.toNat).length = m.toNat by rw [List.length_take]; omega] at hct
      have HCt := Aside0.mk hct
      clear hct
      have HCd := Aside0.mk (hC' _ hC)
      have HBL := Aside0.mk hblk
      have HB := Aside0.mk hb
      have HC := Aside0.mk hC
      have HA := Aside0.mk hA
      clear hb hC hA hi5 hi5s hC' hC2 hblk
      go_enter Try.func62, Try.ntmps62
      go_wp2_with (first | ((with_reducible refine gate_builtin (b := .append) (xs := #[.tmp 26, .tmp 32]) rfl ?_); at_builtin; refine Kd.R_append_rows (Kd.int .u8) (w0 := w) w.heap.size rfl (.tmp 26) (.tmp 32) 24 5 (.int .u8 0) 1 rfl Try.underlying24 infoU8 rfl (by decide) (by omega) (.slice (some ⟨w.heap.size, 0, none⟩) 0 0) ([] : List Int) (l.take m.toNat) _ _ _ (fun _ => True) (fun _ => False) rfl rfl ?aO ?aR (fun _ _ h => h) (fun _ h => h.elim) ?aF ?aB ?aS ?aL ?_; (case aR => exact Kd.C_alloc HCt.out _); (case aB => exact (Below.refl _ _).alloc (Nat.le_refl _) _); (case aF => exact (fun _ _ => trivial)); (case aO => exact R_lit0 kU8 5 w); (case aS => simp); (case aL => (simp only [List.length_nil]; omega)); (intro v1 w1 ho hb1 hg hat; have hb2 := (hb1.block g hgl).trans HB.out; have hc2 : w1.cell? ⟨g, 0, none⟩ = some (.slice A l.length c) := (by simp [World.cell?, hb2]); have hf2 := blk_frozen hb2 0; have HB2 := Aside0.mk hb2; have HO := Aside0.mk ho; have HW := Aside0.mk hb1; clear ho hb1 hg hat hb2)))
      go_ret
      have hblt : ∀ a, A = some a → w1.heap[a.block]? = w.heap[a.block]? := fun a e => by
        rw [HA.out a e]; exact HW.out.block b hlb
      have hcut := Rdr.cut HB2.out HA.out hne hlc' HBL.out (C_blk HCd.out (fun a e => by
        obtain ⟨a0, e0, e1⟩ := HBL.out a e
        rw [e1]; exact hblt a0 e0))
      rw [List.length_drop] at hcut
      refine ⟨_, rfl, ?_, ?_, (Keep.of_below HW.out).setCell _ _ (fun _ => rfl)⟩
      · rw [HD.out]
        exact R_set_old HO.out hgl _ _
      · rw [HD.out]; exact hcut
  · have hd : takes m l code = ([], l, code) := if_neg h0
    have hcn : (code != 0) = true := bne_iff_ne.mpr h0
    have HD := Aside0.mk hd
    clear hd h0 hb hA hC
    go_enter Try.func62, Try.ntmps62
    go_wp2
    go_ret
    refine ⟨_, rfl, ?_, ?_, Keep.refl _ _⟩
    · rw [HD.out]; exact Kd.R_nil _ _ _ _ _
    · rw [HD.out]; exact HR.out

end Go.Proofs.Ytfcpnjoiloahcaa.Lc
