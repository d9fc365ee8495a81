/- What the calls of the reference's reader, and its Put, come to: the rest. -/
import Derived.Test.YtddocpienaoldaaLr
namespace Go.Proofs.Ytddocpienaoldaa.Lr
open Go.RowKit Go.Proofs.YtddocpienaoldaaW.PrintWords Go.Proofs.YtddocpienaoldaaW.PrintLast Go.Proofs.YtddocpienaoldaaW.PrintMore Go.Proofs.Ytddocpienaoldaa.B Go.Proofs.Ytddocpienaoldaa.Ls Go.Proofs.Ytddocpienaoldaa.Lc
set_option linter.unusedVariables false
set_option linter.unusedSimpArgs false

theorem end_calls (g b : Nat) (l : List Int) (code : Int) (w : World) (h : Rdr 44 w g b l code) :
    Calls Try.prog 26 #[.pointer (some ⟨g, 0, none⟩)] w fun e w' => e = .returned (.int .i64 (ended l code)) ∧ Rdr 44 w' g b l (ended l code) ∧ Keep (· = g) w w' ∧ w'.heap.size = w.heap.size := by
  have HR := Aside0.mk h
  obtain ⟨A, c, hc0, -⟩ := h.left
  obtain ⟨hc1, hf1⟩ := h.code
  clear h
  by_cases h0 : code = 0
  · subst h0
    by_cases hl : 0 < l.length
    · have he : ended l 0 = 5 := if_pos hl
      have HE := Aside0.mk he
      clear he
      go_enter Try.func26, Try.ntmps26
      go_wp2
      go_ret
      exact ⟨ret_eq HE.out.symm, by rw [HE.out]; exact HR.out.set 5, (Keep.refl _ _).setCell _ _ (fun _ => rfl), by simp [World.setCell]⟩
    · have he : ended l 0 = 0 := if_neg hl
      have HE := Aside0.mk he
      clear he
      go_enter Try.func26, Try.ntmps26
      go_wp2
      go_ret
      exact ⟨ret_eq HE.out.symm, by rw [HE.out]; exact HR.out, Keep.refl _ _, rfl⟩
  · have h1 : (code == 0) = false := beq_eq_false_iff_ne.mpr h0
    have he : ended l code = code := by unfold ended failed; split <;> simp [h0]
    have HE := Aside0.mk he
    clear he h0
    go_enter Try.func26, Try.ntmps26
    go_wp2
    go_ret
    exact ⟨ret_eq HE.out.symm, by rw [HE.out]; exact HR.out, Keep.refl _ _, rfl⟩

set_option maxHeartbeats 1000000 in
theorem below_calls (g b : Nat) (l : List Int) (code m : Int) (w : World) (h : Rdr 44 w g b l code) (hby : By l) (hm0 : -9223372036854775808 ≤ m) (hm1 : m ≤ 9223372036854775807) :
    Calls Try.prog 21 #[.pointer (some ⟨g, 0, none⟩), .int .i64 m] w fun e w' => e = .returned (.int .i64 (below m l code).1) ∧ Rdr 44 w' g b (below m l code).2.1 (below m l code).2.2 ∧ Keep (· = g) w w' ∧ w'.heap.size = w.heap.size := by
  have HN := num_calls g b l code w h hby
  have hr := num_range l code hby
  have hd : below m l code = if (num l code).2.2 = 0 then (if m < 1 ∨ m ≤ (num l code).1 then (0, (num l code).2.1, 2) else num l code) else (0, (num l code).2) := rfl
  rw [hd]
  clear hd
  generalize num l code = r at *
  obtain ⟨n, l', c'⟩ := r
  simp only at hr HN ⊢
  obtain ⟨h0, h1⟩ := hr
  have HN := Aside0.mk HN
  have hlt : n < 2 ^ 64 := by rw [two64]; exact h1
  clear h hby
  by_cases hc : c' = 0
  · subst hc
    rw [if_pos rfl]
    by_cases hm : m < 1
    · rw [if_pos (Or.inl hm)]
      have hml : m ≤ 0 := by omega
      clear hm
      go_enter Try.func21, Try.ntmps21
      go_wp2_with (first | (go_at_call 18; refine HN.out.mono ?_; rintro e w1 ⟨rfl, hr1, hk1, hs1⟩; obtain ⟨hc2, hf2⟩ := hr1.code; have HR1 := Aside0.mk hr1; clear hr1))
      go_ret
      exact ⟨rfl, HR1.out.set 2, hk1.setCell _ _ (fun _ => rfl), by rw [World.size_setCell]; exact hs1⟩
    · have hml : ¬ m ≤ 0 := by omega
      by_cases hn : m ≤ n
      · rw [if_pos (Or.inr hn)]
        go_enter Try.func21, Try.ntmps21
        go_wp2_with (first | (go_at_call 18; refine HN.out.mono ?_; rintro e w1 ⟨rfl, hr1, hk1, hs1⟩; obtain ⟨hc2, hf2⟩ := hr1.code; have HR1 := Aside0.mk hr1; clear hr1))
        go_ret
        exact ⟨rfl, HR1.out.set 2, hk1.setCell _ _ (fun _ => rfl), by rw [World.size_setCell]; exact hs1⟩
      · rw [if_neg (by omega)]
        go_enter Try.func21, Try.ntmps21
        go_wp2_with (first | (go_at_call 18; refine HN.out.mono ?_; rintro e w1 ⟨rfl, hr1, hk1, hs1⟩; obtain ⟨hc2, hf2⟩ := hr1.code))
        go_ret
        exact ⟨rfl, hr1, hk1, hs1⟩
  · rw [if_neg hc]
    have hcb : (c' == 0) = false := beq_eq_false_iff_ne.mpr hc
    have hcn : (c' != 0) = true := bne_iff_ne.mpr hc
    clear hc
    go_enter Try.func21, Try.ntmps21
    go_wp2_with (first | (go_at_call 18; refine HN.out.mono ?_; rintro e w1 ⟨rfl, hr1, hk1, hs1⟩; obtain ⟨hc2, hf2⟩ := hr1.code))
    go_ret
    exact ⟨rfl, hr1, hk1, hs1⟩

set_option maxHeartbeats 1000000 in
theorem bytes_calls (g b : Nat) (l : List Int) (code m : Int) (w : World) (h : Rdr 44 w g b l code) :
    Calls Try.prog 23 #[.pointer (some ⟨g, 0, none⟩), .int .i64 m] w fun e w' => (∃ A c, e = .returned (.slice A (takes m l code).1.length c) ∧ (takes m l code).1.length ≤ c ∧ kU8.C w' A (takes m l code).1.length (takes m l code).1 ∧ ∀ a, A = some a → a.block = b) ∧ Rdr 44 w' g b (takes m l code).2.1 (takes m l code).2.2 ∧ Keep (· = g) w w' ∧ w'.heap.size = w.heap.size := by
  have HR := Aside0.mk h
  obtain ⟨A, c, hc0, hf0, hb, hlc, hA, hC, hne⟩ := h.left
  obtain ⟨hc1, hf1⟩ := h.code
  clear h
  by_cases h0 : code = 0
  · subst h0
    have hd : takes m l 0 = if m < 0 ∨ (l.length : Int) < m then ([], l, 3) else (l.take m.toNat, l.drop m.toNat, 0) := rfl
    by_cases hm : m < 0 ∨ (l.length : Int) < m
    · rw [if_pos hm] at hd
      have HD := Aside0.mk hd
      clear hd
      have hb2 : (m < 0) ∨ (¬ m < 0 ∧ (l.length : Int) < m) := by omega
      clear hm
      have HB := Aside0.mk hb
      clear hb hC hA
      rcases hb2 with hb2 | ⟨hb2, hb3⟩
      all_goals
        go_enter Try.func23, Try.ntmps23
        go_wp2
        go_ret
        rw [HD.out]
        exact ⟨⟨none, 0, rfl, Nat.le_refl _, ⟨rfl, by simp, fun h => absurd h (by simp)⟩, fun a e => by simp at e⟩, HR.out.set 3, (Keep.refl _ _).setCell _ _ (fun _ => rfl), by simp [World.setCell]⟩
    · rw [if_neg hm] at hd
      have HD := Aside0.mk hd
      clear hd
      have hm0 : 0 ≤ m := by omega
      have hm1 : m ≤ l.length := by omega
      clear hm
      have hd0 : decide (m < 0) = false := by simp; omega
      have hd1 : decide ((l.length : Int) < m) = false := by simp; omega
      obtain ⟨i5, hi5, -, hi5s, -⟩ := info_ex infoU8
      obtain ⟨A', hrun, hC', hblk, hlc'⟩ := sl_from kU8 22 5 .i64 Try.underlying22 hi5 A c l hi5s m hm0 hm1 hlc
      obtain ⟨hrun2, hC2, hl2⟩ := sl_to kU8 22 5 .i64 Try.underlying22 hi5 A c l m hm0 hm1 hlc
      have HCt := Aside0.mk (hC2 _ hC)
      have HCd := Aside0.mk (hC' _ hC)
      have HBL := Aside0.mk hblk
      have HB := Aside0.mk hb
      have HA := Aside0.mk hA
      have HL2 := Aside0.mk hl2
      clear hb hC hA hi5 hi5s hC' hC2 hblk hl2
      go_enter Try.func23, Try.ntmps23
      go_wp2
      go_ret
      have hcut := Rdr.cut HB.out HA.out hne hlc' HBL.out HCd.out
      rw [List.length_drop] at hcut
      have hlt : (l.take m.toNat).length = m.toNat := by rw [List.length_take]; omega
      rw [HD.out]
      refine ⟨⟨A, c, by simp only [hlt]; rfl, HL2.out, C_blk HCt.out (fun a e => ?_), HA.out⟩, hcut, (Keep.refl _ _).setCell _ _ (fun _ => rfl), by simp [World.setCell]⟩
      rw [HA.out a e]; exact Below.heap_setCell _ _ _ _ hne
  · have hd : takes m l code = ([], l, code) := if_neg h0
    have hcn : (code != 0) = true := bne_iff_ne.mpr h0
    have hcb : (code == 0) = false := beq_eq_false_iff_ne.mpr h0
    have HD := Aside0.mk hd
    clear hd h0 hb hA hC
    go_enter Try.func23, Try.ntmps23
    go_wp2
    go_ret
    rw [HD.out]
    exact ⟨⟨none, 0, rfl, Nat.le_refl _, ⟨rfl, by simp, fun h => absurd h (by simp)⟩, fun a e => by simp at e⟩, HR.out, Keep.refl _ _, rfl⟩

theorem zig_calls (n : Int) (w : World) (h0 : -9223372036854775808 ≤ n) (h1 : n ≤ 9223372036854775807) :
    Calls Try.prog 13 #[.int .i64 n] w fun e w' => e = .returned (.int .u64 (zig n)) ∧ w = w' := by
  by_cases hn : n < 0
  · have hz : zig n = -2 * n - 1 := if_pos hn
    go_enter Try.func13, Try.ntmps13
    go_wp2
    go_ret
    exact ⟨ret_eq (by first | omega | (simp only [wrap_u64] at *; omega)), rfl⟩
  · have hz : zig n = 2 * n := if_neg hn
    go_enter Try.func13, Try.ntmps13
    go_wp2
    go_ret
    exact ⟨ret_eq (by first | omega | (simp only [wrap_u64] at *; omega)), rfl⟩
theorem zag_calls (n : Int) (w : World) (h0 : 0 ≤ n) (h1 : n < 18446744073709551616) :
    Calls Try.prog 19 #[.int .u64 n] w fun e w' => e = .returned (.int .i64 (zag n)) ∧ w = w' := by
  by_cases hn : n % 2 = 1
  · have hz : zag n = -(n / 2) - 1 := if_pos hn
    have hb : (n % 2 == 1) = true := beq_iff_eq.mpr hn
    have HZ := Aside0.mk hz
    clear hz hn
    go_enter Try.func19, Try.ntmps19
    go_wp2
    go_ret
    exact ⟨ret_eq HZ.out.symm, rfl⟩
  · have hz : zag n = n / 2 := if_neg hn
    have hb : (n % 2 == 1) = false := beq_eq_false_iff_ne.mpr hn
    have HZ := Aside0.mk hz
    clear hz hn
    go_enter Try.func19, Try.ntmps19
    go_wp2
    go_ret
    exact ⟨ret_eq HZ.out.symm, rfl⟩

set_option maxHeartbeats 1000000 in
theorem put_calls (A : Option Addr) (c : Nat) (l : List Int) (n : Int) (w : World) (hC : kU8.C w A l.length l) (hll : l.length ≤ 140737488355300) (h0 : 0 ≤ n) (h1 : n < 18446744073709551616) :
    Calls Try.prog 12 #[.slice A l.length c, .int .u64 n] w fun e w' => ∃ v, e = .returned v ∧ kU8.R 5 w' w.heap.size (fun _ => True) v (l ++ putl n.toNat) ∧ Below w.heap.size w w' := by
  have HC := Aside0.mk hC
  clear hC
  go_enter Try.func12, Try.ntmps12
  go_wp2_with (first | ((with_reducible refine gate_builtin (b := .append) (xs := #[.tmp 7, .tmp 8]) rfl ?_); at_builtin; refine Kd.R_append_rows (Kd.int .u8) (w0 := w) w.heap.size rfl (.tmp 7) (.tmp 8) 22 5 (.int .u8 0) 1 rfl Try.underlying22 infoU8 rfl (by decide) (by omega) (.slice (some ⟨w.heap.size, 0, none⟩) 0 0) ([] : List Int) l _ _ _ (fun _ => True) (fun _ => False) rfl rfl ?aO ?aR (fun _ _ h => h) (fun _ h => h.elim) ?aF ?aB ?aS ?aL ?_; (case aR => exact Kd.C_alloc HC.out _); (case aB => exact (Below.refl _ _).alloc (Nat.le_refl _) _); (case aF => exact (fun _ _ => trivial)); (case aO => exact R_lit0 kU8 5 w); (case aS => simp); (case aL => (simp only [List.length_nil]; omega)); (intro v1 w1 ho hb1 hg hat; rw [List.nil_append] at ho; have HO := Aside0.mk ho; have HW := Aside0.mk hb1; clear ho hb1 hg hat)))
  go_loopw [1, 5] (fun vn vb wr => ∃ (m : Int) (xs : List Int), vn = .int .u64 m ∧ 0 ≤ m ∧ m < 18446744073709551616 ∧ Aside0 (xs ++ putl m.toNat = l ++ putl n.toNat) ∧ Aside0 (kU8.R 5 wr w.heap.size (fun _ => True) vb xs) ∧ Aside0 (Below w.heap.size w wr)) (fun vn _ _ => (intOf vn).toNat)
  case atStart => exact ⟨n, l, rfl, h0, h1, ⟨rfl⟩, HO, HW⟩
  case round =>
    clear HO HW
    obtain ⟨m, xs, rfl, hm0, hm1, HE, HO, HW⟩ := hrel
    have hlen := congrArg List.length HE.out
    rw [List.length_append, List.length_append] at hlen
    have h10 := putl_ten n.toNat (by omega)
    have h1 := (putl_len m.toNat).1
    have hxl : xs.length ≤ 140737488355310 := by omega
    clear hlen h10 h1
    by_cases hlt : m < 128
    · have hp := putl_lt (n := m.toNat) (by omega)
      rw [show ((m.toNat : Nat) : Int) = m % 128 by omega] at hp
      have HP := Aside0.mk hp
      have hz : (m / 128 == 0) = true := by rw [beq_iff_eq]; omega
      clear hp
      go_wp2_with (first | ((with_reducible refine gate_builtin (b := .append) (xs := #[.tmp 16, .tmp 19]) rfl ?_); at_builtin; refine Kd.R_append (Kd.int .u8) (w0 := w) w.heap.size rfl (.tmp 16) (.tmp 19) 22 5 (.int .u8 0) 1 rfl Try.underlying22 infoU8 rfl (by decide) (by omega) u5 xs (m % 128) [.int .u8 (m % 128)] (fun _ => True) (fun _ => False) rfl rfl ?aP (fun _ hk => hk.elim) ?aF ?aO ?aB ?aS ?aL ?_; (case aP => exact rfl); (case aB => exact HW.out); (case aF => exact (fun _ _ => trivial)); (case aO => exact HO.out); (case aS => exact HW.out.size); (case aL => omega); (intro v1 w1 ho hb1 hg hat; have HO2 := Aside0.mk ho; have HW2 := Aside0.mk hb1; clear ho hb1 hg hat)))
      go_ret
      exact ⟨_, rfl, by rw [← HE.out, HP.out]; exact HO2.out, HW2.out⟩
    · have hp := putl_ge (n := m.toNat) (by omega)
      rw [show ((m.toNat % 128 + 128 : Nat) : Int) = m % 128 + 128 by omega, show m.toNat / 128 = (m / 128).toNat by omega] at hp
      have HP := Aside0.mk hp
      have hz : (m / 128 == 0) = false := by rw [beq_eq_false_iff_ne]; omega
      clear hp
      go_wp2_with (first | ((with_reducible refine gate_builtin (b := .append) (xs := #[.tmp 21, .tmp 25]) rfl ?_); at_builtin; refine Kd.R_append (Kd.int .u8) (w0 := w) w.heap.size rfl (.tmp 21) (.tmp 25) 22 5 (.int .u8 0) 1 rfl Try.underlying22 infoU8 rfl (by decide) (by omega) u5 xs (m % 128 + 128) [.int .u8 (m % 128 + 128)] (fun _ => True) (fun _ => False) rfl rfl ?aP (fun _ hk => hk.elim) ?aF ?aO ?aB ?aS ?aL ?_; (case aP => exact rfl); (case aB => exact HW.out); (case aF => exact (fun _ _ => trivial)); (case aO => exact HO.out); (case aS => exact HW.out.size); (case aL => omega); (intro v1 w1 ho hb1 hg hat; have HO2 := Aside0.mk ho; have HW2 := Aside0.mk hb1; clear ho hb1 hg hat)))
      go_roundw
      case rel => exact ⟨m / 128, _, rfl, by omega, by omega, ⟨by rw [← HE.out, HP.out, List.append_assoc]; rfl⟩, HO2, HW2⟩
      case measure => simp [intOf]; omega
end Go.Proofs.Ytddocpienaoldaa.Lr
