/- What the calls of the reference's reader, and its Put, come to: the rest. -/
import Derived.Test.YtfcpnjoiloahcaaLr
namespace Go.Proofs.Ytfcpnjoiloahcaa.Lr
open Go.RowKit Go.Proofs.YtfcpnjoiloahcaaW.PrintWords Go.Proofs.YtfcpnjoiloahcaaW.PrintLast Go.Proofs.YtfcpnjoiloahcaaW.PrintMore Go.Proofs.Ytfcpnjoiloahcaa.B Go.Proofs.Ytfcpnjoiloahcaa.Ls Go.Proofs.Ytfcpnjoiloahcaa.Lc
set_option linter.unusedVariables false
set_option linter.unusedSimpArgs false

set_option maxHeartbeats 1000000 in
theorem below_calls (g b : Nat) (l : List Int) (code m : Int) (w : World) (h : Rdr 95 w g b l code) (hby : By l) (hm0 : -9223372036854775808 ≤ m) (hm1 : m ≤ 9223372036854775807) :
    Calls Try.prog 43 #[.pointer (some ⟨g, 0, none⟩), .int .i64 m] w fun e w' => e = .returned (.int .i64 (below m l code).1) ∧ Rdr 95 w' g b (below m l code).2.1 (below m l code).2.2 ∧ Keep (· = g) w w' ∧ w'.heap.size = w.heap.size := by
  have HN := num_calls g b l code w h hby
  have hr := num_range l code hby
  have hd : below m l code = if (num l code).2.2 = 0 then (if m < 1 ∨ m ≤ (num l code).1 then (0, (num l code).2.1, 2) else num l code) else (0, (num l code).2) := rfl
  rw [hd]
  clear hd
  generalize num l code = r at *
  obtain ⟨n, l', c'⟩ := r
  simp only at hr HN ⊢
  obtain ⟨h0, h1⟩ := hr
  have HN := Aside0.mk HN
  have hlt : n < 2 ^ 64 := by rw [two64]; exact h1
  clear h hby
  by_cases hc : c' = 0
  · subst hc
    rw [if_pos rfl]
    by_cases hm : m < 1
    · rw [if_pos (Or.inl hm)]
      have hml : m ≤ 0 := by omega
      clear hm
      go_enter Try.func43, Try.ntmps43
      go_wp2_with (first | (go_at_call 60; refine HN.out.mono ?_; rintro e w1 ⟨rfl, hr1, hk1, hs1⟩; obtain ⟨hc2, hf2⟩ := hr1.code; have HR1 := Aside0.mk hr1; clear hr1))
      go_ret
      exact ⟨rfl, HR1.out.set 2, hk1.setCell _ _ (fun _ => rfl), by rw [World.size_setCell]; exact hs1⟩
    · have hml : ¬ m ≤ 0 := by omega
      by_cases hn : m ≤ n
      · rw [if_pos (Or.inr hn)]
        go_enter Try.func43, Try.ntmps43
        go_wp2_with (first | (go_at_call 60; refine HN.out.mono ?_; rintro e w1 ⟨rfl, hr1, hk1, hs1⟩; obtain ⟨hc2, hf2⟩ := hr1.code; have HR1 := Aside0.mk hr1; clear hr1))
        go_ret
        exact ⟨rfl, HR1.out.set 2, hk1.setCell _ _ (fun _ => rfl), by rw [World.size_setCell]; exact hs1⟩
      · rw [if_neg (by omega)]
        go_enter Try.func43, Try.ntmps43
        go_wp2_with (first | (go_at_call 60; refine HN.out.mono ?_; rintro e w1 ⟨rfl, hr1, hk1, hs1⟩; obtain ⟨hc2, hf2⟩ := hr1.code))
        go_ret
        exact ⟨rfl, hr1, hk1, hs1⟩
  · rw [if_neg hc]
    have hcb : (c' == 0) = false := beq_eq_false_iff_ne.mpr hc
    have hcn : (c' != 0) = true := bne_iff_ne.mpr hc
    clear hc
    go_enter Try.func43, Try.ntmps43
    go_wp2_with (first | (go_at_call 60; refine HN.out.mono ?_; rintro e w1 ⟨rfl, hr1, hk1, hs1⟩; obtain ⟨hc2, hf2⟩ := hr1.code))
    go_ret
    exact ⟨rfl, hr1, hk1, hs1⟩

set_option maxHeartbeats 1000000 in
theorem put_calls (A : Option Addr) (c : Nat) (l : List Int) (n : Int) (w : World) (hC : kU8.C w A l.length l) (hll : l.length ≤ 140737488355300) (h0 : 0 ≤ n) (h1 : n < 18446744073709551616) :
    Calls Try.prog 29 #[.slice A l.length c, .int .u64 n] w fun e w' => ∃ v, e = .returned v ∧ kU8.R 5 w' w.heap.size (fun _ => True) v (l ++ putl n.toNat) ∧ Below w.heap.size w w' := by
  have HC := Aside0.mk hC
  clear hC
  go_enter Try.func29, Try.ntmps29
  go_wp2_with (first | ((with_reducible refine gate_builtin (b := .append) (xs := #[.tmp 7, .tmp 8]) rfl ?_); at_builtin; refine Kd.R_append_rows (Kd.int .u8) (w0 := w) w.heap.size rfl (.tmp 7) (.tmp 8) 24 5 (.int .u8 0) 1 rfl Try.underlying24 infoU8 rfl (by decide) (by omega) (.slice (some ⟨w.heap.size, 0, none⟩) 0 0) ([] : List Int) l _ _ _ (fun _ => True) (fun _ => False) rfl rfl ?aO ?aR (fun _ _ h => h) (fun _ h => h.elim) ?aF ?aB ?aS ?aL ?_; (case aR => exact Kd.C_alloc HC.out _); (case aB => exact (Below.refl _ _).alloc (Nat.le_refl _) _); (case aF => exact (fun _ _ => trivial)); (case aO => exact R_lit0 kU8 5 w); (case aS => simp); (case aL => (simp only [List.length_nil]; omega)); (intro v1 w1 ho hb1 hg hat; rw [List.nil_append] at ho; have HO := Aside0.mk ho; have HW := Aside0.mk hb1; clear ho hb1 hg hat)))
  go_loopw [1, 5] (fun vn vb wr => ∃ (m : Int) (xs : List Int), vn = .int .u64 m ∧ 0 ≤ m ∧ m < 18446744073709551616 ∧ Aside0 (xs ++ putl m.toNat = l ++ putl n.toNat) ∧ Aside0 (kU8.R 5 wr w.heap.size (fun _ => True) vb xs) ∧ Aside0 (Below w.heap.size w wr)) (fun vn _ _ => (intOf vn).toNat)
  case atStart => exact ⟨n, l, rfl, h0, h1, ⟨rfl⟩, HO, HW⟩
  case round =>
    clear HO HW
    obtain ⟨m, xs, rfl, hm0, hm1, HE, HO, HW⟩ := hrel
    have hlen := congrArg List.length HE.out
    rw [List.length_append, List.length_append] at hlen
    have h10 := putl_ten n.toNat (by omega)
    have h1 := (putl_len m.toNat).1
    have hxl : xs.length ≤ 140737488355310 := by omega
    clear hlen h10 h1
    by_cases hlt : m < 128
    · have hp := putl_lt (n := m.toNat) (by omega)
      rw [show ((m.toNat : Nat) : Int) = m % 128 by omega] at hp
      have HP := Aside0.mk hp
      have hz : (m / 128 == 0) = true := by rw [beq_iff_eq]; omega
      clear hp
      go_wp2_with (first | ((with_reducible refine gate_builtin (b := .append) (xs := #[.tmp 16, .tmp 19]) rfl ?_); at_builtin; refine Kd.R_append (Kd.int .u8) (w0 := w) w.heap.size rfl (.tmp 16) (.tmp 19) 24 5 (.int .u8 0) 1 rfl Try.underlying24 infoU8 rfl (by decide) (by omega) u5 xs (m % 128) [.int .u8 (m % 128)] (fun _ => True) (fun _ => False) rfl rfl ?aP (fun _ hk => hk.elim) ?aF ?aO ?aB ?aS ?aL ?_; (case aP => exact rfl); (case aB => exact HW.out); (case aF => exact (fun _ _ => trivial)); (case aO => exact HO.out); (case aS => exact HW.out.size); (case aL => omega); (intro v1 w1 ho hb1 hg hat; have HO2 := Aside0.mk ho; have HW2 := Aside0.mk hb1; clear ho hb1 hg hat)))
      go_ret
      exact ⟨_, rfl, by rw [← HE.out, HP.out]; exact HO2.out, HW2.out⟩
    · have hp := putl_ge (n := m.toNat) (by omega)
      rw [show ((m.toNat % 128 + 128 : Nat) : Int) = m % 128 + 128 by omega, show m.toNat / 128 = (m / 128).toNat by omega] at hp
      have HP := Aside0.mk hp
      have hz : (m / 128 == 0) = false := by rw [beq_eq_false_iff_ne]; omega
      clear hp
      go_wp2_with (first | ((with_reducible refine gate_builtin (b := .append) (xs := #[.tmp 21, .tmp 25]) rfl ?_); at_builtin; refine Kd.R_append (Kd.int .u8) (w0 := w) w.heap.size rfl (.tmp 21) (.tmp 25) 24 5 (.int .u8 0) 1 rfl Try.underlying24 infoU8 rfl (by decide) (by omega) u5 xs (m % 128 + 128) [.int .u8 (m % 128 + 128)] (fun _ => True) (fun _ => False) rfl rfl ?aP (fun _ hk => hk.elim) ?aF ?aO ?aB ?aS ?aL ?_; (case aP => exact rfl); (case aB => exact HW.out); (case aF => exact (fun _ _ => trivial)); (case aO => exact HO.out); (case aS => exact HW.out.size); (case aL => omega); (intro v1 w1 ho hb1 hg hat; have HO2 := Aside0.mk ho; have HW2 := Aside0.mk hb1; clear ho hb1 hg hat)))
      go_roundw
      case rel => exact ⟨m / 128, _, rfl, by omega, by omega, ⟨by rw [← HE.out, HP.out, List.append_assoc]; rfl⟩, HO2, HW2⟩
      case measure => simp [intOf]; omega
end Go.Proofs.Ytfcpnjoiloahcaa.Lr
