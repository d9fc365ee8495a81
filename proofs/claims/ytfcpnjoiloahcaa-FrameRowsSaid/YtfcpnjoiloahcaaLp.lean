/- What putting numbers, and making a reader, comes to. -/
import Derived.Test.YtfcpnjoiloahcaaLc
namespace Go.Proofs.Ytfcpnjoiloahcaa.Lc
open Go.RowKit Go.Proofs.YtfcpnjoiloahcaaW.PrintWords Go.Proofs.YtfcpnjoiloahcaaW.PrintLast Go.Proofs.YtfcpnjoiloahcaaW.PrintMore Go.Proofs.Ytfcpnjoiloahcaa.B Go.Proofs.Ytfcpnjoiloahcaa.Ls
set_option linter.unusedVariables false
set_option linter.unusedSimpArgs false

theorem new_calls (A : Option Addr) (c : Nat) (l : List Int) (w : World) (hC : kU8.C w A l.length l) (hll : l.length ≤ 140737488355328) :
    Calls Try.prog 55 #[.slice A l.length c] w fun e w' => ∃ g b, e = .returned (.pointer (some ⟨g, 0, none⟩)) ∧ Rdr 122 w' g b l 0 ∧ Below w.heap.size w w' ∧ w.heap.size ≤ g ∧ w.heap.size ≤ b ∧ b < w'.heap.size := by
  have HC := Aside0.mk hC
  clear hC
  go_enter Try.func55, Try.ntmps55
  go_wp2_with (first | ((with_reducible refine gate_builtin (b := .append) (xs := #[.tmp 3, .tmp 4]) rfl ?_); at_builtin; refine Kd.R_append_rows (Kd.int .u8) (w0 := w) w.heap.size rfl (.tmp 3) (.tmp 4) 24 5 (.int .u8 0) 1 rfl Try.underlying24 infoU8 rfl (by decide) (by omega) (.slice (some ⟨w.heap.size, 0, none⟩) 0 0) ([] : List Int) l _ _ _ (fun _ => True) (fun _ => False) rfl rfl ?aO ?aR (fun _ _ h => h) (fun _ h => h.elim) ?aF ?aB ?aS ?aL ?_; (case aR => exact Kd.C_alloc HC.out _); (case aB => exact (Below.refl _ _).alloc (Nat.le_refl _) _); (case aF => exact (fun _ _ => trivial)); (case aO => exact R_lit0 kU8 5 w); (case aS => simp); (case aL => (simp only [List.length_nil]; omega)); (intro v1 w1 ho hb1 hg hat; rw [List.nil_append] at ho; have hz := hg.size; rw [World.size_alloc] at hz; obtain ⟨A1, c1, rfl, hlc1, hC1⟩ := Kd.R_reads ho; have HO := Aside0.mk ho; have HW := Aside0.mk hb1; have HC1 := Aside0.mk hC1; clear ho hb1 hg hat hC1)))
  go_ret
  have hnew : (w1.alloc (.cells #[.slice A1 l.length c1, .int .i64 0] 122)).heap[w1.heap.size]? = some (.cells #[.slice A1 l.length c1, .int .i64 0] 122 (0, 0)) := heap_alloc_new _ _
  have hsz : (w1.alloc (.cells #[.slice A1 l.length c1, .int .i64 0] 122)).heap.size = w1.heap.size + 1 := World.size_alloc _ _
  have hbw := HW.out.alloc (by omega) (.cells #[.slice A1 l.length c1, .int .i64 0] 122)
  have hC2 : kU8.C (w1.alloc (.cells #[.slice A1 l.length c1, .int .i64 0] 122)) A1 l.length l := Kd.C_alloc HC1.out _
  cases A1 with
  | none => exact ⟨w1.heap.size, w.heap.size, rfl, ⟨none, c1, hnew, hlc1, fun a e => by simp at e, hC2, by omega⟩, hbw, by omega, by omega, by omega⟩
  | some a =>
    have h2 := R_at HO.out
    exact ⟨w1.heap.size, a.block, rfl, ⟨some a, c1, hnew, hlc1, fun a' e => by injection e with e; rw [e], hC2, by omega⟩, hbw, by omega, h2.1, by omega⟩

set_option maxHeartbeats 1000000 in
theorem put_calls (A : Option Addr) (c : Nat) (l : List Int) (n : Int) (w : World) (hC : kU8.C w A l.length l) (hll : l.length ≤ 140737488355300) (h0 : 0 ≤ n) (h1 : n < 18446744073709551616) :
    Calls Try.prog 53 #[.slice A l.length c, .int .u64 n] w fun e w' => ∃ v, e = .returned v ∧ kU8.R 5 w' w.heap.size (fun _ => True) v (l ++ putl n.toNat) ∧ Below w.heap.size w w' := by
  have HC := Aside0.mk hC
  clear hC
  go_enter Try.func53, Try.ntmps53
  go_wp2_with (first | ((with_reducible refine gate_builtin (b := .append) (xs := #[.tmp 6, .tmp 7]) rfl ?_); at_builtin; refine Kd.R_append_rows (Kd.int .u8) (w0 := w) w.heap.size rfl (.tmp 6) (.tmp 7) 24 5 (.int .u8 0) 1 rfl Try.underlying24 infoU8 rfl (by decide) (by omega) (.slice (some ⟨w.heap.size, 0, none⟩) 0 0) ([] : List Int) l _ _ _ (fun _ => True) (fun _ => False) rfl rfl ?aO ?aR (fun _ _ h => h) (fun _ h => h.elim) ?aF ?aB ?aS ?aL ?_; (case aR => exact Kd.C_alloc HC.out _); (case aB => exact (Below.refl _ _).alloc (Nat.le_refl _) _); (case aF => exact (fun _ _ => trivial)); (case aO => exact R_lit0 kU8 5 w); (case aS => simp); (case aL => (simp only [List.length_nil]; omega)); (intro v1 w1 ho hb1 hg hat; rw [List.nil_append] at ho; have HO := Aside0.mk ho; have HW := Aside0.mk hb1; clear ho hb1 hg hat)))
  go_loopw [1, 5] (fun vn vb wr => ∃ (m : Int) (xs : List Int), vn = .int .u64 m ∧ 0 ≤ m ∧ m < 18446744073709551616 ∧ Aside0 (xs ++ putl m.toNat = l ++ putl n.toNat) ∧ Aside0 (kU8.R 5 wr w.heap.size (fun _ => True) vb xs) ∧ Aside0 (Below w.heap.size w wr)) (fun vn _ _ => (intOf vn).toNat)
  case atStart => exact ⟨n, l, rfl, h0, h1, ⟨rfl⟩, HO, HW⟩
  case round =>
    clear HO HW
    obtain ⟨m, xs, rfl, hm0, hm1, HE, HO, HW⟩ := hrel
    have hlen := congrArg List.length HE.out
    rw [List.length_append, List.length_append] at hlen
    have h10 := putl_ten n.toNat (by omega)
    have h1 := (putl_len m.toNat).1
    have hxl : xs.length ≤ 140737488355310 := by omega
    clear hlen h10 h1
    by_cases hlt : m < 128
    · have hp := putl_lt (n := m.toNat) (by omega)
      rw [Int.toNat_of_nonneg hm0] at hp
      have HP := Aside0.mk hp
      clear hp
      go_wp2_with (first | ((with_reducible refine gate_builtin (b := .append) (xs := #[.tmp 19, .tmp 22]) rfl ?_); at_builtin; refine Kd.R_append (Kd.int .u8) (w0 := w) w.heap.size rfl (.tmp 19) (.tmp 22) 24 5 (.int .u8 0) 1 rfl Try.underlying24 infoU8 rfl (by decide) (by omega) u5 xs m [.int .u8 m] (fun _ => True) (fun _ => False) rfl rfl ?aP (fun _ hk => hk.elim) ?aF ?aO ?aB ?aS ?aL ?_; (case aP => exact rfl); (case aB => exact HW.out); (case aF => exact (fun _ _ => trivial)); (case aO => exact HO.out); (case aS => exact HW.out.size); (case aL => omega); (intro v1 w1 ho hb1 hg hat; have HO2 := Aside0.mk ho; have HW2 := Aside0.mk hb1; clear ho hb1 hg hat)))
      go_ret
      exact ⟨_, rfl, by rw [← HE.out, HP.out]; exact HO2.out, HW2.out⟩
    · have hp := putl_ge (n := m.toNat) (by omega)
      rw [show ((m.toNat % 128 + 128 : Nat) : Int) = m % 128 + 128 by omega, show m.toNat / 128 = (m / 128).toNat by omega] at hp
      have HP := Aside0.mk hp
      have HQ := Aside0.mk (or128 m hm0)
      clear hp
      go_wp2_with (first | ((with_reducible refine gate_builtin (b := .append) (xs := #[.tmp 11, .tmp 15]) rfl ?_); at_builtin; refine Kd.R_append (Kd.int .u8) (w0 := w) w.heap.size rfl (.tmp 11) (.tmp 15) 24 5 (.int .u8 0) 1 rfl Try.underlying24 infoU8 rfl (by decide) (by omega) u5 xs (Go.bits .or .u8 (m % 256) 128) [.int .u8 (Go.bits .or .u8 (m % 256) 128)] (fun _ => True) (fun _ => False) rfl rfl ?aP (fun _ hk => hk.elim) ?aF ?aO ?aB ?aS ?aL ?_; (case aP => exact rfl); (case aB => exact HW.out); (case aF => exact (fun _ _ => trivial)); (case aO => exact HO.out); (case aS => exact HW.out.size); (case aL => omega); (intro v1 w1 ho hb1 hg hat; have HO2 := Aside0.mk ho; have HW2 := Aside0.mk hb1; clear ho hb1 hg hat)))
      go_roundw
      case rel => exact ⟨m / 128, _, rfl, by omega, by omega, ⟨by rw [← HE.out, HP.out, HQ.out, List.append_assoc]; rfl⟩, HO2, HW2⟩
      case measure => simp [intOf]; omega

end Go.Proofs.Ytfcpnjoiloahcaa.Lc
