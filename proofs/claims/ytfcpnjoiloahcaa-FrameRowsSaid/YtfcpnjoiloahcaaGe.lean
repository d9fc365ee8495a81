/- What frames laid come to. -/
import Derived.Test.YtfcpnjoiloahcaaGd
namespace Go.Proofs.Ytfcpnjoiloahcaa.Gc
open Go.RowKit Go.Proofs.YtfcpnjoiloahcaaW.PrintWords Go.Proofs.YtfcpnjoiloahcaaW.PrintLast Go.Proofs.YtfcpnjoiloahcaaW.PrintMore Go.Proofs.Ytfcpnjoiloahcaa.B Go.Proofs.Ytfcpnjoiloahcaa.Ls Go.Proofs.Ytfcpnjoiloahcaa.Gs Go.Proofs.Ytfcpnjoiloahcaa.S
set_option linter.unusedVariables false
set_option linter.unusedSimpArgs false
theorem lay_eq (k : Int) (b : List Int) : (([111, k] ++ putl b.length) ++ check k b) ++ b = layL k b := by simp [layL]
theorem lay_long (k : Int) (A : Option Addr) (c : Nat) (b : List Int) (w : World) (hl : 65536 < b.length) :
    Calls Try.prog 35 #[.int .u8 k, .slice A b.length c] w fun e w' => e = .returned (.tuple #[.slice none 0 0, .int .i64 4]) ∧ w = w' := by
  go_enter Try.func35, Try.ntmps35
  go_wp2
  go_ret2
  exact ⟨rfl, rfl⟩
set_option maxHeartbeats 4000000 in
set_option maxRecDepth 100000 in
theorem lay_calls (k : Int) (hk0 : 0 ≤ k) (hk1 : k < 256) (A : Option Addr) (c : Nat) (b : List Int) (w : World) (hC : kU8.C w A b.length b) (hc : b.length ≤ c) (hby : By b) (hl : b.length ≤ 65536) :
    Calls Try.prog 35 #[.int .u8 k, .slice A b.length c] w fun e w' => ∃ v, e = .returned (.tuple #[v, .int .i64 0]) ∧ kU8.R 5 w' w.heap.size (fun _ => True) v (layL k b) ∧ Below w.heap.size w w' := by
  have HC := Aside0.mk hC
  have HBY := Aside0.mk hby
  have HE := Aside0.mk (show fourV k b = .agg #[.int .u8 (sumL (k :: b) % 256), .int .u8 (sumL (k :: b) / 256 % 256), .int .u8 (sumL (k :: b) / 65536 % 256), .int .u8 (sumL (k :: b) / 16777216)] from rfl)
  have HCE := Aside0.mk (check_eq k b)
  obtain ⟨n, hn⟩ : ∃ n, sumL (k :: b) = n := ⟨_, rfl⟩
  rw [hn] at HE HCE
  obtain ⟨ph, hph⟩ : ∃ ph, [111, k] ++ putl b.length = ph := ⟨_, rfl⟩
  have hpl := (putl_three hl).2
  have hpl2 : ph.length ≤ 5 := by rw [← hph, List.length_append]; simp; omega
  have HPH := Aside0.mk hph
  have HLE := Aside0.mk (lay_eq k b)
  rw [hph] at HLE
  clear hC hby hn hph hpl
  have y1 := wrU64 (b.length : Int) (by omega) (by omega)
  go_enter Try.func35, Try.ntmps35
  go_wp2_with (first
    | (go_at_call 53; refine (Lc.put_calls (some ⟨w.heap.size, 0, none⟩) 2 [111, k] b.length _ (C_lit .u8 5 w [111, k] (by simp)) (by simp) (by omega) (by omega)).mono ?_; rintro e w1 ⟨v1, rfl, ho1, hb1⟩; rw [Int.toNat_natCast, HPH.out] at ho1; have HO1 := Aside0.mk (Kd.R_lower (base' := w.heap.size) ho1 (by simp)); have HB1 := Aside0.mk (((Below.refl w.heap.size w).alloc (Nat.le_refl _) (.cells #[.int .u8 111, .int .u8 k] 5)).trans (hb1.mono (by simp))); clear ho1 hb1)
    | (go_at_call 54; refine (four_calls k hk0 hk1 A c b _ (Kd.C_below HC.out HB1.out) hc HBY.out).mono ?_; rw [HE.out]; rintro e w2 ⟨rfl, hb2⟩; have HB2 := Aside0.mk (HB1.out.trans (hb2.mono HB1.out.size)); have HO2 := Aside0.mk (Kd.R_below HO1.out hb2); clear hb2)
    | ((with_reducible refine gate_builtin (b := .append) (xs := #[.tmp 20, .tmp 21]) rfl ?_); at_builtin; refine Kd.R_append_rows (Kd.int .u8) (w0 := w) w.heap.size rfl (.tmp 20) (.tmp 21) 24 5 (.int .u8 0) 1 rfl Try.underlying24 infoU8 rfl (by decide) (by omega) v1 ph (check k b) _ _ _ (fun _ => True) (fun _ => False) rfl rfl ?aO ?aR (fun _ _ h => h) (fun _ h => h.elim) ?aF ?aB ?aS ?aL ?_; (case aR => exact (by rw [HCE.out]; exact C_lit .u8 104 w2 [n % 256, n / 256 % 256, n / 65536 % 256, n / 16777216] (by simp))); (case aB => exact (HB2.out.alloc HB2.out.size _)); (case aF => exact (fun _ _ => trivial)); (case aO => exact (Kd.R_below HO2.out ((Below.refl _ _).alloc (Nat.le_refl _) _))); (case aS => (simp only [World.size_alloc]; have := HB2.out.size; omega)); (case aL => omega); (intro v3 w3 ho3 hb3 hg hat; have HO3 := Aside0.mk ho3; have HB3 := Aside0.mk hb3; clear ho3 hb3 hg hat))
    | ((with_reducible refine gate_builtin (b := .append) (xs := #[.tmp 22, .tmp 23]) rfl ?_); at_builtin; refine Kd.R_append_rows (Kd.int .u8) (w0 := w) w.heap.size rfl (.tmp 22) (.tmp 23) 24 5 (.int .u8 0) 1 rfl Try.underlying24 infoU8 rfl (by decide) (by omega) v3 (ph ++ check k b) b _ _ _ (fun _ => True) (fun _ => False) rfl rfl ?aO ?aR (fun _ _ h => h) (fun _ h => h.elim) ?aF ?aB ?aS ?aL ?_; (case aR => exact (Kd.C_below HC.out HB3.out)); (case aB => exact HB3.out); (case aF => exact (fun _ _ => trivial)); (case aO => exact HO3.out); (case aS => (exact HB3.out.size)); (case aL => (simp only [List.length_append, check_len]; omega)); (intro v4 w4 ho4 hb4 hg hat; rw [HLE.out] at ho4; have HO4 := Aside0.mk ho4; have HB4 := Aside0.mk hb4; clear ho4 hb4 hg hat)))
  go_ret2
  exact ⟨_, rfl, HO4.out, HB4.out⟩
set_option maxHeartbeats 4000000 in
set_option maxRecDepth 100000 in
theorem rlay_calls (k : Int) (hk0 : 0 ≤ k) (hk1 : k < 256) (A : Option Addr) (c : Nat) (b : List Int) (w : World) (hC : kU8.C w A b.length b) (hby : By b) (hl : b.length ≤ 1000000) :
    Calls Try.prog 11 #[.int .u8 k, .slice A b.length c] w fun e w' => ∃ v, e = .returned v ∧ kU8.R 5 w' w.heap.size (fun _ => True) v (layL k b) ∧ Below w.heap.size w w' := by
  have HC := Aside0.mk hC
  have HBY := Aside0.mk hby
  obtain ⟨ph, hph⟩ : ∃ ph, [111, k] ++ putl b.length = ph := ⟨_, rfl⟩
  have hpl := putl_ten b.length (by omega)
  have hpl2 : ph.length ≤ 12 := by rw [← hph, List.length_append]; simp; omega
  have HPH := Aside0.mk hph
  have HLE := Aside0.mk (lay_eq k b)
  rw [hph] at HLE
  clear hC hby hph hpl
  have y1 := wrU64 (b.length : Int) (by omega) (by omega)
  go_enter Try.func11, Try.ntmps11
  go_wp2_with (first
    | (go_at_call 29; refine (Lr.put_calls (some ⟨w.heap.size, 0, none⟩) 2 [111, k] b.length _ (C_lit .u8 5 w [111, k] (by simp)) (by simp) (by omega) (by omega)).mono ?_; rintro e w1 ⟨v1, rfl, ho1, hb1⟩; rw [Int.toNat_natCast, HPH.out] at ho1; have HO1 := Aside0.mk (Kd.R_lower (base' := w.heap.size) ho1 (by simp)); have HB1 := Aside0.mk (((Below.refl w.heap.size w).alloc (Nat.le_refl _) (.cells #[.int .u8 111, .int .u8 k] 5)).trans (hb1.mono (by simp))); clear ho1 hb1)
    | (go_at_call 37; refine (check_calls k hk0 hk1 A c b b.length rfl _ (Kd.C_below HC.out HB1.out) (by omega) HBY.out).mono ?_; rintro e w2 ⟨g2, rfl, hC9, hb2⟩; have HB2 := Aside0.mk (HB1.out.trans (hb2.mono HB1.out.size)); have HO2 := Aside0.mk (Kd.R_below HO1.out hb2); have HC2 := Aside0.mk hC9; clear hb2 hC9)
    | ((with_reducible refine gate_builtin (b := .append) (xs := #[.tmp 10, .tmp 13]) rfl ?_); at_builtin; refine Kd.R_append_rows (Kd.int .u8) (w0 := w) w.heap.size rfl (.tmp 10) (.tmp 13) 24 5 (.int .u8 0) 1 rfl Try.underlying24 infoU8 rfl (by decide) (by omega) v1 ph (check k b) _ _ _ (fun _ => True) (fun _ => False) rfl rfl ?aO ?aR (fun _ _ h => h) (fun _ h => h.elim) ?aF ?aB ?aS ?aL ?_; (case aR => exact HC2.out); (case aB => exact HB2.out); (case aF => exact (fun _ _ => trivial)); (case aO => exact HO2.out); (case aS => (exact HB2.out.size)); (case aL => omega); (intro v3 w3 ho3 hb3 hg hat; have HO3 := Aside0.mk ho3; have HB3 := Aside0.mk hb3; clear ho3 hb3 hg hat))
    | ((with_reducible refine gate_builtin (b := .append) (xs := #[.tmp 14, .tmp 15]) rfl ?_); at_builtin; refine Kd.R_append_rows (Kd.int .u8) (w0 := w) w.heap.size rfl (.tmp 14) (.tmp 15) 24 5 (.int .u8 0) 1 rfl Try.underlying24 infoU8 rfl (by decide) (by omega) v3 (ph ++ check k b) b _ _ _ (fun _ => True) (fun _ => False) rfl rfl ?aO ?aR (fun _ _ h => h) (fun _ h => h.elim) ?aF ?aB ?aS ?aL ?_; (case aR => exact (Kd.C_below HC.out HB3.out)); (case aB => exact HB3.out); (case aF => exact (fun _ _ => trivial)); (case aO => exact HO3.out); (case aS => (exact HB3.out.size)); (case aL => (simp only [List.length_append, check_len]; omega)); (intro v4 w4 ho4 hb4 hg hat; rw [HLE.out] at ho4; have HO4 := Aside0.mk ho4; have HB4 := Aside0.mk hb4; clear ho4 hb4 hg hat)))
  go_ret
  exact ⟨_, rfl, HO4.out, HB4.out⟩
end Go.Proofs.Ytfcpnjoiloahcaa.Gc
