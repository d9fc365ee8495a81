/- The fixed facts of the statements on numbers. -/
import Derived.Test.YtddocpienaoldaaLp
import Derived.Test.YtddocpienaoldaaLd
namespace Go.Proofs.Ytddocpienaoldaa.La
open Go.RowKit Go.Proofs.YtddocpienaoldaaW.PrintWords Go.Proofs.YtddocpienaoldaaW.PrintLast Go.Proofs.YtddocpienaoldaaW.PrintMore Go.Proofs.Ytddocpienaoldaa.B Go.Proofs.Ytddocpienaoldaa.Ls Go.Proofs.Ytddocpienaoldaa.Lc
set_option linter.unusedVariables false
set_option linter.unusedSimpArgs false

theorem put0_calls (n : Int) (w : World) (h0 : 0 ≤ n) (h1 : n < 18446744073709551616) :
    Calls Try.prog 10 #[.slice none 0 0, .int .u64 n] w fun e w' => ∃ A c, e = .returned (.slice A (putl n.toNat).length c) ∧ kU8.R 5 w' w.heap.size (fun _ => True) (.slice A (putl n.toNat).length c) (putl n.toNat) ∧ kU8.C w' A (putl n.toNat).length (putl n.toNat) ∧ Below w.heap.size w w' :=
  (put_calls none 0 [] n w (C_nil _ _) (by simp) h0 h1).mono (by
    rintro e w' ⟨v, rfl, ho, hb⟩
    rw [List.nil_append] at ho
    obtain ⟨A, c, rfl, -, hC⟩ := Kd.R_reads ho
    exact ⟨A, c, rfl, ho, hC, hb⟩)
theorem putInt0_calls (n : Int) (w : World) (h0 : -9223372036854775808 ≤ n) (h1 : n ≤ 9223372036854775807) :
    Calls Try.prog 11 #[.slice none 0 0, .int .i64 n] w fun e w' => ∃ A c, e = .returned (.slice A (putl (zig n).toNat).length c) ∧ kU8.R 5 w' w.heap.size (fun _ => True) (.slice A (putl (zig n).toNat).length c) (putl (zig n).toNat) ∧ kU8.C w' A (putl (zig n).toNat).length (putl (zig n).toNat) ∧ Below w.heap.size w w' :=
  (putInt_calls none 0 [] n w (C_nil _ _) (by simp) h0 h1).mono (by
    rintro e w' ⟨v, rfl, ho, hb⟩
    rw [List.nil_append] at ho
    obtain ⟨A, c, rfl, -, hC⟩ := Kd.R_reads ho
    exact ⟨A, c, rfl, ho, hC, hb⟩)
theorem put300 (w : World) : Calls Try.prog 10 #[.slice none 0 0, .int .u64 300] w fun e w' => ∃ A c, e = .returned (.slice A 2 c) ∧ kU8.C w' A 2 [172, 2] ∧ Below w.heap.size w w' := by
  have h := put0_calls 300 w (by decide) (by decide)
  have e : putl (300 : Int).toNat = [172, 2] := by
    show putl 300 = _
    rw [putl_ge (by decide), putl_lt (by decide)]; rfl
  rw [e] at h
  exact h.mono fun e w' ⟨A, c, h1, _, h2, h3⟩ => ⟨A, c, h1, h2, h3⟩
theorem putm1 (w : World) : Calls Try.prog 11 #[.slice none 0 0, .int .i64 (-1)] w fun e w' => ∃ A c, e = .returned (.slice A 1 c) ∧ kU8.C w' A 1 [1] ∧ Below w.heap.size w w' := by
  have h := putInt0_calls (-1) w (by decide) (by decide)
  have e : putl (zig (-1)).toNat = [1] := by
    show putl 1 = _
    rw [putl_lt (by decide)]; rfl
  rw [e] at h
  exact h.mono fun e w' ⟨A, c, h1, _, h2, h3⟩ => ⟨A, c, h1, h2, h3⟩

set_option maxHeartbeats 1000000 in
theorem awake_calls (w : World) : Calls Try.prog 9 #[] w fun e w' => e = .returned (.bool true) ∧ Below w.heap.size w w' := by
  have hnum : num [128, 0] 0 = (0, [128, 0], 8) := by decide
  have hq1 : ((strOfNums [172, 2]).toList == [172, 2]) = true := by decide +kernel
  have hq2 : ((strOfNums [1]).toList == [1]) = true := by decide +kernel
  have hby : By [128, 0] := by intro x hx; simp at hx; omega
  have HNUM := Aside0.mk hnum
  have HY := Aside0.mk hby
  clear hnum hby
  go_enter Try.func9, Try.ntmps9
  go_wp2_with (first
    | (go_at_call 14; refine (new_calls (some ⟨w.heap.size, 0, none⟩) 2 [128, 0] _ ?hC0 (by decide)).mono ?_; (case hC0 => exact C_lit .u8 5 w [128, 0] (by decide)); rintro e w1 ⟨g, b, rfl, hr, hb1, hg, hbb, hbl⟩; have HR := Aside0.mk hr; have HB1 := Aside0.mk hb1; clear hr hb1)
    | (go_at_call 15; refine (num_calls g b [128, 0] 0 _ HR.out HY.out).mono ?_; rw [HNUM.out]; rintro e w2 ⟨rfl, hr2, hk2, hs2⟩; have HR2 := Aside0.mk hr2; have HK2 := Aside0.mk hk2; clear hr2 hk2)
    | (go_at_call 10; refine (put300 _).mono ?_; rintro e w3 ⟨A3, c3, rfl, hC3, hb3⟩; have hstr3 := Kd.C_string (P := Try.prog) Try.underlying22 Try.underlying5 Try.underlying9 (c := c3) hC3; have HB3 := Aside0.mk hb3; clear hb3 hC3)
    | (go_at_call 11; refine (putm1 _).mono ?_; rintro e w4 ⟨A4, c4, rfl, hC4, hb4⟩; have hstr4 := Kd.C_string (P := Try.prog) Try.underlying22 Try.underlying5 Try.underlying9 (c := c4) hC4; have HB4 := Aside0.mk hb4; clear hb4 hC4)
    | (go_at_call 27; refine (code_calls g b [128, 0] 8 _ ?hR5).mono ?_; (case hR5 => exact (HR2.out.below HB3.out (by omega)).below HB4.out (by have := HB3.out.size; omega)); rintro e w5 ⟨rfl, rfl⟩))
  go_ret
  have hsz : (w.alloc (.cells #[.int .u8 128, .int .u8 0] 5)).heap.size = w.heap.size + 1 := World.size_alloc _ _
  have h1 := HB1.out
  have h0 : Below w.heap.size w (w.alloc (.cells #[.int .u8 128, .int .u8 0] 5)) := (Below.refl _ _).alloc (Nat.le_refl _) _
  have hz1 := h1.size
  have h12 := Keep.below_then (h0.trans (h1.mono (by omega))) HK2.out (by omega) (fun i hi e => by omega)
  have hz3 := HB3.out.size
  exact ⟨rfl, (h12.trans (HB3.out.mono (by omega))).trans (HB4.out.mono (by omega))⟩
end Go.Proofs.Ytddocpienaoldaa.La
