/- The fixed fact of the statements on files. -/
import Derived.Test.YtmklopaleiennaaFg
import Derived.Lib.SlBytesConst
namespace Go.Proofs.Ytmklopaleiennaa.Fd
open Go.RowKit Go.Proofs.YtmklopaleiennaaW.PrintWords Go.Proofs.YtmklopaleiennaaW.PrintLast Go.Proofs.YtmklopaleiennaaW.PrintMore Go.Proofs.Ytmklopaleiennaa.B Go.Proofs.Ytmklopaleiennaa.Fs Go.Proofs.Ytmklopaleiennaa.Fc Go.Proofs.Ytmklopaleiennaa.Fw Go.Proofs.Ytmklopaleiennaa.R
set_option linter.unusedVariables false
set_option linter.unusedSimpArgs false
set_option maxHeartbeats 4000000 in
set_option maxRecDepth 100000 in
theorem awake_calls (w : World) : Calls Try.prog 14 #[] w fun e w' => e = .returned (.bool true) ∧ Below w.heap.size w w' := by
  have hq1 : ((strOfNums [97, 98, 0, 0, 101]).toList == [97, 98, 0, 0, 101]) = true := by decide +kernel
  have b0 : By [97, 98] := by intro x hx; simp at hx; omega
  have b2 : By [99, 100] := by intro x hx; simp at hx; omega
  have b4 : By [101, 102] := by intro x hx; simp at hx; omega
  go_enter Try.func14, Try.ntmps14
  go_wp2_with (first
    | (go_at_call 15; refine (at_new w 99 _ (Below.refl _ _) (by decide) (by decide)).mono ?_; rintro e w1 ⟨g, rfl, h1⟩; have H1 := Aside0.mk h1; have hcv1 := Lib.run_convert_bytes_const (P := Try.prog) w1 22 5 #[.int .u8 97, .int .u8 98] 2 2 Try.underlying22 Try.underlying5; clear h1)
    | (go_at_call 16; refine (at_writeE (H1.out.alloc _) (by decide) 0 (by decide) (by decide) (some ⟨w1.heap.size, 0, none⟩) 2 _ [97, 98] rfl (C_litM .u8 5 w1 [97, 98] (2, 3) (by decide)) b0 0 [(0, [97, 98])] (by decide) (fun _ => rfl) (fun h => absurd rfl h)).mono ?_; rintro e w2 ⟨rfl, h2⟩; have H2 := Aside0.mk h2; clear h2 H1)
    | (go_at_call 17; refine (at_syncE H2.out [97, 98] rfl).mono ?_; rintro e w3 ⟨rfl, h3⟩; have H3 := Aside0.mk h3; clear H2; have hcv3 := Lib.run_convert_bytes_const (P := Try.prog) w3 22 5 #[.int .u8 99, .int .u8 100] 2 2 Try.underlying22 Try.underlying5; clear h3)
    | (go_at_call 16; refine (at_writeE (H3.out.alloc _) (by decide) 2 (by decide) (by decide) (some ⟨w3.heap.size, 0, none⟩) 2 _ [99, 100] rfl (C_litM .u8 5 w3 [99, 100] (2, 3) (by decide)) b2 0 [(2, [99, 100])] (by decide) (fun _ => rfl) (fun h => absurd rfl h)).mono ?_; rintro e w4 ⟨rfl, h4⟩; have H4 := Aside0.mk h4; have hcv4 := Lib.run_convert_bytes_const (P := Try.prog) w4 22 5 #[.int .u8 101, .int .u8 102] 2 2 Try.underlying22 Try.underlying5; clear h4 H3)
    | (go_at_call 16; refine (at_writeE (H4.out.alloc _) (by decide) 4 (by decide) (by decide) (some ⟨w4.heap.size, 0, none⟩) 2 _ [101, 102] rfl (C_litM .u8 5 w4 [101, 102] (2, 3) (by decide)) b4 0 [(2, [99, 100]), (4, [101, 102])] (by decide) (fun _ => rfl) (fun h => absurd rfl h)).mono ?_; rintro e w5 ⟨rfl, h5⟩; have H5 := Aside0.mk h5; clear h5 H4)
    | (go_at_call 18; refine (at_crashE H5.out ((Below.refl _ _).alloc (Nat.le_refl _) _) (some ⟨w5.heap.size, 0, none⟩) 2 _ [0, 1] rfl (C_lit .i64 3 w5 [0, 1] (by decide)) (fun a ha _ => (by injection ha with ha; subst ha; exact ⟨.inl (Nat.le_refl _), by simp⟩)) (by intro x hx; simp at hx; omega) [97, 98, 0, 0, 101] (by decide)).mono ?_; rintro e w6 ⟨rfl, h6⟩; have H6 := Aside0.mk h6; clear h6)
    | (go_at_call 19; refine (at_bytesE H6.out [97, 98, 0, 0, 101] 5 rfl rfl).mono ?_; rintro e w7 ⟨A7, c7, rfl, hC7, -, hb7, h7⟩; have hs7 := C_str (c := c7) hC7; have H7 := Aside0.mk h7; clear h7 hb7 hC7)
    | (go_at_call 20; refine (at_sure H7.out).mono ?_; rintro e w8 ⟨rfl, rfl⟩))
  go_ret
  exact ⟨rfl, H7.out.keep.below (Nat.le_refl _) (fun _ _ h => h)⟩
end Go.Proofs.Ytmklopaleiennaa.Fd
