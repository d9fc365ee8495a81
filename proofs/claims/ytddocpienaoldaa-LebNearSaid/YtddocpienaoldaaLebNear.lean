/- LebNear: a number below 0 has as many bytes as the one as far above, less one; unlike numbers have unlike bytes. No condition. -/
import Derived.Test.YtddocpienaoldaaRows
import Derived.ProofKit
import Derived.OpenShut
import Derived.ShutString
import Derived.ChangeOld
import Derived.SizedLaws
import Derived.Test.YtddocpienaoldaaLa
import Derived.Test.YtddocpienaoldaaLt
namespace Go.Proofs.Ytddocpienaoldaa.LebNear
open Go.ChangeShapes Go.WideShapes Go.ChangeAt Go.RowKit Go.Proofs.YtddocpienaoldaaW.PrintWords Go.Proofs.Ytddocpienaoldaa.B Go.Proofs.Ytddocpienaoldaa.Ls Go.Proofs.Ytddocpienaoldaa.Lc Go.Proofs.Ytddocpienaoldaa.La Go.Proofs.Ytddocpienaoldaa.Lt
set_option linter.unusedVariables false
theorem walk (a0 : Int) (w0 : (Lit.int .i64 a0).wf = true) (a1 : Int) (w1 : (Lit.int .i64 a1).wf = true) (w : World) :
    Calls Try.prog 5 #[.int .i64 a0, .int .i64 a1] w fun e w' => e = .returned (.bool true) ∧ Below w.heap.size w w' := by
  obtain ⟨h00, h01⟩ := wf_i64 w0
  obtain ⟨h10, h11⟩ := wf_i64 w1
  clear w0 w1
  go_enter Try.func5, Try.ntmps5
  go_wp2_with (first | (go_at_call 9; refine (awake_calls _).mono ?_; rintro e w1 ⟨rfl, hb1⟩))
  refine (putInt0_calls a0 _ h00 h01).mono ?_
  rintro e w2 ⟨A2, c2, rfl, -, hC2, hb2⟩
  go_wp2_with fail
  refine (putInt0_calls a1 _ h10 h11).mono ?_
  rintro e w3 ⟨A3, c3, rfl, -, hC3, hb3⟩
  go_wp2_with fail
  rw [xor_m1 a0 h00 h01]
  refine (putInt0_calls (-a0 - 1) _ (by omega) (by omega)).mono ?_
  rintro e w4 ⟨A4, c4, rfl, -, hC4, hb4⟩
  have hl4 : (((putl (zig a0).toNat).length : Int) == ((putl (zig (-a0 - 1)).toNat).length : Int)) = true := by rw [beq_iff_eq, zig_flip a0 h00 h01]
  have hs2 := Kd.C_string (P := Try.prog) Try.underlying22 Try.underlying5 Try.underlying9 (c := c2) (Kd.C_below (Kd.C_below hC2 hb3) hb4)
  have hs3 := Kd.C_string (P := Try.prog) Try.underlying22 Try.underlying5 Try.underlying9 (c := c3) (Kd.C_below hC3 hb4)
  have HB := Aside0.mk ((hb1.trans (hb2.mono hb1.size)).trans ((hb3.mono (by have := hb1.size; have := hb2.size; omega)).trans (hb4.mono (by have := hb1.size; have := hb2.size; have := hb3.size; omega))))
  clear hb1 hb2 hb3 hb4 hC2 hC3 hC4
  go_wp2
  go_ret
  refine ⟨ret_bool ?_, HB.out⟩
  rw [str_beq _ _ (putl_by _) (putl_by _), beq_iff_eq, Bool.eq_iff_iff, beq_iff_eq, beq_iff_eq]
  constructor
  · intro h
    have h1 := putl_inj _ _ h
    have r0 := zig_range a0 h00 h01
    have r1 := zig_range a1 h10 h11
    exact zig_inj _ _ (by omega)
  · rintro rfl
    rfl
theorem own : ownKnob Try.prog.godebug = none := by kernel_rfl
set_option maxRecDepth 100000 in
theorem lifted (os : Os) (started : os.Started) (H : Type) (enc : TypeId × Value → H) :
    ReturnsInHanded {} Try.checked os 5 .any (Rows.lebNearSpec.pre6 enc Try.prog Try.f5 Rows.lebNearRow.domain false) (Rows.lebNearSpec.post enc Try.prog Try.f5 false true false false) := by
  refine returnsInHanded_of_change_sized (C := Try.checked) own started (by kernel_rfl) Try.func5
    (ChangeSpec.witness6 (enc := enc) (C := Try.checked) false ⟨#[], #[.int .i64 0, .int .i64 0], []⟩ 8 (by kernel_rfl) (by kernel_rfl) (by kernel_rfl) (by kernel_rfl)) ?_
  intro W base args ds gs before hval0 hW hcnd hsz0 _
  have hsz : (DataW.weightsEach Try.prog (Try.f5.params.toList ++ Rows.lebNearSpec.plain.varTypes Try.prog) (ds ++ gs)).all (· ≤ reachBytes) = true := hsz0
  have hval : ∀ (j : Nat) t v, Try.f5.params[j]? = some t → args[j]? = some v → Value.okWide Try.prog W .any base t v := hval0
  have hW' := hW
  obtain ⟨p, q, hA0, hV, rfl, hfz, hnd⟩ := hW
  have hA : DataW.TrodAll enc Try.prog W 0 (fun _ => true) true Try.f5.params.toList args.toList ds p := hA0
  rw [Try.params5] at hA hval hsz
  obtain ⟨v0, vs0, d0, ds0, p0, q0, hargs, rfl, rfl, h0, r0⟩ := trodAll_cons hA
  obtain ⟨v1, vs1, d1, ds1, p1, q1, rfl, rfl, rfl, h1, r1⟩ := trodAll_cons r0
  obtain ⟨rfl, rfl, rfl⟩ := trodAll_nil r1
  obtain rfl : args = #[v0, v1] := by cases args; simp_all
  obtain ⟨rfl, rfl⟩ := trodVars_none hV
  obtain ⟨a0, rfl, rfl, rfl, w0⟩ := open_int Try.underlying2 (hval 0 2 v0 rfl rfl) h0
  obtain ⟨a1, rfl, rfl, rfl, w1⟩ := open_int Try.underlying2 (hval 1 2 v1 rfl rfl) h1
  clear hA0 hval0 hsz0 hsz
  refine (walk a0 w0 a1 w1 W).mono fun e W' ⟨he, bel⟩ => ?_
  subst he
  exact ⟨_, rfl, _, _, _, [], _, [], hW', trodAll_mk1 (shut_bool Try.underlying4 _), (trodAll_cons_mk (shut_int Try.underlying2 w0) (trodAll_cons_mk (shut_int Try.underlying2 w1) trodAll_mk0)), rfl, bel.frame _, fun h => by cases h⟩
theorem over : Rows.lebNearRow.holds Try.pinned (OpenSpec.ofChange Rows.lebNearSpec) :=
  OpenClaim.holds_of_wide 5 Try.f5 rfl rfl rfl rfl rfl rfl rfl ⟨rfl, rfl, rfl, rfl, rfl⟩ rfl rfl rfl rfl rfl (by kernel_rfl) Try.func5 (by kernel_rfl)
    (of_decide_eq_true (by kernel_rfl)) (by unfold Func.isWrapper; first | (rw [if_pos (by decide +kernel)]; kernel_rfl) | (rw [if_neg (by decide +kernel)]; exact ⟨rfl, rfl⟩))
    (fun os started H enc _ => lifted os started H enc)
end Go.Proofs.Ytddocpienaoldaa.LebNear
namespace Go.Proofs.Ytddocpienaoldaa
/-- The statement. -/
theorem lebNear_holds : Rows.LebNearSaid := LebNear.over
#print axioms lebNear_holds
end Go.Proofs.Ytddocpienaoldaa
