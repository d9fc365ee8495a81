/- LebSize: a greater number has no fewer bytes; none has more than ten. No condition. -/
import Derived.Test.YtddocpienaoldaaRows
import Derived.ProofKit
import Derived.OpenShut
import Derived.ShutString
import Derived.ChangeOld
import Derived.SizedLaws
import Derived.Test.YtddocpienaoldaaLa
namespace Go.Proofs.Ytddocpienaoldaa.LebSize
open Go.ChangeShapes Go.WideShapes Go.ChangeAt Go.RowKit Go.Proofs.YtddocpienaoldaaW.PrintWords Go.Proofs.Ytddocpienaoldaa.B Go.Proofs.Ytddocpienaoldaa.Ls Go.Proofs.Ytddocpienaoldaa.Lc Go.Proofs.Ytddocpienaoldaa.La
set_option linter.unusedVariables false

theorem putl_mono (m n : Nat) (h : m ≤ n) : (putl m).length ≤ (putl n).length := by
  induction n using Nat.strongRecOn generalizing m with
  | ind n ih =>
    by_cases hn : n < 128
    · rw [putl_lt hn, putl_lt (show m < 128 by omega)]
      exact Nat.le_refl _
    · rw [putl_ge hn, List.length_cons]
      by_cases hm : m < 128
      · rw [putl_lt hm]
        simp
      · rw [putl_ge hm, List.length_cons]
        have := ih (n / 128) (by omega) (m / 128) (by omega)
        omega
theorem walk (a0 : Int) (w0 : (Lit.int .u64 a0).wf = true) (a1 : Int) (w1 : (Lit.int .u64 a1).wf = true) (w : World) :
    Calls Try.prog 4 #[.int .u64 a0, .int .u64 a1] w fun e w' => e = .returned (.bool true) ∧ Below w.heap.size w w' := by
  obtain ⟨h00, h01⟩ := wf_u64 w0
  obtain ⟨h10, h11⟩ := wf_u64 w1
  clear w0 w1
  have key : ∀ x y : Int, 0 ≤ x → y < 18446744073709551616 → x ≤ y → 1 ≤ (putl x.toNat).length ∧ (putl x.toNat).length ≤ (putl y.toNat).length ∧ (putl y.toNat).length ≤ 10 := fun x y hx hy hxy =>
    ⟨(putl_len _).1, putl_mono _ _ (by omega), putl_ten _ (by omega)⟩
  by_cases hlt : a1 < a0
  · obtain ⟨k1, k2, k3⟩ := key a1 a0 h10 h01 (by omega)
    clear key
    go_enter Try.func4, Try.ntmps4
    go_wp2_with (first | (go_at_call 9; refine (awake_calls _).mono ?_; rintro e w1 ⟨rfl, hb1⟩))
    refine (put0_calls a1 _ h10 h11).mono ?_
    rintro e w2 ⟨A2, c2, rfl, -, -, hb2⟩
    go_wp2_with fail
    refine (put0_calls a0 _ h00 h01).mono ?_
    rintro e w3 ⟨A3, c3, rfl, -, -, hb3⟩
    go_wp2
    go_ret
    exact ⟨ret_bool (decide_eq_true (by omega)), (hb1.trans (hb2.mono hb1.size)).trans (hb3.mono (by have := hb1.size; have := hb2.size; omega))⟩
  · rcases (show a0 < a1 ∨ a0 = a1 by omega) with hl2 | rfl
    · obtain ⟨k1, k2, k3⟩ := key a0 a1 h00 h11 (by omega)
      clear key hlt
      go_enter Try.func4, Try.ntmps4
      go_wp2_with (first | (go_at_call 9; refine (awake_calls _).mono ?_; rintro e w1 ⟨rfl, hb1⟩))
      refine (put0_calls a0 _ h00 h01).mono ?_
      rintro e w2 ⟨A2, c2, rfl, -, -, hb2⟩
      go_wp2_with fail
      refine (put0_calls a1 _ h10 h11).mono ?_
      rintro e w3 ⟨A3, c3, rfl, -, -, hb3⟩
      go_wp2
      go_ret
      exact ⟨ret_bool (decide_eq_true (by omega)), (hb1.trans (hb2.mono hb1.size)).trans (hb3.mono (by have := hb1.size; have := hb2.size; omega))⟩
    · obtain ⟨k1, k2, k3⟩ := key a0 a0 h00 h01 (by omega)
      clear key hlt
      go_enter Try.func4, Try.ntmps4
      go_wp2_with (first | (go_at_call 9; refine (awake_calls _).mono ?_; rintro e w1 ⟨rfl, hb1⟩))
      refine (put0_calls a0 _ h00 h01).mono ?_
      rintro e w2 ⟨A2, c2, rfl, -, -, hb2⟩
      go_wp2_with fail
      refine (put0_calls a0 _ h00 h01).mono ?_
      rintro e w3 ⟨A3, c3, rfl, -, -, hb3⟩
      go_wp2
      go_ret
      exact ⟨ret_bool (decide_eq_true (by omega)), (hb1.trans (hb2.mono hb1.size)).trans (hb3.mono (by have := hb1.size; have := hb2.size; omega))⟩
theorem own : ownKnob Try.prog.godebug = none := by kernel_rfl
set_option maxRecDepth 100000 in
theorem lifted (os : Os) (started : os.Started) (H : Type) (enc : TypeId × Value → H) :
    ReturnsInHanded {} Try.checked os 4 .any (Rows.lebSizeSpec.pre6 enc Try.prog Try.f4 Rows.lebSizeRow.domain false) (Rows.lebSizeSpec.post enc Try.prog Try.f4 false true false false) := by
  refine returnsInHanded_of_change_sized (C := Try.checked) own started (by kernel_rfl) Try.func4
    (ChangeSpec.witness6 (enc := enc) (C := Try.checked) false ⟨#[], #[.int .u64 0, .int .u64 0], []⟩ 8 (by kernel_rfl) (by kernel_rfl) (by kernel_rfl) (by kernel_rfl)) ?_
  intro W base args ds gs before hval0 hW hcnd hsz0 _
  have hsz : (DataW.weightsEach Try.prog (Try.f4.params.toList ++ Rows.lebSizeSpec.plain.varTypes Try.prog) (ds ++ gs)).all (· ≤ reachBytes) = true := hsz0
  have hval : ∀ (j : Nat) t v, Try.f4.params[j]? = some t → args[j]? = some v → Value.okWide Try.prog W .any base t v := hval0
  have hW' := hW
  obtain ⟨p, q, hA0, hV, rfl, hfz, hnd⟩ := hW
  have hA : DataW.TrodAll enc Try.prog W 0 (fun _ => true) true Try.f4.params.toList args.toList ds p := hA0
  rw [Try.params4] at hA hval hsz
  obtain ⟨v0, vs0, d0, ds0, p0, q0, hargs, rfl, rfl, h0, r0⟩ := trodAll_cons hA
  obtain ⟨v1, vs1, d1, ds1, p1, q1, rfl, rfl, rfl, h1, r1⟩ := trodAll_cons r0
  obtain ⟨rfl, rfl, rfl⟩ := trodAll_nil r1
  obtain rfl : args = #[v0, v1] := by cases args; simp_all
  obtain ⟨rfl, rfl⟩ := trodVars_none hV
  obtain ⟨a0, rfl, rfl, rfl, w0⟩ := open_int Try.underlying23 (hval 0 23 v0 rfl rfl) h0
  obtain ⟨a1, rfl, rfl, rfl, w1⟩ := open_int Try.underlying23 (hval 1 23 v1 rfl rfl) h1
  clear hA0 hval0 hsz0 hsz
  refine (walk a0 w0 a1 w1 W).mono fun e W' ⟨he, bel⟩ => ?_
  subst he
  exact ⟨_, rfl, _, _, _, [], _, [], hW', trodAll_mk1 (shut_bool Try.underlying4 _), (trodAll_cons_mk (shut_int Try.underlying23 w0) (trodAll_cons_mk (shut_int Try.underlying23 w1) trodAll_mk0)), rfl, bel.frame _, fun h => by cases h⟩
theorem over : Rows.lebSizeRow.holds Try.pinned (OpenSpec.ofChange Rows.lebSizeSpec) :=
  OpenClaim.holds_of_wide 4 Try.f4 rfl rfl rfl rfl rfl rfl rfl ⟨rfl, rfl, rfl, rfl, rfl⟩ rfl rfl rfl rfl rfl (by kernel_rfl) Try.func4 (by kernel_rfl)
    (of_decide_eq_true (by kernel_rfl)) (by unfold Func.isWrapper; first | (rw [if_pos (by decide +kernel)]; kernel_rfl) | (rw [if_neg (by decide +kernel)]; exact ⟨rfl, rfl⟩))
    (fun os started H enc _ => lifted os started H enc)
end Go.Proofs.Ytddocpienaoldaa.LebSize
namespace Go.Proofs.Ytddocpienaoldaa
/-- The statement. -/
theorem lebSize_holds : Rows.LebSizeSaid := LebSize.over
#print axioms lebSize_holds
end Go.Proofs.Ytddocpienaoldaa
