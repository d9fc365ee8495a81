/- LebOne: whatever bytes are a number, they are the one way to put it. No condition. -/
import Derived.Test.YtddocpienaoldaaRows
import Derived.ProofKit
import Derived.OpenShut
import Derived.ShutString
import Derived.ChangeOld
import Derived.SizedLaws
import Derived.Test.YtddocpienaoldaaWSized
import Derived.Test.YtddocpienaoldaaLa
import Derived.Test.YtddocpienaoldaaLt
namespace Go.Proofs.Ytddocpienaoldaa.LebOne
open Go.ChangeShapes Go.WideShapes Go.ChangeAt Go.RowKit Go.Proofs.YtddocpienaoldaaW.PrintWords Go.Proofs.Ytddocpienaoldaa.B Go.Proofs.Ytddocpienaoldaa.Ls Go.Proofs.Ytddocpienaoldaa.Lc Go.Proofs.Ytddocpienaoldaa.La Go.Proofs.Ytddocpienaoldaa.Lt
set_option linter.unusedVariables false
set_option maxHeartbeats 1000000 in
theorem walk (w : World) (A : Option Addr) (c : Nat) (l : List Int) (hC : kU8.C w A l.length l) (hcap : l.length ≤ c) (hm : l.length * 1 ≤ 140737488351232) (hwf : ∀ x ∈ l, (Lit.int .u8 x).wf = true) :
    Calls Try.prog 6 #[.slice A l.length c] w fun e w' => e = .returned (.bool true) ∧ Below w.heap.size w w' := by
  have HY := Aside0.mk (show By l from fun x hx => wf_u8 (hwf x hx))
  have HC := Aside0.mk hC
  clear hwf hC
  by_cases h30 : 30 < l.length
  · go_enter Try.func6, Try.ntmps6
    go_wp2_with (first | (go_at_call 9; refine (awake_calls _).mono ?_; rintro e w1 ⟨rfl, hb1⟩))
    go_ret
    exact ⟨rfl, hb1⟩
  · obtain ⟨n, r, cd, hn⟩ : ∃ n r cd, num l 0 = (n, r, cd) := ⟨_, _, _, rfl⟩
    have hrg := num_range l 0 HY.out
    rw [hn] at hrg
    obtain ⟨hn0, hn1⟩ := hrg
    have HN := Aside0.mk hn
    clear hn
    by_cases he : ended r cd = 0
    · have heb : (ended r cd != 0) = false := bne_eq_false_iff_eq.mpr he
      have hrc : r = [] ∧ cd = 0 := by
        unfold ended failed at he
        split at he
        · split at he <;> omega
        · exact ⟨List.eq_nil_of_length_eq_zero (by omega), he⟩
      obtain ⟨rfl, rfl⟩ := hrc
      have HL := Aside0.mk (num_one l n HY.out HN.out)
      clear he
      go_enter Try.func6, Try.ntmps6
      go_wp2_with (first
        | (go_at_call 9; refine (awake_calls _).mono ?_; rintro e w1 ⟨rfl, hb1⟩; have hC1 := Kd.C_below HC.out hb1; have HC1 := Aside0.mk hC1; clear hC1)
        | (go_at_call 14; refine (new_calls A c l _ HC1.out (by omega)).mono ?_; rintro e w2 ⟨g, b, rfl, hr2, hb2, hg2, hbb, hbl⟩; have HR2 := Aside0.mk hr2; clear hr2)
        | (go_at_call 15; refine (num_calls g b l 0 _ HR2.out HY.out).mono ?_; rw [HN.out]; rintro e w3 ⟨rfl, hr3, hk3, hs3⟩; have HR3 := Aside0.mk hr3; have HK3 := Aside0.mk hk3; clear hr3 hk3)
        | (go_at_call 16; refine (end_calls g b [] 0 _ HR3.out).mono ?_; rintro e w4 ⟨rfl, hr4, hk4, hs4⟩; have HK4 := Aside0.mk hk4; clear hr4 hk4))
      have hsz : w1.heap.size ≤ w4.heap.size := by have := hb2.size; omega
      have HB4 := Aside0.mk (Keep.below_then (N := w1.heap.size) hb2 (HK3.out.trans HK4.out) hb2.size (fun i hi e => by omega))
      have HC4 := Aside0.mk (Kd.C_below HC1.out HB4.out)
      have hq := Kd.C_string (P := Try.prog) Try.underlying22 Try.underlying5 Try.underlying9 (c := c) (Kd.C_drew HC4.out)
      go_region_with (go_at_call 10; refine (put0_calls n _ hn0 hn1).mono ?_; rintro e w5 ⟨A5, c5, rfl, -, hC5, hb5⟩; have hs5 := Kd.C_string (P := Try.prog) Try.underlying22 Try.underlying5 Try.underlying9 (c := c5) hC5; have hs6 := Kd.C_string (P := Try.prog) Try.underlying22 Try.underlying5 Try.underlying9 (c := c) (Kd.C_below (Kd.C_drew HC4.out) hb5); have HB5 := Aside0.mk hb5; clear hb5 hC5)
      all_goals
        go_wp2
        go_ret
        refine ⟨ret_bool ?_, (hb1.trans (HB4.out.mono hb1.size)).drew.trans ((HB5.out.mono (by have := hb1.size; show w.heap.size ≤ w4.heap.size; omega)))⟩
        rw [str_beq _ _ (putl_by _) HY.out, beq_iff_eq]
        exact HL.out.symm
    · have heb : (ended r cd != 0) = true := bne_iff_ne.mpr he
      clear he
      go_enter Try.func6, Try.ntmps6
      go_wp2_with (first
        | (go_at_call 9; refine (awake_calls _).mono ?_; rintro e w1 ⟨rfl, hb1⟩; have hC1 := Kd.C_below HC.out hb1; have HC1 := Aside0.mk hC1; clear hC1)
        | (go_at_call 14; refine (new_calls A c l _ HC1.out (by omega)).mono ?_; rintro e w2 ⟨g, b, rfl, hr2, hb2, hg2, hbb, hbl⟩; have HR2 := Aside0.mk hr2; clear hr2)
        | (go_at_call 15; refine (num_calls g b l 0 _ HR2.out HY.out).mono ?_; rw [HN.out]; rintro e w3 ⟨rfl, hr3, hk3, hs3⟩; have HR3 := Aside0.mk hr3; have HK3 := Aside0.mk hk3; clear hr3 hk3)
        | (go_at_call 16; refine (end_calls g b r cd _ HR3.out).mono ?_; rintro e w4 ⟨rfl, hr4, hk4, hs4⟩; have HK4 := Aside0.mk hk4; clear hr4 hk4))
      go_ret
      have HB4 := Aside0.mk (Keep.below_then (N := w1.heap.size) hb2 (HK3.out.trans HK4.out) hb2.size (fun i hi e => by omega))
      exact ⟨rfl, hb1.trans (HB4.out.mono hb1.size)⟩
theorem own : ownKnob Try.prog.godebug = none := by kernel_rfl
theorem laidOut : laidOutB Try.prog = true := by kernel_rfl
def IsRow (k : IntKind) (w : World) (a : Option Addr) (len cap : Nat) (zs : List Int) : Prop :=
  (a = none ∧ len = 0 ∧ cap = 0 ∧ zs = []) ∨
  ∃ x, a = some x ∧ len ≤ cap ∧ cap ≤ maxLen ∧ zs.length = cap ∧ (∀ i, i < zs.length → w.cell? (x.add i) = some (.int k (zs.getD i 0))) ∧ ∀ n ∈ zs, (Lit.int k n).wf = true
set_option maxRecDepth 100000 in
theorem lifted (os : Os) (started : os.Started) (H : Type) (enc : TypeId × Value → H) :
    ReturnsInHanded {} Try.checked os 6 .any (Rows.lebOneSpec.pre6 enc Try.prog Try.f6 Rows.lebOneRow.domain false) (Rows.lebOneSpec.post enc Try.prog Try.f6 false true false false) := by
  refine returnsInHanded_of_change_sized (C := Try.checked) own started (by kernel_rfl) Try.func6
    (ChangeSpec.witness6 (enc := enc) (C := Try.checked) false ⟨#[], #[.slice none 0 0], []⟩ 8 (by kernel_rfl) (by kernel_rfl) (by kernel_rfl) (by kernel_rfl)) ?_
  intro W base args ds gs before hval0 hW hcnd hsz0 _
  have hsz : (DataW.weightsEach Try.prog (Try.f6.params.toList ++ Rows.lebOneSpec.plain.varTypes Try.prog) (ds ++ gs)).all (· ≤ reachBytes) = true := hsz0
  have hval : ∀ (j : Nat) t v, Try.f6.params[j]? = some t → args[j]? = some v → Value.okWide Try.prog W .any base t v := hval0
  have hW' := hW
  obtain ⟨p, q, hA0, hV, rfl, hfz, hnd⟩ := hW
  have hA : DataW.TrodAll enc Try.prog W 0 (fun _ => true) true Try.f6.params.toList args.toList ds p := hA0
  rw [Try.params6] at hA hval hsz
  obtain ⟨v0, vs0, d0, ds0, p0, q0, hargs, rfl, rfl, h0, r0⟩ := trodAll_cons hA
  obtain ⟨rfl, rfl, rfl⟩ := trodAll_nil r0
  obtain rfl : args = #[v0] := by cases args; simp_all
  obtain ⟨rfl, rfl⟩ := trodVars_none hV
  obtain ⟨a0, len0, cap0, rfl⟩ := okWide_slice Try.underlying22 (hval 0 22 v0 rfl rfl)
  have k0 := h0
  have lt0 : ∀ x ∈ p0, x.block < W.heap.size := by obtain ⟨m, hm⟩ := k0; exact DataW.trod_lt m _ _ _ hm
  obtain ⟨z0, w0⟩ : ∃ zs, IsRow .u8 W a0 len0 cap0 zs := by
    obtain ⟨fuel, hf⟩ := h0
    rcases open_ints Try.underlying22 Try.underlying5 (by kernel_rfl) hf with ⟨hcs, _⟩ | ⟨x, l, c, zs, hcs, _, hl, hm, hz, _, hcell, hwz⟩
    · simp [Value.cells] at hcs
      obtain ⟨rfl, rfl, rfl⟩ := hcs
      exact ⟨[], .inl ⟨rfl, rfl, rfl, rfl⟩⟩
    · simp [Value.cells] at hcs
      obtain ⟨rfl, rfl, rfl⟩ := hcs
      exact ⟨zs, .inr ⟨_, rfl, hl, hm, by simpa using hz, hcell, hwz⟩⟩
  have y0 : len0 * 1 ≤ 140737488351232 := sized_ints hsz (j := 0) (t := 22) rfl rfl Try.underlying22 Try.underlying5 (by kernel_rfl) (by kernel_rfl) h0
  obtain ⟨l0, rfl, hr0, hm0, hwf0, hcap0⟩ := ReadsInt.ofRowC w0
  clear hA0 hval0 hsz0 hsz
  refine (walk W _ _ l0 (Kd.C_of_reads (d := (0 : Int)) (h1 := fun _ => rfl) hr0) hcap0 y0 hwf0).mono fun e W' ⟨he, bel⟩ => ?_
  subst he
  exact ⟨_, rfl, _, _, _, [], _, [], hW', trodAll_mk1 (shut_bool Try.underlying4 _), (trodAll_cons_mk (Below.trod laidOut (by kernel_rfl) (of_decide_eq_true (by kernel_rfl)) k0 bel lt0) trodAll_mk0), rfl, bel.frame _, fun h => by cases h⟩
theorem over : Rows.lebOneRow.holds Try.pinned (OpenSpec.ofChange Rows.lebOneSpec) :=
  OpenClaim.holds_of_wide 6 Try.f6 rfl rfl rfl rfl rfl rfl rfl ⟨rfl, rfl, rfl, rfl, rfl⟩ rfl rfl rfl rfl rfl (by kernel_rfl) Try.func6 (by kernel_rfl)
    (of_decide_eq_true (by kernel_rfl)) (by unfold Func.isWrapper; first | (rw [if_pos (by decide +kernel)]; kernel_rfl) | (rw [if_neg (by decide +kernel)]; exact ⟨rfl, rfl⟩))
    (fun os started H enc _ => lifted os started H enc)
end Go.Proofs.Ytddocpienaoldaa.LebOne
namespace Go.Proofs.Ytddocpienaoldaa
/-- The statement. -/
theorem lebOne_holds : Rows.LebOneSaid := LebOne.over
#print axioms lebOne_holds
end Go.Proofs.Ytddocpienaoldaa
