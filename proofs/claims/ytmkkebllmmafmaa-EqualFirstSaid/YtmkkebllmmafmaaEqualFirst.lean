/- EqualFirst: what holds at the beginning, of all numbers that may be. No condition. -/
import Derived.Test.YtmkkebllmmafmaaRows
import Derived.ProofKit
import Derived.OpenShut
import Derived.ShutString
import Derived.ChangeOld
import Derived.SizedLaws
import Derived.Test.YtmkkebllmmafmaaWSized
import Derived.Test.YtmkkebllmmafmaaPaw
import Derived.Test.YtmkkebllmmafmaaPr
import Derived.Test.YtmkkebllmmafmaaPu
namespace Go.Proofs.Ytmkkebllmmafmaa.EqualFirst
open Go.ChangeShapes Go.WideShapes Go.ChangeAt Go.RowKit Go.Proofs.YtmkkebllmmafmaaW.PrintWords Go.Proofs.YtmkkebllmmafmaaW.PrintLast Go.Proofs.YtmkkebllmmafmaaW.PrintMore Go.Proofs.Ytmkkebllmmafmaa.B Go.Proofs.Ytmkkebllmmafmaa.O Go.Proofs.Ytmkkebllmmafmaa.Ps Go.Proofs.Ytmkkebllmmafmaa.R Go.Proofs.Ytmkkebllmmafmaa.Pk Go.Proofs.Ytmkkebllmmafmaa.Pa Go.Proofs.Ytmkkebllmmafmaa.Pm Go.Proofs.Ytmkkebllmmafmaa.Pw Go.Proofs.Ytmkkebllmmafmaa.Pd Go.Proofs.Ytmkkebllmmafmaa.Pg Go.Proofs.Ytmkkebllmmafmaa.Px Go.Proofs.Ytmkkebllmmafmaa.Pz Go.Proofs.Ytmkkebllmmafmaa.Pt Go.Proofs.Ytmkkebllmmafmaa.S
set_option linter.unusedVariables false
set_option linter.unusedSimpArgs false
set_option maxHeartbeats 4000000 in
set_option maxRecDepth 100000 in
theorem walk (w : World) (a : Int) (ha : (Lit.int .u8 a).wf = true) (b : Int) (hb : (Lit.int .u8 b).wf = true) (c : Int) (hc : (Lit.int .u8 c).wf = true) (d : Int) (hd : (Lit.int .u8 d).wf = true) :
    Calls Try.prog 5 #[.int .u8 a, .int .u8 b, .int .u8 c, .int .u8 d] w fun e w' => e = .returned (.bool true) ∧ Below w.heap.size w w' := by
  obtain ⟨ha0, ha1⟩ := wf_u8 ha
  obtain ⟨hb0, hb1⟩ := wf_u8 hb
  obtain ⟨hc0, hc1⟩ := wf_u8 hc
  obtain ⟨hd0, hd1⟩ := wf_u8 hd
  clear ha hb hc hd
  obtain ⟨p, hp⟩ : ∃ p : Nat, a % 5 = (p : Int) := ⟨(a % 5).toNat, by omega⟩
  have ep : a.tmod 5 = (p : Int) := by rw [Int.tmod_eq_emod_of_nonneg ha0]; exact hp
  have bp : p < 5 := by omega
  have wp := wrI64 (p : Int) (by omega) (by omega)
  obtain ⟨v, hv⟩ : ∃ v : Nat, b % 9 = (v : Int) := ⟨(b % 9).toNat, by omega⟩
  have ev : b.tmod 9 = (v : Int) := by rw [Int.tmod_eq_emod_of_nonneg hb0]; exact hv
  have bv : v < 9 := by omega
  have wv := wrI64 (v : Int) (by omega) (by omega)
  obtain ⟨r, hr⟩ : ∃ r : Nat, c % 6 = (r : Int) := ⟨(c % 6).toNat, by omega⟩
  have er : c.tmod 6 = (r : Int) := by rw [Int.tmod_eq_emod_of_nonneg hc0]; exact hr
  have br : r < 6 := by omega
  have wr := wrI64 (r : Int) (by omega) (by omega)
  obtain ⟨s, hs⟩ : ∃ s : Nat, d % 9 = (s : Int) := ⟨(d % 9).toNat, by omega⟩
  have es : d.tmod 9 = (s : Int) := by rw [Int.tmod_eq_emod_of_nonneg hd0]; exact hs
  have bs : s < 9 := by omega
  have ws := wrI64 (s : Int) (by omega) (by omega)
  clear ha0 ha1 hb0 hb1 hc0 hc1 hd0 hd1
  obtain ⟨V, hV⟩ : ∃ V : Nat, (p : Int) + (v : Int) = (V : Int) := ⟨p + v, by omega⟩
  obtain ⟨R, hR⟩ : ∃ R : Nat, 3 + (r : Int) = (R : Int) := ⟨3 + r, by omega⟩
  obtain ⟨S, hS⟩ : ∃ S : Nat, (p : Int) + (s : Int) = (S : Int) := ⟨p + s, by omega⟩
  have hV30 : V ≤ 30 := by omega
  have hV15 : V ≤ 15 := by omega
  have hp30 : p ≤ 30 := by omega
  have hR30 : R ≤ 30 := by omega
  have hS30 : S ≤ 30 := by omega
  obtain ⟨n, hn⟩ : ∃ n, n = R + S := ⟨_, rfl⟩
  obtain ⟨N, hN⟩ : ∃ N, N = V * n := ⟨_, rfl⟩
  have hN9 : N ≤ 1000 := by have := mul_le hV15 (show n ≤ 60 by omega); omega
  go_enter Try.func5, Try.ntmps5
  go_wp2_with (first
    | (go_at_call 10; refine (awake_calls w).mono ?_; rintro e U1 ⟨rfl, hb⟩; have HB1 := Aside0.mk hb; clear hb)
    | (go_at_call 23; refine (first_calls p V R S n hn hV30 hp30 hR30 hS30 U1).mono ?_; rintro e U2 ⟨v2, rfl, ho, hb⟩; obtain ⟨A2, m2, c2, rfl, hA⟩ : ∃ A m c, v2 = .slice A m c ∧ (pairsOf V n (fFirst p R)).length = m ∧ kP.C U2 A m (pairsOf V n (fFirst p R)) := (by obtain ⟨A, c, rfl, -, h⟩ := Kd.R_reads ho; exact ⟨A, _, c, rfl, rfl, h⟩); have HA2 := Aside0.mk hA; have HB2 := Aside0.mk (HB1.out.trans (hb.mono HB1.out.size)); clear ho hb hA HB1)
    | (go_at_call 24; refine (rfirst_calls p V R S n N hn hN hV15 hp30 hR30 hS30 U2).mono ?_; rintro e U3 ⟨g, h, rfl, hs, hb⟩; have HS3 := Aside0.mk hs; have HA3 := Aside0.mk (And.intro HA2.out.1 (Kd.C_below HA2.out.2 hb)); have HB3 := Aside0.mk (HB2.out.trans (hb.mono HB2.out.size)); clear hs hb HA2 HB2)
    | (go_at_call 18; (refine (pairs_calls HS3.out hN9 (by omega) (by omega)).mono ?_; rintro e U4 ⟨v4, rfl, ho, hb⟩; obtain ⟨A4, c4, rfl, -, hC⟩ := Kd.R_reads ho; have HC4 := Aside0.mk hC; rw [HA3.out.1] at HC4 ⊢; have HA4 := Aside0.mk (And.intro HA3.out.1 (Kd.C_below HA3.out.2 hb)); have HB4 := Aside0.mk (HB3.out.trans (hb.mono HB3.out.size)); have hm2 : m2 ≤ 1000 := (by rw [← HA3.out.1]; have := pre_len n (fFirst p R) (V * n); unfold pairsOf; omega); clear ho hb hC HA3 HB3 HS3))
    | (go_at_call 16; refine (same_calls A2 A4 c2 c4 (pairsOf V n (fFirst p R)) m2 HA4.out.1 (by omega) U4 HA4.out.2 HC4.out).mono ?_; rintro e U5 ⟨rfl, hb⟩; have HB5 := Aside0.mk (HB4.out.trans (hb.mono HB4.out.size)); clear hb HA4 HC4 HB4))
  go_ret
  exact ⟨rfl, HB5.out⟩
theorem own : ownKnob Try.prog.godebug = none := by kernel_rfl
set_option maxRecDepth 100000 in
theorem lifted (os : Os) (started : os.Started) (H : Type) (enc : TypeId × Value → H) :
    ReturnsInHanded {} Try.checked os 5 .any (Rows.equalFirstSpec.pre6 enc Try.prog Try.f5 Rows.equalFirstRow.domain false) (Rows.equalFirstSpec.post enc Try.prog Try.f5 false true false false) := by
  refine returnsInHanded_of_change_sized (C := Try.checked) own started (by kernel_rfl) Try.func5
    (ChangeSpec.witness6 (enc := enc) (C := Try.checked) false ⟨#[], #[.int .u8 0, .int .u8 0, .int .u8 0, .int .u8 0], []⟩ 8 (by kernel_rfl) (by kernel_rfl) (by kernel_rfl) (by kernel_rfl)) ?_
  intro W base args ds gs before hval0 hW hcnd hsz0 _
  have hsz : (DataW.weightsEach Try.prog (Try.f5.params.toList ++ Rows.equalFirstSpec.plain.varTypes Try.prog) (ds ++ gs)).all (· ≤ reachBytes) = true := hsz0
  have hval : ∀ (j : Nat) t v, Try.f5.params[j]? = some t → args[j]? = some v → Value.okWide Try.prog W .any base t v := hval0
  have hW' := hW
  obtain ⟨p, q, hA0, hV, rfl, hfz, hnd⟩ := hW
  have hA : DataW.TrodAll enc Try.prog W 0 (fun _ => true) true Try.f5.params.toList args.toList ds p := hA0
  rw [Try.params5] at hA hval hsz
  obtain ⟨v0, vs0, d0, ds0, p0, q0, hargs, rfl, rfl, h0, r0⟩ := trodAll_cons hA
  obtain ⟨v1, vs1, d1, ds1, p1, q1, rfl, rfl, rfl, h1, r1⟩ := trodAll_cons r0
  obtain ⟨v2, vs2, d2, ds2, p2, q2, rfl, rfl, rfl, h2, r2⟩ := trodAll_cons r1
  obtain ⟨v3, vs3, d3, ds3, p3, q3, rfl, rfl, rfl, h3, r3⟩ := trodAll_cons r2
  obtain ⟨rfl, rfl, rfl⟩ := trodAll_nil r3
  obtain rfl : args = #[v0, v1, v2, v3] := by cases args; simp_all
  obtain ⟨rfl, rfl⟩ := trodVars_none hV
  obtain ⟨a0, rfl, rfl, rfl, w0⟩ := open_int Try.underlying5 (hval 0 5 v0 rfl rfl) h0
  obtain ⟨a1, rfl, rfl, rfl, w1⟩ := open_int Try.underlying5 (hval 1 5 v1 rfl rfl) h1
  obtain ⟨a2, rfl, rfl, rfl, w2⟩ := open_int Try.underlying5 (hval 2 5 v2 rfl rfl) h2
  obtain ⟨a3, rfl, rfl, rfl, w3⟩ := open_int Try.underlying5 (hval 3 5 v3 rfl rfl) h3
  clear hA0 hval0 hsz0 hsz
  refine (walk W a0 w0 a1 w1 a2 w2 a3 w3).mono fun e W' ⟨he, bel⟩ => ?_
  subst he
  exact ⟨_, rfl, _, _, _, [], _, [], hW', trodAll_mk1 (shut_bool Try.underlying4 _), (trodAll_cons_mk (shut_int Try.underlying5 w0) (trodAll_cons_mk (shut_int Try.underlying5 w1) (trodAll_cons_mk (shut_int Try.underlying5 w2) (trodAll_cons_mk (shut_int Try.underlying5 w3) trodAll_mk0)))), rfl, bel.frame _, fun h => by cases h⟩
theorem over : Rows.equalFirstRow.holds Try.pinned (OpenSpec.ofChange Rows.equalFirstSpec) :=
  OpenClaim.holds_of_wide 5 Try.f5 rfl rfl rfl rfl rfl rfl rfl ⟨rfl, rfl, rfl, rfl, rfl⟩ rfl rfl rfl rfl rfl (by kernel_rfl) Try.func5 (by kernel_rfl)
    (of_decide_eq_true (by kernel_rfl)) (by unfold Func.isWrapper; first | (rw [if_pos (by decide +kernel)]; kernel_rfl) | (rw [if_neg (by decide +kernel)]; exact ⟨rfl, rfl⟩))
    (fun os started H enc _ => lifted os started H enc)
end Go.Proofs.Ytmkkebllmmafmaa.EqualFirst
namespace Go.Proofs.Ytmkkebllmmafmaa
/-- The statement. -/
theorem equalFirst_holds : Rows.EqualFirstSaid := EqualFirst.over
#print axioms equalFirst_holds
end Go.Proofs.Ytmkkebllmmafmaa
