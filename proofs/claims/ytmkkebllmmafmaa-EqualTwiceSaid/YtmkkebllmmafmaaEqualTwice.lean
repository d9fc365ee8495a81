/- EqualTwice: a step that is done twice is as if it were done once. No condition. -/
import Derived.Test.YtmkkebllmmafmaaRows
import Derived.ProofKit
import Derived.OpenShut
import Derived.ShutString
import Derived.ChangeOld
import Derived.SizedLaws
import Derived.Test.YtmkkebllmmafmaaWSized
import Derived.Test.YtmkkebllmmafmaaPaw
import Derived.Test.YtmkkebllmmafmaaPr
import Derived.Test.YtmkkebllmmafmaaPq
namespace Go.Proofs.Ytmkkebllmmafmaa.EqualTwice
open Go.ChangeShapes Go.WideShapes Go.ChangeAt Go.RowKit Go.Proofs.YtmkkebllmmafmaaW.PrintWords Go.Proofs.YtmkkebllmmafmaaW.PrintLast Go.Proofs.YtmkkebllmmafmaaW.PrintMore Go.Proofs.Ytmkkebllmmafmaa.B Go.Proofs.Ytmkkebllmmafmaa.O Go.Proofs.Ytmkkebllmmafmaa.Ps Go.Proofs.Ytmkkebllmmafmaa.R Go.Proofs.Ytmkkebllmmafmaa.Pk Go.Proofs.Ytmkkebllmmafmaa.Pa Go.Proofs.Ytmkkebllmmafmaa.Pm Go.Proofs.Ytmkkebllmmafmaa.Pw Go.Proofs.Ytmkkebllmmafmaa.Pd Go.Proofs.Ytmkkebllmmafmaa.Pg Go.Proofs.Ytmkkebllmmafmaa.Px Go.Proofs.Ytmkkebllmmafmaa.Pz Go.Proofs.Ytmkkebllmmafmaa.Pq Go.Proofs.Ytmkkebllmmafmaa.S
set_option linter.unusedVariables false
set_option linter.unusedSimpArgs false
theorem tw1 (f : F) (t s v l : Nat) (hv : v < 6) (hl : l < 8) : fCopied (fCopied f t s 6) t s 6 v l = fCopied f t s 6 v l := by
  unfold fCopied
  by_cases h : l = t
  · subst h
    by_cases h2 : s = l
    · subst h2; simp
    · simp [h2, hv]
  · simp [h]
theorem tw2 (f : F) (t s v l : Nat) (hv : v < 6) (hl : l < 8) : fMoved (fMoved f t s 8) t s 8 v l = fMoved f t s 8 v l := by
  unfold fMoved
  by_cases h : v = t
  · subst h
    by_cases h2 : s = v
    · subst h2; simp
    · simp [h2, hl]
  · simp [h]
theorem tw3 (f : F) (a b v l : Nat) (hv : v < 6) (hl : l < 8) : fGiven (fGiven f a b) a b v l = fGiven f a b v l := by
  unfold fGiven upd fCol fRow
  by_cases h1 : v = a <;> by_cases h2 : l = b <;> simp [h1, h2, hv, hl]
theorem tw4 (f : F) (t s v : Nat) : fCopied f t s 6 v t = fCopied f t s 6 v s ∨ ¬ v < 6 := by
  by_cases hv : v < 6
  · left
    unfold fCopied
    by_cases h : s = t
    · subst h; simp
    · simp [h, hv]
  · exact .inr hv
theorem tw5 (f : F) (a b : Nat) : fGiven f a b a b = true := by simp [fGiven, upd]
set_option maxHeartbeats 4000000 in
set_option maxRecDepth 100000 in
theorem walk (w : World) (x : Int) (hx : (Lit.int .u64 x).wf = true) (a : Int) (ha : (Lit.int .u8 a).wf = true) (b : Int) (hb : (Lit.int .u8 b).wf = true) :
    Calls Try.prog 8 #[.int .u64 x, .int .u8 a, .int .u8 b] w fun e w' => e = .returned (.bool true) ∧ Below w.heap.size w w' := by
  obtain ⟨hx0, hx1⟩ := wf_u64 hx
  obtain ⟨ha0, ha1⟩ := wf_u8 ha
  obtain ⟨hb0, hb1⟩ := wf_u8 hb
  clear hx ha hb
  obtain ⟨t, ht⟩ : ∃ t : Nat, a % 8 = (t : Int) := ⟨(a % 8).toNat, by omega⟩
  obtain ⟨s, hs⟩ : ∃ s : Nat, b % 8 = (s : Int) := ⟨(b % 8).toNat, by omega⟩
  have ht8 : t < 8 := by omega
  have hs8 : s < 8 := by omega
  have et : a.tmod 8 = (t : Int) := by rw [Int.tmod_eq_emod_of_nonneg ha0]; exact ht
  have es : b.tmod 8 = (s : Int) := by rw [Int.tmod_eq_emod_of_nonneg hb0]; exact hs
  obtain ⟨t6, ht6⟩ : ∃ t6 : Nat, (t : Int) % 6 = (t6 : Int) := ⟨t % 6, by omega⟩
  obtain ⟨s6, hs6⟩ : ∃ s6 : Nat, (s : Int) % 6 = (s6 : Int) := ⟨s % 6, by omega⟩
  have ht66 : t6 < 6 := by omega
  have hs66 : s6 < 6 := by omega
  have et6 : (t : Int).tmod 6 = (t6 : Int) := by rw [Int.tmod_eq_emod_of_nonneg (by omega)]; exact ht6
  have es6 : (s : Int).tmod 6 = (s6 : Int) := by rw [Int.tmod_eq_emod_of_nonneg (by omega)]; exact hs6
  have wt := wrI64 (t : Int) (by omega) (by omega)
  have ws := wrI64 (s : Int) (by omega) (by omega)
  clear ha0 ha1 hb0 hb1
  obtain ⟨U0, hU⟩ : ∃ U0, U0 = w := ⟨_, rfl⟩
  subst hU
  have HB0 := Aside0.mk (Below.refl U0.heap.size U0)
  go_enter Try.func8, Try.ntmps8
  go_wp2_with (first
        | (go_at_call 10; refine (awake_calls U0).mono ?_; rintro e U1 ⟨rfl, hb⟩; have HB1 := Aside0.mk (HB0.out.trans (hb.mono HB0.out.size)); clear hb HB0)
        | (go_at_call 11; refine (made_LF x hx0 hx1 U1).mono ?_; rintro e U2 ⟨Al, ml, cl, rfl, h_1, hb⟩; have HB2 := Aside0.mk (HB1.out.trans (hb.mono HB1.out.size)); have Ll2 := Aside0.mk h_1; clear hb HB1 h_1)
        | (go_at_call 17; refine (copied_LF cl t s ht8 hs8 Ll2.out).mono ?_; rintro e U3 ⟨Ax, mx, cx, rfl, h_1, hb⟩; have HB3 := Aside0.mk (HB2.out.trans (hb.mono HB2.out.size)); have Ll3 := Aside0.mk (Ll2.out.below hb); have Lx3 := Aside0.mk h_1; clear hb HB2 Ll2 h_1)
        | (go_at_call 20; refine (moved_LF cl t6 s6 ht66 hs66 Ll3.out).mono ?_; rintro e U4 ⟨Ay, my, cy, rfl, h_1, hb⟩; have HB4 := Aside0.mk (HB3.out.trans (hb.mono HB3.out.size)); have Ll4 := Aside0.mk (Ll3.out.below hb); have Lx4 := Aside0.mk (Lx3.out.below hb); have Ly4 := Aside0.mk h_1; clear hb HB3 Ll3 Lx3 h_1)
        | (go_at_call 22; refine (given_LF cl t6 s ht66 hs8 Ll4.out).mono ?_; rintro e U5 ⟨Az, mz, cz, rfl, h_1, hb⟩; have HB5 := Aside0.mk (HB4.out.trans (hb.mono HB4.out.size)); have Lx5 := Aside0.mk (Lx4.out.below hb); have Ly5 := Aside0.mk (Ly4.out.below hb); have Lz5 := Aside0.mk h_1; clear hb HB4 Ll4 Lx4 Ly4 h_1))
  have HKX := Aside0.mk (And.intro HB5.out (And.intro Lx5.out (And.intro Ly5.out Lz5.out)))
  clear HB5 Lx5 Ly5 Lz5
  go_loopw [39] (fun vk wr => ∃ k : Nat, k ≤ 6 ∧ vk = .int .i64 k ∧ Aside0 (Below U5.heap.size U5 wr)) (fun vk _ => 6 - (intOf vk).toNat)
  case atStart => exact ⟨0, by omega, rfl, ⟨Below.refl _ _⟩⟩
  case round =>
    obtain ⟨k, hk, rfl, HBR⟩ := hrel
    obtain ⟨U9, hU⟩ : ∃ U9, U9 = wr := ⟨_, rfl⟩
    subst hU
    have HB0 := Aside0.mk (HKX.out.1.trans (HBR.out.mono HKX.out.1.size))
    have Lx0 := Aside0.mk (HKX.out.2.1.below HBR.out)
    have Ly0 := Aside0.mk (HKX.out.2.2.1.below HBR.out)
    have Lz0 := Aside0.mk (HKX.out.2.2.2.below HBR.out)
    by_cases hgo : k < 6
    · have d0 : decide ((k : Int) < 6) = true := decide_eq_true (by omega)
      have hk6 : (k : Int) < 6 := by omega
      obtain ⟨r, hr⟩ : ∃ r, r = fCopied (bitF x) t s 6 k t := ⟨_, rfl⟩
      have hr2 : fCopied (bitF x) t s 6 k s = r := by rcases tw4 (bitF x) t s k with h | h; exact (hr.trans h).symm; exact absurd hgo h
      go_wp2_with (first
        | (go_at_call 27; have hc := has_LF cx k t hgo ht8 Lx0.out; rw [← hr] at hc; refine hc.mono ?_; rintro e V1 ⟨rfl, hb⟩; have HBR1 := Aside0.mk (HBR.out.trans (hb.mono HBR.out.size)); have Lx1 := Aside0.mk (Lx0.out.below hb); clear hb Lx0)
        | (go_at_call 27; have hc := has_LF cx k s hgo hs8 Lx1.out; rw [hr2] at hc; refine hc.mono ?_; rintro e V2 ⟨rfl, hb⟩; have HBR2 := Aside0.mk (HBR1.out.trans (hb.mono HBR1.out.size)); clear hb Lx1))
      go_roundw
      case rel => exact ⟨k + 1, by omega, by go_num, ⟨HBR2.out⟩⟩
      case measure => simp [intOf]; omega
    · have d0 : decide ((k : Int) < 6) = false := decide_eq_false (by omega)
      have hk6 : ¬ (k : Int) < 6 := by omega
      have h5 := tw5 (bitF x) t6 s
      go_wp2_with (first
        | (go_at_call 17; refine (copied_LF cx t s ht8 hs8 Lx0.out).mono ?_; rintro e U1 ⟨Ap, mp, cp, rfl, h_1, hb⟩; have HB1 := Aside0.mk (HB0.out.trans (hb.mono HB0.out.size)); have Lx1 := Aside0.mk (Lx0.out.below hb); have Ly1 := Aside0.mk (Ly0.out.below hb); have Lz1 := Aside0.mk (Lz0.out.below hb); have Lp1 := Aside0.mk h_1; clear hb HB0 Lx0 Ly0 Lz0 h_1)
        | (go_at_call 16; refine (same_LF cp cx Lp1.out Lx1.out (tw1 _ t s)).mono ?_; rintro e U2 ⟨rfl, hb⟩; have HB2 := Aside0.mk (HB1.out.trans (hb.mono HB1.out.size)); have Ly2 := Aside0.mk (Ly1.out.below hb); have Lz2 := Aside0.mk (Lz1.out.below hb); clear hb HB1 Lp1 Lx1 Ly1 Lz1)
        | (go_at_call 20; refine (moved_LF cy t6 s6 ht66 hs66 Ly2.out).mono ?_; rintro e U3 ⟨Aq, mq, cq, rfl, h_1, hb⟩; have HB3 := Aside0.mk (HB2.out.trans (hb.mono HB2.out.size)); have Ly3 := Aside0.mk (Ly2.out.below hb); have Lz3 := Aside0.mk (Lz2.out.below hb); have Lq3 := Aside0.mk h_1; clear hb HB2 Ly2 Lz2 h_1)
        | (go_at_call 16; refine (same_LF cq cy Lq3.out Ly3.out (tw2 _ t6 s6)).mono ?_; rintro e U4 ⟨rfl, hb⟩; have HB4 := Aside0.mk (HB3.out.trans (hb.mono HB3.out.size)); have Lz4 := Aside0.mk (Lz3.out.below hb); clear hb HB3 Lq3 Ly3 Lz3)
        | (go_at_call 22; refine (given_LF cz t6 s ht66 hs8 Lz4.out).mono ?_; rintro e U5 ⟨Ar, mr, cr, rfl, h_1, hb⟩; have HB5 := Aside0.mk (HB4.out.trans (hb.mono HB4.out.size)); have Lz5 := Aside0.mk (Lz4.out.below hb); have Lr5 := Aside0.mk h_1; clear hb HB4 Lz4 h_1)
        | (go_at_call 16; refine (same_LF cr cz Lr5.out Lz5.out (tw3 _ t6 s)).mono ?_; rintro e U6 ⟨rfl, hb⟩; have HB6 := Aside0.mk (HB5.out.trans (hb.mono HB5.out.size)); have Lz6 := Aside0.mk (Lz5.out.below hb); clear hb HB5 Lr5 Lz5)
        | (go_at_call 27; have hc := has_LF cz t6 s ht66 hs8 Lz6.out; rw [h5] at hc; refine hc.mono ?_; rintro e U7 ⟨rfl, hb⟩; have HB7 := Aside0.mk (HB6.out.trans (hb.mono HB6.out.size)); clear hb HB6 Lz6))
      go_ret
      exact ⟨rfl, HB7.out⟩
theorem own : ownKnob Try.prog.godebug = none := by kernel_rfl
set_option maxRecDepth 100000 in
theorem lifted (os : Os) (started : os.Started) (H : Type) (enc : TypeId × Value → H) :
    ReturnsInHanded {} Try.checked os 8 .any (Rows.equalTwiceSpec.pre6 enc Try.prog Try.f8 Rows.equalTwiceRow.domain false) (Rows.equalTwiceSpec.post enc Try.prog Try.f8 false true false false) := by
  refine returnsInHanded_of_change_sized (C := Try.checked) own started (by kernel_rfl) Try.func8
    (ChangeSpec.witness6 (enc := enc) (C := Try.checked) false ⟨#[], #[.int .u64 0, .int .u8 0, .int .u8 0], []⟩ 8 (by kernel_rfl) (by kernel_rfl) (by kernel_rfl) (by kernel_rfl)) ?_
  intro W base args ds gs before hval0 hW hcnd hsz0 _
  have hsz : (DataW.weightsEach Try.prog (Try.f8.params.toList ++ Rows.equalTwiceSpec.plain.varTypes Try.prog) (ds ++ gs)).all (· ≤ reachBytes) = true := hsz0
  have hval : ∀ (j : Nat) t v, Try.f8.params[j]? = some t → args[j]? = some v → Value.okWide Try.prog W .any base t v := hval0
  have hW' := hW
  obtain ⟨p, q, hA0, hV, rfl, hfz, hnd⟩ := hW
  have hA : DataW.TrodAll enc Try.prog W 0 (fun _ => true) true Try.f8.params.toList args.toList ds p := hA0
  rw [Try.params8] at hA hval hsz
  obtain ⟨v0, vs0, d0, ds0, p0, q0, hargs, rfl, rfl, h0, r0⟩ := trodAll_cons hA
  obtain ⟨v1, vs1, d1, ds1, p1, q1, rfl, rfl, rfl, h1, r1⟩ := trodAll_cons r0
  obtain ⟨v2, vs2, d2, ds2, p2, q2, rfl, rfl, rfl, h2, r2⟩ := trodAll_cons r1
  obtain ⟨rfl, rfl, rfl⟩ := trodAll_nil r2
  obtain rfl : args = #[v0, v1, v2] := by cases args; simp_all
  obtain ⟨rfl, rfl⟩ := trodVars_none hV
  obtain ⟨a0, rfl, rfl, rfl, w0⟩ := open_int Try.underlying23 (hval 0 23 v0 rfl rfl) h0
  obtain ⟨a1, rfl, rfl, rfl, w1⟩ := open_int Try.underlying5 (hval 1 5 v1 rfl rfl) h1
  obtain ⟨a2, rfl, rfl, rfl, w2⟩ := open_int Try.underlying5 (hval 2 5 v2 rfl rfl) h2
  clear hA0 hval0 hsz0 hsz
  refine (walk W a0 w0 a1 w1 a2 w2).mono fun e W' ⟨he, bel⟩ => ?_
  subst he
  exact ⟨_, rfl, _, _, _, [], _, [], hW', trodAll_mk1 (shut_bool Try.underlying4 _), (trodAll_cons_mk (shut_int Try.underlying23 w0) (trodAll_cons_mk (shut_int Try.underlying5 w1) (trodAll_cons_mk (shut_int Try.underlying5 w2) trodAll_mk0))), rfl, bel.frame _, fun h => by cases h⟩
theorem over : Rows.equalTwiceRow.holds Try.pinned (OpenSpec.ofChange Rows.equalTwiceSpec) :=
  OpenClaim.holds_of_wide 8 Try.f8 rfl rfl rfl rfl rfl rfl rfl ⟨rfl, rfl, rfl, rfl, rfl⟩ rfl rfl rfl rfl rfl (by kernel_rfl) Try.func8 (by kernel_rfl)
    (of_decide_eq_true (by kernel_rfl)) (by unfold Func.isWrapper; first | (rw [if_pos (by decide +kernel)]; kernel_rfl) | (rw [if_neg (by decide +kernel)]; exact ⟨rfl, rfl⟩))
    (fun os started H enc _ => lifted os started H enc)
end Go.Proofs.Ytmkkebllmmafmaa.EqualTwice
namespace Go.Proofs.Ytmkkebllmmafmaa
/-- The statement. -/
theorem equalTwice_holds : Rows.EqualTwiceSaid := EqualTwice.over
#print axioms equalTwice_holds
end Go.Proofs.Ytmkkebllmmafmaa
