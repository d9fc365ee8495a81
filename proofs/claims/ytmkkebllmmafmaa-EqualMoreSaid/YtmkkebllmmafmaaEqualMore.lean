/- EqualMore: of more pairs a step tells no fewer. No condition. -/
import Derived.Test.YtmkkebllmmafmaaRows
import Derived.ProofKit
import Derived.OpenShut
import Derived.ShutString
import Derived.ChangeOld
import Derived.SizedLaws
import Derived.Test.YtmkkebllmmafmaaWSized
import Derived.Test.YtmkkebllmmafmaaPaw
import Derived.Test.YtmkkebllmmafmaaPr
import Derived.Test.YtmkkebllmmafmaaPb
namespace Go.Proofs.Ytmkkebllmmafmaa.EqualMore
open Go.ChangeShapes Go.WideShapes Go.ChangeAt Go.RowKit Go.Proofs.YtmkkebllmmafmaaW.PrintWords Go.Proofs.YtmkkebllmmafmaaW.PrintLast Go.Proofs.YtmkkebllmmafmaaW.PrintMore Go.Proofs.Ytmkkebllmmafmaa.B Go.Proofs.Ytmkkebllmmafmaa.O Go.Proofs.Ytmkkebllmmafmaa.Ps Go.Proofs.Ytmkkebllmmafmaa.R Go.Proofs.Ytmkkebllmmafmaa.Pk Go.Proofs.Ytmkkebllmmafmaa.Pa Go.Proofs.Ytmkkebllmmafmaa.Pm Go.Proofs.Ytmkkebllmmafmaa.Pw Go.Proofs.Ytmkkebllmmafmaa.Pd Go.Proofs.Ytmkkebllmmafmaa.Pg Go.Proofs.Ytmkkebllmmafmaa.Px Go.Proofs.Ytmkkebllmmafmaa.Pz Go.Proofs.Ytmkkebllmmafmaa.Pq Go.Proofs.Ytmkkebllmmafmaa.S
set_option linter.unusedVariables false
set_option linter.unusedSimpArgs false
theorem mono_copied {f g : F} (h : ∀ v l, f v l = true → g v l = true) (t s : Nat) : ∀ v l, v < 6 → l < 8 → fCopied f t s 6 v l = true → fCopied g t s 6 v l = true := by
  intro v l _ _
  unfold fCopied
  split
  · exact h _ _
  · exact h _ _
theorem mono_moved {f g : F} (h : ∀ v l, f v l = true → g v l = true) (t s : Nat) : ∀ v l, v < 6 → l < 8 → fMoved f t s 8 v l = true → fMoved g t s 8 v l = true := by
  intro v l _ _
  unfold fMoved
  split
  · exact h _ _
  · exact h _ _
theorem mono_given {f g : F} (h : ∀ v l, f v l = true → g v l = true) (a b : Nat) : ∀ v l, v < 6 → l < 8 → fGiven f a b v l = true → fGiven g a b v l = true := by
  intro v l hv hl
  unfold fGiven upd fCol fRow
  by_cases h1 : v = a <;> by_cases h2 : l = b <;> simp [h1, h2, hv, hl]
  exact h _ _
theorem and_sub {f g : F} (h : ∀ v l, v < 6 → l < 8 → f v l = true → g v l = true) : ∀ v l, v < 6 → l < 8 → (g v l && f v l) = f v l := by
  intro v l hv hl
  have := h v l hv hl
  cases hf : f v l with
  | true => rw [this hf]; rfl
  | false => rw [Bool.and_false]
set_option maxHeartbeats 4000000 in
set_option maxRecDepth 100000 in
theorem walk (w : World) (p : Int) (hp : (Lit.int .u64 p).wf = true) (q : Int) (hq : (Lit.int .u64 q).wf = true) (a : Int) (ha : (Lit.int .u8 a).wf = true) (b : Int) (hb : (Lit.int .u8 b).wf = true) (st : Int) (hst : (Lit.int .u8 st).wf = true) :
    Calls Try.prog 9 #[.int .u64 p, .int .u64 q, .int .u8 a, .int .u8 b, .int .u8 st] w fun e w' => e = .returned (.bool true) ∧ Below w.heap.size w w' := by
  obtain ⟨hp0, hp1⟩ := wf_u64 hp
  obtain ⟨hq0, hq1⟩ := wf_u64 hq
  obtain ⟨hst0, hst1⟩ := wf_u8 hst
  have hpq := and_bounds p q hp0 hp1 hq0 hq1
  have hm : ∀ v l, bitF (Go.bits .and .u64 p q) v l = true → bitF p v l = true := fun v l h => by
    rw [bitF_and p q hp0 hp1 hq0 hq1] at h
    exact (Bool.and_eq_true_iff.1 h).1
  obtain ⟨ha0, ha1⟩ := wf_u8 ha
  obtain ⟨hb0, hb1⟩ := wf_u8 hb
  clear hp hq ha hb hst
  obtain ⟨t, ht⟩ : ∃ t : Nat, a % 8 = (t : Int) := ⟨(a % 8).toNat, by omega⟩
  obtain ⟨s, hs⟩ : ∃ s : Nat, b % 8 = (s : Int) := ⟨(b % 8).toNat, by omega⟩
  have ht8 : t < 8 := by omega
  have hs8 : s < 8 := by omega
  have et : a.tmod 8 = (t : Int) := by rw [Int.tmod_eq_emod_of_nonneg ha0]; exact ht
  have es : b.tmod 8 = (s : Int) := by rw [Int.tmod_eq_emod_of_nonneg hb0]; exact hs
  obtain ⟨t6, ht6⟩ : ∃ t6 : Nat, (t : Int) % 6 = (t6 : Int) := ⟨t % 6, by omega⟩
  obtain ⟨s6, hs6⟩ : ∃ s6 : Nat, (s : Int) % 6 = (s6 : Int) := ⟨s % 6, by omega⟩
  have ht66 : t6 < 6 := by omega
  have hs66 : s6 < 6 := by omega
  have et6 : (t : Int).tmod 6 = (t6 : Int) := by rw [Int.tmod_eq_emod_of_nonneg (by omega)]; exact ht6
  have es6 : (s : Int).tmod 6 = (s6 : Int) := by rw [Int.tmod_eq_emod_of_nonneg (by omega)]; exact hs6
  have wt := wrI64 (t : Int) (by omega) (by omega)
  have ws := wrI64 (s : Int) (by omega) (by omega)
  clear ha0 ha1 hb0 hb1
  obtain ⟨U0, hU⟩ : ∃ U0, U0 = w := ⟨_, rfl⟩
  subst hU
  have HB0 := Aside0.mk (Below.refl U0.heap.size U0)
  have hst3 : st % 3 = 0 ∨ st % 3 = 1 ∨ st % 3 = 2 := by omega
  go_enter Try.func9, Try.ntmps9
  rcases hst3 with h3 | h3 | h3
  · have h3' : st.tmod 3 = 0 := by rw [Int.tmod_eq_emod_of_nonneg hst0]; exact h3
    go_wp2_with (first
        | (go_at_call 10; refine (awake_calls U0).mono ?_; rintro e U1 ⟨rfl, hb⟩; have HB1 := Aside0.mk (HB0.out.trans (hb.mono HB0.out.size)); clear hb HB0)
        | (go_at_call 11; refine (made_at HB1.out (Go.bits .and .u64 p q) hpq.1 hpq.2).mono ?_; rintro e U2 ⟨Ax, mx, cx, rfl, h_1, hb⟩; have HB2 := Aside0.mk (HB1.out.trans (hb.mono HB1.out.size)); have Lx2 := Aside0.mk h_1; clear hb HB1 h_1)
        | (go_at_call 11; refine (made_at HB2.out (p) hp0 hp1).mono ?_; rintro e U3 ⟨Ay, my, cy, rfl, h_1, hb⟩; have HB3 := Aside0.mk (HB2.out.trans (hb.mono HB2.out.size)); have Lx3 := Aside0.mk (Lx2.out.below hb); have Ly3 := Aside0.mk h_1; clear hb HB2 Lx2 h_1)
        | (go_at_call 17; refine (copied_LF cx t s ht8 hs8 Lx3.out).mono ?_; rintro e U4 ⟨AX, mX, cX, rfl, h_1, hb⟩; have HB4 := Aside0.mk (HB3.out.trans (hb.mono HB3.out.size)); have Ly4 := Aside0.mk (Ly3.out.below hb); have LX4 := Aside0.mk h_1; clear hb HB3 Lx3 Ly3 h_1)
        | (go_at_call 17; refine (copied_LF cy t s ht8 hs8 Ly4.out).mono ?_; rintro e U5 ⟨AY, mY, cY, rfl, h_1, hb⟩; have HB5 := Aside0.mk (HB4.out.trans (hb.mono HB4.out.size)); have LX5 := Aside0.mk (LX4.out.below hb); have LY5 := Aside0.mk h_1; clear hb HB4 LX4 Ly4 h_1)
        | (go_at_call 26; refine (within_LF cX cY true LX5.out LY5.out (by simp only [true_iff]; exact (mono_copied hm t s))).mono ?_; rintro e U6 ⟨rfl, hb⟩; have HB6 := Aside0.mk (HB5.out.trans (hb.mono HB5.out.size)); have LX6 := Aside0.mk (LX5.out.below hb); have LY6 := Aside0.mk (LY5.out.below hb); clear hb HB5 LX5 LY5)
        | (go_at_call 25; refine (meet_LF cX cY LX6.out LY6.out).mono ?_; rintro e U7 ⟨Am, mm, cm, rfl, h_1, hb⟩; have HB7 := Aside0.mk (HB6.out.trans (hb.mono HB6.out.size)); have LX7 := Aside0.mk (LX6.out.below hb); have LY7 := Aside0.mk (LY6.out.below hb); have Lm7 := Aside0.mk h_1; clear hb HB6 LX6 LY6 h_1)
        | (go_at_call 26; refine (within_LF cm cX true Lm7.out LX7.out (by simp only [true_iff]; intro v l _ _ h; exact (Bool.and_eq_true_iff.1 h).1)).mono ?_; rintro e U8 ⟨rfl, hb⟩; have HB8 := Aside0.mk (HB7.out.trans (hb.mono HB7.out.size)); have LX8 := Aside0.mk (LX7.out.below hb); have LY8 := Aside0.mk (LY7.out.below hb); clear hb HB7 LX7 LY7 Lm7)
        | (go_at_call 25; refine (meet_LF cY cX LY8.out LX8.out).mono ?_; rintro e U9 ⟨An, mn, cn, rfl, h_1, hb⟩; have HB9 := Aside0.mk (HB8.out.trans (hb.mono HB8.out.size)); have LX9 := Aside0.mk (LX8.out.below hb); have Ln9 := Aside0.mk h_1; clear hb HB8 LX8 LY8 h_1)
        | (go_at_call 16; refine (same_LF cn cX Ln9.out LX9.out (and_sub (mono_copied hm t s))).mono ?_; rintro e U10 ⟨rfl, hb⟩; have HB10 := Aside0.mk (HB9.out.trans (hb.mono HB9.out.size)); clear hb HB9 LX9 Ln9))
    go_ret
    exact ⟨rfl, HB10.out⟩
  · have h3' : st.tmod 3 = 1 := by rw [Int.tmod_eq_emod_of_nonneg hst0]; exact h3
    go_wp2_with (first
        | (go_at_call 10; refine (awake_calls U0).mono ?_; rintro e U1 ⟨rfl, hb⟩; have HB1 := Aside0.mk (HB0.out.trans (hb.mono HB0.out.size)); clear hb HB0)
        | (go_at_call 11; refine (made_at HB1.out (Go.bits .and .u64 p q) hpq.1 hpq.2).mono ?_; rintro e U2 ⟨Ax, mx, cx, rfl, h_1, hb⟩; have HB2 := Aside0.mk (HB1.out.trans (hb.mono HB1.out.size)); have Lx2 := Aside0.mk h_1; clear hb HB1 h_1)
        | (go_at_call 11; refine (made_at HB2.out (p) hp0 hp1).mono ?_; rintro e U3 ⟨Ay, my, cy, rfl, h_1, hb⟩; have HB3 := Aside0.mk (HB2.out.trans (hb.mono HB2.out.size)); have Lx3 := Aside0.mk (Lx2.out.below hb); have Ly3 := Aside0.mk h_1; clear hb HB2 Lx2 h_1)
        | (go_at_call 20; refine (moved_LF cx t6 s6 ht66 hs66 Lx3.out).mono ?_; rintro e U4 ⟨AX, mX, cX, rfl, h_1, hb⟩; have HB4 := Aside0.mk (HB3.out.trans (hb.mono HB3.out.size)); have Ly4 := Aside0.mk (Ly3.out.below hb); have LX4 := Aside0.mk h_1; clear hb HB3 Lx3 Ly3 h_1)
        | (go_at_call 20; refine (moved_LF cy t6 s6 ht66 hs66 Ly4.out).mono ?_; rintro e U5 ⟨AY, mY, cY, rfl, h_1, hb⟩; have HB5 := Aside0.mk (HB4.out.trans (hb.mono HB4.out.size)); have LX5 := Aside0.mk (LX4.out.below hb); have LY5 := Aside0.mk h_1; clear hb HB4 LX4 Ly4 h_1)
        | (go_at_call 26; refine (within_LF cX cY true LX5.out LY5.out (by simp only [true_iff]; exact (mono_moved hm t6 s6))).mono ?_; rintro e U6 ⟨rfl, hb⟩; have HB6 := Aside0.mk (HB5.out.trans (hb.mono HB5.out.size)); have LX6 := Aside0.mk (LX5.out.below hb); have LY6 := Aside0.mk (LY5.out.below hb); clear hb HB5 LX5 LY5)
        | (go_at_call 25; refine (meet_LF cX cY LX6.out LY6.out).mono ?_; rintro e U7 ⟨Am, mm, cm, rfl, h_1, hb⟩; have HB7 := Aside0.mk (HB6.out.trans (hb.mono HB6.out.size)); have LX7 := Aside0.mk (LX6.out.below hb); have LY7 := Aside0.mk (LY6.out.below hb); have Lm7 := Aside0.mk h_1; clear hb HB6 LX6 LY6 h_1)
        | (go_at_call 26; refine (within_LF cm cX true Lm7.out LX7.out (by simp only [true_iff]; intro v l _ _ h; exact (Bool.and_eq_true_iff.1 h).1)).mono ?_; rintro e U8 ⟨rfl, hb⟩; have HB8 := Aside0.mk (HB7.out.trans (hb.mono HB7.out.size)); have LX8 := Aside0.mk (LX7.out.below hb); have LY8 := Aside0.mk (LY7.out.below hb); clear hb HB7 LX7 LY7 Lm7)
        | (go_at_call 25; refine (meet_LF cY cX LY8.out LX8.out).mono ?_; rintro e U9 ⟨An, mn, cn, rfl, h_1, hb⟩; have HB9 := Aside0.mk (HB8.out.trans (hb.mono HB8.out.size)); have LX9 := Aside0.mk (LX8.out.below hb); have Ln9 := Aside0.mk h_1; clear hb HB8 LX8 LY8 h_1)
        | (go_at_call 16; refine (same_LF cn cX Ln9.out LX9.out (and_sub (mono_moved hm t6 s6))).mono ?_; rintro e U10 ⟨rfl, hb⟩; have HB10 := Aside0.mk (HB9.out.trans (hb.mono HB9.out.size)); clear hb HB9 LX9 Ln9))
    go_ret
    exact ⟨rfl, HB10.out⟩
  · have h3' : st.tmod 3 = 2 := by rw [Int.tmod_eq_emod_of_nonneg hst0]; exact h3
    go_wp2_with (first
        | (go_at_call 10; refine (awake_calls U0).mono ?_; rintro e U1 ⟨rfl, hb⟩; have HB1 := Aside0.mk (HB0.out.trans (hb.mono HB0.out.size)); clear hb HB0)
        | (go_at_call 11; refine (made_at HB1.out (Go.bits .and .u64 p q) hpq.1 hpq.2).mono ?_; rintro e U2 ⟨Ax, mx, cx, rfl, h_1, hb⟩; have HB2 := Aside0.mk (HB1.out.trans (hb.mono HB1.out.size)); have Lx2 := Aside0.mk h_1; clear hb HB1 h_1)
        | (go_at_call 11; refine (made_at HB2.out (p) hp0 hp1).mono ?_; rintro e U3 ⟨Ay, my, cy, rfl, h_1, hb⟩; have HB3 := Aside0.mk (HB2.out.trans (hb.mono HB2.out.size)); have Lx3 := Aside0.mk (Lx2.out.below hb); have Ly3 := Aside0.mk h_1; clear hb HB2 Lx2 h_1)
        | (go_at_call 22; refine (given_LF cx t6 s ht66 hs8 Lx3.out).mono ?_; rintro e U4 ⟨AX, mX, cX, rfl, h_1, hb⟩; have HB4 := Aside0.mk (HB3.out.trans (hb.mono HB3.out.size)); have Ly4 := Aside0.mk (Ly3.out.below hb); have LX4 := Aside0.mk h_1; clear hb HB3 Lx3 Ly3 h_1)
        | (go_at_call 22; refine (given_LF cy t6 s ht66 hs8 Ly4.out).mono ?_; rintro e U5 ⟨AY, mY, cY, rfl, h_1, hb⟩; have HB5 := Aside0.mk (HB4.out.trans (hb.mono HB4.out.size)); have LX5 := Aside0.mk (LX4.out.below hb); have LY5 := Aside0.mk h_1; clear hb HB4 LX4 Ly4 h_1)
        | (go_at_call 26; refine (within_LF cX cY true LX5.out LY5.out (by simp only [true_iff]; exact (mono_given hm t6 s))).mono ?_; rintro e U6 ⟨rfl, hb⟩; have HB6 := Aside0.mk (HB5.out.trans (hb.mono HB5.out.size)); have LX6 := Aside0.mk (LX5.out.below hb); have LY6 := Aside0.mk (LY5.out.below hb); clear hb HB5 LX5 LY5)
        | (go_at_call 25; refine (meet_LF cX cY LX6.out LY6.out).mono ?_; rintro e U7 ⟨Am, mm, cm, rfl, h_1, hb⟩; have HB7 := Aside0.mk (HB6.out.trans (hb.mono HB6.out.size)); have LX7 := Aside0.mk (LX6.out.below hb); have LY7 := Aside0.mk (LY6.out.below hb); have Lm7 := Aside0.mk h_1; clear hb HB6 LX6 LY6 h_1)
        | (go_at_call 26; refine (within_LF cm cX true Lm7.out LX7.out (by simp only [true_iff]; intro v l _ _ h; exact (Bool.and_eq_true_iff.1 h).1)).mono ?_; rintro e U8 ⟨rfl, hb⟩; have HB8 := Aside0.mk (HB7.out.trans (hb.mono HB7.out.size)); have LX8 := Aside0.mk (LX7.out.below hb); have LY8 := Aside0.mk (LY7.out.below hb); clear hb HB7 LX7 LY7 Lm7)
        | (go_at_call 25; refine (meet_LF cY cX LY8.out LX8.out).mono ?_; rintro e U9 ⟨An, mn, cn, rfl, h_1, hb⟩; have HB9 := Aside0.mk (HB8.out.trans (hb.mono HB8.out.size)); have LX9 := Aside0.mk (LX8.out.below hb); have Ln9 := Aside0.mk h_1; clear hb HB8 LX8 LY8 h_1)
        | (go_at_call 16; refine (same_LF cn cX Ln9.out LX9.out (and_sub (mono_given hm t6 s))).mono ?_; rintro e U10 ⟨rfl, hb⟩; have HB10 := Aside0.mk (HB9.out.trans (hb.mono HB9.out.size)); clear hb HB9 LX9 Ln9))
    go_ret
    exact ⟨rfl, HB10.out⟩
theorem own : ownKnob Try.prog.godebug = none := by kernel_rfl
set_option maxRecDepth 100000 in
theorem lifted (os : Os) (started : os.Started) (H : Type) (enc : TypeId × Value → H) :
    ReturnsInHanded {} Try.checked os 9 .any (Rows.equalMoreSpec.pre6 enc Try.prog Try.f9 Rows.equalMoreRow.domain false) (Rows.equalMoreSpec.post enc Try.prog Try.f9 false true false false) := by
  refine returnsInHanded_of_change_sized (C := Try.checked) own started (by kernel_rfl) Try.func9
    (ChangeSpec.witness6 (enc := enc) (C := Try.checked) false ⟨#[], #[.int .u64 0, .int .u64 0, .int .u8 0, .int .u8 0, .int .u8 0], []⟩ 8 (by kernel_rfl) (by kernel_rfl) (by kernel_rfl) (by kernel_rfl)) ?_
  intro W base args ds gs before hval0 hW hcnd hsz0 _
  have hsz : (DataW.weightsEach Try.prog (Try.f9.params.toList ++ Rows.equalMoreSpec.plain.varTypes Try.prog) (ds ++ gs)).all (· ≤ reachBytes) = true := hsz0
  have hval : ∀ (j : Nat) t v, Try.f9.params[j]? = some t → args[j]? = some v → Value.okWide Try.prog W .any base t v := hval0
  have hW' := hW
  obtain ⟨p, q, hA0, hV, rfl, hfz, hnd⟩ := hW
  have hA : DataW.TrodAll enc Try.prog W 0 (fun _ => true) true Try.f9.params.toList args.toList ds p := hA0
  rw [Try.params9] at hA hval hsz
  obtain ⟨v0, vs0, d0, ds0, p0, q0, hargs, rfl, rfl, h0, r0⟩ := trodAll_cons hA
  obtain ⟨v1, vs1, d1, ds1, p1, q1, rfl, rfl, rfl, h1, r1⟩ := trodAll_cons r0
  obtain ⟨v2, vs2, d2, ds2, p2, q2, rfl, rfl, rfl, h2, r2⟩ := trodAll_cons r1
  obtain ⟨v3, vs3, d3, ds3, p3, q3, rfl, rfl, rfl, h3, r3⟩ := trodAll_cons r2
  obtain ⟨v4, vs4, d4, ds4, p4, q4, rfl, rfl, rfl, h4, r4⟩ := trodAll_cons r3
  obtain ⟨rfl, rfl, rfl⟩ := trodAll_nil r4
  obtain rfl : args = #[v0, v1, v2, v3, v4] := by cases args; simp_all
  obtain ⟨rfl, rfl⟩ := trodVars_none hV
  obtain ⟨a0, rfl, rfl, rfl, w0⟩ := open_int Try.underlying23 (hval 0 23 v0 rfl rfl) h0
  obtain ⟨a1, rfl, rfl, rfl, w1⟩ := open_int Try.underlying23 (hval 1 23 v1 rfl rfl) h1
  obtain ⟨a2, rfl, rfl, rfl, w2⟩ := open_int Try.underlying5 (hval 2 5 v2 rfl rfl) h2
  obtain ⟨a3, rfl, rfl, rfl, w3⟩ := open_int Try.underlying5 (hval 3 5 v3 rfl rfl) h3
  obtain ⟨a4, rfl, rfl, rfl, w4⟩ := open_int Try.underlying5 (hval 4 5 v4 rfl rfl) h4
  clear hA0 hval0 hsz0 hsz
  refine (walk W a0 w0 a1 w1 a2 w2 a3 w3 a4 w4).mono fun e W' ⟨he, bel⟩ => ?_
  subst he
  exact ⟨_, rfl, _, _, _, [], _, [], hW', trodAll_mk1 (shut_bool Try.underlying4 _), (trodAll_cons_mk (shut_int Try.underlying23 w0) (trodAll_cons_mk (shut_int Try.underlying23 w1) (trodAll_cons_mk (shut_int Try.underlying5 w2) (trodAll_cons_mk (shut_int Try.underlying5 w3) (trodAll_cons_mk (shut_int Try.underlying5 w4) trodAll_mk0))))), rfl, bel.frame _, fun h => by cases h⟩
theorem over : Rows.equalMoreRow.holds Try.pinned (OpenSpec.ofChange Rows.equalMoreSpec) :=
  OpenClaim.holds_of_wide 9 Try.f9 rfl rfl rfl rfl rfl rfl rfl ⟨rfl, rfl, rfl, rfl, rfl⟩ rfl rfl rfl rfl rfl (by kernel_rfl) Try.func9 (by kernel_rfl)
    (of_decide_eq_true (by kernel_rfl)) (by unfold Func.isWrapper; first | (rw [if_pos (by decide +kernel)]; kernel_rfl) | (rw [if_neg (by decide +kernel)]; exact ⟨rfl, rfl⟩))
    (fun os started H enc _ => lifted os started H enc)
end Go.Proofs.Ytmkkebllmmafmaa.EqualMore
namespace Go.Proofs.Ytmkkebllmmafmaa
/-- The statement. -/
theorem equalMore_holds : Rows.EqualMoreSaid := EqualMore.over
#print axioms equalMore_holds
end Go.Proofs.Ytmkkebllmmafmaa
