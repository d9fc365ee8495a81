/- EqualSets: what is there, what is in both, what is among others. No condition. -/
import Derived.Test.YtmkkebllmmafmaaRows
import Derived.ProofKit
import Derived.OpenShut
import Derived.ShutString
import Derived.ChangeOld
import Derived.SizedLaws
import Derived.Test.YtmkkebllmmafmaaWSized
import Derived.Test.YtmkkebllmmafmaaPaw
import Derived.Test.YtmkkebllmmafmaaPr
import Derived.Test.YtmkkebllmmafmaaPb
namespace Go.Proofs.Ytmkkebllmmafmaa.EqualSets
open Go.ChangeShapes Go.WideShapes Go.ChangeAt Go.RowKit Go.Proofs.YtmkkebllmmafmaaW.PrintWords Go.Proofs.YtmkkebllmmafmaaW.PrintLast Go.Proofs.YtmkkebllmmafmaaW.PrintMore Go.Proofs.Ytmkkebllmmafmaa.B Go.Proofs.Ytmkkebllmmafmaa.O Go.Proofs.Ytmkkebllmmafmaa.Ps Go.Proofs.Ytmkkebllmmafmaa.R Go.Proofs.Ytmkkebllmmafmaa.Pk Go.Proofs.Ytmkkebllmmafmaa.Pa Go.Proofs.Ytmkkebllmmafmaa.Pm Go.Proofs.Ytmkkebllmmafmaa.Pw Go.Proofs.Ytmkkebllmmafmaa.Pd Go.Proofs.Ytmkkebllmmafmaa.Pg Go.Proofs.Ytmkkebllmmafmaa.Px Go.Proofs.Ytmkkebllmmafmaa.Pz Go.Proofs.Ytmkkebllmmafmaa.Pq Go.Proofs.Ytmkkebllmmafmaa.S
set_option linter.unusedVariables false
set_option linter.unusedSimpArgs false
theorem awake_at {N0 : Nat} {w0 w : World} (_ : Below N0 w0 w) : Calls Try.prog 10 #[] w fun e w' => e = .returned (.bool true) ∧ Below w.heap.size w w' := awake_calls w
theorem hasI_LF {W : World} {A : Option Addr} {m : Nat} {f : F} (c : Nat) (v l : Int) (b : Bool) (h : LF W A m f) (hb : b = true ↔ (v, l) ∈ lst f) :
    Calls Try.prog 27 #[.slice A m c, .int .i64 v, .int .i64 l] W fun e w' => e = .returned (.bool b) ∧ Below W.heap.size W w' :=
  Ph.has_calls A m c (lst f) h.len v l b hb W h.C (lst_rise f) (by have := h.le; omega)
set_option maxHeartbeats 4000000 in
set_option maxRecDepth 100000 in
theorem walk (w : World) (p : Int) (hp : (Lit.int .u64 p).wf = true) (q : Int) (hq : (Lit.int .u64 q).wf = true) (v : Int) (hv : (Lit.int .i64 v).wf = true) (l : Int) (hl : (Lit.int .i64 l).wf = true) :
    Calls Try.prog 6 #[.int .u64 p, .int .u64 q, .int .i64 v, .int .i64 l] w fun e w' => e = .returned (.bool true) ∧ Below w.heap.size w w' := by
  obtain ⟨hp0, hp1⟩ := wf_u64 hp
  obtain ⟨hq0, hq1⟩ := wf_u64 hq
  have hpq := and_bounds p q hp0 hp1 hq0 hq1
  clear hp hq hv hl
  obtain ⟨wb, hwb⟩ : ∃ wb : Bool, wb = true ↔ ∀ v l, v < 6 → l < 8 → bitF p v l = true → bitF q v l = true := by
    classical exact ⟨decide (∀ v l, v < 6 → l < 8 → bitF p v l = true → bitF q v l = true), by simp⟩
  have HWB := Aside0.mk hwb
  clear hwb
  have HB0 := Aside0.mk (Below.refl w.heap.size w)
  obtain ⟨U0, hU⟩ : ∃ U0, U0 = w := ⟨_, rfl⟩
  subst hU
  have hsh := within_bits p q hp0 hp1 hq0 hq1 wb HWB.out
  have hlen48 : (lst (bitF p)).length ≤ 48 := lst_len _
  by_cases hin : 0 ≤ v ∧ v < 6 ∧ 0 ≤ l ∧ l < 8
  · obtain ⟨v0, v1, l0, l1⟩ := hin
    obtain ⟨vn, rfl⟩ := Int.eq_ofNat_of_zero_le v0
    obtain ⟨ln, rfl⟩ := Int.eq_ofNat_of_zero_le l0
    have hv6 : vn < 6 := by omega
    have hl8 : ln < 8 := by omega
    have mv : max 0 (min (vn : Int) 5) = (vn : Int) := by omega
    have ml : max 0 (min (ln : Int) 7) = (ln : Int) := by omega
    obtain ⟨hr, hhr⟩ : ∃ hr, hr = bitF p vn ln := ⟨_, rfl⟩
    have HHR := Aside0.mk (show hr = true ↔ ((vn : Int), (ln : Int)) ∈ lst (bitF p) by rw [hhr, mem_lst]; simp [hv6, hl8])
    go_enter Try.func6, Try.ntmps6
    go_wp2_with (first
      | (go_at_call 10; refine (awake_at HB0.out).mono ?_; rintro e U1 ⟨rfl, hb⟩; have HB1 := Aside0.mk (HB0.out.trans (hb.mono HB0.out.size)); clear hb HB0)
      | (go_at_call 11; refine (made_at HB1.out p hp0 hp1).mono ?_; rintro e U2 ⟨Aa, ma, ca, rfl, h_1, hb⟩; have La2 := Aside0.mk h_1; have HB2 := Aside0.mk (HB1.out.trans (hb.mono HB1.out.size)); clear h_1 hb HB1)
      | (go_at_call 11; refine (made_at HB2.out q hq0 hq1).mono ?_; rintro e U3 ⟨Ab, mb, cb, rfl, h_1, hb⟩; have Lb3 := Aside0.mk h_1; have HB3 := Aside0.mk (HB2.out.trans (hb.mono HB2.out.size)); have La3 := Aside0.mk (La2.out.below hb); clear h_1 hb HB2 La2)
      | (go_at_call 25; refine (meet_LF ca cb La3.out Lb3.out).mono ?_; rintro e U4 ⟨Am, mm, cm, rfl, h_1, hb⟩; have Lm4 := Aside0.mk h_1; have HB4 := Aside0.mk (HB3.out.trans (hb.mono HB3.out.size)); have La4 := Aside0.mk (La3.out.below hb); have Lb4 := Aside0.mk (Lb3.out.below hb); clear h_1 hb HB3 La3 Lb3)
      | (go_at_call 11; refine (made_at HB4.out (Go.bits .and .u64 p q) hpq.1 hpq.2).mono ?_; rintro e U5 ⟨An, mn, cn, rfl, h_1, hb⟩; have Ln5 := Aside0.mk h_1; have HB5 := Aside0.mk (HB4.out.trans (hb.mono HB4.out.size)); have La5 := Aside0.mk (La4.out.below hb); have Lb5 := Aside0.mk (Lb4.out.below hb); have Lm5 := Aside0.mk (Lm4.out.below hb); clear h_1 hb HB4 La4 Lb4 Lm4)
      | (go_at_call 16; refine (same_LF cm cn Lm5.out Ln5.out (fun v l _ _ => (bitF_and p q hp0 hp1 hq0 hq1 v l).symm)).mono ?_; rintro e U6 ⟨rfl, hb⟩; have HB6 := Aside0.mk (HB5.out.trans (hb.mono HB5.out.size)); have La6 := Aside0.mk (La5.out.below hb); have Lb6 := Aside0.mk (Lb5.out.below hb); clear hb HB5 La5 Lb5 Lm5 Ln5)
      | (go_at_call 26; refine (within_LF ca cb wb La6.out Lb6.out HWB.out).mono ?_; rintro e U7 ⟨rfl, hb⟩; have HB7 := Aside0.mk (HB6.out.trans (hb.mono HB6.out.size)); have La7 := Aside0.mk (La6.out.below hb); clear hb HB6 La6 Lb6)
      | (go_at_call 27; refine (hasI_LF ca vn ln hr La7.out HHR.out).mono ?_; rintro e U8 ⟨rfl, hb⟩; have HB8 := Aside0.mk (HB7.out.trans (hb.mono HB7.out.size)); have La8 := Aside0.mk (La7.out.below hb); clear hb HB7 La7)
      | (go_at_call 14; refine (set_LF ca La8.out).mono ?_; rintro e U9 ⟨g9, k9, rfl, h_1, hb⟩; have HS9 := Aside0.mk h_1; have HB9 := Aside0.mk (HB8.out.trans (hb.mono HB8.out.size)); clear h_1 hb HB8 La8)
      | (go_at_call 28; have hc9 := Px.has_calls HS9.out (by decide) hv6 hl8; rw [← hhr] at hc9; refine hc9.mono ?_; rintro e U10 ⟨rfl, qq, rfl⟩; have HB10 := Aside0.mk (belowN HB9.out qq); clear HB9))
    go_ret
    exact ⟨rfl, HB10.out⟩
  · have HHR := Aside0.mk (show false = true ↔ (v, l) ∈ lst (bitF p) by
      simp only [Bool.false_eq_true, false_iff]
      intro h
      have := lst_box _ _ h
      simp only at this
      omega)
    by_cases v0 : 0 ≤ v
    · by_cases v1 : v < 6
      · by_cases l0 : 0 ≤ l
        · have l1 : ¬ l < 8 := fun h => hin ⟨v0, v1, l0, h⟩
          clear hin
          go_enter Try.func6, Try.ntmps6
          go_wp2_with (first
            | (go_at_call 10; refine (awake_at HB0.out).mono ?_; rintro e U1 ⟨rfl, hb⟩; have HB1 := Aside0.mk (HB0.out.trans (hb.mono HB0.out.size)); clear hb HB0)
            | (go_at_call 11; refine (made_at HB1.out p hp0 hp1).mono ?_; rintro e U2 ⟨Aa, ma, ca, rfl, h_1, hb⟩; have La2 := Aside0.mk h_1; have HB2 := Aside0.mk (HB1.out.trans (hb.mono HB1.out.size)); clear h_1 hb HB1)
            | (go_at_call 11; refine (made_at HB2.out q hq0 hq1).mono ?_; rintro e U3 ⟨Ab, mb, cb, rfl, h_1, hb⟩; have Lb3 := Aside0.mk h_1; have HB3 := Aside0.mk (HB2.out.trans (hb.mono HB2.out.size)); have La3 := Aside0.mk (La2.out.below hb); clear h_1 hb HB2 La2)
            | (go_at_call 25; refine (meet_LF ca cb La3.out Lb3.out).mono ?_; rintro e U4 ⟨Am, mm, cm, rfl, h_1, hb⟩; have Lm4 := Aside0.mk h_1; have HB4 := Aside0.mk (HB3.out.trans (hb.mono HB3.out.size)); have La4 := Aside0.mk (La3.out.below hb); have Lb4 := Aside0.mk (Lb3.out.below hb); clear h_1 hb HB3 La3 Lb3)
            | (go_at_call 11; refine (made_at HB4.out (Go.bits .and .u64 p q) hpq.1 hpq.2).mono ?_; rintro e U5 ⟨An, mn, cn, rfl, h_1, hb⟩; have Ln5 := Aside0.mk h_1; have HB5 := Aside0.mk (HB4.out.trans (hb.mono HB4.out.size)); have La5 := Aside0.mk (La4.out.below hb); have Lb5 := Aside0.mk (Lb4.out.below hb); have Lm5 := Aside0.mk (Lm4.out.below hb); clear h_1 hb HB4 La4 Lb4 Lm4)
            | (go_at_call 16; refine (same_LF cm cn Lm5.out Ln5.out (fun v l _ _ => (bitF_and p q hp0 hp1 hq0 hq1 v l).symm)).mono ?_; rintro e U6 ⟨rfl, hb⟩; have HB6 := Aside0.mk (HB5.out.trans (hb.mono HB5.out.size)); have La6 := Aside0.mk (La5.out.below hb); have Lb6 := Aside0.mk (Lb5.out.below hb); clear hb HB5 La5 Lb5 Lm5 Ln5)
            | (go_at_call 26; refine (within_LF ca cb wb La6.out Lb6.out HWB.out).mono ?_; rintro e U7 ⟨rfl, hb⟩; have HB7 := Aside0.mk (HB6.out.trans (hb.mono HB6.out.size)); have La7 := Aside0.mk (La6.out.below hb); clear hb HB6 La6 Lb6)
            | (go_at_call 27; refine (hasI_LF ca v l false La7.out HHR.out).mono ?_; rintro e U8 ⟨rfl, hb⟩; have HB8 := Aside0.mk (HB7.out.trans (hb.mono HB7.out.size)); have La8 := Aside0.mk (La7.out.below hb); clear hb HB7 La7))
          go_ret
          exact ⟨rfl, HB8.out⟩
        · clear hin
          go_enter Try.func6, Try.ntmps6
          go_wp2_with (first
            | (go_at_call 10; refine (awake_at HB0.out).mono ?_; rintro e U1 ⟨rfl, hb⟩; have HB1 := Aside0.mk (HB0.out.trans (hb.mono HB0.out.size)); clear hb HB0)
            | (go_at_call 11; refine (made_at HB1.out p hp0 hp1).mono ?_; rintro e U2 ⟨Aa, ma, ca, rfl, h_1, hb⟩; have La2 := Aside0.mk h_1; have HB2 := Aside0.mk (HB1.out.trans (hb.mono HB1.out.size)); clear h_1 hb HB1)
            | (go_at_call 11; refine (made_at HB2.out q hq0 hq1).mono ?_; rintro e U3 ⟨Ab, mb, cb, rfl, h_1, hb⟩; have Lb3 := Aside0.mk h_1; have HB3 := Aside0.mk (HB2.out.trans (hb.mono HB2.out.size)); have La3 := Aside0.mk (La2.out.below hb); clear h_1 hb HB2 La2)
            | (go_at_call 25; refine (meet_LF ca cb La3.out Lb3.out).mono ?_; rintro e U4 ⟨Am, mm, cm, rfl, h_1, hb⟩; have Lm4 := Aside0.mk h_1; have HB4 := Aside0.mk (HB3.out.trans (hb.mono HB3.out.size)); have La4 := Aside0.mk (La3.out.below hb); have Lb4 := Aside0.mk (Lb3.out.below hb); clear h_1 hb HB3 La3 Lb3)
            | (go_at_call 11; refine (made_at HB4.out (Go.bits .and .u64 p q) hpq.1 hpq.2).mono ?_; rintro e U5 ⟨An, mn, cn, rfl, h_1, hb⟩; have Ln5 := Aside0.mk h_1; have HB5 := Aside0.mk (HB4.out.trans (hb.mono HB4.out.size)); have La5 := Aside0.mk (La4.out.below hb); have Lb5 := Aside0.mk (Lb4.out.below hb); have Lm5 := Aside0.mk (Lm4.out.below hb); clear h_1 hb HB4 La4 Lb4 Lm4)
            | (go_at_call 16; refine (same_LF cm cn Lm5.out Ln5.out (fun v l _ _ => (bitF_and p q hp0 hp1 hq0 hq1 v l).symm)).mono ?_; rintro e U6 ⟨rfl, hb⟩; have HB6 := Aside0.mk (HB5.out.trans (hb.mono HB5.out.size)); have La6 := Aside0.mk (La5.out.below hb); have Lb6 := Aside0.mk (Lb5.out.below hb); clear hb HB5 La5 Lb5 Lm5 Ln5)
            | (go_at_call 26; refine (within_LF ca cb wb La6.out Lb6.out HWB.out).mono ?_; rintro e U7 ⟨rfl, hb⟩; have HB7 := Aside0.mk (HB6.out.trans (hb.mono HB6.out.size)); have La7 := Aside0.mk (La6.out.below hb); clear hb HB6 La6 Lb6)
            | (go_at_call 27; refine (hasI_LF ca v l false La7.out HHR.out).mono ?_; rintro e U8 ⟨rfl, hb⟩; have HB8 := Aside0.mk (HB7.out.trans (hb.mono HB7.out.size)); have La8 := Aside0.mk (La7.out.below hb); clear hb HB7 La7))
          go_ret
          exact ⟨rfl, HB8.out⟩
      · clear hin
        go_enter Try.func6, Try.ntmps6
        go_wp2_with (first
          | (go_at_call 10; refine (awake_at HB0.out).mono ?_; rintro e U1 ⟨rfl, hb⟩; have HB1 := Aside0.mk (HB0.out.trans (hb.mono HB0.out.size)); clear hb HB0)
          | (go_at_call 11; refine (made_at HB1.out p hp0 hp1).mono ?_; rintro e U2 ⟨Aa, ma, ca, rfl, h_1, hb⟩; have La2 := Aside0.mk h_1; have HB2 := Aside0.mk (HB1.out.trans (hb.mono HB1.out.size)); clear h_1 hb HB1)
          | (go_at_call 11; refine (made_at HB2.out q hq0 hq1).mono ?_; rintro e U3 ⟨Ab, mb, cb, rfl, h_1, hb⟩; have Lb3 := Aside0.mk h_1; have HB3 := Aside0.mk (HB2.out.trans (hb.mono HB2.out.size)); have La3 := Aside0.mk (La2.out.below hb); clear h_1 hb HB2 La2)
          | (go_at_call 25; refine (meet_LF ca cb La3.out Lb3.out).mono ?_; rintro e U4 ⟨Am, mm, cm, rfl, h_1, hb⟩; have Lm4 := Aside0.mk h_1; have HB4 := Aside0.mk (HB3.out.trans (hb.mono HB3.out.size)); have La4 := Aside0.mk (La3.out.below hb); have Lb4 := Aside0.mk (Lb3.out.below hb); clear h_1 hb HB3 La3 Lb3)
          | (go_at_call 11; refine (made_at HB4.out (Go.bits .and .u64 p q) hpq.1 hpq.2).mono ?_; rintro e U5 ⟨An, mn, cn, rfl, h_1, hb⟩; have Ln5 := Aside0.mk h_1; have HB5 := Aside0.mk (HB4.out.trans (hb.mono HB4.out.size)); have La5 := Aside0.mk (La4.out.below hb); have Lb5 := Aside0.mk (Lb4.out.below hb); have Lm5 := Aside0.mk (Lm4.out.below hb); clear h_1 hb HB4 La4 Lb4 Lm4)
          | (go_at_call 16; refine (same_LF cm cn Lm5.out Ln5.out (fun v l _ _ => (bitF_and p q hp0 hp1 hq0 hq1 v l).symm)).mono ?_; rintro e U6 ⟨rfl, hb⟩; have HB6 := Aside0.mk (HB5.out.trans (hb.mono HB5.out.size)); have La6 := Aside0.mk (La5.out.below hb); have Lb6 := Aside0.mk (Lb5.out.below hb); clear hb HB5 La5 Lb5 Lm5 Ln5)
          | (go_at_call 26; refine (within_LF ca cb wb La6.out Lb6.out HWB.out).mono ?_; rintro e U7 ⟨rfl, hb⟩; have HB7 := Aside0.mk (HB6.out.trans (hb.mono HB6.out.size)); have La7 := Aside0.mk (La6.out.below hb); clear hb HB6 La6 Lb6)
          | (go_at_call 27; refine (hasI_LF ca v l false La7.out HHR.out).mono ?_; rintro e U8 ⟨rfl, hb⟩; have HB8 := Aside0.mk (HB7.out.trans (hb.mono HB7.out.size)); have La8 := Aside0.mk (La7.out.below hb); clear hb HB7 La7))
        go_ret
        exact ⟨rfl, HB8.out⟩
    · clear hin
      go_enter Try.func6, Try.ntmps6
      go_wp2_with (first
        | (go_at_call 10; refine (awake_at HB0.out).mono ?_; rintro e U1 ⟨rfl, hb⟩; have HB1 := Aside0.mk (HB0.out.trans (hb.mono HB0.out.size)); clear hb HB0)
        | (go_at_call 11; refine (made_at HB1.out p hp0 hp1).mono ?_; rintro e U2 ⟨Aa, ma, ca, rfl, h_1, hb⟩; have La2 := Aside0.mk h_1; have HB2 := Aside0.mk (HB1.out.trans (hb.mono HB1.out.size)); clear h_1 hb HB1)
        | (go_at_call 11; refine (made_at HB2.out q hq0 hq1).mono ?_; rintro e U3 ⟨Ab, mb, cb, rfl, h_1, hb⟩; have Lb3 := Aside0.mk h_1; have HB3 := Aside0.mk (HB2.out.trans (hb.mono HB2.out.size)); have La3 := Aside0.mk (La2.out.below hb); clear h_1 hb HB2 La2)
        | (go_at_call 25; refine (meet_LF ca cb La3.out Lb3.out).mono ?_; rintro e U4 ⟨Am, mm, cm, rfl, h_1, hb⟩; have Lm4 := Aside0.mk h_1; have HB4 := Aside0.mk (HB3.out.trans (hb.mono HB3.out.size)); have La4 := Aside0.mk (La3.out.below hb); have Lb4 := Aside0.mk (Lb3.out.below hb); clear h_1 hb HB3 La3 Lb3)
        | (go_at_call 11; refine (made_at HB4.out (Go.bits .and .u64 p q) hpq.1 hpq.2).mono ?_; rintro e U5 ⟨An, mn, cn, rfl, h_1, hb⟩; have Ln5 := Aside0.mk h_1; have HB5 := Aside0.mk (HB4.out.trans (hb.mono HB4.out.size)); have La5 := Aside0.mk (La4.out.below hb); have Lb5 := Aside0.mk (Lb4.out.below hb); have Lm5 := Aside0.mk (Lm4.out.below hb); clear h_1 hb HB4 La4 Lb4 Lm4)
        | (go_at_call 16; refine (same_LF cm cn Lm5.out Ln5.out (fun v l _ _ => (bitF_and p q hp0 hp1 hq0 hq1 v l).symm)).mono ?_; rintro e U6 ⟨rfl, hb⟩; have HB6 := Aside0.mk (HB5.out.trans (hb.mono HB5.out.size)); have La6 := Aside0.mk (La5.out.below hb); have Lb6 := Aside0.mk (Lb5.out.below hb); clear hb HB5 La5 Lb5 Lm5 Ln5)
        | (go_at_call 26; refine (within_LF ca cb wb La6.out Lb6.out HWB.out).mono ?_; rintro e U7 ⟨rfl, hb⟩; have HB7 := Aside0.mk (HB6.out.trans (hb.mono HB6.out.size)); have La7 := Aside0.mk (La6.out.below hb); clear hb HB6 La6 Lb6)
        | (go_at_call 27; refine (hasI_LF ca v l false La7.out HHR.out).mono ?_; rintro e U8 ⟨rfl, hb⟩; have HB8 := Aside0.mk (HB7.out.trans (hb.mono HB7.out.size)); have La8 := Aside0.mk (La7.out.below hb); clear hb HB7 La7))
      go_ret
      exact ⟨rfl, HB8.out⟩
theorem own : ownKnob Try.prog.godebug = none := by kernel_rfl
set_option maxRecDepth 100000 in
theorem lifted (os : Os) (started : os.Started) (H : Type) (enc : TypeId × Value → H) :
    ReturnsInHanded {} Try.checked os 6 .any (Rows.equalSetsSpec.pre6 enc Try.prog Try.f6 Rows.equalSetsRow.domain false) (Rows.equalSetsSpec.post enc Try.prog Try.f6 false true false false) := by
  refine returnsInHanded_of_change_sized (C := Try.checked) own started (by kernel_rfl) Try.func6
    (ChangeSpec.witness6 (enc := enc) (C := Try.checked) false ⟨#[], #[.int .u64 0, .int .u64 0, .int .i64 0, .int .i64 0], []⟩ 8 (by kernel_rfl) (by kernel_rfl) (by kernel_rfl) (by kernel_rfl)) ?_
  intro W base args ds gs before hval0 hW hcnd hsz0 _
  have hsz : (DataW.weightsEach Try.prog (Try.f6.params.toList ++ Rows.equalSetsSpec.plain.varTypes Try.prog) (ds ++ gs)).all (· ≤ reachBytes) = true := hsz0
  have hval : ∀ (j : Nat) t v, Try.f6.params[j]? = some t → args[j]? = some v → Value.okWide Try.prog W .any base t v := hval0
  have hW' := hW
  obtain ⟨p, q, hA0, hV, rfl, hfz, hnd⟩ := hW
  have hA : DataW.TrodAll enc Try.prog W 0 (fun _ => true) true Try.f6.params.toList args.toList ds p := hA0
  rw [Try.params6] at hA hval hsz
  obtain ⟨v0, vs0, d0, ds0, p0, q0, hargs, rfl, rfl, h0, r0⟩ := trodAll_cons hA
  obtain ⟨v1, vs1, d1, ds1, p1, q1, rfl, rfl, rfl, h1, r1⟩ := trodAll_cons r0
  obtain ⟨v2, vs2, d2, ds2, p2, q2, rfl, rfl, rfl, h2, r2⟩ := trodAll_cons r1
  obtain ⟨v3, vs3, d3, ds3, p3, q3, rfl, rfl, rfl, h3, r3⟩ := trodAll_cons r2
  obtain ⟨rfl, rfl, rfl⟩ := trodAll_nil r3
  obtain rfl : args = #[v0, v1, v2, v3] := by cases args; simp_all
  obtain ⟨rfl, rfl⟩ := trodVars_none hV
  obtain ⟨a0, rfl, rfl, rfl, w0⟩ := open_int Try.underlying23 (hval 0 23 v0 rfl rfl) h0
  obtain ⟨a1, rfl, rfl, rfl, w1⟩ := open_int Try.underlying23 (hval 1 23 v1 rfl rfl) h1
  obtain ⟨a2, rfl, rfl, rfl, w2⟩ := open_int Try.underlying3 (hval 2 3 v2 rfl rfl) h2
  obtain ⟨a3, rfl, rfl, rfl, w3⟩ := open_int Try.underlying3 (hval 3 3 v3 rfl rfl) h3
  clear hA0 hval0 hsz0 hsz
  refine (walk W a0 w0 a1 w1 a2 w2 a3 w3).mono fun e W' ⟨he, bel⟩ => ?_
  subst he
  exact ⟨_, rfl, _, _, _, [], _, [], hW', trodAll_mk1 (shut_bool Try.underlying4 _), (trodAll_cons_mk (shut_int Try.underlying23 w0) (trodAll_cons_mk (shut_int Try.underlying23 w1) (trodAll_cons_mk (shut_int Try.underlying3 w2) (trodAll_cons_mk (shut_int Try.underlying3 w3) trodAll_mk0)))), rfl, bel.frame _, fun h => by cases h⟩
theorem over : Rows.equalSetsRow.holds Try.pinned (OpenSpec.ofChange Rows.equalSetsSpec) :=
  OpenClaim.holds_of_wide 6 Try.f6 rfl rfl rfl rfl rfl rfl rfl ⟨rfl, rfl, rfl, rfl, rfl⟩ rfl rfl rfl rfl rfl (by kernel_rfl) Try.func6 (by kernel_rfl)
    (of_decide_eq_true (by kernel_rfl)) (by unfold Func.isWrapper; first | (rw [if_pos (by decide +kernel)]; kernel_rfl) | (rw [if_neg (by decide +kernel)]; exact ⟨rfl, rfl⟩))
    (fun os started H enc _ => lifted os started H enc)
end Go.Proofs.Ytmkkebllmmafmaa.EqualSets
namespace Go.Proofs.Ytmkkebllmmafmaa
/-- The statement. -/
theorem equalSets_holds : Rows.EqualSetsSaid := EqualSets.over
#print axioms equalSets_holds
end Go.Proofs.Ytmkkebllmmafmaa
