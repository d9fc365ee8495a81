/- EqualSteps: what holds behind a step, of any pairs. No condition. -/
import Derived.Test.YtmkkebllmmafmaaRows
import Derived.ProofKit
import Derived.OpenShut
import Derived.ShutString
import Derived.ChangeOld
import Derived.SizedLaws
import Derived.Test.YtmkkebllmmafmaaWSized
import Derived.Test.YtmkkebllmmafmaaPaw
import Derived.Test.YtmkkebllmmafmaaPr
import Derived.Test.YtmkkebllmmafmaaPq
namespace Go.Proofs.Ytmkkebllmmafmaa.EqualSteps
open Go.ChangeShapes Go.WideShapes Go.ChangeAt Go.RowKit Go.Proofs.YtmkkebllmmafmaaW.PrintWords Go.Proofs.YtmkkebllmmafmaaW.PrintLast Go.Proofs.YtmkkebllmmafmaaW.PrintMore Go.Proofs.Ytmkkebllmmafmaa.B Go.Proofs.Ytmkkebllmmafmaa.O Go.Proofs.Ytmkkebllmmafmaa.Ps Go.Proofs.Ytmkkebllmmafmaa.R Go.Proofs.Ytmkkebllmmafmaa.Pk Go.Proofs.Ytmkkebllmmafmaa.Pa Go.Proofs.Ytmkkebllmmafmaa.Pm Go.Proofs.Ytmkkebllmmafmaa.Pw Go.Proofs.Ytmkkebllmmafmaa.Pd Go.Proofs.Ytmkkebllmmafmaa.Pg Go.Proofs.Ytmkkebllmmafmaa.Px Go.Proofs.Ytmkkebllmmafmaa.Pz Go.Proofs.Ytmkkebllmmafmaa.Pq Go.Proofs.Ytmkkebllmmafmaa.S
set_option linter.unusedVariables false
set_option linter.unusedSimpArgs false
theorem cutP (A : Option Addr) (n c j : Nat) (hj : j ≤ c) (W : World) : (Instr.slice 22 (.slice A n c) none (some (.int .i64 j)) none).run Try.prog W = .ok (.slice A j c) W := by
  obtain ⟨i, hi, -⟩ := Option.map_eq_some_iff.1 infoP
  have hel : Try.prog.elem 22 = 25 := by simp [Program.elem, Try.underlying22]
  have hu : Try.prog.underlying 22 = some (.slice (Try.prog.elem 22)) := by rw [hel]; exact Try.underlying22
  have ha : (A.map fun x => x.add 0) = A := by cases A <;> simp [Addr.add]
  rw [run_slice_h W 22 A n c hu .i64 j (by omega) (by omega), hel]
  simp [sizeOf, typeInfo, hi, sliced, Result.andThen, ha]
/-- Pairs, and one more behind. -/
structure FF (W : World) (A : Option Addr) (m : Nat) (f : F) : Prop where
  len : (lst f).length = m
  C : kP.C W A (m + 1) (lst f ++ [((-5 : Int), (0 : Int))])
theorem FF.below {W W' : World} {A : Option Addr} {m : Nat} {f : F} (h : FF W A m f) (hb : Below W.heap.size W W') : FF W' A m f := ⟨h.len, Kd.C_below h.C hb⟩
theorem FF.toLF {W : World} {A : Option Addr} {m : Nat} {f : F} (h : FF W A m f) : LF W A m f := by
  refine ⟨h.len, h.len, by have := lst_len f; have := h.len; omega, fun h0 => ?_⟩
  obtain ⟨ad, e, hc⟩ := h.C.2.2 (by omega)
  exact ⟨ad, e, fun j p hj => hc j p (by rw [List.getElem?_append_left (List.getElem?_eq_some_iff.1 hj).1]; exact hj)⟩
theorem FF.last {W : World} {A : Option Addr} {m : Nat} {f : F} (h : FF W A m f) : (lst f ++ [((-5 : Int), (0 : Int))])[m]? = some (-5, 0) := by
  rw [List.getElem?_append_right (by rw [h.len]; exact Nat.le_refl _), h.len, Nat.sub_self]
  rfl
theorem awake_at {N0 : Nat} {w0 w : World} (_ : Below N0 w0 w) : Calls Try.prog 10 #[] w fun e w' => e = .returned (.bool true) ∧ Below w.heap.size w w' := awake_calls w
set_option maxHeartbeats 8000000 in
set_option maxRecDepth 100000 in
theorem walk (w : World) (x : Int) (hx : (Lit.int .u64 x).wf = true) (a : Int) (ha : (Lit.int .u8 a).wf = true) (b : Int) (hb : (Lit.int .u8 b).wf = true) :
    Calls Try.prog 4 #[.int .u64 x, .int .u8 a, .int .u8 b] w fun e w' => e = .returned (.bool true) ∧ Below w.heap.size w w' := by
  obtain ⟨hx0, hx1⟩ := wf_u64 hx
  obtain ⟨ha0, ha1⟩ := wf_u8 ha
  obtain ⟨hb0, hb1⟩ := wf_u8 hb
  clear hx ha hb
  obtain ⟨t, ht⟩ : ∃ t : Nat, a % 8 = (t : Int) := ⟨(a % 8).toNat, by omega⟩
  obtain ⟨s, hs⟩ : ∃ s : Nat, b % 8 = (s : Int) := ⟨(b % 8).toNat, by omega⟩
  have ht8 : t < 8 := by omega
  have hs8 : s < 8 := by omega
  have et : a.tmod 8 = (t : Int) := by rw [Int.tmod_eq_emod_of_nonneg ha0]; exact ht
  have es : b.tmod 8 = (s : Int) := by rw [Int.tmod_eq_emod_of_nonneg hb0]; exact hs
  obtain ⟨t6, ht6⟩ : ∃ t6 : Nat, (t : Int) % 6 = (t6 : Int) := ⟨t % 6, by omega⟩
  obtain ⟨s6, hs6⟩ : ∃ s6 : Nat, (s : Int) % 6 = (s6 : Int) := ⟨s % 6, by omega⟩
  have ht66 : t6 < 6 := by omega
  have hs66 : s6 < 6 := by omega
  have et6 : (t : Int).tmod 6 = (t6 : Int) := by rw [Int.tmod_eq_emod_of_nonneg (by omega)]; exact ht6
  have es6 : (s : Int).tmod 6 = (s6 : Int) := by rw [Int.tmod_eq_emod_of_nonneg (by omega)]; exact hs6
  have wt := wrI64 (t : Int) (by omega) (by omega)
  have ws := wrI64 (s : Int) (by omega) (by omega)
  clear ha0 ha1 hb0 hb1
  obtain ⟨U0, hU⟩ : ∃ U0, U0 = w := ⟨_, rfl⟩
  subst hU
  have HB0 := Aside0.mk (Below.refl U0.heap.size U0)
  go_enter Try.func4, Try.ntmps4
  go_wp2_with (first
    | (go_at_call 10; refine (awake_at HB0.out).mono ?_; rintro e U1 ⟨rfl, hb⟩; have HB1 := Aside0.mk (HB0.out.trans (hb.mono HB0.out.size)); clear hb HB0)
    | (go_at_call 11; refine (made_at HB1.out x hx0 hx1).mono ?_; rintro e U2 ⟨Al, m, cl, rfl, h_1, hb⟩; have HB2 := Aside0.mk (HB1.out.trans (hb.mono HB1.out.size)); have Ll2 := Aside0.mk h_1; have hm48 := h_1.le; have wm := wrI64 ((m : Int) + 1) (by omega) (by omega); clear hb h_1 HB1)
    | ((with_reducible refine gate_builtin (b := .append) (xs := #[.tmp 18, .tmp 19]) rfl ?_); at_builtin; refine Kd.R_append_rows kP (Rr := kP.K U2) (w0 := U2) U2.heap.size rfl (.tmp 18) (.tmp 19) 22 25 (.agg #[.int .i64 0, .int .i64 0]) 16 rfl Try.underlying22 infoP rfl (show 0 < 2 by decide) (by decide) (.slice (some ⟨U2.heap.size, 0, none⟩) 0 0) [] (lst (bitF x)) Al m cl (fun _ => True) (fun _ => False) rfl rfl (R_lit0 kP 25 U2) (ReadsRow.imp_ Ll2.out.C ((Below.refl _ _).alloc (Nat.le_refl _) _) (fun _ _ h => h)) (fun x cs h => kP_M.2 (kP_K.1 h)) (fun _ h => h.elim) (fun _ _ => trivial) ((Below.refl _ _).alloc (Nat.le_refl _) _) (by simp) (by simp only [List.length_nil]; omega) ?_; intro v3 U3 ho3 hb3 hg hat; rw [List.nil_append] at ho3; obtain ⟨A3, c3, rfl, -, -⟩ := Kd.R_reads ho3; have HB3 := Aside0.mk (HB2.out.trans (hb3.mono HB2.out.size)); have HO3 := Aside0.mk ho3; have HN3 := Aside0.mk hb3; clear ho3 hb3 hg hat)
    | ((with_reducible refine gate_builtin (b := .append) (xs := #[.tmp 20, .tmp 22]) rfl ?_); at_builtin; refine Kd.R_append kP (w0 := U2) U2.heap.size rfl (.tmp 20) (.tmp 22) 22 25 (.agg #[.int .i64 0, .int .i64 0]) 16 rfl Try.underlying22 infoP rfl (show 0 < 2 by decide) (by decide) (.slice A3 (lst (bitF x)).length c3) (lst (bitF x)) (-5, 0) [.int .i64 (-5), .int .i64 0] (fun _ => True) (fun _ => False) rfl rfl (kP_M.2 rfl) (fun _ h => h.elim) (fun _ _ => trivial) HO3.out HN3.out HN3.out.size (by have := lst_len (bitF x); omega) ?_; intro v4 U4 ho4 hb4 hg hat; obtain ⟨Ai, ci, rfl, hci, hC4⟩ := Kd.R_reads ho4; have hlen : (lst (bitF x) ++ [((-5 : Int), (0 : Int))]).length = m + 1 := (by rw [List.length_append, Ll2.out.len]; rfl); rw [hlen] at hci hC4; have hcut := cutP Ai (m + 1) ci m (by omega); have hcut2 := cutP Ai m ci (m + 1) hci; rw [hlen]; have Lf4 := Aside0.mk (FF.mk (m := m) Ll2.out.len hC4); have Ll4 := Aside0.mk (Ll2.out.below hb4); have HB4 := Aside0.mk (HB2.out.trans (hb4.mono HB2.out.size)); clear hC4 ho4 hb4 hg hat HO3 HN3 HB3 HB2 Ll2 hlen)
    | (go_at_call 14; refine (set_LF cl Ll4.out).mono ?_; rintro e U5 ⟨g0, k0, rfl, h_1, hb⟩; have HS5 := Aside0.mk h_1; have HK5 := Aside0.mk hb; clear h_1 hb)
    | (go_at_call 15; refine (rcopied_calls HS5.out (by decide) (by decide) (by decide) t s ht8 hs8).mono ?_; rintro e U6 ⟨rfl, h_1, hk⟩; have hb : Below U4.heap.size U4 U6 := Keep.below_then HK5.out hk HK5.out.size (fun i hi e => by have := HS5.out.hb; omega); have HS6 := Aside0.mk h_1; have HB6 := Aside0.mk (HB4.out.trans (hb.mono HB4.out.size)); have Ll6 := Aside0.mk (Ll4.out.below hb); have Lf6 := Aside0.mk (Lf4.out.below hb); clear h_1 hk hb HS5 HK5 HB4 Ll4 Lf4)
    | (go_at_call 17; refine (copied_LF ci t s ht8 hs8 Lf6.out.toLF).mono ?_; rintro e U7 ⟨Ap0, mp0, cp0, rfl, h_1, hb⟩; have Lp7 := Aside0.mk h_1; have HB7 := Aside0.mk (HB6.out.trans (hb.mono HB6.out.size)); have Ll7 := Aside0.mk (Ll6.out.below hb); have Lf7 := Aside0.mk (Lf6.out.below hb); have HS7 := Aside0.mk (HS6.out.below hb); clear h_1 hb HB6 Ll6 Lf6 HS6)
    | (go_at_call 18; refine (pairs_LF HS7.out).mono ?_; rintro e U8 ⟨Aq0, mq0, cq0, rfl, h_1, hb⟩; have Lq8 := Aside0.mk h_1; have HB8 := Aside0.mk (HB7.out.trans (hb.mono HB7.out.size)); have Ll8 := Aside0.mk (Ll7.out.below hb); have Lf8 := Aside0.mk (Lf7.out.below hb); have Lp8 := Aside0.mk (Lp7.out.below hb); clear h_1 hb HB7 Ll7 Lf7 Lp7 HS7)
    | (go_at_call 16; refine (same_LF cp0 cq0 Lp8.out Lq8.out (fun _ _ _ _ => rfl)).mono ?_; rintro e U9 ⟨rfl, hb⟩; have HB9 := Aside0.mk (HB8.out.trans (hb.mono HB8.out.size)); have Ll9 := Aside0.mk (Ll8.out.below hb); have Lf9 := Aside0.mk (Lf8.out.below hb); clear hb HB8 Ll8 Lf8 Lp8 Lq8)
    | (go_at_call 14; refine (set_LF cl Ll9.out).mono ?_; rintro e U10 ⟨g1, k1, rfl, h_1, hb⟩; have HS10 := Aside0.mk h_1; have HK10 := Aside0.mk hb; clear h_1 hb)
    | (go_at_call 19; refine (rmoved_calls HS10.out (by decide) (by decide) (by decide) t6 s6 ht66 hs66).mono ?_; rintro e U11 ⟨rfl, h_1, hk⟩; have hb : Below U9.heap.size U9 U11 := Keep.below_then HK10.out hk HK10.out.size (fun i hi e => by have := HS10.out.hb; omega); have HS11 := Aside0.mk h_1; have HB11 := Aside0.mk (HB9.out.trans (hb.mono HB9.out.size)); have Ll11 := Aside0.mk (Ll9.out.below hb); have Lf11 := Aside0.mk (Lf9.out.below hb); clear h_1 hk hb HS10 HK10 HB9 Ll9 Lf9)
    | (go_at_call 20; refine (moved_LF ci t6 s6 ht66 hs66 Lf11.out.toLF).mono ?_; rintro e U12 ⟨Ap1, mp1, cp1, rfl, h_1, hb⟩; have Lp12 := Aside0.mk h_1; have HB12 := Aside0.mk (HB11.out.trans (hb.mono HB11.out.size)); have Ll12 := Aside0.mk (Ll11.out.below hb); have Lf12 := Aside0.mk (Lf11.out.below hb); have HS12 := Aside0.mk (HS11.out.below hb); clear h_1 hb HB11 Ll11 Lf11 HS11)
    | (go_at_call 18; refine (pairs_LF HS12.out).mono ?_; rintro e U13 ⟨Aq1, mq1, cq1, rfl, h_1, hb⟩; have Lq13 := Aside0.mk h_1; have HB13 := Aside0.mk (HB12.out.trans (hb.mono HB12.out.size)); have Ll13 := Aside0.mk (Ll12.out.below hb); have Lf13 := Aside0.mk (Lf12.out.below hb); have Lp13 := Aside0.mk (Lp12.out.below hb); clear h_1 hb HB12 Ll12 Lf12 Lp12 HS12)
    | (go_at_call 16; refine (same_LF cp1 cq1 Lp13.out Lq13.out (fun _ _ _ _ => rfl)).mono ?_; rintro e U14 ⟨rfl, hb⟩; have HB14 := Aside0.mk (HB13.out.trans (hb.mono HB13.out.size)); have Ll14 := Aside0.mk (Ll13.out.below hb); have Lf14 := Aside0.mk (Lf13.out.below hb); clear hb HB13 Ll13 Lf13 Lp13 Lq13)
    | (go_at_call 14; refine (set_LF cl Ll14.out).mono ?_; rintro e U15 ⟨g2, k2, rfl, h_1, hb⟩; have HS15 := Aside0.mk h_1; have HK15 := Aside0.mk hb; clear h_1 hb)
    | (go_at_call 21; refine (rgiven_calls HS15.out (by decide) (by decide) (by decide) t6 s ht66 hs8).mono ?_; rintro e U16 ⟨rfl, h_1, hk⟩; have hb : Below U14.heap.size U14 U16 := Keep.below_then HK15.out hk HK15.out.size (fun i hi e => by have := HS15.out.hb; omega); have HS16 := Aside0.mk h_1; have HB16 := Aside0.mk (HB14.out.trans (hb.mono HB14.out.size)); have Ll16 := Aside0.mk (Ll14.out.below hb); have Lf16 := Aside0.mk (Lf14.out.below hb); clear h_1 hk hb HS15 HK15 HB14 Ll14 Lf14)
    | (go_at_call 22; refine (given_LF ci t6 s ht66 hs8 Lf16.out.toLF).mono ?_; rintro e U17 ⟨Ap2, mp2, cp2, rfl, h_1, hb⟩; have Lp17 := Aside0.mk h_1; have HB17 := Aside0.mk (HB16.out.trans (hb.mono HB16.out.size)); have Ll17 := Aside0.mk (Ll16.out.below hb); have Lf17 := Aside0.mk (Lf16.out.below hb); have HS17 := Aside0.mk (HS16.out.below hb); clear h_1 hb HB16 Ll16 Lf16 HS16)
    | (go_at_call 18; refine (pairs_LF HS17.out).mono ?_; rintro e U18 ⟨Aq2, mq2, cq2, rfl, h_1, hb⟩; have Lq18 := Aside0.mk h_1; have HB18 := Aside0.mk (HB17.out.trans (hb.mono HB17.out.size)); have Ll18 := Aside0.mk (Ll17.out.below hb); have Lf18 := Aside0.mk (Lf17.out.below hb); have Lp18 := Aside0.mk (Lp17.out.below hb); clear h_1 hb HB17 Ll17 Lf17 Lp17 HS17)
    | (go_at_call 16; refine (same_LF cp2 cq2 Lp18.out Lq18.out (fun _ _ _ _ => rfl)).mono ?_; rintro e U19 ⟨rfl, hb⟩; have HB19 := Aside0.mk (HB18.out.trans (hb.mono HB18.out.size)); have Ll19 := Aside0.mk (Ll18.out.below hb); have Lf19 := Aside0.mk (Lf18.out.below hb); clear hb HB18 Ll18 Lf18 Lp18 Lq18)
    | (go_at_call 16; refine (same_LF ci cl Lf19.out.toLF Ll19.out (fun _ _ _ _ => rfl)).mono ?_; rintro e U20 ⟨rfl, hb⟩; have HB20 := Aside0.mk (HB19.out.trans (hb.mono HB19.out.size)); have Lf20 := Aside0.mk (Lf19.out.below hb); obtain ⟨ad, rfl, y0, y1⟩ := P_get Lf20.out.C (Lf20.out.last); have hmm : m < m + 1 := Nat.lt_succ_self m; clear hb HB19 Lf19 Ll19 y1))
  go_ret
  exact ⟨rfl, HB20.out⟩
theorem own : ownKnob Try.prog.godebug = none := by kernel_rfl
set_option maxRecDepth 100000 in
theorem lifted (os : Os) (started : os.Started) (H : Type) (enc : TypeId × Value → H) :
    ReturnsInHanded {} Try.checked os 4 .any (Rows.equalStepsSpec.pre6 enc Try.prog Try.f4 Rows.equalStepsRow.domain false) (Rows.equalStepsSpec.post enc Try.prog Try.f4 false true false false) := by
  refine returnsInHanded_of_change_sized (C := Try.checked) own started (by kernel_rfl) Try.func4
    (ChangeSpec.witness6 (enc := enc) (C := Try.checked) false ⟨#[], #[.int .u64 0, .int .u8 0, .int .u8 0], []⟩ 8 (by kernel_rfl) (by kernel_rfl) (by kernel_rfl) (by kernel_rfl)) ?_
  intro W base args ds gs before hval0 hW hcnd hsz0 _
  have hsz : (DataW.weightsEach Try.prog (Try.f4.params.toList ++ Rows.equalStepsSpec.plain.varTypes Try.prog) (ds ++ gs)).all (· ≤ reachBytes) = true := hsz0
  have hval : ∀ (j : Nat) t v, Try.f4.params[j]? = some t → args[j]? = some v → Value.okWide Try.prog W .any base t v := hval0
  have hW' := hW
  obtain ⟨p, q, hA0, hV, rfl, hfz, hnd⟩ := hW
  have hA : DataW.TrodAll enc Try.prog W 0 (fun _ => true) true Try.f4.params.toList args.toList ds p := hA0
  rw [Try.params4] at hA hval hsz
  obtain ⟨v0, vs0, d0, ds0, p0, q0, hargs, rfl, rfl, h0, r0⟩ := trodAll_cons hA
  obtain ⟨v1, vs1, d1, ds1, p1, q1, rfl, rfl, rfl, h1, r1⟩ := trodAll_cons r0
  obtain ⟨v2, vs2, d2, ds2, p2, q2, rfl, rfl, rfl, h2, r2⟩ := trodAll_cons r1
  obtain ⟨rfl, rfl, rfl⟩ := trodAll_nil r2
  obtain rfl : args = #[v0, v1, v2] := by cases args; simp_all
  obtain ⟨rfl, rfl⟩ := trodVars_none hV
  obtain ⟨a0, rfl, rfl, rfl, w0⟩ := open_int Try.underlying23 (hval 0 23 v0 rfl rfl) h0
  obtain ⟨a1, rfl, rfl, rfl, w1⟩ := open_int Try.underlying5 (hval 1 5 v1 rfl rfl) h1
  obtain ⟨a2, rfl, rfl, rfl, w2⟩ := open_int Try.underlying5 (hval 2 5 v2 rfl rfl) h2
  clear hA0 hval0 hsz0 hsz
  refine (walk W a0 w0 a1 w1 a2 w2).mono fun e W' ⟨he, bel⟩ => ?_
  subst he
  exact ⟨_, rfl, _, _, _, [], _, [], hW', trodAll_mk1 (shut_bool Try.underlying4 _), (trodAll_cons_mk (shut_int Try.underlying23 w0) (trodAll_cons_mk (shut_int Try.underlying5 w1) (trodAll_cons_mk (shut_int Try.underlying5 w2) trodAll_mk0))), rfl, bel.frame _, fun h => by cases h⟩
theorem over : Rows.equalStepsRow.holds Try.pinned (OpenSpec.ofChange Rows.equalStepsSpec) :=
  OpenClaim.holds_of_wide 4 Try.f4 rfl rfl rfl rfl rfl rfl rfl ⟨rfl, rfl, rfl, rfl, rfl⟩ rfl rfl rfl rfl rfl (by kernel_rfl) Try.func4 (by kernel_rfl)
    (of_decide_eq_true (by kernel_rfl)) (by unfold Func.isWrapper; first | (rw [if_pos (by decide +kernel)]; kernel_rfl) | (rw [if_neg (by decide +kernel)]; exact ⟨rfl, rfl⟩))
    (fun os started H enc _ => lifted os started H enc)
end Go.Proofs.Ytmkkebllmmafmaa.EqualSteps
namespace Go.Proofs.Ytmkkebllmmafmaa
/-- The statement. -/
theorem equalSteps_holds : Rows.EqualStepsSaid := EqualSteps.over
#print axioms equalSteps_holds
end Go.Proofs.Ytmkkebllmmafmaa
