/- FrameLays: any bytes as a frame. No condition. -/
import Derived.Test.YtmklopaleiennaaRows
import Derived.ProofKit
import Derived.OpenShut
import Derived.ShutString
import Derived.ChangeOld
import Derived.SizedLaws
import Derived.Test.YtmklopaleiennaaWSized
import Derived.Test.YtmklopaleiennaaGa
import Derived.Test.YtmklopaleiennaaK
namespace Go.Proofs.Ytmklopaleiennaa.FrameLays
open Go.ChangeShapes Go.WideShapes Go.ChangeAt Go.RowKit Go.Proofs.YtmklopaleiennaaW.PrintWords Go.Proofs.YtmklopaleiennaaW.PrintLast Go.Proofs.YtmklopaleiennaaW.PrintMore Go.Proofs.Ytmklopaleiennaa.B Go.Proofs.Ytmklopaleiennaa.Gs Go.Proofs.Ytmklopaleiennaa.Gc Go.Proofs.Ytmklopaleiennaa.R Go.Proofs.Ytmklopaleiennaa.S
set_option linter.unusedVariables false
set_option linter.unusedSimpArgs false
set_option maxHeartbeats 4000000 in
set_option maxRecDepth 100000 in
theorem walk (w : World) (k : Int) (hk : (Lit.int .u8 k).wf = true) (A : Option Addr) (c : Nat) (l : List Int) (hC : kU8.C w A l.length l) (hcap : l.length ≤ c) (hm : l.length * 1 ≤ 140737488351232) (hwf : ∀ x ∈ l, (Lit.int .u8 x).wf = true) :
    Calls Try.prog 8 #[.int .u8 k, .slice A l.length c] w fun e w' => e = .returned (.bool true) ∧ Below w.heap.size w w' := by
  have HY := Aside0.mk (show By l from fun x hx => wf_u8 (hwf x hx))
  have HC := Aside0.mk hC
  obtain ⟨hk0, hk1⟩ := wf_u8 hk
  clear hwf hC hm hk
  by_cases h7 : 70000 < l.length
  · go_enter Try.func8, Try.ntmps8
    go_wp2_with (first | (go_at_call 27; refine (awake_calls _).mono ?_; rintro e w1 ⟨rfl, hb1⟩))
    go_ret
    exact ⟨rfl, hb1⟩
  by_cases h6 : 65536 < l.length
  · go_enter Try.func8, Try.ntmps8
    go_wp2_with (first
      | (go_at_call 27; refine (awake_calls _).mono ?_; rintro e w1 ⟨rfl, hb1⟩)
      | (go_at_call 28; refine (lay_long k A c l _ h6).mono ?_; rintro e w2 ⟨rfl, rfl⟩))
    go_ret
    exact ⟨rfl, hb1⟩
  have e7 : decide ((70000 : Int) < l.length) = false := by simp; omega
  have e6 : decide ((65536 : Int) < l.length) = false := by simp; omega
  obtain ⟨fl, hfl⟩ : ∃ fl, layL k l = fl := ⟨_, rfl⟩
  obtain ⟨n, hn⟩ : ∃ n, fl.length = n := ⟨_, rfl⟩
  have HFL := Aside0.mk hfl
  have HN := Aside0.mk hn
  clear hfl hn
  go_enter Try.func8, Try.ntmps8
  go_wp2_with (first
    | (go_at_call 27; refine (awake_calls _).mono ?_; rintro e w1 ⟨rfl, hb1⟩; have HB1 := Aside0.mk hb1; clear hb1)
    | (go_at_call 28; refine (lay_n k hk0 hk1 A c l l.length rfl fl n HFL.out HN.out _ (Kd.C_below HC.out HB1.out) hcap HY.out (by omega)).mono ?_; rintro e w2 ⟨A2, c2, rfl, -, hC2, hc2, hb⟩; have HC2 := Aside0.mk hC2; have HB2 := Aside0.mk (HB1.out.trans (hb.mono HB1.out.size)); clear hC2 hb))
  have HCUR := Aside0.mk (Keep.refl (fun _ => False) w2.drew)
  refine rk_start (fun _ => False) (by kernel_rfl) (n := 12) (l := #[false, false, false, false, false, false, false, false, false, false, false, false]) (by kernel_rfl) (by kernel_rfl) ?_
  refine rk_take (fuel := 11) 0 rfl (by kernel_rfl) (listed' := #[true, false, false, false, false, false, false, false, false, false, false, false]) (by kernel_rfl) (fun _ _ _ h => h) (by kernel_rfl) (fun w' hR => by go_simp; first | done | with_reducible rfl) rfl ?_
  try simp only [Act.put, List.setIfInBounds_toArray, List.set_cons_zero, List.set_cons_succ]
  refine rk_take (fuel := 10) 1 rfl (by kernel_rfl) (listed' := #[true, true, false, false, false, false, false, false, false, false, false, false]) (by kernel_rfl) (fun _ _ _ h => h) (by kernel_rfl) (fun w' hR => by go_simp; first | done | with_reducible rfl) rfl ?_
  try simp only [Act.put, List.setIfInBounds_toArray, List.set_cons_zero, List.set_cons_succ]
  refine rk_take (fuel := 9) 2 rfl (by kernel_rfl) (listed' := #[true, true, true, false, false, false, false, false, false, false, false, false]) (by kernel_rfl) (fun _ _ _ h => h) (by kernel_rfl) (fun w' hR => by go_simp; first | done | with_reducible rfl) rfl ?_
  try simp only [Act.put, List.setIfInBounds_toArray, List.set_cons_zero, List.set_cons_succ]
  refine rk_take (fuel := 8) 3 rfl (by kernel_rfl) (listed' := #[true, true, true, true, false, false, false, false, false, false, false, false]) (by kernel_rfl) (fun _ _ _ h => h) (by kernel_rfl) (fun w' hR => by go_simp; first | done | with_reducible rfl) rfl ?_
  try simp only [Act.put, List.setIfInBounds_toArray, List.set_cons_zero, List.set_cons_succ]
  refine rk_take (fuel := 7) 4 rfl (by kernel_rfl) (listed' := #[true, true, true, true, true, false, false, false, false, false, false, false]) (by kernel_rfl) (fun _ _ _ h => h) (by kernel_rfl) (fun w' hR => by have x0 := C_str (c := c2) (Kd.C_below (Kd.C_drew HC2.out) ((HCUR.out.trans hR).below (Nat.le_refl _) (fun _ _ h => h))); go_simp; first | done | with_reducible rfl) rfl ?_
  try simp only [Act.put, List.setIfInBounds_toArray, List.set_cons_zero, List.set_cons_succ]
  refine rk_take (fuel := 6) 5 rfl (by kernel_rfl) (listed' := #[true, true, true, true, true, true, false, false, false, false, false, false]) (by kernel_rfl) (fun _ _ _ h => h) (by kernel_rfl) (fun w' hR => by go_simp; first | done | with_reducible rfl) rfl ?_
  try simp only [Act.put, List.setIfInBounds_toArray, List.set_cons_zero, List.set_cons_succ]
  refine rk_take (fuel := 5) 6 rfl (by kernel_rfl) (listed' := #[true, true, true, true, true, true, true, false, false, false, false, false]) (by kernel_rfl) (fun _ _ _ h => h) (by kernel_rfl) (fun w' hR => by go_simp; first | done | with_reducible rfl) rfl ?_
  try simp only [Act.put, List.setIfInBounds_toArray, List.set_cons_zero, List.set_cons_succ]
  refine rk_step (fuel := 4) 7 rfl (by kernel_rfl) (listed' := #[true, true, true, true, true, true, true, true, false, false, false, false]) (by kernel_rfl) (by kernel_rfl) (fun K' hK => ?_)
  go_wp2_with (first | (go_at_call 29; refine (rlay_n k hk0 hk1 A c l l.length rfl fl n HFL.out HN.out _ (Kd.C_drew (Kd.C_below HC.out HB2.out)) HY.out (by omega)).mono ?_; rintro e w3 ⟨A3, c3, rfl, -, hC3, -, hb⟩; have HC3 := Aside0.mk hC3; have HB3 := Aside0.mk hb; have HK3 := Aside0.mk (Keep.of_below (S := fun _ => False) hb); clear hC3 hb))
  refine hK.out _ _ HK3.out ?_
  clear hK K'
  try simp only [Act.put, List.setIfInBounds_toArray, List.set_cons_zero, List.set_cons_succ]
  refine rk_take (fuel := 3) 8 rfl (by kernel_rfl) (listed' := #[true, true, true, true, true, true, true, true, true, false, false, false]) (by kernel_rfl) (fun _ _ _ h => h) (by kernel_rfl) (fun w' hR => by have x0 := C_str (c := c3) (Kd.C_below HC3.out (hR.below (Nat.le_refl _) (fun _ _ h => h))); go_simp; first | done | with_reducible rfl) rfl ?_
  try simp only [Act.put, List.setIfInBounds_toArray, List.set_cons_zero, List.set_cons_succ]
  refine rk_take (fuel := 2) 9 rfl (by kernel_rfl) (listed' := #[true, true, true, true, true, true, true, true, true, true, false, false]) (by kernel_rfl) (fun _ _ _ h => h) (by kernel_rfl) (fun w' hR => by go_simp; first | done | with_reducible rfl) rfl ?_
  try simp only [Act.put, List.setIfInBounds_toArray, List.set_cons_zero, List.set_cons_succ]
  refine rk_take (fuel := 1) 10 rfl (by kernel_rfl) (listed' := #[true, true, true, true, true, true, true, true, true, true, true, false]) (by kernel_rfl) (fun _ _ _ h => h) (by kernel_rfl) (fun w' hR => by go_simp; first | done | with_reducible rfl) rfl ?_
  try simp only [Act.put, List.setIfInBounds_toArray, List.set_cons_zero, List.set_cons_succ]
  refine rk_take (fuel := 0) 11 rfl (by kernel_rfl) (listed' := #[true, true, true, true, true, true, true, true, true, true, true, true]) (by kernel_rfl) (fun _ _ _ h => h) (by kernel_rfl) (fun w' hR => by go_simp; first | done | with_reducible rfl) rfl ?_
  try simp only [Act.put, List.setIfInBounds_toArray, List.set_cons_zero, List.set_cons_succ]
  refine rk_done (by kernel_rfl) ?_
  go_wp2
  go_ret
  exact ⟨rfl, HB2.out.drew.trans (HB3.out.mono (Nat.le_trans HB2.out.size (Nat.le_refl _)))⟩
theorem own : ownKnob Try.prog.godebug = none := by kernel_rfl
theorem laidOut : laidOutB Try.prog = true := by kernel_rfl
def IsRow (k : IntKind) (w : World) (a : Option Addr) (len cap : Nat) (zs : List Int) : Prop :=
  (a = none ∧ len = 0 ∧ cap = 0 ∧ zs = []) ∨
  ∃ x, a = some x ∧ len ≤ cap ∧ cap ≤ maxLen ∧ zs.length = cap ∧ (∀ i, i < zs.length → w.cell? (x.add i) = some (.int k (zs.getD i 0))) ∧ ∀ n ∈ zs, (Lit.int k n).wf = true
set_option maxRecDepth 100000 in
theorem lifted (os : Os) (started : os.Started) (H : Type) (enc : TypeId × Value → H) :
    ReturnsInHanded {} Try.checked os 8 .any (Rows.frameLaysSpec.pre6 enc Try.prog Try.f8 Rows.frameLaysRow.domain false) (Rows.frameLaysSpec.post enc Try.prog Try.f8 false true false false) := by
  refine returnsInHanded_of_change_sized (C := Try.checked) own started (by kernel_rfl) Try.func8
    (ChangeSpec.witness6 (enc := enc) (C := Try.checked) false ⟨#[], #[.int .u8 0, .slice none 0 0], []⟩ 8 (by kernel_rfl) (by kernel_rfl) (by kernel_rfl) (by kernel_rfl)) ?_
  intro W base args ds gs before hval0 hW hcnd hsz0 _
  have hsz : (DataW.weightsEach Try.prog (Try.f8.params.toList ++ Rows.frameLaysSpec.plain.varTypes Try.prog) (ds ++ gs)).all (· ≤ reachBytes) = true := hsz0
  have hval : ∀ (j : Nat) t v, Try.f8.params[j]? = some t → args[j]? = some v → Value.okWide Try.prog W .any base t v := hval0
  have hW' := hW
  obtain ⟨p, q, hA0, hV, rfl, hfz, hnd⟩ := hW
  have hA : DataW.TrodAll enc Try.prog W 0 (fun _ => true) true Try.f8.params.toList args.toList ds p := hA0
  rw [Try.params8] at hA hval hsz
  obtain ⟨v0, vs0, d0, ds0, p0, q0, hargs, rfl, rfl, h0, r0⟩ := trodAll_cons hA
  obtain ⟨v1, vs1, d1, ds1, p1, q1, rfl, rfl, rfl, h1, r1⟩ := trodAll_cons r0
  obtain ⟨rfl, rfl, rfl⟩ := trodAll_nil r1
  obtain rfl : args = #[v0, v1] := by cases args; simp_all
  obtain ⟨rfl, rfl⟩ := trodVars_none hV
  obtain ⟨a0, rfl, rfl, rfl, w0⟩ := open_int Try.underlying5 (hval 0 5 v0 rfl rfl) h0
  obtain ⟨a1, len1, cap1, rfl⟩ := okWide_slice Try.underlying22 (hval 1 22 v1 rfl rfl)
  have k1 := h1
  have lt1 : ∀ x ∈ p1, x.block < W.heap.size := by obtain ⟨m, hm⟩ := k1; exact DataW.trod_lt m _ _ _ hm
  obtain ⟨z1, w1⟩ : ∃ zs, IsRow .u8 W a1 len1 cap1 zs := by
    obtain ⟨fuel, hf⟩ := h1
    rcases open_ints Try.underlying22 Try.underlying5 (by kernel_rfl) hf with ⟨hcs, _⟩ | ⟨x, l, c, zs, hcs, _, hl, hm, hz, _, hcell, hwz⟩
    · simp [Value.cells] at hcs
      obtain ⟨rfl, rfl, rfl⟩ := hcs
      exact ⟨[], .inl ⟨rfl, rfl, rfl, rfl⟩⟩
    · simp [Value.cells] at hcs
      obtain ⟨rfl, rfl, rfl⟩ := hcs
      exact ⟨zs, .inr ⟨_, rfl, hl, hm, by simpa using hz, hcell, hwz⟩⟩
  have y1 : len1 * 1 ≤ 140737488351232 := sized_ints hsz (j := 1) (t := 22) rfl rfl Try.underlying22 Try.underlying5 (by kernel_rfl) (by kernel_rfl) h1
  obtain ⟨l1, rfl, hr1, hm1, hwf1, hcap1⟩ := ReadsInt.ofRowC w1
  clear hA0 hval0 hsz0 hsz
  refine (walk W a0 w0 _ _ l1 (Kd.C_of_reads (d := (0 : Int)) (h1 := fun _ => rfl) hr1) hcap1 y1 hwf1).mono fun e W' ⟨he, bel⟩ => ?_
  subst he
  exact ⟨_, rfl, _, _, _, [], _, [], hW', trodAll_mk1 (shut_bool Try.underlying4 _), (trodAll_cons_mk (shut_int Try.underlying5 w0) (trodAll_cons_mk (Below.trod laidOut (by kernel_rfl) (of_decide_eq_true (by kernel_rfl)) k1 bel lt1) trodAll_mk0)), rfl, bel.frame _, fun h => by cases h⟩
theorem over : Rows.frameLaysRow.holds Try.pinned (OpenSpec.ofChange Rows.frameLaysSpec) :=
  OpenClaim.holds_of_wide 8 Try.f8 rfl rfl rfl rfl rfl rfl rfl ⟨rfl, rfl, rfl, rfl, rfl⟩ rfl rfl rfl rfl rfl (by kernel_rfl) Try.func8 (by kernel_rfl)
    (of_decide_eq_true (by kernel_rfl)) (by unfold Func.isWrapper; first | (rw [if_pos (by decide +kernel)]; kernel_rfl) | (rw [if_neg (by decide +kernel)]; exact ⟨rfl, rfl⟩))
    (fun os started H enc _ => lifted os started H enc)
end Go.Proofs.Ytmklopaleiennaa.FrameLays
namespace Go.Proofs.Ytmklopaleiennaa
/-- The statement. -/
theorem frameLays_holds : Rows.FrameLaysSaid := FrameLays.over
#print axioms frameLays_holds
end Go.Proofs.Ytmklopaleiennaa
