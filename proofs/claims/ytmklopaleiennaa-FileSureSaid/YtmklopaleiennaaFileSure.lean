/- FileSure: what is sure and isn't written over outlives any crash; what was appended and is kept whole is there. No condition. -/
import Derived.Test.YtmklopaleiennaaRows
import Derived.ProofKit
import Derived.OpenShut
import Derived.ShutString
import Derived.ChangeOld
import Derived.SizedLaws
import Derived.Test.YtmklopaleiennaaWSized
import Derived.Test.YtmklopaleiennaaFh
import Derived.Test.YtmklopaleiennaaE
import Derived.Test.YtmklopaleiennaaS
namespace Go.Proofs.Ytmklopaleiennaa.FileSure
open Go.ChangeShapes Go.WideShapes Go.ChangeAt Go.RowKit Go.Proofs.YtmklopaleiennaaW.PrintWords Go.Proofs.YtmklopaleiennaaW.PrintLast Go.Proofs.YtmklopaleiennaaW.PrintMore Go.Proofs.Ytmklopaleiennaa.B Go.Proofs.Ytmklopaleiennaa.Fs Go.Proofs.Ytmklopaleiennaa.Fc Go.Proofs.Ytmklopaleiennaa.Fw Go.Proofs.Ytmklopaleiennaa.Fd Go.Proofs.Ytmklopaleiennaa.R Go.Proofs.Ytmklopaleiennaa.S
set_option linter.unusedVariables false
set_option linter.unusedSimpArgs false
set_option maxHeartbeats 4000000 in
set_option maxRecDepth 100000 in
theorem walk (w : World) (A : Option Addr) (c : Nat) (l : List Int) (hC : kU8.C w A l.length l) (hcap : l.length ≤ c) (hm : l.length * 1 ≤ 140737488351232) (hwf : ∀ x ∈ l, (Lit.int .u8 x).wf = true)
    (A' : Option Addr) (c' : Nat) (l' : List Int) (hC' : kU8.C w A' l'.length l') (hcap' : l'.length ≤ c') (hm' : l'.length * 1 ≤ 140737488351232) (hwf' : ∀ x ∈ l', (Lit.int .u8 x).wf = true) (k : Int) (hk : (Lit.int .i64 k).wf = true) :
    Calls Try.prog 3 #[.slice A l.length c, .slice A' l'.length c', .int .i64 k] w fun e w' => e = .returned (.bool true) ∧ Below w.heap.size w w' := by
  have HY := Aside0.mk (show By l from fun x hx => wf_u8 (hwf x hx))
  have HY' := Aside0.mk (show By l' from fun x hx => wf_u8 (hwf' x hx))
  have HC := Aside0.mk hC
  have HC' := Aside0.mk hC'
  have hkr := wf_i64 hk
  clear hwf hwf' hC hC' hk hm hm'
  by_cases h1 : 500 < l.length
  · go_enter Try.func3, Try.ntmps3
    go_wp2_with (first | (go_at_call 14; refine (awake_calls _).mono ?_; rintro e w1 ⟨rfl, hb1⟩))
    go_ret
    exact ⟨rfl, hb1⟩
  by_cases h2 : 500 < l'.length
  · go_enter Try.func3, Try.ntmps3
    go_wp2_with (first | (go_at_call 14; refine (awake_calls _).mono ?_; rintro e w1 ⟨rfl, hb1⟩))
    go_ret
    exact ⟨rfl, hb1⟩
  have ho1 : over [(0, l)] [] = l := laid_zero l
  have hf : ∃ n : Nat, n = kept [k] 0 l'.length := ⟨_, rfl⟩
  obtain ⟨n, hn⟩ := hf
  have hnl : n ≤ l'.length := by rw [hn]; exact kept_le _ _ _
  have hfa : fallen [k] 0 [((l.length : Int), l')] l = l ++ l'.take n := by
    simp only [fallen, ← hn, Int.toNat_natCast]
    split
    · exact laid_end _ _
    · rw [show n = 0 by omega]; simp
  obtain ⟨m, hmn⟩ : ∃ m : Int, (if (l'.length : Int) < k then (l'.length : Int) else k) = m := ⟨_, rfl⟩
  have hT : (if 0 < m then m else 0) = (n : Int) := by
    have : n = (max 0 (min k l'.length)).toNat := by rw [hn]; rfl
    rw [this, ← hmn]
    split <;> split at * <;> omega
  have d1 : decide ((500 : Int) < l.length) = false := by simp; omega
  have d2 : decide ((500 : Int) < l'.length) = false := by simp; omega
  have HO1 := Aside0.mk ho1
  have HFA := Aside0.mk hfa
  clear ho1 hfa hn
  go_enter Try.func3, Try.ntmps3
  go_wp2_with (first
    | (go_at_call 14; refine (awake_calls _).mono ?_; rintro e w0 ⟨rfl, hb0⟩; have HB0 := Aside0.mk hb0; clear hb0)
    | (go_at_call 15; refine (at_new w 2000 _ HB0.out (by decide) (by decide)).mono ?_; rintro e w1 ⟨g, rfl, h1⟩; have H1 := Aside0.mk h1; clear h1)
    | (go_at_call 16; refine (at_writeE H1.out (by decide) 0 (by decide) (by decide) A l.length c l rfl (Kd.C_below HC.out (H1.out.keep.below (Nat.le_refl _) (fun _ _ h => h))) HY.out 0 [(0, l)] (by unfold wErr; simp [over]; omega) (fun _ => rfl) (fun h => absurd rfl h)).mono ?_; rintro e w2 ⟨rfl, h2⟩; have H2 := Aside0.mk h2; clear h2 H1)
    | (go_at_call 17; refine (at_syncE H2.out l HO1.out).mono ?_; rintro e w3 ⟨rfl, h3⟩; have H3 := Aside0.mk h3; clear h3 H2)
    | (go_at_call 16; refine (at_writeE H3.out (by decide) l.length (by omega) (by omega) A' l'.length c' l' rfl (Kd.C_below HC'.out (H3.out.keep.below (Nat.le_refl _) (fun _ _ h => h))) HY'.out 0 [((l.length : Int), l')] (by unfold wErr; simp [over]; omega) (fun _ => rfl) (fun h => absurd rfl h)).mono ?_; rintro e w4 ⟨rfl, h4⟩; have H4 := Aside0.mk h4; clear h4 H3)
    | (go_at_call 18; refine (at_crashE H4.out ((Below.refl _ _).alloc (Nat.le_refl _) _) (some ⟨w4.heap.size, 0, none⟩) 1 _ [k] rfl (C_lit .i64 3 w4 [k] (by simp)) (fun a ha _ => (by injection ha with ha; subst ha; exact ⟨.inl (Nat.le_refl _), by simp⟩)) (by intro x hx; simp at hx; omega) (l ++ l'.take n) HFA.out).mono ?_; rintro e w5 ⟨rfl, h5⟩; have H5 := Aside0.mk h5; clear h5))
  have HB5 := Aside0.mk (show Below w.heap.size w w5 from H5.out.keep.below (Nat.le_refl _) (fun _ _ h => h))
  obtain ⟨i5, hi5, -, hi5s, -⟩ := info_ex infoU8
  have hrun : ∀ W : World, (Instr.slice 22 (.slice A' l'.length c') none (some (.int .i64 (n : Int))) none).run Try.prog W = .ok (.slice A' n c') W := fun W => by
    simpa using cut_to (P := Try.prog) 22 5 .i64 Try.underlying22 hi5 A' l'.length c' (n : Int) (by omega) (by omega) hcap' W
  have HSA := Aside0.mk (show ∀ W, Keep (fun _ => False) w5.drew W → Below w.heap.size w W from fun W hW => HB5.out.drew.trans (hW.below (Nat.le_trans HB5.out.size (Nat.le_refl _)) (fun _ _ h => h)))
  have HCUR := Aside0.mk (Keep.refl (fun _ => False) w5.drew)
  have hCt := Kd.C_take HC'.out hnl
  rw [show (l'.take n).length = n by rw [List.length_take]; omega] at hCt
  have HCt := Aside0.mk hCt
  obtain ⟨nb, hnb⟩ : ∃ nb, (l ++ l'.take n).length = nb := ⟨_, rfl⟩
  have HNB := Aside0.mk hnb
  clear hi5 hi5s hmn hT hCt hnb
  refine rk_start (fun _ => False) (by kernel_rfl) (n := 16) (l := #[false, false, false, false, false, false, false, false, false, false, false, false, false, false, false, false]) (by kernel_rfl) (by kernel_rfl) ?_
  refine rk_take (fuel := 15) 0 rfl (by kernel_rfl) (listed' := #[true, false, false, false, false, false, false, false, false, false, false, false, false, false, false, false]) (by kernel_rfl) (fun _ _ _ h => h) (by kernel_rfl) (fun w' hR => by go_simp; first | done | with_reducible rfl) rfl ?_
  try simp only [Act.put, List.setIfInBounds_toArray, List.set_cons_zero, List.set_cons_succ]
  refine rk_take (fuel := 14) 1 rfl (by kernel_rfl) (listed' := #[true, true, false, false, false, false, false, false, false, false, false, false, false, false, false, false]) (by kernel_rfl) (fun _ _ _ h => h) (by kernel_rfl) (fun w' hR => by go_simp; first | done | with_reducible rfl) rfl ?_
  try simp only [Act.put, List.setIfInBounds_toArray, List.set_cons_zero, List.set_cons_succ]
  refine rk_take (fuel := 13) 2 rfl (by kernel_rfl) (listed' := #[true, true, true, false, false, false, false, false, false, false, false, false, false, false, false, false]) (by kernel_rfl) (fun _ _ _ h => h) (by kernel_rfl) (fun w' hR => by go_simp; first | done | with_reducible rfl) rfl ?_
  try simp only [Act.put, List.setIfInBounds_toArray, List.set_cons_zero, List.set_cons_succ]
  refine rk_take (fuel := 12) 3 rfl (by kernel_rfl) (listed' := #[true, true, true, true, false, false, false, false, false, false, false, false, false, false, false, false]) (by kernel_rfl) (fun _ _ _ h => h) (by kernel_rfl) (fun w' hR => by go_simp; first | done | with_reducible rfl) rfl ?_
  try simp only [Act.put, List.setIfInBounds_toArray, List.set_cons_zero, List.set_cons_succ]
  refine rk_take (fuel := 11) 6 rfl (by kernel_rfl) (listed' := #[true, true, true, true, false, false, true, false, false, false, false, false, false, false, false, false]) (by kernel_rfl) (fun _ _ _ h => h) (by kernel_rfl) (fun w' hR => by go_simp; first | done | with_reducible rfl) rfl ?_
  try simp only [Act.put, List.setIfInBounds_toArray, List.set_cons_zero, List.set_cons_succ]
  refine rk_take (fuel := 10) 7 rfl (by kernel_rfl) (listed' := #[true, true, true, true, false, false, true, true, false, false, false, false, false, false, false, false]) (by kernel_rfl) (fun _ _ _ h => h) (by kernel_rfl) (fun w' hR => by have x0 := C_str (c := c) (Kd.C_below HC.out (HSA.out w' (HCUR.out.trans hR))); go_simp; first | done | with_reducible rfl) rfl ?_
  try simp only [Act.put, List.setIfInBounds_toArray, List.set_cons_zero, List.set_cons_succ]
  refine rk_take (fuel := 9) 8 rfl (by kernel_rfl) (listed' := #[true, true, true, true, false, false, true, true, true, false, false, false, false, false, false, false]) (by kernel_rfl) (fun _ _ _ h => h) (by kernel_rfl) (fun w' hR => by go_simp; first | done | with_reducible rfl) rfl ?_
  try simp only [Act.put, List.setIfInBounds_toArray, List.set_cons_zero, List.set_cons_succ]
  refine rk_take (fuel := 8) 9 rfl (by kernel_rfl) (listed' := #[true, true, true, true, false, false, true, true, true, true, false, false, false, false, false, false]) (by kernel_rfl) (fun _ _ _ h => h) (by kernel_rfl) (fun w' hR => by go_simp; first | done | with_reducible rfl) rfl ?_
  try simp only [Act.put, List.setIfInBounds_toArray, List.set_cons_zero, List.set_cons_succ]
  refine rk_take (fuel := 7) 10 rfl (by kernel_rfl) (listed' := #[true, true, true, true, false, false, true, true, true, true, true, false, false, false, false, false]) (by kernel_rfl) (fun _ _ _ h => h) (by kernel_rfl) (fun w' hR => by go_simp; first | done | with_reducible rfl) rfl ?_
  try simp only [Act.put, List.setIfInBounds_toArray, List.set_cons_zero, List.set_cons_succ]
  refine rk_take (fuel := 6) 11 rfl (by kernel_rfl) (listed' := #[true, true, true, true, false, false, true, true, true, true, true, true, false, false, false, false]) (by kernel_rfl) (fun _ _ _ h => h) (by kernel_rfl) (fun w' hR => by have x0 := C_str (c := c') (Kd.C_below HCt.out (HSA.out w' (HCUR.out.trans hR))); go_simp; first | done | with_reducible rfl) rfl ?_
  try simp only [Act.put, List.setIfInBounds_toArray, List.set_cons_zero, List.set_cons_succ]
  refine rk_take (fuel := 5) 12 rfl (by kernel_rfl) (listed' := #[true, true, true, true, false, false, true, true, true, true, true, true, true, false, false, false]) (by kernel_rfl) (fun _ _ _ h => h) (by kernel_rfl) (fun w' hR => by have x0 := str_fits l (l'.take n) (by rw [List.length_take]; omega); have x1 := str_append l (l'.take n); go_simp; first | done | with_reducible rfl) rfl ?_
  try simp only [Act.put, List.setIfInBounds_toArray, List.set_cons_zero, List.set_cons_succ]
  refine rk_step (fuel := 4) 4 rfl (by kernel_rfl) (listed' := #[true, true, true, true, true, false, true, true, true, true, true, true, true, false, false, false]) (by kernel_rfl) (by kernel_rfl) (fun K' hK => ?_)
  go_wp2_with (first | (go_at_call 19; refine (at_bytesE H5.out.drew (l ++ l'.take n) nb rfl HNB.out).mono ?_; rintro e w6 ⟨A6, c6, rfl, hC6, hA6, hb6, h6⟩; have HC6 := Aside0.mk hC6; have HB6 := Aside0.mk (Keep.of_below (S := fun _ => False) hb6); clear hC6 hA6 hb6 h6))
  refine hK.out _ _ HB6.out ?_
  clear hK K'
  try simp only [Act.put, List.setIfInBounds_toArray, List.set_cons_zero, List.set_cons_succ]
  refine rk_take (fuel := 3) 5 rfl (by kernel_rfl) (listed' := #[true, true, true, true, true, true, true, true, true, true, true, true, true, false, false, false]) (by kernel_rfl) (fun _ _ _ h => h) (by kernel_rfl) (fun w' hR => by have x0 := C_str (c := c6) (Kd.C_below HC6.out (hR.below (Nat.le_refl _) (fun _ _ h => h))); go_simp; first | done | with_reducible rfl) rfl ?_
  try simp only [Act.put, List.setIfInBounds_toArray, List.set_cons_zero, List.set_cons_succ]
  refine rk_take (fuel := 2) 13 rfl (by kernel_rfl) (listed' := #[true, true, true, true, true, true, true, true, true, true, true, true, true, true, false, false]) (by kernel_rfl) (fun _ _ _ h => h) (by kernel_rfl) (fun w' hR => by go_simp; first | done | with_reducible rfl) rfl ?_
  try simp only [Act.put, List.setIfInBounds_toArray, List.set_cons_zero, List.set_cons_succ]
  refine rk_take (fuel := 1) 14 rfl (by kernel_rfl) (listed' := #[true, true, true, true, true, true, true, true, true, true, true, true, true, true, true, false]) (by kernel_rfl) (fun _ _ _ h => h) (by kernel_rfl) (fun w' hR => by go_simp; first | done | with_reducible rfl) rfl ?_
  try simp only [Act.put, List.setIfInBounds_toArray, List.set_cons_zero, List.set_cons_succ]
  refine rk_take (fuel := 0) 15 rfl (by kernel_rfl) (listed' := #[true, true, true, true, true, true, true, true, true, true, true, true, true, true, true, true]) (by kernel_rfl) (fun _ _ _ h => h) (by kernel_rfl) (fun w' hR => by go_simp; first | done | with_reducible rfl) rfl ?_
  try simp only [Act.put, List.setIfInBounds_toArray, List.set_cons_zero, List.set_cons_succ]
  refine rk_done (by kernel_rfl) ?_
  go_wp2
  go_ret
  exact ⟨rfl, HB5.out.drew.trans (HB6.out.below (Nat.le_trans HB5.out.size (Nat.le_refl _)) (fun _ _ h => h))⟩
theorem own : ownKnob Try.prog.godebug = none := by kernel_rfl
theorem laidOut : laidOutB Try.prog = true := by kernel_rfl
def IsRow (k : IntKind) (w : World) (a : Option Addr) (len cap : Nat) (zs : List Int) : Prop :=
  (a = none ∧ len = 0 ∧ cap = 0 ∧ zs = []) ∨
  ∃ x, a = some x ∧ len ≤ cap ∧ cap ≤ maxLen ∧ zs.length = cap ∧ (∀ i, i < zs.length → w.cell? (x.add i) = some (.int k (zs.getD i 0))) ∧ ∀ n ∈ zs, (Lit.int k n).wf = true
set_option maxRecDepth 100000 in
theorem lifted (os : Os) (started : os.Started) (H : Type) (enc : TypeId × Value → H) :
    ReturnsInHanded {} Try.checked os 3 .any (Rows.fileSureSpec.pre6 enc Try.prog Try.f3 Rows.fileSureRow.domain false) (Rows.fileSureSpec.post enc Try.prog Try.f3 false true false false) := by
  refine returnsInHanded_of_change_sized (C := Try.checked) own started (by kernel_rfl) Try.func3
    (ChangeSpec.witness6 (enc := enc) (C := Try.checked) false ⟨#[], #[.slice none 0 0, .slice none 0 0, .int .i64 0], []⟩ 8 (by kernel_rfl) (by kernel_rfl) (by kernel_rfl) (by kernel_rfl)) ?_
  intro W base args ds gs before hval0 hW hcnd hsz0 _
  have hsz : (DataW.weightsEach Try.prog (Try.f3.params.toList ++ Rows.fileSureSpec.plain.varTypes Try.prog) (ds ++ gs)).all (· ≤ reachBytes) = true := hsz0
  have hval : ∀ (j : Nat) t v, Try.f3.params[j]? = some t → args[j]? = some v → Value.okWide Try.prog W .any base t v := hval0
  have hW' := hW
  obtain ⟨p, q, hA0, hV, rfl, hfz, hnd⟩ := hW
  have hA : DataW.TrodAll enc Try.prog W 0 (fun _ => true) true Try.f3.params.toList args.toList ds p := hA0
  rw [Try.params3] at hA hval hsz
  obtain ⟨v0, vs0, d0, ds0, p0, q0, hargs, rfl, rfl, h0, r0⟩ := trodAll_cons hA
  obtain ⟨v1, vs1, d1, ds1, p1, q1, rfl, rfl, rfl, h1, r1⟩ := trodAll_cons r0
  obtain ⟨v2, vs2, d2, ds2, p2, q2, rfl, rfl, rfl, h2, r2⟩ := trodAll_cons r1
  obtain ⟨rfl, rfl, rfl⟩ := trodAll_nil r2
  obtain rfl : args = #[v0, v1, v2] := by cases args; simp_all
  obtain ⟨rfl, rfl⟩ := trodVars_none hV
  obtain ⟨a0, len0, cap0, rfl⟩ := okWide_slice Try.underlying22 (hval 0 22 v0 rfl rfl)
  have k0 := h0
  have lt0 : ∀ x ∈ p0, x.block < W.heap.size := by obtain ⟨m, hm⟩ := k0; exact DataW.trod_lt m _ _ _ hm
  obtain ⟨z0, w0⟩ : ∃ zs, IsRow .u8 W a0 len0 cap0 zs := by
    obtain ⟨fuel, hf⟩ := h0
    rcases open_ints Try.underlying22 Try.underlying5 (by kernel_rfl) hf with ⟨hcs, _⟩ | ⟨x, l, c, zs, hcs, _, hl, hm, hz, _, hcell, hwz⟩
    · simp [Value.cells] at hcs
      obtain ⟨rfl, rfl, rfl⟩ := hcs
      exact ⟨[], .inl ⟨rfl, rfl, rfl, rfl⟩⟩
    · simp [Value.cells] at hcs
      obtain ⟨rfl, rfl, rfl⟩ := hcs
      exact ⟨zs, .inr ⟨_, rfl, hl, hm, by simpa using hz, hcell, hwz⟩⟩
  have y0 : len0 * 1 ≤ 140737488351232 := sized_ints hsz (j := 0) (t := 22) rfl rfl Try.underlying22 Try.underlying5 (by kernel_rfl) (by kernel_rfl) h0
  obtain ⟨l0, rfl, hr0, hm0, hwf0, hcap0⟩ := ReadsInt.ofRowC w0
  obtain ⟨a1, len1, cap1, rfl⟩ := okWide_slice Try.underlying22 (hval 1 22 v1 rfl rfl)
  have k1 := h1
  have lt1 : ∀ x ∈ p1, x.block < W.heap.size := by obtain ⟨m, hm⟩ := k1; exact DataW.trod_lt m _ _ _ hm
  obtain ⟨z1, w1⟩ : ∃ zs, IsRow .u8 W a1 len1 cap1 zs := by
    obtain ⟨fuel, hf⟩ := h1
    rcases open_ints Try.underlying22 Try.underlying5 (by kernel_rfl) hf with ⟨hcs, _⟩ | ⟨x, l, c, zs, hcs, _, hl, hm, hz, _, hcell, hwz⟩
    · simp [Value.cells] at hcs
      obtain ⟨rfl, rfl, rfl⟩ := hcs
      exact ⟨[], .inl ⟨rfl, rfl, rfl, rfl⟩⟩
    · simp [Value.cells] at hcs
      obtain ⟨rfl, rfl, rfl⟩ := hcs
      exact ⟨zs, .inr ⟨_, rfl, hl, hm, by simpa using hz, hcell, hwz⟩⟩
  have y1 : len1 * 1 ≤ 140737488351232 := sized_ints hsz (j := 1) (t := 22) rfl rfl Try.underlying22 Try.underlying5 (by kernel_rfl) (by kernel_rfl) h1
  obtain ⟨l1, rfl, hr1, hm1, hwf1, hcap1⟩ := ReadsInt.ofRowC w1
  obtain ⟨a2, rfl, rfl, rfl, w2⟩ := open_int Try.underlying3 (hval 2 3 v2 rfl rfl) h2
  clear hA0 hval0 hsz0 hsz
  refine (walk W _ _ l0 (Kd.C_of_reads (d := (0 : Int)) (h1 := fun _ => rfl) hr0) hcap0 y0 hwf0 _ _ l1 (Kd.C_of_reads (d := (0 : Int)) (h1 := fun _ => rfl) hr1) hcap1 y1 hwf1 a2 w2).mono fun e W' ⟨he, bel⟩ => ?_
  subst he
  exact ⟨_, rfl, _, _, _, [], _, [], hW', trodAll_mk1 (shut_bool Try.underlying4 _), (trodAll_cons_mk (Below.trod laidOut (by kernel_rfl) (of_decide_eq_true (by kernel_rfl)) k0 bel lt0) (trodAll_cons_mk (Below.trod laidOut (by kernel_rfl) (of_decide_eq_true (by kernel_rfl)) k1 bel lt1) (trodAll_cons_mk (shut_int Try.underlying3 w2) trodAll_mk0))), rfl, bel.frame _, fun h => by cases h⟩
theorem over : Rows.fileSureRow.holds Try.pinned (OpenSpec.ofChange Rows.fileSureSpec) :=
  OpenClaim.holds_of_wide 3 Try.f3 rfl rfl rfl rfl rfl rfl rfl ⟨rfl, rfl, rfl, rfl, rfl⟩ rfl rfl rfl rfl rfl (by kernel_rfl) Try.func3 (by kernel_rfl)
    (of_decide_eq_true (by kernel_rfl)) (by unfold Func.isWrapper; first | (rw [if_pos (by decide +kernel)]; kernel_rfl) | (rw [if_neg (by decide +kernel)]; exact ⟨rfl, rfl⟩))
    (fun os started H enc _ => lifted os started H enc)
end Go.Proofs.Ytmklopaleiennaa.FileSure
namespace Go.Proofs.Ytmklopaleiennaa
/-- The statement. -/
theorem fileSure_holds : Rows.FileSureSaid := FileSure.over
#print axioms fileSure_holds
end Go.Proofs.Ytmklopaleiennaa
