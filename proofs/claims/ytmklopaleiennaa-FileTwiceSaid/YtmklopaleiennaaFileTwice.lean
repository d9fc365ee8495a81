/- FileTwice: a second crash changes nothing; nor does a Sync behind one. No condition. -/
import Derived.Test.YtmklopaleiennaaRows
import Derived.ProofKit
import Derived.OpenShut
import Derived.ShutString
import Derived.ChangeOld
import Derived.SizedLaws
import Derived.Test.YtmklopaleiennaaWSized
import Derived.Test.YtmklopaleiennaaFo
import Derived.Test.YtmklopaleiennaaE
import Derived.Test.YtmklopaleiennaaS
namespace Go.Proofs.Ytmklopaleiennaa.FileTwice
open Go.ChangeShapes Go.WideShapes Go.ChangeAt Go.RowKit Go.Proofs.YtmklopaleiennaaW.PrintWords Go.Proofs.YtmklopaleiennaaW.PrintLast Go.Proofs.YtmklopaleiennaaW.PrintMore Go.Proofs.Ytmklopaleiennaa.B Go.Proofs.Ytmklopaleiennaa.Fs Go.Proofs.Ytmklopaleiennaa.Fc Go.Proofs.Ytmklopaleiennaa.Fd Go.Proofs.Ytmklopaleiennaa.O Go.Proofs.Ytmklopaleiennaa.Fo Go.Proofs.Ytmklopaleiennaa.R Go.Proofs.Ytmklopaleiennaa.S
set_option linter.unusedVariables false
set_option linter.unusedSimpArgs false
set_option maxHeartbeats 4000000 in
set_option maxRecDepth 100000 in
theorem walk (w : World) (A : Option Addr) (c : Nat) (m : List (Int × Int × Bool × List Int × List Int)) (hC : kA.C w A m.length m) (hcap : m.length ≤ c) (hok : (∀ v ∈ m, AOk v) ∧ m.length ≤ 9223372036854775807) (hAlt : ∀ a, A = some a → a.block < w.heap.size)
    (B : Option Addr) (d : Nat) (kp : List Int) (hB : (Kd.int .i64).C w B kp.length kp) (hbd : kp.length ≤ d) (hm : kp.length * 8 ≤ 140737488351232) (hwf : ∀ x ∈ kp, (Lit.int .i64 x).wf = true)
    (B' : Option Addr) (d' : Nat) (mo : List Int) (hB' : (Kd.int .i64).C w B' mo.length mo) (hbd' : mo.length ≤ d') (hm' : mo.length * 8 ≤ 140737488351232) (hwf' : ∀ x ∈ mo, (Lit.int .i64 x).wf = true) :
    Calls Try.prog 4 #[.slice A m.length c, .slice B kp.length d, .slice B' mo.length d'] w fun e w' => e = .returned (.bool true) ∧ Below w.heap.size w w' := by
  have HC := Aside0.mk hC
  have HOK := Aside0.mk hok.1
  have HB := Aside0.mk hB
  have HB' := Aside0.mk hB'
  have HKR := Aside0.mk (show ∀ x ∈ kp, -9223372036854775808 ≤ x ∧ x ≤ 9223372036854775807 from fun x hx => wf_i64 (hwf x hx))
  have HKR' := Aside0.mk (show ∀ x ∈ mo, -9223372036854775808 ≤ x ∧ x ≤ 9223372036854775807 from fun x hx => wf_i64 (hwf' x hx))
  have hml := hok.2
  clear hC hok hB hB' hwf hwf' hAlt
  go_enter Try.func4, Try.ntmps4
  go_wp2_with (first
    | (go_at_call 14; refine (awake_calls _).mono ?_; rintro e w0 ⟨rfl, hb0⟩; have HB0 := Aside0.mk hb0; clear hb0)
    | (go_at_call 15; refine (at_new w 5000 _ HB0.out (by decide) (by decide)).mono ?_; rintro e w1 ⟨g, rfl, h1⟩; have H1 := Aside0.mk h1; clear h1 HB0))
  go_loopw [21] (fun vi wr => ∃ (k : Nat) (s : List Int) (q : List (Int × List Int)), k ≤ m.length ∧ k ≤ 31 ∧ vi = .int .i64 k ∧ q.length ≤ k ∧ Aside0 (At w (fun _ => False) wr g 5000 s q)) (fun vi _ => m.length - (intOf vi).toNat)
  case atStart => exact ⟨0, [], [], by omega, by omega, rfl, by simp, H1⟩
  case round =>
    clear H1
    obtain ⟨k, s, q, hk, hk31, rfl, hql, H1⟩ := hrel
    have hwr := (H1.out.keep.below (Nat.le_refl _) (fun _ _ h => h) : Below w.heap.size w wr)
    have HW := Aside0.mk hwr
    clear hwr
    by_cases hgo : k < m.length
    · obtain ⟨⟨kd, i, raw, b, keep⟩, hp⟩ : ∃ p, m[k]? = some p := ⟨_, List.getElem?_eq_getElem hgo⟩
      obtain ⟨⟨hk0, hk1⟩, ⟨hi0, hi1⟩, hby, hkr⟩ := HOK.out _ (List.mem_of_getElem? hp)
      simp only at hk0 hk1 hi0 hi1 hby hkr
      obtain ⟨ad, rfl⟩ : ∃ ad, A = some ad := by obtain ⟨ad, e, _⟩ := HC.out.2.2 (by omega); exact ⟨ad, e⟩
      obtain ⟨A3, c3, B3, d3, q0, q1, q2, q3, q4, hbc, hkc, hCb, hCk⟩ := act_cells (Kd.C_below HC.out HW.out) hp
      have HCb := Aside0.mk hCb
      have HBY := Aside0.mk hby
      clear hp hCb hCk hby hkr hkc
      have HAX := Aside0.mk (H1.out.alloc (.cells #[.int .u8 kd, .int .i64 i, .bool raw, .slice A3 b.length c3, .slice B3 keep.length d3] 35))
      by_cases h30 : 30 < k
      · clear hbc
        go_upto_region 12 with fail
        have HT := HAX
        obtain ⟨s1, hs1⟩ : ∃ s1, fallen kp 0 q s = s1 := ⟨_, rfl⟩
        have HS1 := Aside0.mk hs1
        have HWT := Aside0.mk (HT.out.keep.below (Nat.le_refl _) (fun _ _ h => h) : Below w.heap.size w _)
        clear hs1
        go_wp2_with (first
          | (go_at_call 18; refine (at_crashE HT.out (Below.refl _ _) B kp.length d kp rfl (Kd.C_below HB.out HWT.out) (fun a ha h0 => ⟨.inr ⟨fun h => h, C_lt HB.out h0 a ha⟩, Nat.lt_of_lt_of_le (C_lt HB.out h0 a ha) HWT.out.size⟩) HKR.out s1 HS1.out).mono ?_; rintro e wc ⟨rfl, h2⟩; have HT2 := Aside0.mk h2; clear h2 HT HS1)
          | (go_at_call 19; refine (at_bytesE HT2.out s1 s1.length rfl rfl).mono ?_; rintro e wd ⟨A9, c9, rfl, hC9, hA9, hb9, h9⟩; have HC9 := Aside0.mk hC9; have HA9 := Aside0.mk hA9; have HB9 := Aside0.mk hb9; have HT3 := Aside0.mk (HT2.out.rebase hb9); have hwd := (h9.keep.below (Nat.le_refl _) (fun _ _ h => h) : Below w.heap.size w wd); have HWD := Aside0.mk hwd; clear hC9 hA9 hb9 h9 hwd)
          | (go_at_call 18; refine (at_crashE HT3.out (Below.refl _ _) B' mo.length d' mo rfl (Kd.C_below HB'.out HWD.out) (fun a ha h0 => ⟨.inr ⟨fun h => (by have := C_lt HB'.out h0 a ha; have := h.1.resolve_left (fun h => h); omega), Nat.lt_of_lt_of_le (C_lt HB'.out h0 a ha) HWD.out.size⟩, Nat.lt_of_lt_of_le (C_lt HB'.out h0 a ha) HWD.out.size⟩) HKR'.out s1 rfl).mono ?_; rintro e we ⟨rfl, h4⟩; have HT4 := Aside0.mk h4; clear h4))
        have HWAS := Aside0.mk (show ∀ W, Keep (fun k => ((False ∨ w.heap.size ≤ k) ∧ k < wc.heap.size)) wd W → kU8.C W A9 s1.length s1 from fun W hW => C_blk HC9.out (fun a e => hW.block a.block (HA9.out a e).2 (fun h => by have := (HA9.out a e).1; omega)))
        have HC4 := Aside0.mk (Keep.refl (fun _ => False) we.drew)
        refine rk_start (fun _ => False) (by kernel_rfl) (n := 7) (l := #[false, false, false, false, false, false, false]) (by kernel_rfl) (by kernel_rfl) ?_
        refine rk_take (fuel := 6) 0 rfl (by kernel_rfl) (listed' := #[true, false, false, false, false, false, false]) (by kernel_rfl) (fun _ _ _ h => h) (by kernel_rfl) (fun w' hR => by go_simp; first | done | with_reducible rfl) rfl ?_
        try simp only [Act.put, List.setIfInBounds_toArray, List.set_cons_zero, List.set_cons_succ]
        refine rk_take (fuel := 5) 3 rfl (by kernel_rfl) (listed' := #[true, false, false, true, false, false, false]) (by kernel_rfl) (fun _ _ _ h => h) (by kernel_rfl) (fun w' hR => by go_simp; first | done | with_reducible rfl) rfl ?_
        try simp only [Act.put, List.setIfInBounds_toArray, List.set_cons_zero, List.set_cons_succ]
        refine rk_take (fuel := 4) 4 rfl (by kernel_rfl) (listed' := #[true, false, false, true, true, false, false]) (by kernel_rfl) (fun _ _ _ h => h) (by kernel_rfl) (fun w' hR => by have x0 := C_str (c := c9) (HWAS.out w' ((HT4.out.keep.drew).then (HC4.out.trans hR) (fun _ _ h => h.elim))); go_simp; first | done | with_reducible rfl) rfl ?_
        try simp only [Act.put, List.setIfInBounds_toArray, List.set_cons_zero, List.set_cons_succ]
        refine rk_step (fuel := 3) 1 rfl (by kernel_rfl) (listed' := #[true, true, false, true, true, false, false]) (by kernel_rfl) (by kernel_rfl) (fun K' hK => ?_)
        go_wp2_with (first | (go_at_call 19; refine (at_bytesE HT4.out.drew s1 s1.length rfl rfl).mono ?_; rintro e wf ⟨A5, c5, rfl, hC5, -, hb5, h5⟩; have HC5 := Aside0.mk hC5; have HK5 := Aside0.mk (Keep.of_below (S := fun _ => False) hb5); have HT5 := Aside0.mk h5; clear hC5 hb5 h5))
        refine hK.out _ _ HK5.out ?_
        clear hK K'
        try simp only [Act.put, List.setIfInBounds_toArray, List.set_cons_zero, List.set_cons_succ]
        refine rk_take (fuel := 2) 2 rfl (by kernel_rfl) (listed' := #[true, true, true, true, true, false, false]) (by kernel_rfl) (fun _ _ _ h => h) (by kernel_rfl) (fun w' hR => by have x0 := C_str (c := c5) (Kd.C_below HC5.out (hR.below (Nat.le_refl _) (fun _ _ h => h))); go_simp; first | done | with_reducible rfl) rfl ?_
        try simp only [Act.put, List.setIfInBounds_toArray, List.set_cons_zero, List.set_cons_succ]
        refine rk_take (fuel := 1) 5 rfl (by kernel_rfl) (listed' := #[true, true, true, true, true, true, false]) (by kernel_rfl) (fun _ _ _ h => h) (by kernel_rfl) (fun w' hR => by go_simp; first | done | with_reducible rfl) rfl ?_
        try simp only [Act.put, List.setIfInBounds_toArray, List.set_cons_zero, List.set_cons_succ]
        refine rk_take (fuel := 0) 6 rfl (by kernel_rfl) (listed' := #[true, true, true, true, true, true, true]) (by kernel_rfl) (fun _ _ _ h => h) (by kernel_rfl) (fun w' hR => by go_simp; first | done | with_reducible rfl) rfl ?_
        try simp only [Act.put, List.setIfInBounds_toArray, List.set_cons_zero, List.set_cons_succ]
        refine rk_done (by kernel_rfl) ?_
        go_wp2_with (first | (go_at_call 17; refine (at_syncE HT5.out s1 rfl).mono ?_; rintro e wg ⟨rfl, h6⟩; have HT6 := Aside0.mk h6; clear h6))
        have HC6 := Aside0.mk (Keep.refl (fun _ => False) wg.drew)
        refine rk_start (fun _ => False) (by kernel_rfl) (n := 21) (l := #[false, false, false, false, false, false, false, false, false, false, false, false, false, false, false, false, false, false, false, false, false]) (by kernel_rfl) (by kernel_rfl) ?_
        refine rk_take (fuel := 20) 0 rfl (by kernel_rfl) (listed' := #[true, false, false, false, false, false, false, false, false, false, false, false, false, false, false, false, false, false, false, false, false]) (by kernel_rfl) (fun _ _ _ h => h) (by kernel_rfl) (fun w' hR => by go_simp; first | done | with_reducible rfl) rfl ?_
        try simp only [Act.put, List.setIfInBounds_toArray, List.set_cons_zero, List.set_cons_succ]
        refine rk_take (fuel := 19) 1 rfl (by kernel_rfl) (listed' := #[true, true, false, false, false, false, false, false, false, false, false, false, false, false, false, false, false, false, false, false, false]) (by kernel_rfl) (fun _ _ _ h => h) (by kernel_rfl) (fun w' hR => by go_simp; first | done | with_reducible rfl) rfl ?_
        try simp only [Act.put, List.setIfInBounds_toArray, List.set_cons_zero, List.set_cons_succ]
        refine rk_take (fuel := 18) 2 rfl (by kernel_rfl) (listed' := #[true, true, true, false, false, false, false, false, false, false, false, false, false, false, false, false, false, false, false, false, false]) (by kernel_rfl) (fun _ _ _ h => h) (by kernel_rfl) (fun w' hR => by go_simp; first | done | with_reducible rfl) rfl ?_
        try simp only [Act.put, List.setIfInBounds_toArray, List.set_cons_zero, List.set_cons_succ]
        refine rk_take (fuel := 17) 3 rfl (by kernel_rfl) (listed' := #[true, true, true, true, false, false, false, false, false, false, false, false, false, false, false, false, false, false, false, false, false]) (by kernel_rfl) (fun _ _ _ h => h) (by kernel_rfl) (fun w' hR => by go_simp; first | done | with_reducible rfl) rfl ?_
        try simp only [Act.put, List.setIfInBounds_toArray, List.set_cons_zero, List.set_cons_succ]
        refine rk_take (fuel := 16) 4 rfl (by kernel_rfl) (listed' := #[true, true, true, true, true, false, false, false, false, false, false, false, false, false, false, false, false, false, false, false, false]) (by kernel_rfl) (fun _ _ _ h => h) (by kernel_rfl) (fun w' hR => by go_simp; first | done | with_reducible rfl) rfl ?_
        try simp only [Act.put, List.setIfInBounds_toArray, List.set_cons_zero, List.set_cons_succ]
        refine rk_take (fuel := 15) 5 rfl (by kernel_rfl) (listed' := #[true, true, true, true, true, true, false, false, false, false, false, false, false, false, false, false, false, false, false, false, false]) (by kernel_rfl) (fun _ _ _ h => h) (by kernel_rfl) (fun w' hR => by go_simp; first | done | with_reducible rfl) rfl ?_
        try simp only [Act.put, List.setIfInBounds_toArray, List.set_cons_zero, List.set_cons_succ]
        refine rk_take (fuel := 14) 6 rfl (by kernel_rfl) (listed' := #[true, true, true, true, true, true, true, false, false, false, false, false, false, false, false, false, false, false, false, false, false]) (by kernel_rfl) (fun _ _ _ h => h) (by kernel_rfl) (fun w' hR => by go_simp; first | done | with_reducible rfl) rfl ?_
        try simp only [Act.put, List.setIfInBounds_toArray, List.set_cons_zero, List.set_cons_succ]
        refine rk_take (fuel := 13) 9 rfl (by kernel_rfl) (listed' := #[true, true, true, true, true, true, true, false, false, true, false, false, false, false, false, false, false, false, false, false, false]) (by kernel_rfl) (fun _ _ _ h => h) (by kernel_rfl) (fun w' hR => by go_simp; first | done | with_reducible rfl) rfl ?_
        try simp only [Act.put, List.setIfInBounds_toArray, List.set_cons_zero, List.set_cons_succ]
        refine rk_take (fuel := 12) 10 rfl (by kernel_rfl) (listed' := #[true, true, true, true, true, true, true, false, false, true, true, false, false, false, false, false, false, false, false, false, false]) (by kernel_rfl) (fun _ _ _ h => h) (by kernel_rfl) (fun w' hR => by have x0 := C_str (c := c9) (HWAS.out w' ((HT6.out.keep.drew).then (HC6.out.trans hR) (fun _ _ h => h.elim))); go_simp; first | done | with_reducible rfl) rfl ?_
        try simp only [Act.put, List.setIfInBounds_toArray, List.set_cons_zero, List.set_cons_succ]
        refine rk_step (fuel := 11) 7 rfl (by kernel_rfl) (listed' := #[true, true, true, true, true, true, true, true, false, true, true, false, false, false, false, false, false, false, false, false, false]) (by kernel_rfl) (by kernel_rfl) (fun K' hK => ?_)
        go_wp2_with (first | (go_at_call 19; refine (at_bytesE HT6.out.drew s1 s1.length rfl rfl).mono ?_; rintro e wh ⟨A7, c7, rfl, hC7, -, hb7, h7⟩; have HC7 := Aside0.mk hC7; have HK7 := Aside0.mk (Keep.of_below (S := fun _ => False) hb7); have HT7 := Aside0.mk h7; clear hC7 hb7 h7))
        refine hK.out _ _ HK7.out ?_
        clear hK K'
        try simp only [Act.put, List.setIfInBounds_toArray, List.set_cons_zero, List.set_cons_succ]
        refine rk_take (fuel := 10) 8 rfl (by kernel_rfl) (listed' := #[true, true, true, true, true, true, true, true, true, true, true, false, false, false, false, false, false, false, false, false, false]) (by kernel_rfl) (fun _ _ _ h => h) (by kernel_rfl) (fun w' hR => by have x0 := C_str (c := c7) (Kd.C_below HC7.out (hR.below (Nat.le_refl _) (fun _ _ h => h))); go_simp; first | done | with_reducible rfl) rfl ?_
        try simp only [Act.put, List.setIfInBounds_toArray, List.set_cons_zero, List.set_cons_succ]
        refine rk_take (fuel := 9) 11 rfl (by kernel_rfl) (listed' := #[true, true, true, true, true, true, true, true, true, true, true, true, false, false, false, false, false, false, false, false, false]) (by kernel_rfl) (fun _ _ _ h => h) (by kernel_rfl) (fun w' hR => by go_simp; first | done | with_reducible rfl) rfl ?_
        try simp only [Act.put, List.setIfInBounds_toArray, List.set_cons_zero, List.set_cons_succ]
        refine rk_take (fuel := 8) 12 rfl (by kernel_rfl) (listed' := #[true, true, true, true, true, true, true, true, true, true, true, true, true, false, false, false, false, false, false, false, false]) (by kernel_rfl) (fun _ _ _ h => h) (by kernel_rfl) (fun w' hR => by go_simp; first | done | with_reducible rfl) rfl ?_
        try simp only [Act.put, List.setIfInBounds_toArray, List.set_cons_zero, List.set_cons_succ]
        refine rk_take (fuel := 7) 13 rfl (by kernel_rfl) (listed' := #[true, true, true, true, true, true, true, true, true, true, true, true, true, true, false, false, false, false, false, false, false]) (by kernel_rfl) (fun _ _ _ h => h) (by kernel_rfl) (fun w' hR => by go_simp; first | done | with_reducible rfl) rfl ?_
        try simp only [Act.put, List.setIfInBounds_toArray, List.set_cons_zero, List.set_cons_succ]
        refine rk_take (fuel := 6) 14 rfl (by kernel_rfl) (listed' := #[true, true, true, true, true, true, true, true, true, true, true, true, true, true, true, false, false, false, false, false, false]) (by kernel_rfl) (fun _ _ _ h => h) (by kernel_rfl) (fun w' hR => by go_simp; first | done | with_reducible rfl) rfl ?_
        try simp only [Act.put, List.setIfInBounds_toArray, List.set_cons_zero, List.set_cons_succ]
        refine rk_take (fuel := 5) 16 rfl (by kernel_rfl) (listed' := #[true, true, true, true, true, true, true, true, true, true, true, true, true, true, true, false, true, false, false, false, false]) (by kernel_rfl) (fun _ _ _ h => h) (by kernel_rfl) (fun w' hR => by go_simp; first | done | with_reducible rfl) rfl ?_
        try simp only [Act.put, List.setIfInBounds_toArray, List.set_cons_zero, List.set_cons_succ]
        refine rk_take (fuel := 4) 17 rfl (by kernel_rfl) (listed' := #[true, true, true, true, true, true, true, true, true, true, true, true, true, true, true, false, true, true, false, false, false]) (by kernel_rfl) (fun _ _ _ h => h) (by kernel_rfl) (fun w' hR => by go_simp; first | done | with_reducible rfl) rfl ?_
        try simp only [Act.put, List.setIfInBounds_toArray, List.set_cons_zero, List.set_cons_succ]
        refine rk_step (fuel := 3) 15 rfl (by kernel_rfl) (listed' := #[true, true, true, true, true, true, true, true, true, true, true, true, true, true, true, true, true, true, false, false, false]) (by kernel_rfl) (by kernel_rfl) (fun K' hK => ?_)
        go_wp2_with (first | (go_at_call 20; refine (at_sure HT7.out).mono ?_; rintro e wi ⟨rfl, rfl⟩))
        refine hK.out _ _ (Keep.refl _ _) ?_
        clear hK K'
        try simp only [Act.put, List.setIfInBounds_toArray, List.set_cons_zero, List.set_cons_succ]
        refine rk_take (fuel := 2) 18 rfl (by kernel_rfl) (listed' := #[true, true, true, true, true, true, true, true, true, true, true, true, true, true, true, true, true, true, true, false, false]) (by kernel_rfl) (fun _ _ _ h => h) (by kernel_rfl) (fun w' hR => by go_simp; first | done | with_reducible rfl) rfl ?_
        try simp only [Act.put, List.setIfInBounds_toArray, List.set_cons_zero, List.set_cons_succ]
        refine rk_take (fuel := 1) 19 rfl (by kernel_rfl) (listed' := #[true, true, true, true, true, true, true, true, true, true, true, true, true, true, true, true, true, true, true, true, false]) (by kernel_rfl) (fun _ _ _ h => h) (by kernel_rfl) (fun w' hR => by go_simp; first | done | with_reducible rfl) rfl ?_
        try simp only [Act.put, List.setIfInBounds_toArray, List.set_cons_zero, List.set_cons_succ]
        refine rk_take (fuel := 0) 20 rfl (by kernel_rfl) (listed' := #[true, true, true, true, true, true, true, true, true, true, true, true, true, true, true, true, true, true, true, true, true]) (by kernel_rfl) (fun _ _ _ h => h) (by kernel_rfl) (fun w' hR => by go_simp; first | done | with_reducible rfl) rfl ?_
        try simp only [Act.put, List.setIfInBounds_toArray, List.set_cons_zero, List.set_cons_succ]
        refine rk_done (by kernel_rfl) ?_
        go_wp2
        go_ret
        exact ⟨rfl, HWD.out.trans (HT7.out.keep.below HWD.out.size (fun i hi h => by have := h.1.resolve_left (fun h => h); omega))⟩
      by_cases h100 : 100 < b.length
      · have e30 : decide ((30 : Int) < k) = false := by simp; omega
        clear hbc
        go_upto_region 12 with fail
        have HT := HAX
        obtain ⟨s1, hs1⟩ : ∃ s1, fallen kp 0 q s = s1 := ⟨_, rfl⟩
        have HS1 := Aside0.mk hs1
        have HWT := Aside0.mk (HT.out.keep.below (Nat.le_refl _) (fun _ _ h => h) : Below w.heap.size w _)
        clear hs1
        go_wp2_with (first
          | (go_at_call 18; refine (at_crashE HT.out (Below.refl _ _) B kp.length d kp rfl (Kd.C_below HB.out HWT.out) (fun a ha h0 => ⟨.inr ⟨fun h => h, C_lt HB.out h0 a ha⟩, Nat.lt_of_lt_of_le (C_lt HB.out h0 a ha) HWT.out.size⟩) HKR.out s1 HS1.out).mono ?_; rintro e wc ⟨rfl, h2⟩; have HT2 := Aside0.mk h2; clear h2 HT HS1)
          | (go_at_call 19; refine (at_bytesE HT2.out s1 s1.length rfl rfl).mono ?_; rintro e wd ⟨A9, c9, rfl, hC9, hA9, hb9, h9⟩; have HC9 := Aside0.mk hC9; have HA9 := Aside0.mk hA9; have HB9 := Aside0.mk hb9; have HT3 := Aside0.mk (HT2.out.rebase hb9); have hwd := (h9.keep.below (Nat.le_refl _) (fun _ _ h => h) : Below w.heap.size w wd); have HWD := Aside0.mk hwd; clear hC9 hA9 hb9 h9 hwd)
          | (go_at_call 18; refine (at_crashE HT3.out (Below.refl _ _) B' mo.length d' mo rfl (Kd.C_below HB'.out HWD.out) (fun a ha h0 => ⟨.inr ⟨fun h => (by have := C_lt HB'.out h0 a ha; have := h.1.resolve_left (fun h => h); omega), Nat.lt_of_lt_of_le (C_lt HB'.out h0 a ha) HWD.out.size⟩, Nat.lt_of_lt_of_le (C_lt HB'.out h0 a ha) HWD.out.size⟩) HKR'.out s1 rfl).mono ?_; rintro e we ⟨rfl, h4⟩; have HT4 := Aside0.mk h4; clear h4))
        have HWAS := Aside0.mk (show ∀ W, Keep (fun k => ((False ∨ w.heap.size ≤ k) ∧ k < wc.heap.size)) wd W → kU8.C W A9 s1.length s1 from fun W hW => C_blk HC9.out (fun a e => hW.block a.block (HA9.out a e).2 (fun h => by have := (HA9.out a e).1; omega)))
        have HC4 := Aside0.mk (Keep.refl (fun _ => False) we.drew)
        refine rk_start (fun _ => False) (by kernel_rfl) (n := 7) (l := #[false, false, false, false, false, false, false]) (by kernel_rfl) (by kernel_rfl) ?_
        refine rk_take (fuel := 6) 0 rfl (by kernel_rfl) (listed' := #[true, false, false, false, false, false, false]) (by kernel_rfl) (fun _ _ _ h => h) (by kernel_rfl) (fun w' hR => by go_simp; first | done | with_reducible rfl) rfl ?_
        try simp only [Act.put, List.setIfInBounds_toArray, List.set_cons_zero, List.set_cons_succ]
        refine rk_take (fuel := 5) 3 rfl (by kernel_rfl) (listed' := #[true, false, false, true, false, false, false]) (by kernel_rfl) (fun _ _ _ h => h) (by kernel_rfl) (fun w' hR => by go_simp; first | done | with_reducible rfl) rfl ?_
        try simp only [Act.put, List.setIfInBounds_toArray, List.set_cons_zero, List.set_cons_succ]
        refine rk_take (fuel := 4) 4 rfl (by kernel_rfl) (listed' := #[true, false, false, true, true, false, false]) (by kernel_rfl) (fun _ _ _ h => h) (by kernel_rfl) (fun w' hR => by have x0 := C_str (c := c9) (HWAS.out w' ((HT4.out.keep.drew).then (HC4.out.trans hR) (fun _ _ h => h.elim))); go_simp; first | done | with_reducible rfl) rfl ?_
        try simp only [Act.put, List.setIfInBounds_toArray, List.set_cons_zero, List.set_cons_succ]
        refine rk_step (fuel := 3) 1 rfl (by kernel_rfl) (listed' := #[true, true, false, true, true, false, false]) (by kernel_rfl) (by kernel_rfl) (fun K' hK => ?_)
        go_wp2_with (first | (go_at_call 19; refine (at_bytesE HT4.out.drew s1 s1.length rfl rfl).mono ?_; rintro e wf ⟨A5, c5, rfl, hC5, -, hb5, h5⟩; have HC5 := Aside0.mk hC5; have HK5 := Aside0.mk (Keep.of_below (S := fun _ => False) hb5); have HT5 := Aside0.mk h5; clear hC5 hb5 h5))
        refine hK.out _ _ HK5.out ?_
        clear hK K'
        try simp only [Act.put, List.setIfInBounds_toArray, List.set_cons_zero, List.set_cons_succ]
        refine rk_take (fuel := 2) 2 rfl (by kernel_rfl) (listed' := #[true, true, true, true, true, false, false]) (by kernel_rfl) (fun _ _ _ h => h) (by kernel_rfl) (fun w' hR => by have x0 := C_str (c := c5) (Kd.C_below HC5.out (hR.below (Nat.le_refl _) (fun _ _ h => h))); go_simp; first | done | with_reducible rfl) rfl ?_
        try simp only [Act.put, List.setIfInBounds_toArray, List.set_cons_zero, List.set_cons_succ]
        refine rk_take (fuel := 1) 5 rfl (by kernel_rfl) (listed' := #[true, true, true, true, true, true, false]) (by kernel_rfl) (fun _ _ _ h => h) (by kernel_rfl) (fun w' hR => by go_simp; first | done | with_reducible rfl) rfl ?_
        try simp only [Act.put, List.setIfInBounds_toArray, List.set_cons_zero, List.set_cons_succ]
        refine rk_take (fuel := 0) 6 rfl (by kernel_rfl) (listed' := #[true, true, true, true, true, true, true]) (by kernel_rfl) (fun _ _ _ h => h) (by kernel_rfl) (fun w' hR => by go_simp; first | done | with_reducible rfl) rfl ?_
        try simp only [Act.put, List.setIfInBounds_toArray, List.set_cons_zero, List.set_cons_succ]
        refine rk_done (by kernel_rfl) ?_
        go_wp2_with (first | (go_at_call 17; refine (at_syncE HT5.out s1 rfl).mono ?_; rintro e wg ⟨rfl, h6⟩; have HT6 := Aside0.mk h6; clear h6))
        have HC6 := Aside0.mk (Keep.refl (fun _ => False) wg.drew)
        refine rk_start (fun _ => False) (by kernel_rfl) (n := 21) (l := #[false, false, false, false, false, false, false, false, false, false, false, false, false, false, false, false, false, false, false, false, false]) (by kernel_rfl) (by kernel_rfl) ?_
        refine rk_take (fuel := 20) 0 rfl (by kernel_rfl) (listed' := #[true, false, false, false, false, false, false, false, false, false, false, false, false, false, false, false, false, false, false, false, false]) (by kernel_rfl) (fun _ _ _ h => h) (by kernel_rfl) (fun w' hR => by go_simp; first | done | with_reducible rfl) rfl ?_
        try simp only [Act.put, List.setIfInBounds_toArray, List.set_cons_zero, List.set_cons_succ]
        refine rk_take (fuel := 19) 1 rfl (by kernel_rfl) (listed' := #[true, true, false, false, false, false, false, false, false, false, false, false, false, false, false, false, false, false, false, false, false]) (by kernel_rfl) (fun _ _ _ h => h) (by kernel_rfl) (fun w' hR => by go_simp; first | done | with_reducible rfl) rfl ?_
        try simp only [Act.put, List.setIfInBounds_toArray, List.set_cons_zero, List.set_cons_succ]
        refine rk_take (fuel := 18) 2 rfl (by kernel_rfl) (listed' := #[true, true, true, false, false, false, false, false, false, false, false, false, false, false, false, false, false, false, false, false, false]) (by kernel_rfl) (fun _ _ _ h => h) (by kernel_rfl) (fun w' hR => by go_simp; first | done | with_reducible rfl) rfl ?_
        try simp only [Act.put, List.setIfInBounds_toArray, List.set_cons_zero, List.set_cons_succ]
        refine rk_take (fuel := 17) 3 rfl (by kernel_rfl) (listed' := #[true, true, true, true, false, false, false, false, false, false, false, false, false, false, false, false, false, false, false, false, false]) (by kernel_rfl) (fun _ _ _ h => h) (by kernel_rfl) (fun w' hR => by go_simp; first | done | with_reducible rfl) rfl ?_
        try simp only [Act.put, List.setIfInBounds_toArray, List.set_cons_zero, List.set_cons_succ]
        refine rk_take (fuel := 16) 4 rfl (by kernel_rfl) (listed' := #[true, true, true, true, true, false, false, false, false, false, false, false, false, false, false, false, false, false, false, false, false]) (by kernel_rfl) (fun _ _ _ h => h) (by kernel_rfl) (fun w' hR => by go_simp; first | done | with_reducible rfl) rfl ?_
        try simp only [Act.put, List.setIfInBounds_toArray, List.set_cons_zero, List.set_cons_succ]
        refine rk_take (fuel := 15) 5 rfl (by kernel_rfl) (listed' := #[true, true, true, true, true, true, false, false, false, false, false, false, false, false, false, false, false, false, false, false, false]) (by kernel_rfl) (fun _ _ _ h => h) (by kernel_rfl) (fun w' hR => by go_simp; first | done | with_reducible rfl) rfl ?_
        try simp only [Act.put, List.setIfInBounds_toArray, List.set_cons_zero, List.set_cons_succ]
        refine rk_take (fuel := 14) 6 rfl (by kernel_rfl) (listed' := #[true, true, true, true, true, true, true, false, false, false, false, false, false, false, false, false, false, false, false, false, false]) (by kernel_rfl) (fun _ _ _ h => h) (by kernel_rfl) (fun w' hR => by go_simp; first | done | with_reducible rfl) rfl ?_
        try simp only [Act.put, List.setIfInBounds_toArray, List.set_cons_zero, List.set_cons_succ]
        refine rk_take (fuel := 13) 9 rfl (by kernel_rfl) (listed' := #[true, true, true, true, true, true, true, false, false, true, false, false, false, false, false, false, false, false, false, false, false]) (by kernel_rfl) (fun _ _ _ h => h) (by kernel_rfl) (fun w' hR => by go_simp; first | done | with_reducible rfl) rfl ?_
        try simp only [Act.put, List.setIfInBounds_toArray, List.set_cons_zero, List.set_cons_succ]
        refine rk_take (fuel := 12) 10 rfl (by kernel_rfl) (listed' := #[true, true, true, true, true, true, true, false, false, true, true, false, false, false, false, false, false, false, false, false, false]) (by kernel_rfl) (fun _ _ _ h => h) (by kernel_rfl) (fun w' hR => by have x0 := C_str (c := c9) (HWAS.out w' ((HT6.out.keep.drew).then (HC6.out.trans hR) (fun _ _ h => h.elim))); go_simp; first | done | with_reducible rfl) rfl ?_
        try simp only [Act.put, List.setIfInBounds_toArray, List.set_cons_zero, List.set_cons_succ]
        refine rk_step (fuel := 11) 7 rfl (by kernel_rfl) (listed' := #[true, true, true, true, true, true, true, true, false, true, true, false, false, false, false, false, false, false, false, false, false]) (by kernel_rfl) (by kernel_rfl) (fun K' hK => ?_)
        go_wp2_with (first | (go_at_call 19; refine (at_bytesE HT6.out.drew s1 s1.length rfl rfl).mono ?_; rintro e wh ⟨A7, c7, rfl, hC7, -, hb7, h7⟩; have HC7 := Aside0.mk hC7; have HK7 := Aside0.mk (Keep.of_below (S := fun _ => False) hb7); have HT7 := Aside0.mk h7; clear hC7 hb7 h7))
        refine hK.out _ _ HK7.out ?_
        clear hK K'
        try simp only [Act.put, List.setIfInBounds_toArray, List.set_cons_zero, List.set_cons_succ]
        refine rk_take (fuel := 10) 8 rfl (by kernel_rfl) (listed' := #[true, true, true, true, true, true, true, true, true, true, true, false, false, false, false, false, false, false, false, false, false]) (by kernel_rfl) (fun _ _ _ h => h) (by kernel_rfl) (fun w' hR => by have x0 := C_str (c := c7) (Kd.C_below HC7.out (hR.below (Nat.le_refl _) (fun _ _ h => h))); go_simp; first | done | with_reducible rfl) rfl ?_
        try simp only [Act.put, List.setIfInBounds_toArray, List.set_cons_zero, List.set_cons_succ]
        refine rk_take (fuel := 9) 11 rfl (by kernel_rfl) (listed' := #[true, true, true, true, true, true, true, true, true, true, true, true, false, false, false, false, false, false, false, false, false]) (by kernel_rfl) (fun _ _ _ h => h) (by kernel_rfl) (fun w' hR => by go_simp; first | done | with_reducible rfl) rfl ?_
        try simp only [Act.put, List.setIfInBounds_toArray, List.set_cons_zero, List.set_cons_succ]
        refine rk_take (fuel := 8) 12 rfl (by kernel_rfl) (listed' := #[true, true, true, true, true, true, true, true, true, true, true, true, true, false, false, false, false, false, false, false, false]) (by kernel_rfl) (fun _ _ _ h => h) (by kernel_rfl) (fun w' hR => by go_simp; first | done | with_reducible rfl) rfl ?_
        try simp only [Act.put, List.setIfInBounds_toArray, List.set_cons_zero, List.set_cons_succ]
        refine rk_take (fuel := 7) 13 rfl (by kernel_rfl) (listed' := #[true, true, true, true, true, true, true, true, true, true, true, true, true, true, false, false, false, false, false, false, false]) (by kernel_rfl) (fun _ _ _ h => h) (by kernel_rfl) (fun w' hR => by go_simp; first | done | with_reducible rfl) rfl ?_
        try simp only [Act.put, List.setIfInBounds_toArray, List.set_cons_zero, List.set_cons_succ]
        refine rk_take (fuel := 6) 14 rfl (by kernel_rfl) (listed' := #[true, true, true, true, true, true, true, true, true, true, true, true, true, true, true, false, false, false, false, false, false]) (by kernel_rfl) (fun _ _ _ h => h) (by kernel_rfl) (fun w' hR => by go_simp; first | done | with_reducible rfl) rfl ?_
        try simp only [Act.put, List.setIfInBounds_toArray, List.set_cons_zero, List.set_cons_succ]
        refine rk_take (fuel := 5) 16 rfl (by kernel_rfl) (listed' := #[true, true, true, true, true, true, true, true, true, true, true, true, true, true, true, false, true, false, false, false, false]) (by kernel_rfl) (fun _ _ _ h => h) (by kernel_rfl) (fun w' hR => by go_simp; first | done | with_reducible rfl) rfl ?_
        try simp only [Act.put, List.setIfInBounds_toArray, List.set_cons_zero, List.set_cons_succ]
        refine rk_take (fuel := 4) 17 rfl (by kernel_rfl) (listed' := #[true, true, true, true, true, true, true, true, true, true, true, true, true, true, true, false, true, true, false, false, false]) (by kernel_rfl) (fun _ _ _ h => h) (by kernel_rfl) (fun w' hR => by go_simp; first | done | with_reducible rfl) rfl ?_
        try simp only [Act.put, List.setIfInBounds_toArray, List.set_cons_zero, List.set_cons_succ]
        refine rk_step (fuel := 3) 15 rfl (by kernel_rfl) (listed' := #[true, true, true, true, true, true, true, true, true, true, true, true, true, true, true, true, true, true, false, false, false]) (by kernel_rfl) (by kernel_rfl) (fun K' hK => ?_)
        go_wp2_with (first | (go_at_call 20; refine (at_sure HT7.out).mono ?_; rintro e wi ⟨rfl, rfl⟩))
        refine hK.out _ _ (Keep.refl _ _) ?_
        clear hK K'
        try simp only [Act.put, List.setIfInBounds_toArray, List.set_cons_zero, List.set_cons_succ]
        refine rk_take (fuel := 2) 18 rfl (by kernel_rfl) (listed' := #[true, true, true, true, true, true, true, true, true, true, true, true, true, true, true, true, true, true, true, false, false]) (by kernel_rfl) (fun _ _ _ h => h) (by kernel_rfl) (fun w' hR => by go_simp; first | done | with_reducible rfl) rfl ?_
        try simp only [Act.put, List.setIfInBounds_toArray, List.set_cons_zero, List.set_cons_succ]
        refine rk_take (fuel := 1) 19 rfl (by kernel_rfl) (listed' := #[true, true, true, true, true, true, true, true, true, true, true, true, true, true, true, true, true, true, true, true, false]) (by kernel_rfl) (fun _ _ _ h => h) (by kernel_rfl) (fun w' hR => by go_simp; first | done | with_reducible rfl) rfl ?_
        try simp only [Act.put, List.setIfInBounds_toArray, List.set_cons_zero, List.set_cons_succ]
        refine rk_take (fuel := 0) 20 rfl (by kernel_rfl) (listed' := #[true, true, true, true, true, true, true, true, true, true, true, true, true, true, true, true, true, true, true, true, true]) (by kernel_rfl) (fun _ _ _ h => h) (by kernel_rfl) (fun w' hR => by go_simp; first | done | with_reducible rfl) rfl ?_
        try simp only [Act.put, List.setIfInBounds_toArray, List.set_cons_zero, List.set_cons_succ]
        refine rk_done (by kernel_rfl) ?_
        go_wp2
        go_ret
        exact ⟨rfl, HWD.out.trans (HT7.out.keep.below HWD.out.size (fun i hi h => by have := h.1.resolve_left (fun h => h); omega))⟩
      clear HAX
      have e30 : decide ((30 : Int) < k) = false := by simp; omega
      have e100 : decide ((100 : Int) < b.length) = false := by simp; omega
      obtain ⟨W, hW⟩ : ∃ W, W = wr.alloc (.cells #[.int .u8 kd, .int .i64 i, .bool raw, .slice A3 b.length c3, .slice B3 keep.length d3] 35) := ⟨_, rfl⟩
      have hws : W.heap.size = wr.heap.size + 1 := by rw [hW]; exact World.size_alloc _ _
      have hwk : Below wr.heap.size wr W := by rw [hW]; exact (Below.refl _ _).alloc (Nat.le_refl _) _
      have hwn : W.heap[wr.heap.size]? = some (.cells #[.int .u8 kd, .int .i64 i, .bool raw, .slice A3 b.length c3, .slice B3 keep.length d3] 35 (0, 0)) := by rw [hW]; exact heap_alloc_new _ _
      have HWK := Aside0.mk hwk
      have HWN := Aside0.mk hwn
      clear hwk hwn
      go_wp2_with fail
      rw [← hW]
      clear hW q0 q1 q2 q3 q4
      have HF := Aside0.mk (show ∀ W', Keep (fun _ => False) W.drew W' → W'.cell? ⟨wr.heap.size, 1, none⟩ = some (.int .i64 i) ∧ W'.cell? ⟨wr.heap.size, 3, none⟩ = some (.slice A3 b.length c3) from fun W' hW' => by
        have h := (hW'.block wr.heap.size (by show wr.heap.size < W.heap.size; omega) (fun h => h)).trans HWN.out
        exact ⟨by simp [World.cell?, h], by simp [World.cell?, h]⟩)
      have HCUR := Aside0.mk (Keep.refl (fun _ => False) W.drew)
      obtain ⟨L, hL⟩ : ∃ L, (over q s).length = L := ⟨_, rfl⟩
      have hL1 := H1.out.ok.all.1
      rw [hL] at hL1
      have HL := Aside0.mk hL
      obtain ⟨iu, hiu⟩ : ∃ x, IntKind.u64.wrap i = x := ⟨_, rfl⟩
      obtain ⟨p, hpm⟩ : ∃ x, iu.tmod ((L : Int) + 1) = x := ⟨_, rfl⟩
      have hiu0 := (wrU64_range i).1
      rw [hiu] at hiu0
      have hpr := tmod_range hiu0 (show (0 : Int) < (L : Int) + 1 by omega)
      rw [hpm] at hpr
      obtain ⟨hp0, hp1⟩ := hpr
      have y1 := wrI64 ((L : Int) + 1) (by omega) (by omega)
      have y2 := wrU64 ((L : Int) + 1) (by omega) (by omega)
      have y3 := wrI64 p (by omega) (by omega)
      have y4 : ((L : Int) + 1 = 0) = False := by simp; omega
      clear hL
      refine re_start [13] (fun _ => False) (by kernel_rfl) (n := 14) (l := #[false, false, false, false, false, false, false, false, false, false, false, false, false, false]) (by kernel_rfl) (by kernel_rfl) ?_
      refine re_take (fuel := 13) 0 rfl (by kernel_rfl) (listed' := #[true, false, false, false, false, false, false, false, false, false, false, false, false, false]) (by kernel_rfl) (fun _ _ _ h => h) (by kernel_rfl) (fun w' hR => by obtain ⟨x0, x1⟩ := HF.out w' (HCUR.out.trans hR); go_simp; first | done | with_reducible rfl) rfl ?_
      try simp only [Act.put, List.setIfInBounds_toArray, List.set_cons_zero, List.set_cons_succ]
      refine re_take (fuel := 12) 1 rfl (by kernel_rfl) (listed' := #[true, true, false, false, false, false, false, false, false, false, false, false, false, false]) (by kernel_rfl) (fun _ _ _ h => h) (by kernel_rfl) (fun w' hR => by obtain ⟨x0, x1⟩ := HF.out w' (HCUR.out.trans hR); go_simp; first | done | with_reducible rfl) rfl ?_
      try simp only [Act.put, List.setIfInBounds_toArray, List.set_cons_zero, List.set_cons_succ]
      refine re_take (fuel := 11) 2 rfl (by kernel_rfl) (listed' := #[true, true, true, false, false, false, false, false, false, false, false, false, false, false]) (by kernel_rfl) (fun _ _ _ h => h) (by kernel_rfl) (fun w' hR => by obtain ⟨x0, x1⟩ := HF.out w' (HCUR.out.trans hR); go_simp; first | done | with_reducible rfl) rfl ?_
      try simp only [Act.put, List.setIfInBounds_toArray, List.set_cons_zero, List.set_cons_succ]
      refine re_take (fuel := 10) 3 rfl (by kernel_rfl) (listed' := #[true, true, true, true, false, false, false, false, false, false, false, false, false, false]) (by kernel_rfl) (fun _ _ _ h => h) (by kernel_rfl) (fun w' hR => by obtain ⟨x0, x1⟩ := HF.out w' (HCUR.out.trans hR); go_simp; first | done | with_reducible rfl) rfl ?_
      try simp only [Act.put, List.setIfInBounds_toArray, List.set_cons_zero, List.set_cons_succ]
      refine re_take (fuel := 9) 4 rfl (by kernel_rfl) (listed' := #[true, true, true, true, true, false, false, false, false, false, false, false, false, false]) (by kernel_rfl) (fun _ _ _ h => h) (by kernel_rfl) (fun w' hR => by obtain ⟨x0, x1⟩ := HF.out w' (HCUR.out.trans hR); go_simp; first | done | with_reducible rfl) rfl ?_
      try simp only [Act.put, List.setIfInBounds_toArray, List.set_cons_zero, List.set_cons_succ]
      refine re_take (fuel := 8) 11 rfl (by kernel_rfl) (listed' := #[true, true, true, true, true, false, false, false, false, false, false, true, false, false]) (by kernel_rfl) (fun _ _ _ h => h) (by kernel_rfl) (fun w' hR => by obtain ⟨x0, x1⟩ := HF.out w' (HCUR.out.trans hR); go_simp; first | done | with_reducible rfl) rfl ?_
      try simp only [Act.put, List.setIfInBounds_toArray, List.set_cons_zero, List.set_cons_succ]
      refine re_take (fuel := 7) 12 rfl (by kernel_rfl) (listed' := #[true, true, true, true, true, false, false, false, false, false, false, true, true, false]) (by kernel_rfl) (fun _ _ _ h => h) (by kernel_rfl) (fun w' hR => by obtain ⟨x0, x1⟩ := HF.out w' (HCUR.out.trans hR); go_simp; first | done | with_reducible rfl) rfl ?_
      try simp only [Act.put, List.setIfInBounds_toArray, List.set_cons_zero, List.set_cons_succ]
      refine re_step (fuel := 6) 5 rfl (by kernel_rfl) (listed' := #[true, true, true, true, true, true, false, false, false, false, false, true, true, false]) (by kernel_rfl) (by kernel_rfl) (fun K' hK => ?_)
      go_wp2_with (first | (go_at_call 19; refine (at_bytesE (H1.out.below HWK.out).drew (over q s) L rfl HL.out).mono ?_; rintro e w6 ⟨A6, c6, rfl, -, -, hb6, h6⟩; have H6 := Aside0.mk h6; have HB6 := Aside0.mk (Keep.of_below (S := fun _ => False) hb6); clear hb6 h6))
      refine hK.out _ _ HB6.out ?_
      clear hK K'
      try simp only [Act.put, List.setIfInBounds_toArray, List.set_cons_zero, List.set_cons_succ]
      refine re_take (fuel := 5) 6 rfl (by kernel_rfl) (listed' := #[true, true, true, true, true, true, true, false, false, false, false, true, true, false]) (by kernel_rfl) (fun _ _ _ h => h) (by kernel_rfl) (fun w' hR => by skip; go_simp; first | done | with_reducible rfl) rfl ?_
      try simp only [Act.put, List.setIfInBounds_toArray, List.set_cons_zero, List.set_cons_succ]
      refine re_take (fuel := 4) 7 rfl (by kernel_rfl) (listed' := #[true, true, true, true, true, true, true, true, false, false, false, true, true, false]) (by kernel_rfl) (fun _ _ _ h => h) (by kernel_rfl) (fun w' hR => by skip; go_simp; first | done | with_reducible rfl) rfl ?_
      try simp only [Act.put, List.setIfInBounds_toArray, List.set_cons_zero, List.set_cons_succ]
      refine re_take (fuel := 3) 8 rfl (by kernel_rfl) (listed' := #[true, true, true, true, true, true, true, true, true, false, false, true, true, false]) (by kernel_rfl) (fun _ _ _ h => h) (by kernel_rfl) (fun w' hR => by skip; go_simp; first | done | with_reducible rfl) rfl ?_
      try simp only [Act.put, List.setIfInBounds_toArray, List.set_cons_zero, List.set_cons_succ]
      refine re_take (fuel := 2) 9 rfl (by kernel_rfl) (listed' := #[true, true, true, true, true, true, true, true, true, true, false, true, true, false]) (by kernel_rfl) (fun _ _ _ h => h) (by kernel_rfl) (fun w' hR => by skip; go_simp; first | done | with_reducible rfl) rfl ?_
      try simp only [Act.put, List.setIfInBounds_toArray, List.set_cons_zero, List.set_cons_succ]
      refine re_take (fuel := 1) 10 rfl (by kernel_rfl) (listed' := #[true, true, true, true, true, true, true, true, true, true, true, true, true, false]) (by kernel_rfl) (fun _ _ _ h => h) (by kernel_rfl) (fun w' hR => by skip; go_simp; first | done | with_reducible rfl) rfl ?_
      try simp only [Act.put, List.setIfInBounds_toArray, List.set_cons_zero, List.set_cons_succ]
      refine re_free (fuel := 0) 13 rfl (by kernel_rfl) (listed' := #[true, true, true, true, true, true, true, true, true, true, true, true, true, true]) (by kernel_rfl) (by kernel_rfl) (fun K' hK => ?_)
      have hbl : Below wr.heap.size wr w6 := HWK.out.drew.trans ((HB6.out.below (Nat.le_refl _) (fun _ _ h => h)).mono (Nat.le_trans HWK.out.size (Nat.le_refl _))); have HBL := Aside0.mk hbl; have HCb6 := Aside0.mk (Kd.C_below HCb.out hbl); have HR6 := Aside0.mk (H1.out.rebase hbl); clear hbl; go_wp2_with (first | (go_at_call 16; refine (at_write HR6.out (by omega) p (by omega) (by omega) A3 b.length c3 b rfl HCb6.out HBY.out).mono ?_; rintro e w7 ⟨rfl, h7⟩; have H7 := Aside0.mk h7; clear h7))
      refine hK.out _ _ trivial ?_
      clear hK K'
      try simp only [Act.put, List.setIfInBounds_toArray, List.set_cons_zero, List.set_cons_succ]
      refine re_done (by kernel_rfl) ?_
      have hz6 : wr.heap.size < w6.heap.size := by have := HB6.out.size; have h : W.drew.heap.size = W.heap.size := rfl; omega
      have hbox := (H7.out.keep.block wr.heap.size hz6 (fun h => by omega)).trans ((HB6.out.block wr.heap.size (by show wr.heap.size < W.heap.size; omega) (fun h => h)).trans HWN.out)
      have q7 : w7.cell? ⟨wr.heap.size, 0, none⟩ = some (.int .u8 kd) := by simp [World.cell?, hbox]
      have H8 := Aside0.mk (H7.out.back (W0 := w) (N := fun _ => False) (fun k h => h.1) (H1.out.keep.trans (Keep.of_below HBL.out)))
      have hql2 := Nat.le_trans (wrQ_len 5000 s q p b) (Nat.succ_le_succ hql)
      generalize wErr 5000 (over q s).length p b.length = er
      obtain ⟨q', hq'⟩ : ∃ q', wrQ 5000 s q p b = q' := ⟨_, rfl⟩
      rw [hq'] at hql2 H8
      clear hbox hq' H7 y1 y2 y3 y4
      by_cases h4 : kd % 7 = 4
      · have b4 : (kd % 7 == 4) = true := by rw [h4]; rfl
        clear h4
        go_wp2_with (first | (go_at_call 17; refine (at_sync H8.out).mono ?_; rintro e w8 ⟨rfl, h8⟩; have H9 := Aside0.mk h8; clear h8))
        go_roundw
        case rel => exact ⟨k + 1, _, _, by omega, by omega, by go_num, by simp, H9⟩
        case measure => simp [intOf]; omega
      · have b4 : (kd % 7 == 4) = false := beq_eq_false_iff_ne.mpr h4
        clear h4
        go_wp2
        go_roundw
        case rel => exact ⟨k + 1, _, _, by omega, by omega, by go_num, hql2, H8⟩
        case measure => simp [intOf]; omega
    · have hkm : decide ((k : Int) < m.length) = false := by simp; omega
      go_upto_region 12 with fail
      have HT := H1
      obtain ⟨s1, hs1⟩ : ∃ s1, fallen kp 0 q s = s1 := ⟨_, rfl⟩
      have HS1 := Aside0.mk hs1
      have HWT := Aside0.mk (HT.out.keep.below (Nat.le_refl _) (fun _ _ h => h) : Below w.heap.size w _)
      clear hs1
      go_wp2_with (first
        | (go_at_call 18; refine (at_crashE HT.out (Below.refl _ _) B kp.length d kp rfl (Kd.C_below HB.out HWT.out) (fun a ha h0 => ⟨.inr ⟨fun h => h, C_lt HB.out h0 a ha⟩, Nat.lt_of_lt_of_le (C_lt HB.out h0 a ha) HWT.out.size⟩) HKR.out s1 HS1.out).mono ?_; rintro e wc ⟨rfl, h2⟩; have HT2 := Aside0.mk h2; clear h2 HT HS1)
        | (go_at_call 19; refine (at_bytesE HT2.out s1 s1.length rfl rfl).mono ?_; rintro e wd ⟨A9, c9, rfl, hC9, hA9, hb9, h9⟩; have HC9 := Aside0.mk hC9; have HA9 := Aside0.mk hA9; have HB9 := Aside0.mk hb9; have HT3 := Aside0.mk (HT2.out.rebase hb9); have hwd := (h9.keep.below (Nat.le_refl _) (fun _ _ h => h) : Below w.heap.size w wd); have HWD := Aside0.mk hwd; clear hC9 hA9 hb9 h9 hwd)
        | (go_at_call 18; refine (at_crashE HT3.out (Below.refl _ _) B' mo.length d' mo rfl (Kd.C_below HB'.out HWD.out) (fun a ha h0 => ⟨.inr ⟨fun h => (by have := C_lt HB'.out h0 a ha; have := h.1.resolve_left (fun h => h); omega), Nat.lt_of_lt_of_le (C_lt HB'.out h0 a ha) HWD.out.size⟩, Nat.lt_of_lt_of_le (C_lt HB'.out h0 a ha) HWD.out.size⟩) HKR'.out s1 rfl).mono ?_; rintro e we ⟨rfl, h4⟩; have HT4 := Aside0.mk h4; clear h4))
      have HWAS := Aside0.mk (show ∀ W, Keep (fun k => ((False ∨ w.heap.size ≤ k) ∧ k < wc.heap.size)) wd W → kU8.C W A9 s1.length s1 from fun W hW => C_blk HC9.out (fun a e => hW.block a.block (HA9.out a e).2 (fun h => by have := (HA9.out a e).1; omega)))
      have HC4 := Aside0.mk (Keep.refl (fun _ => False) we.drew)
      refine rk_start (fun _ => False) (by kernel_rfl) (n := 7) (l := #[false, false, false, false, false, false, false]) (by kernel_rfl) (by kernel_rfl) ?_
      refine rk_take (fuel := 6) 0 rfl (by kernel_rfl) (listed' := #[true, false, false, false, false, false, false]) (by kernel_rfl) (fun _ _ _ h => h) (by kernel_rfl) (fun w' hR => by go_simp; first | done | with_reducible rfl) rfl ?_
      try simp only [Act.put, List.setIfInBounds_toArray, List.set_cons_zero, List.set_cons_succ]
      refine rk_take (fuel := 5) 3 rfl (by kernel_rfl) (listed' := #[true, false, false, true, false, false, false]) (by kernel_rfl) (fun _ _ _ h => h) (by kernel_rfl) (fun w' hR => by go_simp; first | done | with_reducible rfl) rfl ?_
      try simp only [Act.put, List.setIfInBounds_toArray, List.set_cons_zero, List.set_cons_succ]
      refine rk_take (fuel := 4) 4 rfl (by kernel_rfl) (listed' := #[true, false, false, true, true, false, false]) (by kernel_rfl) (fun _ _ _ h => h) (by kernel_rfl) (fun w' hR => by have x0 := C_str (c := c9) (HWAS.out w' ((HT4.out.keep.drew).then (HC4.out.trans hR) (fun _ _ h => h.elim))); go_simp; first | done | with_reducible rfl) rfl ?_
      try simp only [Act.put, List.setIfInBounds_toArray, List.set_cons_zero, List.set_cons_succ]
      refine rk_step (fuel := 3) 1 rfl (by kernel_rfl) (listed' := #[true, true, false, true, true, false, false]) (by kernel_rfl) (by kernel_rfl) (fun K' hK => ?_)
      go_wp2_with (first | (go_at_call 19; refine (at_bytesE HT4.out.drew s1 s1.length rfl rfl).mono ?_; rintro e wf ⟨A5, c5, rfl, hC5, -, hb5, h5⟩; have HC5 := Aside0.mk hC5; have HK5 := Aside0.mk (Keep.of_below (S := fun _ => False) hb5); have HT5 := Aside0.mk h5; clear hC5 hb5 h5))
      refine hK.out _ _ HK5.out ?_
      clear hK K'
      try simp only [Act.put, List.setIfInBounds_toArray, List.set_cons_zero, List.set_cons_succ]
      refine rk_take (fuel := 2) 2 rfl (by kernel_rfl) (listed' := #[true, true, true, true, true, false, false]) (by kernel_rfl) (fun _ _ _ h => h) (by kernel_rfl) (fun w' hR => by have x0 := C_str (c := c5) (Kd.C_below HC5.out (hR.below (Nat.le_refl _) (fun _ _ h => h))); go_simp; first | done | with_reducible rfl) rfl ?_
      try simp only [Act.put, List.setIfInBounds_toArray, List.set_cons_zero, List.set_cons_succ]
      refine rk_take (fuel := 1) 5 rfl (by kernel_rfl) (listed' := #[true, true, true, true, true, true, false]) (by kernel_rfl) (fun _ _ _ h => h) (by kernel_rfl) (fun w' hR => by go_simp; first | done | with_reducible rfl) rfl ?_
      try simp only [Act.put, List.setIfInBounds_toArray, List.set_cons_zero, List.set_cons_succ]
      refine rk_take (fuel := 0) 6 rfl (by kernel_rfl) (listed' := #[true, true, true, true, true, true, true]) (by kernel_rfl) (fun _ _ _ h => h) (by kernel_rfl) (fun w' hR => by go_simp; first | done | with_reducible rfl) rfl ?_
      try simp only [Act.put, List.setIfInBounds_toArray, List.set_cons_zero, List.set_cons_succ]
      refine rk_done (by kernel_rfl) ?_
      go_wp2_with (first | (go_at_call 17; refine (at_syncE HT5.out s1 rfl).mono ?_; rintro e wg ⟨rfl, h6⟩; have HT6 := Aside0.mk h6; clear h6))
      have HC6 := Aside0.mk (Keep.refl (fun _ => False) wg.drew)
      refine rk_start (fun _ => False) (by kernel_rfl) (n := 21) (l := #[false, false, false, false, false, false, false, false, false, false, false, false, false, false, false, false, false, false, false, false, false]) (by kernel_rfl) (by kernel_rfl) ?_
      refine rk_take (fuel := 20) 0 rfl (by kernel_rfl) (listed' := #[true, false, false, false, false, false, false, false, false, false, false, false, false, false, false, false, false, false, false, false, false]) (by kernel_rfl) (fun _ _ _ h => h) (by kernel_rfl) (fun w' hR => by go_simp; first | done | with_reducible rfl) rfl ?_
      try simp only [Act.put, List.setIfInBounds_toArray, List.set_cons_zero, List.set_cons_succ]
      refine rk_take (fuel := 19) 1 rfl (by kernel_rfl) (listed' := #[true, true, false, false, false, false, false, false, false, false, false, false, false, false, false, false, false, false, false, false, false]) (by kernel_rfl) (fun _ _ _ h => h) (by kernel_rfl) (fun w' hR => by go_simp; first | done | with_reducible rfl) rfl ?_
      try simp only [Act.put, List.setIfInBounds_toArray, List.set_cons_zero, List.set_cons_succ]
      refine rk_take (fuel := 18) 2 rfl (by kernel_rfl) (listed' := #[true, true, true, false, false, false, false, false, false, false, false, false, false, false, false, false, false, false, false, false, false]) (by kernel_rfl) (fun _ _ _ h => h) (by kernel_rfl) (fun w' hR => by go_simp; first | done | with_reducible rfl) rfl ?_
      try simp only [Act.put, List.setIfInBounds_toArray, List.set_cons_zero, List.set_cons_succ]
      refine rk_take (fuel := 17) 3 rfl (by kernel_rfl) (listed' := #[true, true, true, true, false, false, false, false, false, false, false, false, false, false, false, false, false, false, false, false, false]) (by kernel_rfl) (fun _ _ _ h => h) (by kernel_rfl) (fun w' hR => by go_simp; first | done | with_reducible rfl) rfl ?_
      try simp only [Act.put, List.setIfInBounds_toArray, List.set_cons_zero, List.set_cons_succ]
      refine rk_take (fuel := 16) 4 rfl (by kernel_rfl) (listed' := #[true, true, true, true, true, false, false, false, false, false, false, false, false, false, false, false, false, false, false, false, false]) (by kernel_rfl) (fun _ _ _ h => h) (by kernel_rfl) (fun w' hR => by go_simp; first | done | with_reducible rfl) rfl ?_
      try simp only [Act.put, List.setIfInBounds_toArray, List.set_cons_zero, List.set_cons_succ]
      refine rk_take (fuel := 15) 5 rfl (by kernel_rfl) (listed' := #[true, true, true, true, true, true, false, false, false, false, false, false, false, false, false, false, false, false, false, false, false]) (by kernel_rfl) (fun _ _ _ h => h) (by kernel_rfl) (fun w' hR => by go_simp; first | done | with_reducible rfl) rfl ?_
      try simp only [Act.put, List.setIfInBounds_toArray, List.set_cons_zero, List.set_cons_succ]
      refine rk_take (fuel := 14) 6 rfl (by kernel_rfl) (listed' := #[true, true, true, true, true, true, true, false, false, false, false, false, false, false, false, false, false, false, false, false, false]) (by kernel_rfl) (fun _ _ _ h => h) (by kernel_rfl) (fun w' hR => by go_simp; first | done | with_reducible rfl) rfl ?_
      try simp only [Act.put, List.setIfInBounds_toArray, List.set_cons_zero, List.set_cons_succ]
      refine rk_take (fuel := 13) 9 rfl (by kernel_rfl) (listed' := #[true, true, true, true, true, true, true, false, false, true, false, false, false, false, false, false, false, false, false, false, false]) (by kernel_rfl) (fun _ _ _ h => h) (by kernel_rfl) (fun w' hR => by go_simp; first | done | with_reducible rfl) rfl ?_
      try simp only [Act.put, List.setIfInBounds_toArray, List.set_cons_zero, List.set_cons_succ]
      refine rk_take (fuel := 12) 10 rfl (by kernel_rfl) (listed' := #[true, true, true, true, true, true, true, false, false, true, true, false, false, false, false, false, false, false, false, false, false]) (by kernel_rfl) (fun _ _ _ h => h) (by kernel_rfl) (fun w' hR => by have x0 := C_str (c := c9) (HWAS.out w' ((HT6.out.keep.drew).then (HC6.out.trans hR) (fun _ _ h => h.elim))); go_simp; first | done | with_reducible rfl) rfl ?_
      try simp only [Act.put, List.setIfInBounds_toArray, List.set_cons_zero, List.set_cons_succ]
      refine rk_step (fuel := 11) 7 rfl (by kernel_rfl) (listed' := #[true, true, true, true, true, true, true, true, false, true, true, false, false, false, false, false, false, false, false, false, false]) (by kernel_rfl) (by kernel_rfl) (fun K' hK => ?_)
      go_wp2_with (first | (go_at_call 19; refine (at_bytesE HT6.out.drew s1 s1.length rfl rfl).mono ?_; rintro e wh ⟨A7, c7, rfl, hC7, -, hb7, h7⟩; have HC7 := Aside0.mk hC7; have HK7 := Aside0.mk (Keep.of_below (S := fun _ => False) hb7); have HT7 := Aside0.mk h7; clear hC7 hb7 h7))
      refine hK.out _ _ HK7.out ?_
      clear hK K'
      try simp only [Act.put, List.setIfInBounds_toArray, List.set_cons_zero, List.set_cons_succ]
      refine rk_take (fuel := 10) 8 rfl (by kernel_rfl) (listed' := #[true, true, true, true, true, true, true, true, true, true, true, false, false, false, false, false, false, false, false, false, false]) (by kernel_rfl) (fun _ _ _ h => h) (by kernel_rfl) (fun w' hR => by have x0 := C_str (c := c7) (Kd.C_below HC7.out (hR.below (Nat.le_refl _) (fun _ _ h => h))); go_simp; first | done | with_reducible rfl) rfl ?_
      try simp only [Act.put, List.setIfInBounds_toArray, List.set_cons_zero, List.set_cons_succ]
      refine rk_take (fuel := 9) 11 rfl (by kernel_rfl) (listed' := #[true, true, true, true, true, true, true, true, true, true, true, true, false, false, false, false, false, false, false, false, false]) (by kernel_rfl) (fun _ _ _ h => h) (by kernel_rfl) (fun w' hR => by go_simp; first | done | with_reducible rfl) rfl ?_
      try simp only [Act.put, List.setIfInBounds_toArray, List.set_cons_zero, List.set_cons_succ]
      refine rk_take (fuel := 8) 12 rfl (by kernel_rfl) (listed' := #[true, true, true, true, true, true, true, true, true, true, true, true, true, false, false, false, false, false, false, false, false]) (by kernel_rfl) (fun _ _ _ h => h) (by kernel_rfl) (fun w' hR => by go_simp; first | done | with_reducible rfl) rfl ?_
      try simp only [Act.put, List.setIfInBounds_toArray, List.set_cons_zero, List.set_cons_succ]
      refine rk_take (fuel := 7) 13 rfl (by kernel_rfl) (listed' := #[true, true, true, true, true, true, true, true, true, true, true, true, true, true, false, false, false, false, false, false, false]) (by kernel_rfl) (fun _ _ _ h => h) (by kernel_rfl) (fun w' hR => by go_simp; first | done | with_reducible rfl) rfl ?_
      try simp only [Act.put, List.setIfInBounds_toArray, List.set_cons_zero, List.set_cons_succ]
      refine rk_take (fuel := 6) 14 rfl (by kernel_rfl) (listed' := #[true, true, true, true, true, true, true, true, true, true, true, true, true, true, true, false, false, false, false, false, false]) (by kernel_rfl) (fun _ _ _ h => h) (by kernel_rfl) (fun w' hR => by go_simp; first | done | with_reducible rfl) rfl ?_
      try simp only [Act.put, List.setIfInBounds_toArray, List.set_cons_zero, List.set_cons_succ]
      refine rk_take (fuel := 5) 16 rfl (by kernel_rfl) (listed' := #[true, true, true, true, true, true, true, true, true, true, true, true, true, true, true, false, true, false, false, false, false]) (by kernel_rfl) (fun _ _ _ h => h) (by kernel_rfl) (fun w' hR => by go_simp; first | done | with_reducible rfl) rfl ?_
      try simp only [Act.put, List.setIfInBounds_toArray, List.set_cons_zero, List.set_cons_succ]
      refine rk_take (fuel := 4) 17 rfl (by kernel_rfl) (listed' := #[true, true, true, true, true, true, true, true, true, true, true, true, true, true, true, false, true, true, false, false, false]) (by kernel_rfl) (fun _ _ _ h => h) (by kernel_rfl) (fun w' hR => by go_simp; first | done | with_reducible rfl) rfl ?_
      try simp only [Act.put, List.setIfInBounds_toArray, List.set_cons_zero, List.set_cons_succ]
      refine rk_step (fuel := 3) 15 rfl (by kernel_rfl) (listed' := #[true, true, true, true, true, true, true, true, true, true, true, true, true, true, true, true, true, true, false, false, false]) (by kernel_rfl) (by kernel_rfl) (fun K' hK => ?_)
      go_wp2_with (first | (go_at_call 20; refine (at_sure HT7.out).mono ?_; rintro e wi ⟨rfl, rfl⟩))
      refine hK.out _ _ (Keep.refl _ _) ?_
      clear hK K'
      try simp only [Act.put, List.setIfInBounds_toArray, List.set_cons_zero, List.set_cons_succ]
      refine rk_take (fuel := 2) 18 rfl (by kernel_rfl) (listed' := #[true, true, true, true, true, true, true, true, true, true, true, true, true, true, true, true, true, true, true, false, false]) (by kernel_rfl) (fun _ _ _ h => h) (by kernel_rfl) (fun w' hR => by go_simp; first | done | with_reducible rfl) rfl ?_
      try simp only [Act.put, List.setIfInBounds_toArray, List.set_cons_zero, List.set_cons_succ]
      refine rk_take (fuel := 1) 19 rfl (by kernel_rfl) (listed' := #[true, true, true, true, true, true, true, true, true, true, true, true, true, true, true, true, true, true, true, true, false]) (by kernel_rfl) (fun _ _ _ h => h) (by kernel_rfl) (fun w' hR => by go_simp; first | done | with_reducible rfl) rfl ?_
      try simp only [Act.put, List.setIfInBounds_toArray, List.set_cons_zero, List.set_cons_succ]
      refine rk_take (fuel := 0) 20 rfl (by kernel_rfl) (listed' := #[true, true, true, true, true, true, true, true, true, true, true, true, true, true, true, true, true, true, true, true, true]) (by kernel_rfl) (fun _ _ _ h => h) (by kernel_rfl) (fun w' hR => by go_simp; first | done | with_reducible rfl) rfl ?_
      try simp only [Act.put, List.setIfInBounds_toArray, List.set_cons_zero, List.set_cons_succ]
      refine rk_done (by kernel_rfl) ?_
      go_wp2
      go_ret
      exact ⟨rfl, HWD.out.trans (HT7.out.keep.below HWD.out.size (fun i hi h => by have := h.1.resolve_left (fun h => h); omega))⟩
theorem own : ownKnob Try.prog.godebug = none := by kernel_rfl
theorem laidOut : laidOutB Try.prog = true := by kernel_rfl
def IsRow (k : IntKind) (w : World) (a : Option Addr) (len cap : Nat) (zs : List Int) : Prop :=
  (a = none ∧ len = 0 ∧ cap = 0 ∧ zs = []) ∨
  ∃ x, a = some x ∧ len ≤ cap ∧ cap ≤ maxLen ∧ zs.length = cap ∧ (∀ i, i < zs.length → w.cell? (x.add i) = some (.int k (zs.getD i 0))) ∧ ∀ n ∈ zs, (Lit.int k n).wf = true
set_option maxRecDepth 100000 in
theorem lifted (os : Os) (started : os.Started) (H : Type) (enc : TypeId × Value → H) :
    ReturnsInHanded {} Try.checked os 4 .any (Rows.fileTwiceSpec.pre6 enc Try.prog Try.f4 Rows.fileTwiceRow.domain false) (Rows.fileTwiceSpec.post enc Try.prog Try.f4 false true false false) := by
  refine returnsInHanded_of_change_sized (C := Try.checked) own started (by kernel_rfl) Try.func4
    (ChangeSpec.witness6 (enc := enc) (C := Try.checked) false ⟨#[], #[.slice none 0 0, .slice none 0 0, .slice none 0 0], []⟩ 8 (by kernel_rfl) (by kernel_rfl) (by kernel_rfl) (by kernel_rfl)) ?_
  intro W base args ds gs before hval0 hW hcnd hsz0 _
  have hsz : (DataW.weightsEach Try.prog (Try.f4.params.toList ++ Rows.fileTwiceSpec.plain.varTypes Try.prog) (ds ++ gs)).all (· ≤ reachBytes) = true := hsz0
  have hval : ∀ (j : Nat) t v, Try.f4.params[j]? = some t → args[j]? = some v → Value.okWide Try.prog W .any base t v := hval0
  have hW' := hW
  obtain ⟨p, q, hA0, hV, rfl, hfz, hnd⟩ := hW
  have hA : DataW.TrodAll enc Try.prog W 0 (fun _ => true) true Try.f4.params.toList args.toList ds p := hA0
  rw [Try.params4] at hA hval hsz
  obtain ⟨v0, vs0, d0, ds0, p0, q0, hargs, rfl, rfl, h0, r0⟩ := trodAll_cons hA
  obtain ⟨v1, vs1, d1, ds1, p1, q1, rfl, rfl, rfl, h1, r1⟩ := trodAll_cons r0
  obtain ⟨v2, vs2, d2, ds2, p2, q2, rfl, rfl, rfl, h2, r2⟩ := trodAll_cons r1
  obtain ⟨rfl, rfl, rfl⟩ := trodAll_nil r2
  obtain rfl : args = #[v0, v1, v2] := by cases args; simp_all
  obtain ⟨rfl, rfl⟩ := trodVars_none hV
  obtain ⟨a0, len0, cap0, rfl⟩ := okWide_slice Try.underlying33 (hval 0 33 v0 rfl rfl)
  have k0 := h0
  have alt0 := okWide_alt Try.underlying33 (hval 0 33 _ rfl rfl)
  have lt0 : ∀ x ∈ p0, x.block < W.heap.size := by obtain ⟨m, hm⟩ := k0; exact DataW.trod_lt m _ _ _ hm
  obtain ⟨l0, rfl, hcap0, hC0, hok0⟩ := opens_arg opens_acts h0
  obtain ⟨a1, len1, cap1, rfl⟩ := okWide_slice Try.underlying30 (hval 1 30 v1 rfl rfl)
  have k1 := h1
  have lt1 : ∀ x ∈ p1, x.block < W.heap.size := by obtain ⟨m, hm⟩ := k1; exact DataW.trod_lt m _ _ _ hm
  obtain ⟨z1, w1⟩ : ∃ zs, IsRow .i64 W a1 len1 cap1 zs := by
    obtain ⟨fuel, hf⟩ := h1
    rcases open_ints Try.underlying30 Try.underlying3 (by kernel_rfl) hf with ⟨hcs, _⟩ | ⟨x, l, c, zs, hcs, _, hl, hm, hz, _, hcell, hwz⟩
    · simp [Value.cells] at hcs
      obtain ⟨rfl, rfl, rfl⟩ := hcs
      exact ⟨[], .inl ⟨rfl, rfl, rfl, rfl⟩⟩
    · simp [Value.cells] at hcs
      obtain ⟨rfl, rfl, rfl⟩ := hcs
      exact ⟨zs, .inr ⟨_, rfl, hl, hm, by simpa using hz, hcell, hwz⟩⟩
  have y1 : len1 * 8 ≤ 140737488351232 := sized_ints hsz (j := 1) (t := 30) rfl rfl Try.underlying30 Try.underlying3 (by kernel_rfl) (by kernel_rfl) h1
  obtain ⟨l1, rfl, hr1, hm1, hwf1, hcap1⟩ := ReadsInt.ofRowC w1
  obtain ⟨a2, len2, cap2, rfl⟩ := okWide_slice Try.underlying30 (hval 2 30 v2 rfl rfl)
  have k2 := h2
  have lt2 : ∀ x ∈ p2, x.block < W.heap.size := by obtain ⟨m, hm⟩ := k2; exact DataW.trod_lt m _ _ _ hm
  obtain ⟨z2, w2⟩ : ∃ zs, IsRow .i64 W a2 len2 cap2 zs := by
    obtain ⟨fuel, hf⟩ := h2
    rcases open_ints Try.underlying30 Try.underlying3 (by kernel_rfl) hf with ⟨hcs, _⟩ | ⟨x, l, c, zs, hcs, _, hl, hm, hz, _, hcell, hwz⟩
    · simp [Value.cells] at hcs
      obtain ⟨rfl, rfl, rfl⟩ := hcs
      exact ⟨[], .inl ⟨rfl, rfl, rfl, rfl⟩⟩
    · simp [Value.cells] at hcs
      obtain ⟨rfl, rfl, rfl⟩ := hcs
      exact ⟨zs, .inr ⟨_, rfl, hl, hm, by simpa using hz, hcell, hwz⟩⟩
  have y2 : len2 * 8 ≤ 140737488351232 := sized_ints hsz (j := 2) (t := 30) rfl rfl Try.underlying30 Try.underlying3 (by kernel_rfl) (by kernel_rfl) h2
  obtain ⟨l2, rfl, hr2, hm2, hwf2, hcap2⟩ := ReadsInt.ofRowC w2
  clear hA0 hval0 hsz0 hsz
  refine (walk W _ _ l0 hC0 hcap0 hok0 alt0 _ _ l1 (Kd.C_of_reads (d := (0 : Int)) (h1 := fun _ => rfl) hr1) hcap1 y1 hwf1 _ _ l2 (Kd.C_of_reads (d := (0 : Int)) (h1 := fun _ => rfl) hr2) hcap2 y2 hwf2).mono fun e W' ⟨he, bel⟩ => ?_
  subst he
  exact ⟨_, rfl, _, _, _, [], _, [], hW', trodAll_mk1 (shut_bool Try.underlying4 _), (trodAll_cons_mk (Below.trod laidOut (by kernel_rfl) (of_decide_eq_true (by kernel_rfl)) k0 bel lt0) (trodAll_cons_mk (Below.trod laidOut (by kernel_rfl) (of_decide_eq_true (by kernel_rfl)) k1 bel lt1) (trodAll_cons_mk (Below.trod laidOut (by kernel_rfl) (of_decide_eq_true (by kernel_rfl)) k2 bel lt2) trodAll_mk0))), rfl, bel.frame _, fun h => by cases h⟩
theorem over : Rows.fileTwiceRow.holds Try.pinned (OpenSpec.ofChange Rows.fileTwiceSpec) :=
  OpenClaim.holds_of_wide 4 Try.f4 rfl rfl rfl rfl rfl rfl rfl ⟨rfl, rfl, rfl, rfl, rfl⟩ rfl rfl rfl rfl rfl (by kernel_rfl) Try.func4 (by kernel_rfl)
    (of_decide_eq_true (by kernel_rfl)) (by unfold Func.isWrapper; first | (rw [if_pos (by decide +kernel)]; kernel_rfl) | (rw [if_neg (by decide +kernel)]; exact ⟨rfl, rfl⟩))
    (fun os started H enc _ => lifted os started H enc)
end Go.Proofs.Ytmklopaleiennaa.FileTwice
namespace Go.Proofs.Ytmklopaleiennaa
/-- The statement. -/
theorem fileTwice_holds : Rows.FileTwiceSaid := FileTwice.over
#print axioms fileTwice_holds
end Go.Proofs.Ytmklopaleiennaa
