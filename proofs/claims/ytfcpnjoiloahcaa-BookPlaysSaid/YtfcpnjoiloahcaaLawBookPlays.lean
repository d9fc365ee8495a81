/- BookPlays: calls in any order, with falls in the middle of writes, on a file of any room. No condition. -/
import Derived.Test.YtfcpnjoiloahcaaM4
import Derived.Test.YtfcpnjoiloahcaaRows
import Derived.ProofKit
import Derived.OpenShut
import Derived.ShutString
import Derived.ChangeOld
import Derived.SizedLaws
import Derived.Test.YtfcpnjoiloahcaaWSized
namespace Go.Proofs.Ytfcpnjoiloahcaa.BookPlays
open Go.ChangeShapes Go.WideShapes Go.ChangeAt Go.RowKit Go.Proofs.YtfcpnjoiloahcaaW.PrintWords Go.Proofs.YtfcpnjoiloahcaaW.PrintLast Go.Proofs.YtfcpnjoiloahcaaW.PrintMore Go.Proofs.Ytfcpnjoiloahcaa.B Go.Proofs.Ytfcpnjoiloahcaa.O Go.Proofs.Ytfcpnjoiloahcaa.Bk Go.Proofs.Ytfcpnjoiloahcaa.Mk Go.Proofs.Ytfcpnjoiloahcaa.Ta Go.Proofs.Ytfcpnjoiloahcaa.Fs Go.Proofs.Ytfcpnjoiloahcaa.Sp Go.Proofs.Ytfcpnjoiloahcaa.Ls Go.Proofs.Ytfcpnjoiloahcaa.Gs Go.Proofs.Ytfcpnjoiloahcaa.S Go.Proofs.Ytfcpnjoiloahcaa.R
set_option linter.unusedVariables false
set_option linter.unusedSimpArgs false
theorem wf_u16 {a : Int} (h : (Lit.int .u16 a).wf = true) : 0 ≤ a ∧ a < 65536 := by
  have : IntKind.u16.min ≤ a ∧ a ≤ IntKind.u16.max := by simpa [Lit.wf] using h
  have e1 : IntKind.u16.min = 0 := by decide
  have e2 : IntKind.u16.max = 65535 := by decide
  omega
/-- The files alone. -/
theorem files_only {W0 w : World} {N : Nat → Prop} {P Q F G : Assn} (h : AtP W0 N w (Star (Star P F) (Star Q G))) : AtP W0 N w (Star F G) := by
  have h1 := h.second
  have h2 : AtP W0 N w (Star F (Star G (Star Q P))) := h1.right (fun o ho => star_assoc (star_left (star_swap ho) (fun o h => star_swap h)))
  exact h2.unfirst.drop
/-- The tables first. -/
theorem tabs_first {W0 w : World} {N : Nat → Prop} {P Q F G : Assn} (h : AtP W0 N w (Star (Star P F) (Star Q G))) : AtP W0 N w (Star P (Star Q (Star G F))) :=
  h.first.right (fun o ho => star_assoc (star_swap ho))
set_option maxHeartbeats 8000000 in
set_option maxRecDepth 100000 in
theorem walk (w : World) (room : Int) (hroom : (Lit.int .u16 room).wf = true) (A : Option Addr) (c : Nat) (m : List ActT) (hC : kA.C w A m.length m) (hcap : m.length ≤ c) (hok : (∀ v ∈ m, AOk v) ∧ m.length ≤ 9223372036854775807) (hAlt : ∀ a, A = some a → a.block < w.heap.size) :
    Calls Try.prog 4 #[.int .u16 room, .slice A m.length c] w fun e w' => e = .returned (.bool true) ∧ Below w.heap.size w w' := by
  obtain ⟨hr0, hr1⟩ := wf_u16 hroom
  have HC := Aside0.mk hC
  have HOK := Aside0.mk hok.1
  have hml := hok.2
  have mixed : Try.prog.follows .mixedOrders = true := by kernel_rfl
  have HFOK := Aside0.mk (show FOk room [] [] from ⟨hr0, by omega, by simpa using hr0, fun x hx => (by cases hx), trivial⟩)
  clear hC hok hAlt hroom
  go_enter Try.func4, Try.ntmps4
  go_wp2_with (first
    | (go_at_call 15; refine (awake_calls _).mono ?_; rintro e w0 ⟨rfl, hb0⟩; have HB0 := Aside0.mk hb0; clear hb0)
    | (go_at_call 16; refine (f_new w room _ HB0.out (by omega) (by omega)).mono ?_; rintro e w1 ⟨gF, rfl, h1, -⟩; have H1 := Aside0.mk (show AtP w (fun _ => False) (w1.alloc (.cells #[.int .i64 room, .slice none 0 0, .slice none 0 0] 43)) (Star (FileM w1.heap.size room [] []) (FileA gF room [] [])) from h1.more FileA.firm ((Below.refl _ _).alloc (Nat.le_refl _) _) (o1 := fun k => k = w1.heap.size) ⟨Fw.Fl.made room _ _ w1, HFOK.out⟩ (fun k hk => by omega)); clear h1)
    | (go_at_call 17; refine (open_at H1.out.swap FileM.firm [] 0 rfl rfl (by decide)).mono ?_; rintro e w2 ⟨gB0, T, n, rfl, ho, hn, h2⟩; obtain ⟨rfl, rfl⟩ := ho.same opened_nil; have H2 := Aside0.mk h2; clear h2 H1 ho hn)
    | (go_at_call 18; refine (mopen_at H2.out.swap BookA.firm [] 0 rfl rfl (by decide)).mono ?_; rintro e w3 ⟨gM0, T, n, rfl, ho, hn, h3⟩; obtain ⟨rfl, rfl⟩ := ho.same opened_nil; have H3 := Aside0.mk h3.swap; clear h3 H2 ho hn))
  obtain ⟨gMF, hgMF⟩ : ∃ gMF, w1.heap.size = gMF := ⟨_, rfl⟩
  rw [hgMF] at H3
  rw [hgMF]
  have H4 := Aside0.mk (show AtP w (fun _ => False) w3 (Star (BookA gB0 gF room [] [] []) (BookM gM0 gMF room [] [] [])) from H3.out)
  clear HB0 H3 hgMF
  go_loopw [8, 9, 10, 36] (fun vb ve vm vi wr => ∃ (k gB gM : Nat) (s : List Int) (T : Tab), k ≤ m.length ∧ k ≤ 41 ∧ vb = .pointer (some ⟨gB, 0, none⟩) ∧ ve = .int .i64 0 ∧ vm = .pointer (some ⟨gM, 0, none⟩) ∧ vi = .int .i64 k ∧ Aside0 (AtP w (fun _ => False) wr (Star (BookA gB gF room s [] T) (BookM gM gMF room s [] T)))) (fun _ _ _ vi _ => m.length - (intOf vi).toNat)
  case atStart => exact ⟨0, gB0, gM0, [], [], by omega, by omega, rfl, rfl, rfl, rfl, H4⟩
  case round =>
    clear H4
    obtain ⟨k, gB, gM, s, T, hk, hk41, rfl, rfl, rfl, rfl, H⟩ := hrel
    have HW := Aside0.mk (show Below w.heap.size w wr from H.out.keep.below (Nat.le_refl _) (fun _ _ h => h))
    have hfm : Firm (Star (BookA gB gF room s [] T) (BookM gM gMF room s [] T)) := BookA.firm.star BookM.firm
    by_cases hlt : k < m.length
    case neg =>
      go_wp2_with fail
      go_ret
      exact ⟨rfl, HW.out⟩
    obtain ⟨⟨i, b, raw, falls, keep⟩, hp⟩ : ∃ p, m[k]? = some p := ⟨_, List.getElem?_eq_getElem hlt⟩
    obtain ⟨⟨hi0, hi1⟩, hby, hkr⟩ := HOK.out _ (List.mem_of_getElem? hp)
    simp only at hi0 hi1 hby hkr
    obtain ⟨ad, rfl⟩ : ∃ ad, A = some ad := by obtain ⟨ad, e, _⟩ := HC.out.2.2 (by omega); exact ⟨ad, e⟩
    obtain ⟨A3, c3, B3, d3, q0, q1, q2, q3, q4, hbc, hkc, hCb, hCk⟩ := act_cells HC.out hp
    have r0 := (HW.out.cell (World.block_lt_of_cell? w _ q0)).trans q0
    have r1 := (HW.out.cell (World.block_lt_of_cell? w _ q1)).trans q1
    have r2 := (HW.out.cell (World.block_lt_of_cell? w _ q2)).trans q2
    have r3 := (HW.out.cell (World.block_lt_of_cell? w _ q3)).trans q3
    have r4 := (HW.out.cell (World.block_lt_of_cell? w _ q4)).trans q4
    have HCb := Aside0.mk hCb
    have HCk := Aside0.mk hCk
    have HAL := Aside0.mk (C_lt hCb)
    have HKL := Aside0.mk (C_lt hCk)
    have HBY := Aside0.mk hby
    have HKR := Aside0.mk hkr
    clear q0 q1 q2 q3 q4 hbc hkc hCb hCk hp hby hkr
    have HWA := Aside0.mk (HW.out.alloc HW.out.size (.cells #[.int .i64 i, .slice A3 b.length c3, .bool raw, .bool falls, .slice B3 keep.length d3] 50))
    by_cases h40 : 40 < k
    · have d1 : decide ((40 : Int) < k) = true := by simp; omega
      go_wp2_with fail
      go_ret
      exact ⟨rfl, HWA.out⟩
    have d1 : decide ((40 : Int) < k) = false := by simp; omega
    by_cases h400 : 400 < b.length
    · have d2 : decide ((400 : Int) < b.length) = true := by simp; omega
      go_wp2_with fail
      go_ret
      exact ⟨rfl, HWA.out⟩
    have d2 : decide ((400 : Int) < b.length) = false := by simp; omega
    clear HWA
    obtain ⟨iu, hiu⟩ : ∃ u, IntKind.u64.wrap i = u := ⟨_, rfl⟩
    have hiu0 := (wrU64_range i).1
    rw [hiu] at hiu0
    obtain ⟨p, hpj⟩ : ∃ p : Nat, iu.tmod 16 = (p : Int) := ⟨(iu.tmod 16).toNat, by have := tmod_range hiu0 (show (0 : Int) < 16 by omega); omega⟩
    have hp16 : p < 16 := by have := (tmod_range hiu0 (show (0 : Int) < 16 by omega)).2; omega
    have y1 := wrI64 (p : Int) (by omega) (by omega)
    obtain ⟨jj, hjj⟩ : ∃ jj, (if raw = true then i else (p : Int)) = jj := ⟨_, rfl⟩
    have hj0 : -9223372036854775808 ≤ jj := by rw [← hjj]; split <;> omega
    have hj1 : jj ≤ 9223372036854775807 := by rw [← hjj]; split <;> omega
    obtain ⟨W6, hW6⟩ : ∃ W6, W6 = wr.alloc (.cells #[.int .i64 jj, .slice A3 b.length c3, .bool raw, .bool falls, .slice B3 keep.length d3] 50) := ⟨_, rfl⟩
    have hb6 : Below wr.heap.size wr W6 := by rw [hW6]; exact (Below.refl _ _).alloc (Nat.le_refl _) _
    have hn6 : W6.heap[wr.heap.size]? = some (.cells #[.int .i64 jj, .slice A3 b.length c3, .bool raw, .bool falls, .slice B3 keep.length d3] 50 (0, 0)) := by rw [hW6]; exact heap_alloc_new _ _
    obtain ⟨N2, hN2⟩ : ∃ N2 : Nat → Prop, N2 = fun k => (False ∨ w.heap.size ≤ k) ∧ k < wr.heap.size := ⟨_, rfl⟩
    have H6 := Aside0.mk (show AtP W6 N2 W6 (Star (BookA gB gF room s [] T) (BookM gM gMF room s [] T)) by rw [hN2]; exact H.out.rebase hfm hb6)
    have HBK := Aside0.mk (show ∀ W (P : Assn), AtP W6 N2 W P → AtP w (fun _ => False) W P from fun W P hx => hx.back (fun k hk => by rw [hN2] at hk; exact hk.1) (H.out.keep.trans (Keep.of_below hb6)))
    have HX := Aside0.mk (show ∀ W, Keep N2 W6 W → W.cell? ⟨wr.heap.size, 0, none⟩ = some (.int .i64 jj) ∧ W.cell? ⟨wr.heap.size, 1, none⟩ = some (.slice A3 b.length c3) ∧ W.cell? ⟨wr.heap.size, 3, none⟩ = some (.bool falls) ∧ W.cell? ⟨wr.heap.size, 4, none⟩ = some (.slice B3 keep.length d3) from fun W hW => by
      have hh := (hW.block wr.heap.size (blk_lt hn6) (fun hx => by rw [hN2] at hx; have := hx.2; omega)).trans hn6
      exact ⟨by simp [World.cell?, hh], by simp [World.cell?, hh], by simp [World.cell?, hh], by simp [World.cell?, hh]⟩)
    have hN2w : ∀ k, k < w.heap.size → ¬ N2 k := fun k hk hx => by rw [hN2] at hx; rcases hx.1 with hx | hx; exact hx.elim; omega
    have hws : w.heap.size ≤ W6.heap.size := Nat.le_trans HW.out.size hb6.size
    have HAB := Aside0.mk (show ∀ a, A3 = some a → 0 < b.length → ¬ N2 a.block ∧ a.block < W6.heap.size from fun a ha h0 => by
      have h1 := HAL.out h0 a ha
      exact ⟨hN2w _ h1, by omega⟩)
    have HKB := Aside0.mk (show ∀ a, B3 = some a → 0 < keep.length → ¬ N2 a.block ∧ a.block < W6.heap.size from fun a ha h0 => by
      have h1 := HKL.out h0 a ha
      exact ⟨hN2w _ h1, by omega⟩)
    have HCW := Aside0.mk (show ∀ W, Keep N2 W6 W → kU8.C W A3 b.length b ∧ (Kd.int .i64).C W B3 keep.length keep from fun W hW => by
      have hb := (HW.out.trans (hb6.mono HW.out.size)).trans (hW.below hws hN2w)
      exact ⟨Kd.C_below HCb.out hb, Kd.C_below HCk.out hb⟩)
    have hrm := H.out.second.fok.s0
    clear hb6 hn6 hN2 hN2w hws HCb HCk HAL HKL
    obtain ⟨x0, x1, x3, x4⟩ := HX.out W6 (Keep.refl _ _)
    have HXD := Aside0.mk (show ∀ W, Keep N2 W6.drew W → W.cell? ⟨wr.heap.size, 0, none⟩ = some (.int .i64 jj) ∧ W.cell? ⟨wr.heap.size, 1, none⟩ = some (.slice A3 b.length c3) from fun W hW => by
      obtain ⟨h1, h2, -⟩ := HX.out W ⟨hW.os, hW.tape, hW.output, hW.size, hW.block⟩
      exact ⟨h1, h2⟩)
    obtain ⟨r, hr⟩ : ∃ r, layR room s T jj b = r := ⟨_, rfl⟩
    obtain ⟨q, hq⟩ : ∃ q, layQ room s T jj b = q := ⟨_, rfl⟩
    have HLR := Aside0.mk hr
    have HLQ := Aside0.mk hq
    have HTK := Aside0.mk H6.out.first.tok
    have hrr : (r != r) = false := by simp
    clear hr hq x0 x1
    cases hfa : falls with
    | true =>
      rw [hfa] at hW6 r3 x3
      have HFA := Aside0.mk hfa
      clear hfa
      obtain ⟨bb, hbb⟩ : ∃ bb, fallen keep 0 q s = bb := ⟨_, rfl⟩
      have HBB := Aside0.mk hbb
      clear hbb
      cases hra : raw
      all_goals
        rw [hra] at hW6 r2 hjj
        simp only [if_true, if_false, Bool.false_eq_true] at hjj
        go_wp2_with fail
        rw [← hW6]
        clear hW6 hra
        refine re_start [11] (N2) (by kernel_rfl) (n := 13) (l := #[false, false, false, false, false, false, false, false, false, false, false, false, false]) (by kernel_rfl) (by kernel_rfl) ?_
        refine re_take (fuel := 12) 0 rfl (by kernel_rfl) (listed' := #[true, false, false, false, false, false, false, false, false, false, false, false, false]) (by kernel_rfl) (fun _ _ _ h => h) (by kernel_rfl) (fun w' hR => by go_simp; first | done | with_reducible rfl) rfl ?_
        try simp only [Act.put, List.setIfInBounds_toArray, List.set_cons_zero, List.set_cons_succ]
        refine re_take (fuel := 11) 1 rfl (by kernel_rfl) (listed' := #[true, true, false, false, false, false, false, false, false, false, false, false, false]) (by kernel_rfl) (fun _ _ _ h => h) (by kernel_rfl) (fun w' hR => by go_simp; first | done | with_reducible rfl) rfl ?_
        try simp only [Act.put, List.setIfInBounds_toArray, List.set_cons_zero, List.set_cons_succ]
        refine re_take (fuel := 10) 2 rfl (by kernel_rfl) (listed' := #[true, true, true, false, false, false, false, false, false, false, false, false, false]) (by kernel_rfl) (fun _ _ _ h => h) (by kernel_rfl) (fun w' hR => by obtain ⟨x0, x1⟩ := HXD.out w' hR; go_simp; first | done | with_reducible rfl) rfl ?_
        try simp only [Act.put, List.setIfInBounds_toArray, List.set_cons_zero, List.set_cons_succ]
        refine re_take (fuel := 9) 3 rfl (by kernel_rfl) (listed' := #[true, true, true, true, false, false, false, false, false, false, false, false, false]) (by kernel_rfl) (fun _ _ _ h => h) (by kernel_rfl) (fun w' hR => by go_simp; first | done | with_reducible rfl) rfl ?_
        try simp only [Act.put, List.setIfInBounds_toArray, List.set_cons_zero, List.set_cons_succ]
        refine re_take (fuel := 8) 4 rfl (by kernel_rfl) (listed' := #[true, true, true, true, true, false, false, false, false, false, false, false, false]) (by kernel_rfl) (fun _ _ _ h => h) (by kernel_rfl) (fun w' hR => by obtain ⟨x0, x1⟩ := HXD.out w' hR; go_simp; first | done | with_reducible rfl) rfl ?_
        try simp only [Act.put, List.setIfInBounds_toArray, List.set_cons_zero, List.set_cons_succ]
        refine re_take (fuel := 7) 6 rfl (by kernel_rfl) (listed' := #[true, true, true, true, true, false, true, false, false, false, false, false, false]) (by kernel_rfl) (fun _ _ _ h => h) (by kernel_rfl) (fun w' hR => by go_simp; first | done | with_reducible rfl) rfl ?_
        try simp only [Act.put, List.setIfInBounds_toArray, List.set_cons_zero, List.set_cons_succ]
        refine re_take (fuel := 6) 7 rfl (by kernel_rfl) (listed' := #[true, true, true, true, true, false, true, true, false, false, false, false, false]) (by kernel_rfl) (fun _ _ _ h => h) (by kernel_rfl) (fun w' hR => by go_simp; first | done | with_reducible rfl) rfl ?_
        try simp only [Act.put, List.setIfInBounds_toArray, List.set_cons_zero, List.set_cons_succ]
        refine re_take (fuel := 5) 8 rfl (by kernel_rfl) (listed' := #[true, true, true, true, true, false, true, true, true, false, false, false, false]) (by kernel_rfl) (fun _ _ _ h => h) (by kernel_rfl) (fun w' hR => by obtain ⟨x0, x1⟩ := HXD.out w' hR; go_simp; first | done | with_reducible rfl) rfl ?_
        try simp only [Act.put, List.setIfInBounds_toArray, List.set_cons_zero, List.set_cons_succ]
        refine re_take (fuel := 4) 9 rfl (by kernel_rfl) (listed' := #[true, true, true, true, true, false, true, true, true, true, false, false, false]) (by kernel_rfl) (fun _ _ _ h => h) (by kernel_rfl) (fun w' hR => by go_simp; first | done | with_reducible rfl) rfl ?_
        try simp only [Act.put, List.setIfInBounds_toArray, List.set_cons_zero, List.set_cons_succ]
        refine re_take (fuel := 3) 10 rfl (by kernel_rfl) (listed' := #[true, true, true, true, true, false, true, true, true, true, true, false, false]) (by kernel_rfl) (fun _ _ _ h => h) (by kernel_rfl) (fun w' hR => by obtain ⟨x0, x1⟩ := HXD.out w' hR; go_simp; first | done | with_reducible rfl) rfl ?_
        try simp only [Act.put, List.setIfInBounds_toArray, List.set_cons_zero, List.set_cons_succ]
        refine re_step (fuel := 2) 5 rfl (by kernel_rfl) (listed' := #[true, true, true, true, true, true, true, true, true, true, true, false, false]) (by kernel_rfl) (by kernel_rfl) (fun K' hK => ?_)
        go_wp2_with (first | (go_at_call 19; refine (begin_at (w1 := W6) H6.out (Below.refl _ _).drew BookM.firm jj hj0 hj1 A3 b.length c3 b rfl (Kd.C_drew (HCW.out _ (Keep.refl _ _)).1) HBY.out (by omega) r HLR.out q HLQ.out).mono ?_; rintro e w7 ⟨rfl, h7⟩; have H7 := Aside0.mk h7; have HK7 := Aside0.mk (show Keep N2 W6.drew w7 from ⟨h7.keep.os, h7.keep.tape, h7.keep.output, h7.keep.size, h7.keep.block⟩); clear h7))
        refine hK.out _ _ HK7.out ?_
        clear hK K'
        try simp only [Act.put, List.setIfInBounds_toArray, List.set_cons_zero, List.set_cons_succ]
        refine re_free (fuel := 1) 11 rfl (by kernel_rfl) (listed' := #[true, true, true, true, true, true, true, true, true, true, true, true, false]) (by kernel_rfl) (by kernel_rfl) (fun K' hK => ?_)
        go_wp2_with (first | (go_at_call 20; refine (mbegin H7.out.swap BookA.firm HTK.out jj hj0 hj1 A3 b.length c3 b rfl (HCW.out _ H7.out.keep).1 HBY.out (by omega) r HLR.out).mono ?_; rintro e w8 ⟨rfl, h8⟩; rw [HLQ.out] at h8; have H8 := Aside0.mk (files_only h8.swap); clear h8))
        refine hK.out _ _ trivial ?_
        clear hK K'
        try simp only [Act.put, List.setIfInBounds_toArray, List.set_cons_zero, List.set_cons_succ]
        refine re_any (fuel := 0) 12 rfl (by kernel_rfl) (listed' := #[true, true, true, true, true, true, true, true, true, true, true, true, true]) (by kernel_rfl) (fun _ _ _ h => h) (by kernel_rfl) (fun w' => by skip; go_simp; first | done | with_reducible rfl) rfl ?_
        try simp only [Act.put, List.setIfInBounds_toArray, List.set_cons_zero, List.set_cons_succ]
        refine re_done (by kernel_rfl) ?_
        obtain ⟨-, -, -, x4⟩ := HX.out w8 H8.out.keep
        obtain ⟨nb, hnb⟩ : ∃ nb, bb.length = nb := ⟨_, rfl⟩
        have HNB := Aside0.mk hnb
        clear hnb hjj
        go_wp2_with (first
          | (go_at_call 21; refine (f_crash (w1 := w8) H8.out (Below.refl _ _) FileM.firm B3 keep.length d3 keep rfl (HCW.out _ H8.out.keep).2 (fun a ha h0 => by have h1 := HKB.out a ha h0; have h2 := H8.out.keep.size; exact ⟨.inr h1, by omega⟩) HKR.out bb HBB.out).mono ?_; rintro e w10 ⟨rfl, h10⟩; obtain ⟨-, -, -, x4⟩ := HX.out w10 h10.keep; have H10 := Aside0.mk h10; clear h10 H8)
          | (go_at_call 22; refine (m_crash (w1 := w10) H10.out.swap (Below.refl _ _) FileA.firm B3 keep.length d3 keep rfl (HCW.out _ H10.out.keep).2 HKR.out bb HBB.out).mono ?_; rintro e w11 ⟨rfl, h11⟩; have H11 := Aside0.mk h11; clear h11 H10)
          | (go_at_call 17; refine (open_at H11.out.swap FileM.firm bb nb rfl HNB.out (by have := H11.out.swap.fok.s0; rw [HNB.out] at this; omega)).mono ?_; rintro e w12 ⟨gB2, T2, nn, rfl, ho, hnn, h12⟩; have H12 := Aside0.mk h12; have HO := Aside0.mk ho; clear h12 ho H11)
          | (go_at_call 18; refine (mopen_at H12.out.swap BookA.firm bb nb rfl HNB.out (by have := H12.out.second.fok.s0; have h2 := (mok H12.out.swap).s0; rw [HNB.out] at h2; omega)).mono ?_; rintro e w9 ⟨gM2, T3, n3, rfl, ho3, -, h13⟩; obtain ⟨z1, z2⟩ := HO.out.same ho3; subst z1; subst z2; have H9 := Aside0.mk h13.swap; clear h13 ho3 H12))
        obtain ⟨s2, hs2⟩ : ∃ s2, bb.take nn = s2 := ⟨_, rfl⟩
        rw [hs2] at H9
        clear hs2 HX
        obtain ⟨n2, hn2⟩ : ∃ n2, s2.length = n2 := ⟨_, rfl⟩
        have hfm2 : Firm (Star (BookA gB2 gF room s2 [] T2) (BookM gM2 gMF room s2 [] T2)) := BookA.firm.star BookM.firm
        obtain ⟨A9, c9, hsf, -⟩ := m_safe H9.out.swap.second
        rw [hn2] at hsf
        have HN2 := Aside0.mk hn2
        have HF := Aside0.mk (show ∀ W, Keep (fun _ => False) w9.drew W → AtP W6 N2 W (Star (BookA gB2 gF room s2 [] T2) (BookM gM2 gMF room s2 [] T2)) from fun W hW => (H9.out.drew hfm2).below hfm2 (hW.below (Nat.le_refl _) (fun _ _ => id)))
        have HSF := Aside0.mk (show ∀ W, Keep (fun _ => False) w9.drew W → W.cell? ⟨gMF, 1, none⟩ = some (.slice A9 n2 c9) from fun W hW => (((Below.refl w9.heap.size w9).drew.trans (hW.below (Nat.le_refl _) (fun _ _ => id))).cell (World.block_lt_of_cell? w9 _ hsf)).trans hsf)
        have HKR0 := Aside0.mk (Keep.refl (fun _ => False) w9.drew)
        clear hn2 hsf
        refine rk_start (fun _ => False) (by kernel_rfl) (n := 23) (l := #[false, false, false, false, false, false, false, false, false, false, false, false, false, false, false, false, false, false, false, false, false, false, false]) (by kernel_rfl) (by kernel_rfl) ?_
        refine rk_take (fuel := 22) 0 rfl (by kernel_rfl) (listed' := #[true, false, false, false, false, false, false, false, false, false, false, false, false, false, false, false, false, false, false, false, false, false, false]) (by kernel_rfl) (fun _ _ _ h => h) (by kernel_rfl) (fun w' hR => by go_simp; first | done | with_reducible rfl) rfl ?_
        try simp only [Act.put, List.setIfInBounds_toArray, List.set_cons_zero, List.set_cons_succ]
        refine rk_take (fuel := 21) 1 rfl (by kernel_rfl) (listed' := #[true, true, false, false, false, false, false, false, false, false, false, false, false, false, false, false, false, false, false, false, false, false, false]) (by kernel_rfl) (fun _ _ _ h => h) (by kernel_rfl) (fun w' hR => by go_simp; first | done | with_reducible rfl) rfl ?_
        try simp only [Act.put, List.setIfInBounds_toArray, List.set_cons_zero, List.set_cons_succ]
        refine rk_step (fuel := 20) 2 rfl (by kernel_rfl) (listed' := #[true, true, true, false, false, false, false, false, false, false, false, false, false, false, false, false, false, false, false, false, false, false, false]) (by kernel_rfl) (by kernel_rfl) (fun K' hK => ?_)
        go_wp2_with (first | (go_at_call 25; refine (shows_true (tabs_first (HF.out _ HKR0.out)) (FileM.firm.star FileA.firm)).mono ?_; rintro e wa ⟨rfl, hba⟩; have HKA := Aside0.mk (Keep.of_below (S := fun _ => False) hba); clear hba))
        refine hK.out _ _ HKA.out ?_
        clear hK K'
        try simp only [Act.put, List.setIfInBounds_toArray, List.set_cons_zero, List.set_cons_succ]
        refine rk_take (fuel := 19) 3 rfl (by kernel_rfl) (listed' := #[true, true, true, true, false, false, false, false, false, false, false, false, false, false, false, false, false, false, false, false, false, false, false]) (by kernel_rfl) (fun _ _ _ h => h) (by kernel_rfl) (fun w' hR => by go_simp; first | done | with_reducible rfl) rfl ?_
        try simp only [Act.put, List.setIfInBounds_toArray, List.set_cons_zero, List.set_cons_succ]
        refine rk_take (fuel := 18) 4 rfl (by kernel_rfl) (listed' := #[true, true, true, true, true, false, false, false, false, false, false, false, false, false, false, false, false, false, false, false, false, false, false]) (by kernel_rfl) (fun _ _ _ h => h) (by kernel_rfl) (fun w' hR => by go_simp; first | done | with_reducible rfl) rfl ?_
        try simp only [Act.put, List.setIfInBounds_toArray, List.set_cons_zero, List.set_cons_succ]
        refine rk_take (fuel := 17) 5 rfl (by kernel_rfl) (listed' := #[true, true, true, true, true, true, false, false, false, false, false, false, false, false, false, false, false, false, false, false, false, false, false]) (by kernel_rfl) (fun _ _ _ h => h) (by kernel_rfl) (fun w' hR => by go_simp; first | done | with_reducible rfl) rfl ?_
        try simp only [Act.put, List.setIfInBounds_toArray, List.set_cons_zero, List.set_cons_succ]
        refine rk_take (fuel := 16) 8 rfl (by kernel_rfl) (listed' := #[true, true, true, true, true, true, false, false, true, false, false, false, false, false, false, false, false, false, false, false, false, false, false]) (by kernel_rfl) (fun _ _ _ h => h) (by kernel_rfl) (fun w' hR => by go_simp; first | done | with_reducible rfl) rfl ?_
        try simp only [Act.put, List.setIfInBounds_toArray, List.set_cons_zero, List.set_cons_succ]
        refine rk_step (fuel := 15) 6 rfl (by kernel_rfl) (listed' := #[true, true, true, true, true, true, true, false, true, false, false, false, false, false, false, false, false, false, false, false, false, false, false]) (by kernel_rfl) (by kernel_rfl) (fun K' hK => ?_)
        go_wp2_with (first | (go_at_call 26; refine (f_bytes (HF.out _ HKA.out).second s2 n2 rfl HN2.out).mono ?_; rintro e wb ⟨A7, c7, rfl, hC7, -, -, hbb⟩; have HC7 := Aside0.mk hC7; have HKB9 := Aside0.mk (Keep.of_below (S := fun _ => False) hbb); clear hC7 hbb))
        refine hK.out _ _ HKB9.out ?_
        clear hK K'
        try simp only [Act.put, List.setIfInBounds_toArray, List.set_cons_zero, List.set_cons_succ]
        refine rk_take (fuel := 14) 7 rfl (by kernel_rfl) (listed' := #[true, true, true, true, true, true, true, true, true, false, false, false, false, false, false, false, false, false, false, false, false, false, false]) (by kernel_rfl) (fun _ _ _ h => h) (by kernel_rfl) (fun w' hR => by have x0 := Gc.C_str (c := c7) (Kd.C_below HC7.out (hR.below (Nat.le_refl _) (fun _ _ h => h))); go_simp; first | done | with_reducible rfl) rfl ?_
        try simp only [Act.put, List.setIfInBounds_toArray, List.set_cons_zero, List.set_cons_succ]
        refine rk_step (fuel := 13) 9 rfl (by kernel_rfl) (listed' := #[true, true, true, true, true, true, true, true, true, true, false, false, false, false, false, false, false, false, false, false, false, false, false]) (by kernel_rfl) (by kernel_rfl) (fun K' hK => ?_)
        go_wp2_with (first | (go_at_call 27; refine (m_bytes (HF.out _ (HKA.out.trans HKB9.out)).swap.second s2 n2 rfl HN2.out).mono ?_; rintro e wc ⟨A8, c8, rfl, hC8, -, -, hbc⟩; have HC8 := Aside0.mk hC8; have HKC := Aside0.mk (Keep.of_below (S := fun _ => False) hbc); clear hC8 hbc))
        refine hK.out _ _ HKC.out ?_
        clear hK K'
        try simp only [Act.put, List.setIfInBounds_toArray, List.set_cons_zero, List.set_cons_succ]
        refine rk_take (fuel := 12) 10 rfl (by kernel_rfl) (listed' := #[true, true, true, true, true, true, true, true, true, true, true, false, false, false, false, false, false, false, false, false, false, false, false]) (by kernel_rfl) (fun _ _ _ h => h) (by kernel_rfl) (fun w' hR => by have x0 := Gc.C_str (c := c8) (Kd.C_below HC8.out (hR.below (Nat.le_refl _) (fun _ _ h => h))); go_simp; first | done | with_reducible rfl) rfl ?_
        try simp only [Act.put, List.setIfInBounds_toArray, List.set_cons_zero, List.set_cons_succ]
        refine rk_take (fuel := 11) 11 rfl (by kernel_rfl) (listed' := #[true, true, true, true, true, true, true, true, true, true, true, true, false, false, false, false, false, false, false, false, false, false, false]) (by kernel_rfl) (fun _ _ _ h => h) (by kernel_rfl) (fun w' hR => by go_simp; first | done | with_reducible rfl) rfl ?_
        try simp only [Act.put, List.setIfInBounds_toArray, List.set_cons_zero, List.set_cons_succ]
        refine rk_take (fuel := 10) 12 rfl (by kernel_rfl) (listed' := #[true, true, true, true, true, true, true, true, true, true, true, true, true, false, false, false, false, false, false, false, false, false, false]) (by kernel_rfl) (fun _ _ _ h => h) (by kernel_rfl) (fun w' hR => by go_simp; first | done | with_reducible rfl) rfl ?_
        try simp only [Act.put, List.setIfInBounds_toArray, List.set_cons_zero, List.set_cons_succ]
        refine rk_take (fuel := 9) 13 rfl (by kernel_rfl) (listed' := #[true, true, true, true, true, true, true, true, true, true, true, true, true, true, false, false, false, false, false, false, false, false, false]) (by kernel_rfl) (fun _ _ _ h => h) (by kernel_rfl) (fun w' hR => by go_simp; first | done | with_reducible rfl) rfl ?_
        try simp only [Act.put, List.setIfInBounds_toArray, List.set_cons_zero, List.set_cons_succ]
        refine rk_take (fuel := 8) 14 rfl (by kernel_rfl) (listed' := #[true, true, true, true, true, true, true, true, true, true, true, true, true, true, true, false, false, false, false, false, false, false, false]) (by kernel_rfl) (fun _ _ _ h => h) (by kernel_rfl) (fun w' hR => by go_simp; first | done | with_reducible rfl) rfl ?_
        try simp only [Act.put, List.setIfInBounds_toArray, List.set_cons_zero, List.set_cons_succ]
        refine rk_take (fuel := 7) 16 rfl (by kernel_rfl) (listed' := #[true, true, true, true, true, true, true, true, true, true, true, true, true, true, true, false, true, false, false, false, false, false, false]) (by kernel_rfl) (fun _ _ _ h => h) (by kernel_rfl) (fun w' hR => by go_simp; first | done | with_reducible rfl) rfl ?_
        try simp only [Act.put, List.setIfInBounds_toArray, List.set_cons_zero, List.set_cons_succ]
        refine rk_take (fuel := 6) 17 rfl (by kernel_rfl) (listed' := #[true, true, true, true, true, true, true, true, true, true, true, true, true, true, true, false, true, true, false, false, false, false, false]) (by kernel_rfl) (fun _ _ _ h => h) (by kernel_rfl) (fun w' hR => by go_simp; first | done | with_reducible rfl) rfl ?_
        try simp only [Act.put, List.setIfInBounds_toArray, List.set_cons_zero, List.set_cons_succ]
        refine rk_take (fuel := 5) 18 rfl (by kernel_rfl) (listed' := #[true, true, true, true, true, true, true, true, true, true, true, true, true, true, true, false, true, true, true, false, false, false, false]) (by kernel_rfl) (fun _ _ _ h => h) (by kernel_rfl) (fun w' hR => by go_simp; first | done | with_reducible rfl) rfl ?_
        try simp only [Act.put, List.setIfInBounds_toArray, List.set_cons_zero, List.set_cons_succ]
        refine rk_take (fuel := 4) 19 rfl (by kernel_rfl) (listed' := #[true, true, true, true, true, true, true, true, true, true, true, true, true, true, true, false, true, true, true, true, false, false, false]) (by kernel_rfl) (fun _ _ _ h => h) (by kernel_rfl) (fun w' hR => by have x0 := HSF.out w' ((HKA.out.trans HKB9.out).trans (HKC.out.trans hR)); go_simp; first | done | with_reducible rfl) rfl ?_
        try simp only [Act.put, List.setIfInBounds_toArray, List.set_cons_zero, List.set_cons_succ]
        refine rk_take (fuel := 3) 20 rfl (by kernel_rfl) (listed' := #[true, true, true, true, true, true, true, true, true, true, true, true, true, true, true, false, true, true, true, true, true, false, false]) (by kernel_rfl) (fun _ _ _ h => h) (by kernel_rfl) (fun w' hR => by go_simp; first | done | with_reducible rfl) rfl ?_
        try simp only [Act.put, List.setIfInBounds_toArray, List.set_cons_zero, List.set_cons_succ]
        refine rk_step (fuel := 2) 15 rfl (by kernel_rfl) (listed' := #[true, true, true, true, true, true, true, true, true, true, true, true, true, true, true, true, true, true, true, true, true, false, false]) (by kernel_rfl) (by kernel_rfl) (fun K' hK => ?_)
        go_wp2_with (first | (go_at_call 28; refine (f_sure (HF.out _ ((HKA.out.trans HKB9.out).trans HKC.out)).second).mono ?_; rintro e wd ⟨rfl, rfl⟩; (try rw [HN2.out])))
        refine hK.out _ _ (Keep.refl _ _) ?_
        clear hK K'
        try simp only [Act.put, List.setIfInBounds_toArray, List.set_cons_zero, List.set_cons_succ]
        refine rk_take (fuel := 1) 21 rfl (by kernel_rfl) (listed' := #[true, true, true, true, true, true, true, true, true, true, true, true, true, true, true, true, true, true, true, true, true, true, false]) (by kernel_rfl) (fun _ _ _ h => h) (by kernel_rfl) (fun w' hR => by go_simp; first | done | with_reducible rfl) rfl ?_
        try simp only [Act.put, List.setIfInBounds_toArray, List.set_cons_zero, List.set_cons_succ]
        refine rk_take (fuel := 0) 22 rfl (by kernel_rfl) (listed' := #[true, true, true, true, true, true, true, true, true, true, true, true, true, true, true, true, true, true, true, true, true, true, true]) (by kernel_rfl) (fun _ _ _ h => h) (by kernel_rfl) (fun w' hR => by go_simp; first | done | with_reducible rfl) rfl ?_
        try simp only [Act.put, List.setIfInBounds_toArray, List.set_cons_zero, List.set_cons_succ]
        refine rk_done (by kernel_rfl) ?_
        go_wp2
        have HEND := Aside0.mk (HBK.out _ _ (HF.out _ ((HKA.out.trans HKB9.out).trans HKC.out)))
        go_roundw
        case rel => exact ⟨k + 1, gB2, gM2, s2, T2, by omega, by omega, rfl, rfl, rfl, by go_num, HEND⟩
        case measure => simp [intOf]; omega
    | false =>
      rw [hfa] at hW6 r3 x3
      have HFA := Aside0.mk hfa
      clear hfa
      cases hra : raw
      all_goals
        rw [hra] at hW6 r2 hjj
        simp only [if_true, if_false, Bool.false_eq_true] at hjj
        by_cases h0 : r = 0
        · have HR0 := Aside0.mk h0
          clear h0
          go_wp2_with fail
          rw [← hW6]
          clear hW6 hra
          refine re_start [11] (N2) (by kernel_rfl) (n := 13) (l := #[false, false, false, false, false, false, false, false, false, false, false, false, false]) (by kernel_rfl) (by kernel_rfl) ?_
          refine re_take (fuel := 12) 0 rfl (by kernel_rfl) (listed' := #[true, false, false, false, false, false, false, false, false, false, false, false, false]) (by kernel_rfl) (fun _ _ _ h => h) (by kernel_rfl) (fun w' hR => by go_simp; first | done | with_reducible rfl) rfl ?_
          try simp only [Act.put, List.setIfInBounds_toArray, List.set_cons_zero, List.set_cons_succ]
          refine re_take (fuel := 11) 1 rfl (by kernel_rfl) (listed' := #[true, true, false, false, false, false, false, false, false, false, false, false, false]) (by kernel_rfl) (fun _ _ _ h => h) (by kernel_rfl) (fun w' hR => by go_simp; first | done | with_reducible rfl) rfl ?_
          try simp only [Act.put, List.setIfInBounds_toArray, List.set_cons_zero, List.set_cons_succ]
          refine re_take (fuel := 10) 2 rfl (by kernel_rfl) (listed' := #[true, true, true, false, false, false, false, false, false, false, false, false, false]) (by kernel_rfl) (fun _ _ _ h => h) (by kernel_rfl) (fun w' hR => by obtain ⟨x0, x1⟩ := HXD.out w' hR; go_simp; first | done | with_reducible rfl) rfl ?_
          try simp only [Act.put, List.setIfInBounds_toArray, List.set_cons_zero, List.set_cons_succ]
          refine re_take (fuel := 9) 3 rfl (by kernel_rfl) (listed' := #[true, true, true, true, false, false, false, false, false, false, false, false, false]) (by kernel_rfl) (fun _ _ _ h => h) (by kernel_rfl) (fun w' hR => by go_simp; first | done | with_reducible rfl) rfl ?_
          try simp only [Act.put, List.setIfInBounds_toArray, List.set_cons_zero, List.set_cons_succ]
          refine re_take (fuel := 8) 4 rfl (by kernel_rfl) (listed' := #[true, true, true, true, true, false, false, false, false, false, false, false, false]) (by kernel_rfl) (fun _ _ _ h => h) (by kernel_rfl) (fun w' hR => by obtain ⟨x0, x1⟩ := HXD.out w' hR; go_simp; first | done | with_reducible rfl) rfl ?_
          try simp only [Act.put, List.setIfInBounds_toArray, List.set_cons_zero, List.set_cons_succ]
          refine re_take (fuel := 7) 6 rfl (by kernel_rfl) (listed' := #[true, true, true, true, true, false, true, false, false, false, false, false, false]) (by kernel_rfl) (fun _ _ _ h => h) (by kernel_rfl) (fun w' hR => by go_simp; first | done | with_reducible rfl) rfl ?_
          try simp only [Act.put, List.setIfInBounds_toArray, List.set_cons_zero, List.set_cons_succ]
          refine re_take (fuel := 6) 7 rfl (by kernel_rfl) (listed' := #[true, true, true, true, true, false, true, true, false, false, false, false, false]) (by kernel_rfl) (fun _ _ _ h => h) (by kernel_rfl) (fun w' hR => by go_simp; first | done | with_reducible rfl) rfl ?_
          try simp only [Act.put, List.setIfInBounds_toArray, List.set_cons_zero, List.set_cons_succ]
          refine re_take (fuel := 5) 8 rfl (by kernel_rfl) (listed' := #[true, true, true, true, true, false, true, true, true, false, false, false, false]) (by kernel_rfl) (fun _ _ _ h => h) (by kernel_rfl) (fun w' hR => by obtain ⟨x0, x1⟩ := HXD.out w' hR; go_simp; first | done | with_reducible rfl) rfl ?_
          try simp only [Act.put, List.setIfInBounds_toArray, List.set_cons_zero, List.set_cons_succ]
          refine re_take (fuel := 4) 9 rfl (by kernel_rfl) (listed' := #[true, true, true, true, true, false, true, true, true, true, false, false, false]) (by kernel_rfl) (fun _ _ _ h => h) (by kernel_rfl) (fun w' hR => by go_simp; first | done | with_reducible rfl) rfl ?_
          try simp only [Act.put, List.setIfInBounds_toArray, List.set_cons_zero, List.set_cons_succ]
          refine re_take (fuel := 3) 10 rfl (by kernel_rfl) (listed' := #[true, true, true, true, true, false, true, true, true, true, true, false, false]) (by kernel_rfl) (fun _ _ _ h => h) (by kernel_rfl) (fun w' hR => by obtain ⟨x0, x1⟩ := HXD.out w' hR; go_simp; first | done | with_reducible rfl) rfl ?_
          try simp only [Act.put, List.setIfInBounds_toArray, List.set_cons_zero, List.set_cons_succ]
          refine re_step (fuel := 2) 5 rfl (by kernel_rfl) (listed' := #[true, true, true, true, true, true, true, true, true, true, true, false, false]) (by kernel_rfl) (by kernel_rfl) (fun K' hK => ?_)
          go_wp2_with (first | (go_at_call 23; refine (commit_yes (w1 := W6) H6.out (Below.refl _ _).drew BookM.firm jj hj0 hj1 A3 b.length c3 b rfl (Kd.C_drew (HCW.out _ (Keep.refl _ _)).1) (fun a ha h0 => by have h1 := HAB.out a ha h0; exact ⟨.inr h1, h1.2⟩) HBY.out (by omega) (by rw [HLR.out]; exact HR0.out) rfl rfl).mono ?_; rintro e w7 ⟨rfl, h7⟩; have H7 := Aside0.mk h7; have HK7 := Aside0.mk (show Keep N2 W6.drew w7 from ⟨h7.keep.os, h7.keep.tape, h7.keep.output, h7.keep.size, h7.keep.block⟩); clear h7))
          refine hK.out _ _ HK7.out ?_
          clear hK K'
          try simp only [Act.put, List.setIfInBounds_toArray, List.set_cons_zero, List.set_cons_succ]
          refine re_free (fuel := 1) 11 rfl (by kernel_rfl) (listed' := #[true, true, true, true, true, true, true, true, true, true, true, true, false]) (by kernel_rfl) (by kernel_rfl) (fun K' hK => ?_)
          go_wp2_with (first | (go_at_call 24; refine (mcommit_yes (w1 := w7) H7.out.swap (Below.refl _ _) BookA.firm HTK.out jj hj0 hj1 A3 b.length c3 b rfl (HCW.out _ H7.out.keep).1 (fun a ha h0 => by have h1 := HAB.out a ha h0; have h2 := H7.out.keep.size; exact ⟨.inr h1, by omega⟩) HBY.out (by omega) (by rw [HLR.out]; exact HR0.out) rfl rfl).mono ?_; rintro e w9 ⟨rfl, h9⟩; have H9 := Aside0.mk h9.swap; clear h9))
          refine hK.out _ _ trivial ?_
          clear hK K'
          try simp only [Act.put, List.setIfInBounds_toArray, List.set_cons_zero, List.set_cons_succ]
          refine re_any (fuel := 0) 12 rfl (by kernel_rfl) (listed' := #[true, true, true, true, true, true, true, true, true, true, true, true, true]) (by kernel_rfl) (fun _ _ _ h => h) (by kernel_rfl) (fun w' => by skip; go_simp; first | done | with_reducible rfl) rfl ?_
          try simp only [Act.put, List.setIfInBounds_toArray, List.set_cons_zero, List.set_cons_succ]
          refine re_done (by kernel_rfl) ?_
          go_wp2_with fail
          obtain ⟨s2, hs2⟩ : ∃ s2, s ++ recL jj b = s2 := ⟨_, rfl⟩
          obtain ⟨T2, hT2⟩ : ∃ T2, putT T jj b = T2 := ⟨_, rfl⟩
          obtain ⟨gB2, hgB2⟩ : ∃ gB2, gB2 = gB := ⟨_, rfl⟩
          obtain ⟨gM2, hgM2⟩ : ∃ gM2, gM2 = gM := ⟨_, rfl⟩
          rw [hs2, hT2, ← hgB2, ← hgM2] at H9
          rw [← hgB2, ← hgM2]
          clear hs2 hT2 hgB2 hgM2 HX
          obtain ⟨n2, hn2⟩ : ∃ n2, s2.length = n2 := ⟨_, rfl⟩
          have hfm2 : Firm (Star (BookA gB2 gF room s2 [] T2) (BookM gM2 gMF room s2 [] T2)) := BookA.firm.star BookM.firm
          obtain ⟨A9, c9, hsf, -⟩ := m_safe H9.out.swap.second
          rw [hn2] at hsf
          have HN2 := Aside0.mk hn2
          have HF := Aside0.mk (show ∀ W, Keep (fun _ => False) w9.drew W → AtP W6 N2 W (Star (BookA gB2 gF room s2 [] T2) (BookM gM2 gMF room s2 [] T2)) from fun W hW => (H9.out.drew hfm2).below hfm2 (hW.below (Nat.le_refl _) (fun _ _ => id)))
          have HSF := Aside0.mk (show ∀ W, Keep (fun _ => False) w9.drew W → W.cell? ⟨gMF, 1, none⟩ = some (.slice A9 n2 c9) from fun W hW => (((Below.refl w9.heap.size w9).drew.trans (hW.below (Nat.le_refl _) (fun _ _ => id))).cell (World.block_lt_of_cell? w9 _ hsf)).trans hsf)
          have HKR0 := Aside0.mk (Keep.refl (fun _ => False) w9.drew)
          clear hn2 hsf
          refine rk_start (fun _ => False) (by kernel_rfl) (n := 23) (l := #[false, false, false, false, false, false, false, false, false, false, false, false, false, false, false, false, false, false, false, false, false, false, false]) (by kernel_rfl) (by kernel_rfl) ?_
          refine rk_take (fuel := 22) 0 rfl (by kernel_rfl) (listed' := #[true, false, false, false, false, false, false, false, false, false, false, false, false, false, false, false, false, false, false, false, false, false, false]) (by kernel_rfl) (fun _ _ _ h => h) (by kernel_rfl) (fun w' hR => by go_simp; first | done | with_reducible rfl) rfl ?_
          try simp only [Act.put, List.setIfInBounds_toArray, List.set_cons_zero, List.set_cons_succ]
          refine rk_take (fuel := 21) 1 rfl (by kernel_rfl) (listed' := #[true, true, false, false, false, false, false, false, false, false, false, false, false, false, false, false, false, false, false, false, false, false, false]) (by kernel_rfl) (fun _ _ _ h => h) (by kernel_rfl) (fun w' hR => by go_simp; first | done | with_reducible rfl) rfl ?_
          try simp only [Act.put, List.setIfInBounds_toArray, List.set_cons_zero, List.set_cons_succ]
          refine rk_step (fuel := 20) 2 rfl (by kernel_rfl) (listed' := #[true, true, true, false, false, false, false, false, false, false, false, false, false, false, false, false, false, false, false, false, false, false, false]) (by kernel_rfl) (by kernel_rfl) (fun K' hK => ?_)
          go_wp2_with (first | (go_at_call 25; refine (shows_true (tabs_first (HF.out _ HKR0.out)) (FileM.firm.star FileA.firm)).mono ?_; rintro e wa ⟨rfl, hba⟩; have HKA := Aside0.mk (Keep.of_below (S := fun _ => False) hba); clear hba))
          refine hK.out _ _ HKA.out ?_
          clear hK K'
          try simp only [Act.put, List.setIfInBounds_toArray, List.set_cons_zero, List.set_cons_succ]
          refine rk_take (fuel := 19) 3 rfl (by kernel_rfl) (listed' := #[true, true, true, true, false, false, false, false, false, false, false, false, false, false, false, false, false, false, false, false, false, false, false]) (by kernel_rfl) (fun _ _ _ h => h) (by kernel_rfl) (fun w' hR => by go_simp; first | done | with_reducible rfl) rfl ?_
          try simp only [Act.put, List.setIfInBounds_toArray, List.set_cons_zero, List.set_cons_succ]
          refine rk_take (fuel := 18) 4 rfl (by kernel_rfl) (listed' := #[true, true, true, true, true, false, false, false, false, false, false, false, false, false, false, false, false, false, false, false, false, false, false]) (by kernel_rfl) (fun _ _ _ h => h) (by kernel_rfl) (fun w' hR => by go_simp; first | done | with_reducible rfl) rfl ?_
          try simp only [Act.put, List.setIfInBounds_toArray, List.set_cons_zero, List.set_cons_succ]
          refine rk_take (fuel := 17) 5 rfl (by kernel_rfl) (listed' := #[true, true, true, true, true, true, false, false, false, false, false, false, false, false, false, false, false, false, false, false, false, false, false]) (by kernel_rfl) (fun _ _ _ h => h) (by kernel_rfl) (fun w' hR => by go_simp; first | done | with_reducible rfl) rfl ?_
          try simp only [Act.put, List.setIfInBounds_toArray, List.set_cons_zero, List.set_cons_succ]
          refine rk_take (fuel := 16) 8 rfl (by kernel_rfl) (listed' := #[true, true, true, true, true, true, false, false, true, false, false, false, false, false, false, false, false, false, false, false, false, false, false]) (by kernel_rfl) (fun _ _ _ h => h) (by kernel_rfl) (fun w' hR => by go_simp; first | done | with_reducible rfl) rfl ?_
          try simp only [Act.put, List.setIfInBounds_toArray, List.set_cons_zero, List.set_cons_succ]
          refine rk_step (fuel := 15) 6 rfl (by kernel_rfl) (listed' := #[true, true, true, true, true, true, true, false, true, false, false, false, false, false, false, false, false, false, false, false, false, false, false]) (by kernel_rfl) (by kernel_rfl) (fun K' hK => ?_)
          go_wp2_with (first | (go_at_call 26; refine (f_bytes (HF.out _ HKA.out).second s2 n2 rfl HN2.out).mono ?_; rintro e wb ⟨A7, c7, rfl, hC7, -, -, hbb⟩; have HC7 := Aside0.mk hC7; have HKB9 := Aside0.mk (Keep.of_below (S := fun _ => False) hbb); clear hC7 hbb))
          refine hK.out _ _ HKB9.out ?_
          clear hK K'
          try simp only [Act.put, List.setIfInBounds_toArray, List.set_cons_zero, List.set_cons_succ]
          refine rk_take (fuel := 14) 7 rfl (by kernel_rfl) (listed' := #[true, true, true, true, true, true, true, true, true, false, false, false, false, false, false, false, false, false, false, false, false, false, false]) (by kernel_rfl) (fun _ _ _ h => h) (by kernel_rfl) (fun w' hR => by have x0 := Gc.C_str (c := c7) (Kd.C_below HC7.out (hR.below (Nat.le_refl _) (fun _ _ h => h))); go_simp; first | done | with_reducible rfl) rfl ?_
          try simp only [Act.put, List.setIfInBounds_toArray, List.set_cons_zero, List.set_cons_succ]
          refine rk_step (fuel := 13) 9 rfl (by kernel_rfl) (listed' := #[true, true, true, true, true, true, true, true, true, true, false, false, false, false, false, false, false, false, false, false, false, false, false]) (by kernel_rfl) (by kernel_rfl) (fun K' hK => ?_)
          go_wp2_with (first | (go_at_call 27; refine (m_bytes (HF.out _ (HKA.out.trans HKB9.out)).swap.second s2 n2 rfl HN2.out).mono ?_; rintro e wc ⟨A8, c8, rfl, hC8, -, -, hbc⟩; have HC8 := Aside0.mk hC8; have HKC := Aside0.mk (Keep.of_below (S := fun _ => False) hbc); clear hC8 hbc))
          refine hK.out _ _ HKC.out ?_
          clear hK K'
          try simp only [Act.put, List.setIfInBounds_toArray, List.set_cons_zero, List.set_cons_succ]
          refine rk_take (fuel := 12) 10 rfl (by kernel_rfl) (listed' := #[true, true, true, true, true, true, true, true, true, true, true, false, false, false, false, false, false, false, false, false, false, false, false]) (by kernel_rfl) (fun _ _ _ h => h) (by kernel_rfl) (fun w' hR => by have x0 := Gc.C_str (c := c8) (Kd.C_below HC8.out (hR.below (Nat.le_refl _) (fun _ _ h => h))); go_simp; first | done | with_reducible rfl) rfl ?_
          try simp only [Act.put, List.setIfInBounds_toArray, List.set_cons_zero, List.set_cons_succ]
          refine rk_take (fuel := 11) 11 rfl (by kernel_rfl) (listed' := #[true, true, true, true, true, true, true, true, true, true, true, true, false, false, false, false, false, false, false, false, false, false, false]) (by kernel_rfl) (fun _ _ _ h => h) (by kernel_rfl) (fun w' hR => by go_simp; first | done | with_reducible rfl) rfl ?_
          try simp only [Act.put, List.setIfInBounds_toArray, List.set_cons_zero, List.set_cons_succ]
          refine rk_take (fuel := 10) 12 rfl (by kernel_rfl) (listed' := #[true, true, true, true, true, true, true, true, true, true, true, true, true, false, false, false, false, false, false, false, false, false, false]) (by kernel_rfl) (fun _ _ _ h => h) (by kernel_rfl) (fun w' hR => by go_simp; first | done | with_reducible rfl) rfl ?_
          try simp only [Act.put, List.setIfInBounds_toArray, List.set_cons_zero, List.set_cons_succ]
          refine rk_take (fuel := 9) 13 rfl (by kernel_rfl) (listed' := #[true, true, true, true, true, true, true, true, true, true, true, true, true, true, false, false, false, false, false, false, false, false, false]) (by kernel_rfl) (fun _ _ _ h => h) (by kernel_rfl) (fun w' hR => by go_simp; first | done | with_reducible rfl) rfl ?_
          try simp only [Act.put, List.setIfInBounds_toArray, List.set_cons_zero, List.set_cons_succ]
          refine rk_take (fuel := 8) 14 rfl (by kernel_rfl) (listed' := #[true, true, true, true, true, true, true, true, true, true, true, true, true, true, true, false, false, false, false, false, false, false, false]) (by kernel_rfl) (fun _ _ _ h => h) (by kernel_rfl) (fun w' hR => by go_simp; first | done | with_reducible rfl) rfl ?_
          try simp only [Act.put, List.setIfInBounds_toArray, List.set_cons_zero, List.set_cons_succ]
          refine rk_take (fuel := 7) 16 rfl (by kernel_rfl) (listed' := #[true, true, true, true, true, true, true, true, true, true, true, true, true, true, true, false, true, false, false, false, false, false, false]) (by kernel_rfl) (fun _ _ _ h => h) (by kernel_rfl) (fun w' hR => by go_simp; first | done | with_reducible rfl) rfl ?_
          try simp only [Act.put, List.setIfInBounds_toArray, List.set_cons_zero, List.set_cons_succ]
          refine rk_take (fuel := 6) 17 rfl (by kernel_rfl) (listed' := #[true, true, true, true, true, true, true, true, true, true, true, true, true, true, true, false, true, true, false, false, false, false, false]) (by kernel_rfl) (fun _ _ _ h => h) (by kernel_rfl) (fun w' hR => by go_simp; first | done | with_reducible rfl) rfl ?_
          try simp only [Act.put, List.setIfInBounds_toArray, List.set_cons_zero, List.set_cons_succ]
          refine rk_take (fuel := 5) 18 rfl (by kernel_rfl) (listed' := #[true, true, true, true, true, true, true, true, true, true, true, true, true, true, true, false, true, true, true, false, false, false, false]) (by kernel_rfl) (fun _ _ _ h => h) (by kernel_rfl) (fun w' hR => by go_simp; first | done | with_reducible rfl) rfl ?_
          try simp only [Act.put, List.setIfInBounds_toArray, List.set_cons_zero, List.set_cons_succ]
          refine rk_take (fuel := 4) 19 rfl (by kernel_rfl) (listed' := #[true, true, true, true, true, true, true, true, true, true, true, true, true, true, true, false, true, true, true, true, false, false, false]) (by kernel_rfl) (fun _ _ _ h => h) (by kernel_rfl) (fun w' hR => by have x0 := HSF.out w' ((HKA.out.trans HKB9.out).trans (HKC.out.trans hR)); go_simp; first | done | with_reducible rfl) rfl ?_
          try simp only [Act.put, List.setIfInBounds_toArray, List.set_cons_zero, List.set_cons_succ]
          refine rk_take (fuel := 3) 20 rfl (by kernel_rfl) (listed' := #[true, true, true, true, true, true, true, true, true, true, true, true, true, true, true, false, true, true, true, true, true, false, false]) (by kernel_rfl) (fun _ _ _ h => h) (by kernel_rfl) (fun w' hR => by go_simp; first | done | with_reducible rfl) rfl ?_
          try simp only [Act.put, List.setIfInBounds_toArray, List.set_cons_zero, List.set_cons_succ]
          refine rk_step (fuel := 2) 15 rfl (by kernel_rfl) (listed' := #[true, true, true, true, true, true, true, true, true, true, true, true, true, true, true, true, true, true, true, true, true, false, false]) (by kernel_rfl) (by kernel_rfl) (fun K' hK => ?_)
          go_wp2_with (first | (go_at_call 28; refine (f_sure (HF.out _ ((HKA.out.trans HKB9.out).trans HKC.out)).second).mono ?_; rintro e wd ⟨rfl, rfl⟩; (try rw [HN2.out])))
          refine hK.out _ _ (Keep.refl _ _) ?_
          clear hK K'
          try simp only [Act.put, List.setIfInBounds_toArray, List.set_cons_zero, List.set_cons_succ]
          refine rk_take (fuel := 1) 21 rfl (by kernel_rfl) (listed' := #[true, true, true, true, true, true, true, true, true, true, true, true, true, true, true, true, true, true, true, true, true, true, false]) (by kernel_rfl) (fun _ _ _ h => h) (by kernel_rfl) (fun w' hR => by go_simp; first | done | with_reducible rfl) rfl ?_
          try simp only [Act.put, List.setIfInBounds_toArray, List.set_cons_zero, List.set_cons_succ]
          refine rk_take (fuel := 0) 22 rfl (by kernel_rfl) (listed' := #[true, true, true, true, true, true, true, true, true, true, true, true, true, true, true, true, true, true, true, true, true, true, true]) (by kernel_rfl) (fun _ _ _ h => h) (by kernel_rfl) (fun w' hR => by go_simp; first | done | with_reducible rfl) rfl ?_
          try simp only [Act.put, List.setIfInBounds_toArray, List.set_cons_zero, List.set_cons_succ]
          refine rk_done (by kernel_rfl) ?_
          go_wp2
          have HEND := Aside0.mk (HBK.out _ _ (HF.out _ ((HKA.out.trans HKB9.out).trans HKC.out)))
          go_roundw
          case rel => exact ⟨k + 1, gB2, gM2, s2, T2, by omega, by omega, rfl, rfl, rfl, by go_num, HEND⟩
          case measure => simp [intOf]; omega
        · have HR0 := Aside0.mk h0
          clear h0
          go_wp2_with fail
          rw [← hW6]
          clear hW6 hra
          refine re_start [11] (N2) (by kernel_rfl) (n := 13) (l := #[false, false, false, false, false, false, false, false, false, false, false, false, false]) (by kernel_rfl) (by kernel_rfl) ?_
          refine re_take (fuel := 12) 0 rfl (by kernel_rfl) (listed' := #[true, false, false, false, false, false, false, false, false, false, false, false, false]) (by kernel_rfl) (fun _ _ _ h => h) (by kernel_rfl) (fun w' hR => by go_simp; first | done | with_reducible rfl) rfl ?_
          try simp only [Act.put, List.setIfInBounds_toArray, List.set_cons_zero, List.set_cons_succ]
          refine re_take (fuel := 11) 1 rfl (by kernel_rfl) (listed' := #[true, true, false, false, false, false, false, false, false, false, false, false, false]) (by kernel_rfl) (fun _ _ _ h => h) (by kernel_rfl) (fun w' hR => by go_simp; first | done | with_reducible rfl) rfl ?_
          try simp only [Act.put, List.setIfInBounds_toArray, List.set_cons_zero, List.set_cons_succ]
          refine re_take (fuel := 10) 2 rfl (by kernel_rfl) (listed' := #[true, true, true, false, false, false, false, false, false, false, false, false, false]) (by kernel_rfl) (fun _ _ _ h => h) (by kernel_rfl) (fun w' hR => by obtain ⟨x0, x1⟩ := HXD.out w' hR; go_simp; first | done | with_reducible rfl) rfl ?_
          try simp only [Act.put, List.setIfInBounds_toArray, List.set_cons_zero, List.set_cons_succ]
          refine re_take (fuel := 9) 3 rfl (by kernel_rfl) (listed' := #[true, true, true, true, false, false, false, false, false, false, false, false, false]) (by kernel_rfl) (fun _ _ _ h => h) (by kernel_rfl) (fun w' hR => by go_simp; first | done | with_reducible rfl) rfl ?_
          try simp only [Act.put, List.setIfInBounds_toArray, List.set_cons_zero, List.set_cons_succ]
          refine re_take (fuel := 8) 4 rfl (by kernel_rfl) (listed' := #[true, true, true, true, true, false, false, false, false, false, false, false, false]) (by kernel_rfl) (fun _ _ _ h => h) (by kernel_rfl) (fun w' hR => by obtain ⟨x0, x1⟩ := HXD.out w' hR; go_simp; first | done | with_reducible rfl) rfl ?_
          try simp only [Act.put, List.setIfInBounds_toArray, List.set_cons_zero, List.set_cons_succ]
          refine re_take (fuel := 7) 6 rfl (by kernel_rfl) (listed' := #[true, true, true, true, true, false, true, false, false, false, false, false, false]) (by kernel_rfl) (fun _ _ _ h => h) (by kernel_rfl) (fun w' hR => by go_simp; first | done | with_reducible rfl) rfl ?_
          try simp only [Act.put, List.setIfInBounds_toArray, List.set_cons_zero, List.set_cons_succ]
          refine re_take (fuel := 6) 7 rfl (by kernel_rfl) (listed' := #[true, true, true, true, true, false, true, true, false, false, false, false, false]) (by kernel_rfl) (fun _ _ _ h => h) (by kernel_rfl) (fun w' hR => by go_simp; first | done | with_reducible rfl) rfl ?_
          try simp only [Act.put, List.setIfInBounds_toArray, List.set_cons_zero, List.set_cons_succ]
          refine re_take (fuel := 5) 8 rfl (by kernel_rfl) (listed' := #[true, true, true, true, true, false, true, true, true, false, false, false, false]) (by kernel_rfl) (fun _ _ _ h => h) (by kernel_rfl) (fun w' hR => by obtain ⟨x0, x1⟩ := HXD.out w' hR; go_simp; first | done | with_reducible rfl) rfl ?_
          try simp only [Act.put, List.setIfInBounds_toArray, List.set_cons_zero, List.set_cons_succ]
          refine re_take (fuel := 4) 9 rfl (by kernel_rfl) (listed' := #[true, true, true, true, true, false, true, true, true, true, false, false, false]) (by kernel_rfl) (fun _ _ _ h => h) (by kernel_rfl) (fun w' hR => by go_simp; first | done | with_reducible rfl) rfl ?_
          try simp only [Act.put, List.setIfInBounds_toArray, List.set_cons_zero, List.set_cons_succ]
          refine re_take (fuel := 3) 10 rfl (by kernel_rfl) (listed' := #[true, true, true, true, true, false, true, true, true, true, true, false, false]) (by kernel_rfl) (fun _ _ _ h => h) (by kernel_rfl) (fun w' hR => by obtain ⟨x0, x1⟩ := HXD.out w' hR; go_simp; first | done | with_reducible rfl) rfl ?_
          try simp only [Act.put, List.setIfInBounds_toArray, List.set_cons_zero, List.set_cons_succ]
          refine re_step (fuel := 2) 5 rfl (by kernel_rfl) (listed' := #[true, true, true, true, true, true, true, true, true, true, true, false, false]) (by kernel_rfl) (by kernel_rfl) (fun K' hK => ?_)
          go_wp2_with (first | (go_at_call 23; refine (commit_no (w1 := W6) H6.out (Below.refl _ _).drew BookM.firm jj hj0 hj1 A3 b.length c3 b rfl (Kd.C_drew (HCW.out _ (Keep.refl _ _)).1) HBY.out (by omega) r HLR.out HR0.out).mono ?_; rintro e w7 ⟨rfl, h7⟩; have H7 := Aside0.mk h7; have HK7 := Aside0.mk (show Keep N2 W6.drew w7 from ⟨h7.keep.os, h7.keep.tape, h7.keep.output, h7.keep.size, h7.keep.block⟩); clear h7))
          refine hK.out _ _ HK7.out ?_
          clear hK K'
          try simp only [Act.put, List.setIfInBounds_toArray, List.set_cons_zero, List.set_cons_succ]
          refine re_free (fuel := 1) 11 rfl (by kernel_rfl) (listed' := #[true, true, true, true, true, true, true, true, true, true, true, true, false]) (by kernel_rfl) (by kernel_rfl) (fun K' hK => ?_)
          go_wp2_with (first | (go_at_call 24; refine (mcommit_no H7.out.swap BookA.firm HTK.out jj hj0 hj1 A3 b.length c3 b rfl (HCW.out _ H7.out.keep).1 HBY.out (by omega) r HLR.out HR0.out).mono ?_; rintro e w9 ⟨rfl, h9⟩; have H9 := Aside0.mk h9.swap; clear h9))
          refine hK.out _ _ trivial ?_
          clear hK K'
          try simp only [Act.put, List.setIfInBounds_toArray, List.set_cons_zero, List.set_cons_succ]
          refine re_any (fuel := 0) 12 rfl (by kernel_rfl) (listed' := #[true, true, true, true, true, true, true, true, true, true, true, true, true]) (by kernel_rfl) (fun _ _ _ h => h) (by kernel_rfl) (fun w' => by skip; go_simp; first | done | with_reducible rfl) rfl ?_
          try simp only [Act.put, List.setIfInBounds_toArray, List.set_cons_zero, List.set_cons_succ]
          refine re_done (by kernel_rfl) ?_
          go_wp2_with fail
          obtain ⟨s2, hs2⟩ : ∃ s2, s = s2 := ⟨_, rfl⟩
          obtain ⟨T2, hT2⟩ : ∃ T2, T = T2 := ⟨_, rfl⟩
          obtain ⟨gB2, hgB2⟩ : ∃ gB2, gB2 = gB := ⟨_, rfl⟩
          obtain ⟨gM2, hgM2⟩ : ∃ gM2, gM2 = gM := ⟨_, rfl⟩
          rw [hs2, hT2, ← hgB2, ← hgM2] at H9
          rw [← hgB2, ← hgM2]
          clear hs2 hT2 hgB2 hgM2 HX
          obtain ⟨n2, hn2⟩ : ∃ n2, s2.length = n2 := ⟨_, rfl⟩
          have hfm2 : Firm (Star (BookA gB2 gF room s2 [] T2) (BookM gM2 gMF room s2 [] T2)) := BookA.firm.star BookM.firm
          obtain ⟨A9, c9, hsf, -⟩ := m_safe H9.out.swap.second
          rw [hn2] at hsf
          have HN2 := Aside0.mk hn2
          have HF := Aside0.mk (show ∀ W, Keep (fun _ => False) w9.drew W → AtP W6 N2 W (Star (BookA gB2 gF room s2 [] T2) (BookM gM2 gMF room s2 [] T2)) from fun W hW => (H9.out.drew hfm2).below hfm2 (hW.below (Nat.le_refl _) (fun _ _ => id)))
          have HSF := Aside0.mk (show ∀ W, Keep (fun _ => False) w9.drew W → W.cell? ⟨gMF, 1, none⟩ = some (.slice A9 n2 c9) from fun W hW => (((Below.refl w9.heap.size w9).drew.trans (hW.below (Nat.le_refl _) (fun _ _ => id))).cell (World.block_lt_of_cell? w9 _ hsf)).trans hsf)
          have HKR0 := Aside0.mk (Keep.refl (fun _ => False) w9.drew)
          clear hn2 hsf
          refine rk_start (fun _ => False) (by kernel_rfl) (n := 23) (l := #[false, false, false, false, false, false, false, false, false, false, false, false, false, false, false, false, false, false, false, false, false, false, false]) (by kernel_rfl) (by kernel_rfl) ?_
          refine rk_take (fuel := 22) 0 rfl (by kernel_rfl) (listed' := #[true, false, false, false, false, false, false, false, false, false, false, false, false, false, false, false, false, false, false, false, false, false, false]) (by kernel_rfl) (fun _ _ _ h => h) (by kernel_rfl) (fun w' hR => by go_simp; first | done | with_reducible rfl) rfl ?_
          try simp only [Act.put, List.setIfInBounds_toArray, List.set_cons_zero, List.set_cons_succ]
          refine rk_take (fuel := 21) 1 rfl (by kernel_rfl) (listed' := #[true, true, false, false, false, false, false, false, false, false, false, false, false, false, false, false, false, false, false, false, false, false, false]) (by kernel_rfl) (fun _ _ _ h => h) (by kernel_rfl) (fun w' hR => by go_simp; first | done | with_reducible rfl) rfl ?_
          try simp only [Act.put, List.setIfInBounds_toArray, List.set_cons_zero, List.set_cons_succ]
          refine rk_step (fuel := 20) 2 rfl (by kernel_rfl) (listed' := #[true, true, true, false, false, false, false, false, false, false, false, false, false, false, false, false, false, false, false, false, false, false, false]) (by kernel_rfl) (by kernel_rfl) (fun K' hK => ?_)
          go_wp2_with (first | (go_at_call 25; refine (shows_true (tabs_first (HF.out _ HKR0.out)) (FileM.firm.star FileA.firm)).mono ?_; rintro e wa ⟨rfl, hba⟩; have HKA := Aside0.mk (Keep.of_below (S := fun _ => False) hba); clear hba))
          refine hK.out _ _ HKA.out ?_
          clear hK K'
          try simp only [Act.put, List.setIfInBounds_toArray, List.set_cons_zero, List.set_cons_succ]
          refine rk_take (fuel := 19) 3 rfl (by kernel_rfl) (listed' := #[true, true, true, true, false, false, false, false, false, false, false, false, false, false, false, false, false, false, false, false, false, false, false]) (by kernel_rfl) (fun _ _ _ h => h) (by kernel_rfl) (fun w' hR => by go_simp; first | done | with_reducible rfl) rfl ?_
          try simp only [Act.put, List.setIfInBounds_toArray, List.set_cons_zero, List.set_cons_succ]
          refine rk_take (fuel := 18) 4 rfl (by kernel_rfl) (listed' := #[true, true, true, true, true, false, false, false, false, false, false, false, false, false, false, false, false, false, false, false, false, false, false]) (by kernel_rfl) (fun _ _ _ h => h) (by kernel_rfl) (fun w' hR => by go_simp; first | done | with_reducible rfl) rfl ?_
          try simp only [Act.put, List.setIfInBounds_toArray, List.set_cons_zero, List.set_cons_succ]
          refine rk_take (fuel := 17) 5 rfl (by kernel_rfl) (listed' := #[true, true, true, true, true, true, false, false, false, false, false, false, false, false, false, false, false, false, false, false, false, false, false]) (by kernel_rfl) (fun _ _ _ h => h) (by kernel_rfl) (fun w' hR => by go_simp; first | done | with_reducible rfl) rfl ?_
          try simp only [Act.put, List.setIfInBounds_toArray, List.set_cons_zero, List.set_cons_succ]
          refine rk_take (fuel := 16) 8 rfl (by kernel_rfl) (listed' := #[true, true, true, true, true, true, false, false, true, false, false, false, false, false, false, false, false, false, false, false, false, false, false]) (by kernel_rfl) (fun _ _ _ h => h) (by kernel_rfl) (fun w' hR => by go_simp; first | done | with_reducible rfl) rfl ?_
          try simp only [Act.put, List.setIfInBounds_toArray, List.set_cons_zero, List.set_cons_succ]
          refine rk_step (fuel := 15) 6 rfl (by kernel_rfl) (listed' := #[true, true, true, true, true, true, true, false, true, false, false, false, false, false, false, false, false, false, false, false, false, false, false]) (by kernel_rfl) (by kernel_rfl) (fun K' hK => ?_)
          go_wp2_with (first | (go_at_call 26; refine (f_bytes (HF.out _ HKA.out).second s2 n2 rfl HN2.out).mono ?_; rintro e wb ⟨A7, c7, rfl, hC7, -, -, hbb⟩; have HC7 := Aside0.mk hC7; have HKB9 := Aside0.mk (Keep.of_below (S := fun _ => False) hbb); clear hC7 hbb))
          refine hK.out _ _ HKB9.out ?_
          clear hK K'
          try simp only [Act.put, List.setIfInBounds_toArray, List.set_cons_zero, List.set_cons_succ]
          refine rk_take (fuel := 14) 7 rfl (by kernel_rfl) (listed' := #[true, true, true, true, true, true, true, true, true, false, false, false, false, false, false, false, false, false, false, false, false, false, false]) (by kernel_rfl) (fun _ _ _ h => h) (by kernel_rfl) (fun w' hR => by have x0 := Gc.C_str (c := c7) (Kd.C_below HC7.out (hR.below (Nat.le_refl _) (fun _ _ h => h))); go_simp; first | done | with_reducible rfl) rfl ?_
          try simp only [Act.put, List.setIfInBounds_toArray, List.set_cons_zero, List.set_cons_succ]
          refine rk_step (fuel := 13) 9 rfl (by kernel_rfl) (listed' := #[true, true, true, true, true, true, true, true, true, true, false, false, false, false, false, false, false, false, false, false, false, false, false]) (by kernel_rfl) (by kernel_rfl) (fun K' hK => ?_)
          go_wp2_with (first | (go_at_call 27; refine (m_bytes (HF.out _ (HKA.out.trans HKB9.out)).swap.second s2 n2 rfl HN2.out).mono ?_; rintro e wc ⟨A8, c8, rfl, hC8, -, -, hbc⟩; have HC8 := Aside0.mk hC8; have HKC := Aside0.mk (Keep.of_below (S := fun _ => False) hbc); clear hC8 hbc))
          refine hK.out _ _ HKC.out ?_
          clear hK K'
          try simp only [Act.put, List.setIfInBounds_toArray, List.set_cons_zero, List.set_cons_succ]
          refine rk_take (fuel := 12) 10 rfl (by kernel_rfl) (listed' := #[true, true, true, true, true, true, true, true, true, true, true, false, false, false, false, false, false, false, false, false, false, false, false]) (by kernel_rfl) (fun _ _ _ h => h) (by kernel_rfl) (fun w' hR => by have x0 := Gc.C_str (c := c8) (Kd.C_below HC8.out (hR.below (Nat.le_refl _) (fun _ _ h => h))); go_simp; first | done | with_reducible rfl) rfl ?_
          try simp only [Act.put, List.setIfInBounds_toArray, List.set_cons_zero, List.set_cons_succ]
          refine rk_take (fuel := 11) 11 rfl (by kernel_rfl) (listed' := #[true, true, true, true, true, true, true, true, true, true, true, true, false, false, false, false, false, false, false, false, false, false, false]) (by kernel_rfl) (fun _ _ _ h => h) (by kernel_rfl) (fun w' hR => by go_simp; first | done | with_reducible rfl) rfl ?_
          try simp only [Act.put, List.setIfInBounds_toArray, List.set_cons_zero, List.set_cons_succ]
          refine rk_take (fuel := 10) 12 rfl (by kernel_rfl) (listed' := #[true, true, true, true, true, true, true, true, true, true, true, true, true, false, false, false, false, false, false, false, false, false, false]) (by kernel_rfl) (fun _ _ _ h => h) (by kernel_rfl) (fun w' hR => by go_simp; first | done | with_reducible rfl) rfl ?_
          try simp only [Act.put, List.setIfInBounds_toArray, List.set_cons_zero, List.set_cons_succ]
          refine rk_take (fuel := 9) 13 rfl (by kernel_rfl) (listed' := #[true, true, true, true, true, true, true, true, true, true, true, true, true, true, false, false, false, false, false, false, false, false, false]) (by kernel_rfl) (fun _ _ _ h => h) (by kernel_rfl) (fun w' hR => by go_simp; first | done | with_reducible rfl) rfl ?_
          try simp only [Act.put, List.setIfInBounds_toArray, List.set_cons_zero, List.set_cons_succ]
          refine rk_take (fuel := 8) 14 rfl (by kernel_rfl) (listed' := #[true, true, true, true, true, true, true, true, true, true, true, true, true, true, true, false, false, false, false, false, false, false, false]) (by kernel_rfl) (fun _ _ _ h => h) (by kernel_rfl) (fun w' hR => by go_simp; first | done | with_reducible rfl) rfl ?_
          try simp only [Act.put, List.setIfInBounds_toArray, List.set_cons_zero, List.set_cons_succ]
          refine rk_take (fuel := 7) 16 rfl (by kernel_rfl) (listed' := #[true, true, true, true, true, true, true, true, true, true, true, true, true, true, true, false, true, false, false, false, false, false, false]) (by kernel_rfl) (fun _ _ _ h => h) (by kernel_rfl) (fun w' hR => by go_simp; first | done | with_reducible rfl) rfl ?_
          try simp only [Act.put, List.setIfInBounds_toArray, List.set_cons_zero, List.set_cons_succ]
          refine rk_take (fuel := 6) 17 rfl (by kernel_rfl) (listed' := #[true, true, true, true, true, true, true, true, true, true, true, true, true, true, true, false, true, true, false, false, false, false, false]) (by kernel_rfl) (fun _ _ _ h => h) (by kernel_rfl) (fun w' hR => by go_simp; first | done | with_reducible rfl) rfl ?_
          try simp only [Act.put, List.setIfInBounds_toArray, List.set_cons_zero, List.set_cons_succ]
          refine rk_take (fuel := 5) 18 rfl (by kernel_rfl) (listed' := #[true, true, true, true, true, true, true, true, true, true, true, true, true, true, true, false, true, true, true, false, false, false, false]) (by kernel_rfl) (fun _ _ _ h => h) (by kernel_rfl) (fun w' hR => by go_simp; first | done | with_reducible rfl) rfl ?_
          try simp only [Act.put, List.setIfInBounds_toArray, List.set_cons_zero, List.set_cons_succ]
          refine rk_take (fuel := 4) 19 rfl (by kernel_rfl) (listed' := #[true, true, true, true, true, true, true, true, true, true, true, true, true, true, true, false, true, true, true, true, false, false, false]) (by kernel_rfl) (fun _ _ _ h => h) (by kernel_rfl) (fun w' hR => by have x0 := HSF.out w' ((HKA.out.trans HKB9.out).trans (HKC.out.trans hR)); go_simp; first | done | with_reducible rfl) rfl ?_
          try simp only [Act.put, List.setIfInBounds_toArray, List.set_cons_zero, List.set_cons_succ]
          refine rk_take (fuel := 3) 20 rfl (by kernel_rfl) (listed' := #[true, true, true, true, true, true, true, true, true, true, true, true, true, true, true, false, true, true, true, true, true, false, false]) (by kernel_rfl) (fun _ _ _ h => h) (by kernel_rfl) (fun w' hR => by go_simp; first | done | with_reducible rfl) rfl ?_
          try simp only [Act.put, List.setIfInBounds_toArray, List.set_cons_zero, List.set_cons_succ]
          refine rk_step (fuel := 2) 15 rfl (by kernel_rfl) (listed' := #[true, true, true, true, true, true, true, true, true, true, true, true, true, true, true, true, true, true, true, true, true, false, false]) (by kernel_rfl) (by kernel_rfl) (fun K' hK => ?_)
          go_wp2_with (first | (go_at_call 28; refine (f_sure (HF.out _ ((HKA.out.trans HKB9.out).trans HKC.out)).second).mono ?_; rintro e wd ⟨rfl, rfl⟩; (try rw [HN2.out])))
          refine hK.out _ _ (Keep.refl _ _) ?_
          clear hK K'
          try simp only [Act.put, List.setIfInBounds_toArray, List.set_cons_zero, List.set_cons_succ]
          refine rk_take (fuel := 1) 21 rfl (by kernel_rfl) (listed' := #[true, true, true, true, true, true, true, true, true, true, true, true, true, true, true, true, true, true, true, true, true, true, false]) (by kernel_rfl) (fun _ _ _ h => h) (by kernel_rfl) (fun w' hR => by go_simp; first | done | with_reducible rfl) rfl ?_
          try simp only [Act.put, List.setIfInBounds_toArray, List.set_cons_zero, List.set_cons_succ]
          refine rk_take (fuel := 0) 22 rfl (by kernel_rfl) (listed' := #[true, true, true, true, true, true, true, true, true, true, true, true, true, true, true, true, true, true, true, true, true, true, true]) (by kernel_rfl) (fun _ _ _ h => h) (by kernel_rfl) (fun w' hR => by go_simp; first | done | with_reducible rfl) rfl ?_
          try simp only [Act.put, List.setIfInBounds_toArray, List.set_cons_zero, List.set_cons_succ]
          refine rk_done (by kernel_rfl) ?_
          go_wp2
          have HEND := Aside0.mk (HBK.out _ _ (HF.out _ ((HKA.out.trans HKB9.out).trans HKC.out)))
          go_roundw
          case rel => exact ⟨k + 1, gB2, gM2, s2, T2, by omega, by omega, rfl, rfl, rfl, by go_num, HEND⟩
          case measure => simp [intOf]; omega
theorem own : ownKnob Try.prog.godebug = none := by kernel_rfl
theorem laidOut : laidOutB Try.prog = true := by kernel_rfl
def IsRow (k : IntKind) (w : World) (a : Option Addr) (len cap : Nat) (zs : List Int) : Prop :=
  (a = none ∧ len = 0 ∧ cap = 0 ∧ zs = []) ∨
  ∃ x, a = some x ∧ len ≤ cap ∧ cap ≤ maxLen ∧ zs.length = cap ∧ (∀ i, i < zs.length → w.cell? (x.add i) = some (.int k (zs.getD i 0))) ∧ ∀ n ∈ zs, (Lit.int k n).wf = true
set_option maxRecDepth 100000 in
theorem lifted (os : Os) (started : os.Started) (H : Type) (enc : TypeId × Value → H) :
    ReturnsInHanded {} Try.checked os 4 .any (Rows.bookPlaysSpec.pre6 enc Try.prog Try.f4 Rows.bookPlaysRow.domain false) (Rows.bookPlaysSpec.post enc Try.prog Try.f4 false true false false) := by
  refine returnsInHanded_of_change_sized (C := Try.checked) own started (by kernel_rfl) Try.func4
    (ChangeSpec.witness6 (enc := enc) (C := Try.checked) false ⟨#[], #[.int .u16 0, .slice none 0 0], []⟩ 8 (by kernel_rfl) (by kernel_rfl) (by kernel_rfl) (by kernel_rfl)) ?_
  intro W base args ds gs before hval0 hW hcnd hsz0 _
  have hsz : (DataW.weightsEach Try.prog (Try.f4.params.toList ++ Rows.bookPlaysSpec.plain.varTypes Try.prog) (ds ++ gs)).all (· ≤ reachBytes) = true := hsz0
  have hval : ∀ (j : Nat) t v, Try.f4.params[j]? = some t → args[j]? = some v → Value.okWide Try.prog W .any base t v := hval0
  have hW' := hW
  obtain ⟨p, q, hA0, hV, rfl, hfz, hnd⟩ := hW
  have hA : DataW.TrodAll enc Try.prog W 0 (fun _ => true) true Try.f4.params.toList args.toList ds p := hA0
  rw [Try.params4] at hA hval hsz
  obtain ⟨v0, vs0, d0, ds0, p0, q0, hargs, rfl, rfl, h0, r0⟩ := trodAll_cons hA
  obtain ⟨v1, vs1, d1, ds1, p1, q1, rfl, rfl, rfl, h1, r1⟩ := trodAll_cons r0
  obtain ⟨rfl, rfl, rfl⟩ := trodAll_nil r1
  obtain rfl : args = #[v0, v1] := by cases args; simp_all
  obtain ⟨rfl, rfl⟩ := trodVars_none hV
  obtain ⟨a0, rfl, rfl, rfl, w0⟩ := open_int Try.underlying34 (hval 0 34 v0 rfl rfl) h0
  obtain ⟨a1, len1, cap1, rfl⟩ := okWide_slice Try.underlying35 (hval 1 35 v1 rfl rfl)
  have k1 := h1
  have alt1 := okWide_alt Try.underlying35 (hval 1 35 _ rfl rfl)
  have lt1 : ∀ x ∈ p1, x.block < W.heap.size := by obtain ⟨m, hm⟩ := k1; exact DataW.trod_lt m _ _ _ hm
  obtain ⟨l1, rfl, hcap1, hC1, hok1⟩ := opens_arg opens_acts h1
  clear hA0 hval0 hsz0 hsz
  refine (walk W a0 w0 _ _ l1 hC1 hcap1 hok1 alt1).mono fun e W' ⟨he, bel⟩ => ?_
  subst he
  exact ⟨_, rfl, _, _, _, [], _, [], hW', trodAll_mk1 (shut_bool Try.underlying4 _), (trodAll_cons_mk (shut_int Try.underlying34 w0) (trodAll_cons_mk (Below.trod laidOut (by kernel_rfl) (of_decide_eq_true (by kernel_rfl)) k1 bel lt1) trodAll_mk0)), rfl, bel.frame _, fun h => by cases h⟩
theorem over : Rows.bookPlaysRow.holds Try.pinned (OpenSpec.ofChange Rows.bookPlaysSpec) :=
  OpenClaim.holds_of_wide 4 Try.f4 rfl rfl rfl rfl rfl rfl rfl ⟨rfl, rfl, rfl, rfl, rfl⟩ rfl rfl rfl rfl rfl (by kernel_rfl) Try.func4 (by kernel_rfl)
    (of_decide_eq_true (by kernel_rfl)) (by unfold Func.isWrapper; first | (rw [if_pos (by decide +kernel)]; kernel_rfl) | (rw [if_neg (by decide +kernel)]; exact ⟨rfl, rfl⟩))
    (fun os started H enc _ => lifted os started H enc)
end Go.Proofs.Ytfcpnjoiloahcaa.BookPlays
namespace Go.Proofs.Ytfcpnjoiloahcaa
/-- The statement. -/
theorem bookPlays_holds : Rows.BookPlaysSaid := BookPlays.over
#print axioms bookPlays_holds
end Go.Proofs.Ytfcpnjoiloahcaa
