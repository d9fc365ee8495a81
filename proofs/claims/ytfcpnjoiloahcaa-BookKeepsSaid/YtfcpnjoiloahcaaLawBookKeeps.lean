/- BookKeeps: behind a fall all that was committed is there, and at most the one that was begun; opened twice it is the same. No condition. -/
import Derived.Test.YtfcpnjoiloahcaaM3
import Derived.Test.YtfcpnjoiloahcaaRows
import Derived.ProofKit
import Derived.OpenShut
import Derived.ShutString
import Derived.ChangeOld
import Derived.SizedLaws
import Derived.Test.YtfcpnjoiloahcaaWSized
namespace Go.Proofs.Ytfcpnjoiloahcaa.BookKeeps
open Go.ChangeShapes Go.WideShapes Go.ChangeAt Go.RowKit Go.Proofs.YtfcpnjoiloahcaaW.PrintWords Go.Proofs.YtfcpnjoiloahcaaW.PrintLast Go.Proofs.YtfcpnjoiloahcaaW.PrintMore Go.Proofs.Ytfcpnjoiloahcaa.B Go.Proofs.Ytfcpnjoiloahcaa.O Go.Proofs.Ytfcpnjoiloahcaa.Bk Go.Proofs.Ytfcpnjoiloahcaa.Ta Go.Proofs.Ytfcpnjoiloahcaa.Fs Go.Proofs.Ytfcpnjoiloahcaa.Sp Go.Proofs.Ytfcpnjoiloahcaa.Ls Go.Proofs.Ytfcpnjoiloahcaa.Gs Go.Proofs.Ytfcpnjoiloahcaa.Go1 Go.Proofs.Ytfcpnjoiloahcaa.S Go.Proofs.Ytfcpnjoiloahcaa.R
set_option linter.unusedVariables false
set_option linter.unusedSimpArgs false
theorem infoRow : (Try.prog.info? 24).map (fun i => (i.zero, i.size, i.bytes)) = some (some (.slice none 0 0), 1, 24) := by kernel_rfl
set_option maxHeartbeats 8000000 in
set_option maxRecDepth 100000 in
theorem walk (w : World) (A : Option Addr) (c : Nat) (m : List (List Int)) (hC : kL.C w A m.length m) (hcap : m.length ≤ c) (hok : (∀ v ∈ m, By v) ∧ m.length ≤ 9223372036854775807) (hAlt : ∀ a, A = some a → a.block < w.heap.size)
    (A1 : Option Addr) (c1 : Nat) (la : List Int) (hC1 : kU8.C w A1 la.length la) (hc1 : la.length ≤ c1) (hm1 : la.length * 1 ≤ 140737488351232) (hwf1 : ∀ x ∈ la, (Lit.int .u8 x).wf = true)
    (kp : Int) (hkp : (Lit.int .i64 kp).wf = true) :
    Calls Try.prog 6 #[.slice A m.length c, .slice A1 la.length c1, .int .i64 kp] w fun e w' => e = .returned (.bool true) ∧ Below w.heap.size w w' := by
  have HYL := Aside0.mk (show By la from fun x hx => wf_u8 (hwf1 x hx))
  have HKP := Aside0.mk (wf_i64 hkp)
  have HC := Aside0.mk hC
  have HC1 := Aside0.mk hC1
  have HOK := Aside0.mk hok.1
  have hml := hok.2
  obtain ⟨n, hn⟩ : ∃ n : Nat, min m.length 15 = n := ⟨_, rfl⟩
  have hn15 : n ≤ 15 := by omega
  have hnm : n ≤ m.length := by omega
  have hmin : (if (15 : Int) < (m.length : Int) then (15 : Int) else (m.length : Int)) = (n : Int) := by split <;> omega
  obtain ⟨iR, hiR, -, hisR, -⟩ := info_ex infoRow
  have hcut := cut_to (P := Try.prog) 61 24 .i64 Try.underlying61 hiR A m.length c (n : Int) (by omega) (by omega) hcap
  rw [Int.toNat_natCast] at hcut
  clear hwf1 hC hC1 hok hAlt hkp hn hiR hisR
  go_enter Try.func6, Try.ntmps6
  go_wp2_with (first
    | (go_at_call 15; refine (awake_calls _).mono ?_; rintro e w0 ⟨rfl, hb0⟩; have HB0 := Aside0.mk hb0; clear hb0)
    | (go_at_call 16; refine (f_new w 1048576 _ HB0.out (by decide) (by decide)).mono ?_; rintro e w1 ⟨g, rfl, h1, -⟩; have H1 := Aside0.mk h1.empty; clear h1)
    | (go_at_call 17; refine (Calls.mono (open_at (w := w1) H1.out Firm.emp [] 0 rfl rfl (by decide)) ?_); rintro e w2 ⟨gB, T, n, rfl, ho, hn, h2⟩; obtain ⟨rfl, rfl⟩ := ho.same opened_nil; have H2 := Aside0.mk h2; clear h2 H1 ho hn))
  have HN0 := Aside0.mk (show NewH [] (ofRow 0 (m.take 0)) from trivial)
  have HL0 := Aside0.mk (show (recs (ofRow 0 (m.take 0))).length ≤ 520 * 0 from Nat.le_refl _)
  have H3 := Aside0.mk (show AtP w (fun _ => False) w2 (Star (BookA gB g 1048576 (recs (ofRow 0 (m.take 0))) [] (tabH [] (ofRow 0 (m.take 0)))) Emp) from H2.out)
  have HCUT := Aside0.mk hcut
  clear HB0 H2 hcut
  go_loopw [42] (fun vi wr => ∃ k : Nat, k ≤ n ∧ vi = .int .i64 k ∧ Aside0 (NewH [] (ofRow 0 (m.take k))) ∧ Aside0 ((recs (ofRow 0 (m.take k))).length ≤ 520 * k) ∧ Aside0 (AtP w (fun _ => False) wr (Star (BookA gB g 1048576 (recs (ofRow 0 (m.take k))) [] (tabH [] (ofRow 0 (m.take k)))) Emp))) (fun vi _ => n - (intOf vi).toNat)
  case atStart => exact ⟨0, by omega, rfl, HN0, HL0, H3⟩
  case round =>
    clear HN0 HL0 H3
    obtain ⟨k, hk, rfl, HN, HL, H⟩ := hrel
    have HW := Aside0.mk (show Below w.heap.size w wr from H.out.keep.below (Nat.le_refl _) (fun _ _ h => h))
    by_cases hlt : k < n
    · obtain ⟨b, hp⟩ : ∃ b, m[k]? = some b := ⟨_, List.getElem?_eq_getElem (by omega)⟩
      obtain ⟨ad0, Ab, cb, rfl, q00, hbc, hCb0⟩ := row_cells HC.out hp
      have q0 := (HW.out.cell (World.block_lt_of_cell? w _ q00)).trans q00
      have HCB := Aside0.mk (Kd.C_below hCb0 HW.out)
      have HAL := Aside0.mk (C_lt hCb0)
      have HBY := Aside0.mk (HOK.out b (List.mem_of_getElem? hp))
      have HSN := Aside0.mk (show ofRow 0 (m.take (k + 1)) = ofRow 0 (m.take k) ++ [((k : Int), b)] by
        obtain ⟨hl, he⟩ := List.getElem?_eq_some_iff.1 hp
        rw [List.take_succ_eq_append_getElem hl, he, ofRow_snoc, List.length_take, show min k m.length = k by omega]
        simp)
      have HGN := Aside0.mk (show getT (tabH [] (ofRow 0 (m.take k))) k = none from tabH_none HN.out rfl (fun p hp2 => by
        have := ofRow_lt hp2
        rw [List.length_take] at this
        omega))
      clear hp q00 hCb0
      by_cases hb5 : 500 < b.length
      · have d3 : decide ((500 : Int) < b.length) = true := by simp; omega
        go_wp2_with fail
        go_ret
        exact ⟨rfl, HW.out⟩
      have d3 : decide ((500 : Int) < b.length) = false := by simp; omega
      have HNW := Aside0.mk (newH_snoc (d := b) HN.out (j := (k : Int)) (by omega) (by omega) HGN.out (by omega))
      have HRS := Aside0.mk (recs_snoc (ofRow 0 (m.take k)) k b)
      have HTS := Aside0.mk (tabH_snoc [] (ofRow 0 (m.take k)) k b)
      have hlay := layR_room (room := 1048576) (s := recs (ofRow 0 (m.take k))) (t := tabH [] (ofRow 0 (m.take k))) (j := (k : Int)) (b := b) (by omega) (by omega) (by have := HL.out; omega) (by omega)
      rw [HGN.out] at hlay
      have HLY := Aside0.mk (show layR 1048576 (recs (ofRow 0 (m.take k))) (tabH [] (ofRow 0 (m.take k))) k b = 0 from hlay)
      have HRL := Aside0.mk (show (recs (ofRow 0 (m.take k) ++ [((k : Int), b)])).length ≤ 520 * (k + 1) by
        rw [recs_snoc, List.length_append]
        have := rec_len k b
        have := HL.out
        omega)
      clear hlay
      rw [← HSN.out] at HNW HRS HTS HRL
      go_wp2_with (first
        | (go_at_call 23; refine (commit_yes (w1 := wr) (s' := recs (ofRow 0 (m.take (k + 1)))) (t' := tabH [] (ofRow 0 (m.take (k + 1)))) H.out (Below.refl _ _) Firm.emp k (by omega) (by omega) Ab b.length cb b rfl HCB.out (fun a ha h0 => ⟨.inr ⟨id, HAL.out h0 a ha⟩, Nat.lt_of_lt_of_le (HAL.out h0 a ha) HW.out.size⟩) HBY.out (by omega) HLY.out HRS.out.symm HTS.out.symm).mono ?_; rintro e w3 ⟨rfl, h3⟩; have H3 := Aside0.mk h3; clear h3 H))
      go_roundw
      case rel => exact ⟨k + 1, by omega, by go_num, HNW, HRL, H3⟩
      case measure => simp [intOf]; omega
    · have hke : k = n := by omega
      subst hke
      obtain ⟨h, hh⟩ : ∃ h, ofRow 0 (m.take k) = h := ⟨_, rfl⟩
      rw [hh] at HN HL H
      have HH := Aside0.mk hh
      have HGN := Aside0.mk (show getT (tabH [] h) k = none from tabH_none HN.out rfl (fun p hp2 => by
        rw [← hh] at hp2
        have := ofRow_lt hp2
        rw [List.length_take] at this
        omega))
      have hhl : h.length = k := by rw [← hh, ofRow_len, List.length_take]; omega
      have HHL := Aside0.mk hhl
      have HC2 := Aside0.mk (Kd.C_below HC1.out HW.out)
      clear hh hhl
      by_cases hb5 : 500 < la.length
      · have d3 : decide ((500 : Int) < la.length) = true := by simp; omega
        go_wp2_with fail
        go_ret
        exact ⟨rfl, HW.out⟩
      have d3 : decide ((500 : Int) < la.length) = false := by simp; omega
      have hlay := layR_room (room := 1048576) (s := recs h) (t := tabH [] h) (j := (k : Int)) (b := la) (by omega) (by omega) (by have := HL.out; omega) (by omega)
      rw [HGN.out] at hlay
      have HLY := Aside0.mk (show layR 1048576 (recs h) (tabH [] h) k la = 0 from hlay)
      obtain ⟨r, hr⟩ : ∃ r, recL k la = r := ⟨_, rfl⟩
      have HLQ := Aside0.mk (show layQ 1048576 (recs h) (tabH [] h) k la = [(((recs h).length : Int), r)] by rw [layQ, if_pos HLY.out, hr])
      obtain ⟨kk, hkk⟩ : ∃ kk, kept [kp] 0 r.length = kk := ⟨_, rfl⟩
      have hkkl : kk ≤ r.length := by rw [← hkk]; exact kept_le _ _ _
      obtain ⟨bb, hbb⟩ : ∃ bb, recs h ++ r.take kk = bb := ⟨_, rfl⟩
      have HF := Aside0.mk (show fallen [kp] 0 [(((recs h).length : Int), r)] (recs h) = bb by rw [fallen_one, hkk, hbb])
      have hrl : r.length ≤ 520 := by rw [← hr]; have := rec_len k la; omega
      obtain ⟨h', hh', hn', hop, htk⟩ := fall_take (d := la) HN.out (j := (k : Int)) (by omega) (by omega) HGN.out (by omega) kk (by rw [hr]; exact hkkl)
      rw [hr, hbb] at hop htk
      obtain ⟨nb, hnb⟩ : ∃ nb, bb.length = nb := ⟨_, rfl⟩
      have hnb2 : nb ≤ 1000000 := by
        rw [← hnb, ← hbb, List.length_append, List.length_take]
        have := HL.out
        omega
      obtain ⟨nn, hnn⟩ : ∃ nn, (recs h').length = nn := ⟨_, rfl⟩
      have hnn2 : nn ≤ 1000000 := by
        have h1 := congrArg List.length htk
        rw [List.length_take, hnn, hnb] at h1
        omega
      rw [hnn] at hop htk
      have hop2 := opened_recs (rest := []) hn' take_none
      rw [List.append_nil, hnn] at hop2
      obtain ⟨nj, hnj⟩ : ∃ nj, (keysT (tabH [] h')).length = nj := ⟨_, rfl⟩
      have hnj2 : nj = k ∨ nj = k + 1 := by
        rw [← hnj, keys_len, tabH_len, List.length_nil, Nat.zero_add]
        rcases hh' with rfl | rfl
        · left; exact HHL.out
        · right; rw [List.length_append, HHL.out]; rfl
      have e1 : decide (nj < k) = false := by simp; omega
      have hnj17 : nj ≤ 17 := by omega
      have hcut := HCUT.out
      have e2 : decide ((k : Int) + 1 < nj) = false := by simp; omega
      have e3 : decide (k + 1 < nj) = false := by simp; omega
      have HOP := Aside0.mk hop
      have HOP2 := Aside0.mk hop2
      have HTK := Aside0.mk htk
      have HNB := Aside0.mk hnb
      have HNN := Aside0.mk hnn
      have HTK2 := Aside0.mk (show (recs h').take nn = recs h' by rw [← hnn, List.take_length])
      have HNJ := Aside0.mk hnj
      have HH' := Aside0.mk hh'
      have HNH' := Aside0.mk hn'
      clear hlay hr hkk hkkl hbb hrl hh' hop htk hnb hnn hop2 hnj hnj2 hn'
      go_wp2_with (first
        | (go_at_call 19; refine (begin_at (w1 := wr) H.out (Below.refl _ _) Firm.emp k (by omega) (by omega) A1 la.length c1 la rfl HC2.out HYL.out (by omega) 0 HLY.out _ HLQ.out).mono ?_; rintro e w4 ⟨rfl, h4⟩; have H4 := Aside0.mk h4.second.drop.empty; clear h4 H)
        | (go_at_call 21; refine (f_crash (w1 := w4) H4.out ((Below.refl _ _).alloc (Nat.le_refl _) _) Firm.emp (some ⟨w4.heap.size, 0, none⟩) 1 _ [kp] rfl (C_lit .i64 3 w4 [kp] (by simp)) (fun a ha _ => (by injection ha with ha; subst ha; exact ⟨.inl (Nat.le_refl _), by simp⟩)) (by intro x hx; rw [List.mem_singleton] at hx; subst hx; exact HKP.out) bb HF.out).mono ?_; rintro e w5 ⟨rfl, h5⟩; have H5 := Aside0.mk h5; clear h5 H4)
        | (go_at_call 17; refine (open_at (w := w5) H5.out Firm.emp bb nb rfl HNB.out hnb2).mono ?_; rintro e w6 ⟨gB2, T, n2, rfl, ho, -, h6⟩; obtain ⟨z1, z2⟩ := HOP.out.same ho; subst z1; subst z2; rw [HTK.out] at h6; have H6 := Aside0.mk h6; clear h6 H5 ho)
        | (go_at_call 26; refine (f_bytes H6.out.second (recs h') nn rfl HNN.out).mono ?_; rintro e w7 ⟨A7, c7, rfl, -, -, -, hb7⟩; have H7 := Aside0.mk (H6.out.below (BookA.firm.star Firm.emp) hb7); clear hb7 H6)
        | (go_at_call 17; refine (open_at (w := w7) H7.out.second (TabA.firm.star Firm.emp) (recs h') nn rfl HNN.out hnn2).mono ?_; rintro e w8 ⟨gC, T, n2, rfl, ho, -, h8⟩; obtain ⟨z1, z2⟩ := HOP2.out.same ho; subst z1; subst z2; rw [HTK2.out] at h8; have H8 := Aside0.mk h8; clear h8 H7 ho)
        | (go_at_call 32; refine (jobs_at H8.out.swap.first (keysT (tabH [] h')) nj rfl HNJ.out).mono ?_; rintro e w9 ⟨A9, c9, rfl, -, -, hb9⟩; have H9 := Aside0.mk (H8.out.below (BookA.firm.star (TabA.firm.star Firm.emp)) hb9); clear hb9 H8)
        | (go_at_call 32; refine (jobs_at H9.out.swap.first (keysT (tabH [] h')) nj rfl HNJ.out).mono ?_; rintro e w10 ⟨A10, c10, rfl, -, -, hb10⟩; have H10 := Aside0.mk (H9.out.below (BookA.firm.star (TabA.firm.star Firm.emp)) hb10); clear hb10 H9)
        | (go_at_call 26; refine (f_bytes H10.out.second (recs h') nn rfl HNN.out).mono ?_; rintro e w11 ⟨A11, c11, rfl, -, -, -, hb11⟩; have H11 := Aside0.mk (H10.out.below (BookA.firm.star (TabA.firm.star Firm.emp)) hb11); clear hb11 H10)
        | (go_at_call 32; refine (jobs_at H11.out.swap.first (keysT (tabH [] h')) nj rfl HNJ.out).mono ?_; rintro e w12 ⟨A12, c12, rfl, hC12, -, hb12⟩; have H12 := Aside0.mk (H11.out.below (BookA.firm.star (TabA.firm.star Firm.emp)) hb12); have HC12 := Aside0.mk hC12; clear hb12 hC12 H11)
        | (go_at_call 32; refine (jobs_at H12.out.first (keysT (tabH [] h')) nj rfl HNJ.out).mono ?_; rintro e w13 ⟨A13, c13, rfl, hC13, -, hb13⟩; have H13 := Aside0.mk (H12.out.below (BookA.firm.star (TabA.firm.star Firm.emp)) hb13); have HC13 := Aside0.mk hC13; have HC14 := Aside0.mk (Kd.C_below HC12.out hb13); clear hb13 hC13 H12 HC12)
        | (go_at_call 33; refine (same_ints A12 A13 c12 c13 (keysT (tabH [] h')) nj HNJ.out (by omega) w13 HC14.out HC13.out).mono ?_; rintro e w14 ⟨rfl, hb14⟩; have H14 := Aside0.mk (H13.out.below (BookA.firm.star (TabA.firm.star Firm.emp)) hb14); clear hb14 H13))
      clear hcut
      go_loopw [135] (fun vi wr => ∃ i : Nat, i ≤ k ∧ vi = .int .i64 i ∧ Aside0 (AtP w (fun _ => False) wr (Star (BookA gC g 1048576 (recs h') [] (tabH [] h')) (Star (TabA gB2 g ((recs h').length) (tabH [] h')) Emp)))) (fun vi _ => k - (intOf vi).toNat)
      case atStart => exact ⟨0, by omega, rfl, H14⟩
      case round =>
        clear H14
        obtain ⟨i, hi, rfl, H⟩ := hrel
        have HW2 := Aside0.mk (show Below w.heap.size w wr from H.out.keep.below (Nat.le_refl _) (fun _ _ h => h))
        by_cases hlt : i < k
        · obtain ⟨b, hp⟩ : ∃ b, m[i]? = some b := ⟨_, List.getElem?_eq_getElem (by omega)⟩
          obtain ⟨ad0, Ab, cb, rfl, q00, hbc, hCb0⟩ := row_cells HC.out hp
          have q0 := (HW2.out.cell (World.block_lt_of_cell? w _ q00)).trans q00
          have HCB0 := Aside0.mk hCb0
          have HGG := Aside0.mk (show getT (tabH [] h') i = some b from tabH_mem HNH'.out (by
            have h1 : ((i : Int), b) ∈ h := by
              rw [← HH.out]
              have := ofRow_mem (i := 0) (l := m.take k) (k := i) (x := b) (by rw [List.getElem?_take, if_pos hlt]; exact hp)
              rwa [Int.zero_add] at this
            rcases HH'.out with e | e
            · rw [e]; exact h1
            · rw [e]; exact List.mem_append_left _ h1))
          clear hp q00 hCb0
          go_wp2_with (first
            | (go_at_call 34; refine (bget_some H.out.first i b b.length HGG.out rfl).mono ?_; rintro e w15 ⟨A15, c15, rfl, hC15, -, hb15⟩; have H15 := Aside0.mk (H.out.below (BookA.firm.star (TabA.firm.star Firm.emp)) hb15); have x1 := Gc.C_str (c := c15) hC15; have x2 := Gc.C_str (c := cb) (Kd.C_below HCB0.out (HW2.out.trans (hb15.mono HW2.out.size))); clear hC15 hb15 H))
          go_roundw
          case rel => exact ⟨i + 1, by omega, by go_num, H15⟩
          case measure => simp [intOf]; omega
        · have hie : i = k := by omega
          subst hie
          rcases HH'.out with e | e
          · have HGG := Aside0.mk (show getT (tabH [] h') i = none by rw [e]; exact HGN.out)
            clear e
            go_wp2_with (first
              | (go_at_call 34; refine (bget_none H.out.first i HGG.out).mono ?_; rintro e w15 ⟨A15, c15, rfl, hb15⟩; have H15 := Aside0.mk (H.out.below (BookA.firm.star (TabA.firm.star Firm.emp)) hb15); clear hb15 H))
            go_ret
            exact ⟨rfl, H15.out.keep.below (Nat.le_refl _) (fun _ _ h => h)⟩
          · have HGG := Aside0.mk (show getT (tabH [] h') i = some la from tabH_mem HNH'.out (by rw [e]; simp))
            clear e
            go_wp2_with (first
              | (go_at_call 34; refine (bget_some H.out.first i la la.length HGG.out rfl).mono ?_; rintro e w15 ⟨A15, c15, rfl, hC15, -, hb15⟩; have H15 := Aside0.mk (H.out.below (BookA.firm.star (TabA.firm.star Firm.emp)) hb15); have x1 := Gc.C_str (c := c15) hC15; have x2 := Gc.C_str (c := c1) (Kd.C_below HC1.out (HW2.out.trans (hb15.mono HW2.out.size))); clear hC15 hb15 H))
            go_ret
            exact ⟨rfl, H15.out.keep.below (Nat.le_refl _) (fun _ _ h => h)⟩
theorem own : ownKnob Try.prog.godebug = none := by kernel_rfl
theorem laidOut : laidOutB Try.prog = true := by kernel_rfl
def IsRow (k : IntKind) (w : World) (a : Option Addr) (len cap : Nat) (zs : List Int) : Prop :=
  (a = none ∧ len = 0 ∧ cap = 0 ∧ zs = []) ∨
  ∃ x, a = some x ∧ len ≤ cap ∧ cap ≤ maxLen ∧ zs.length = cap ∧ (∀ i, i < zs.length → w.cell? (x.add i) = some (.int k (zs.getD i 0))) ∧ ∀ n ∈ zs, (Lit.int k n).wf = true
set_option maxRecDepth 100000 in
theorem lifted (os : Os) (started : os.Started) (H : Type) (enc : TypeId × Value → H) :
    ReturnsInHanded {} Try.checked os 6 .any (Rows.bookKeepsSpec.pre6 enc Try.prog Try.f6 Rows.bookKeepsRow.domain false) (Rows.bookKeepsSpec.post enc Try.prog Try.f6 false true false false) := by
  refine returnsInHanded_of_change_sized (C := Try.checked) own started (by kernel_rfl) Try.func6
    (ChangeSpec.witness6 (enc := enc) (C := Try.checked) false ⟨#[], #[.slice none 0 0, .slice none 0 0, .int .i64 0], []⟩ 8 (by kernel_rfl) (by kernel_rfl) (by kernel_rfl) (by kernel_rfl)) ?_
  intro W base args ds gs before hval0 hW hcnd hsz0 _
  have hsz : (DataW.weightsEach Try.prog (Try.f6.params.toList ++ Rows.bookKeepsSpec.plain.varTypes Try.prog) (ds ++ gs)).all (· ≤ reachBytes) = true := hsz0
  have hval : ∀ (j : Nat) t v, Try.f6.params[j]? = some t → args[j]? = some v → Value.okWide Try.prog W .any base t v := hval0
  have hW' := hW
  obtain ⟨p, q, hA0, hV, rfl, hfz, hnd⟩ := hW
  have hA : DataW.TrodAll enc Try.prog W 0 (fun _ => true) true Try.f6.params.toList args.toList ds p := hA0
  rw [Try.params6] at hA hval hsz
  obtain ⟨v0, vs0, d0, ds0, p0, q0, hargs, rfl, rfl, h0, r0⟩ := trodAll_cons hA
  obtain ⟨v1, vs1, d1, ds1, p1, q1, rfl, rfl, rfl, h1, r1⟩ := trodAll_cons r0
  obtain ⟨v2, vs2, d2, ds2, p2, q2, rfl, rfl, rfl, h2, r2⟩ := trodAll_cons r1
  obtain ⟨rfl, rfl, rfl⟩ := trodAll_nil r2
  obtain rfl : args = #[v0, v1, v2] := by cases args; simp_all
  obtain ⟨rfl, rfl⟩ := trodVars_none hV
  obtain ⟨a0, len0, cap0, rfl⟩ := okWide_slice Try.underlying61 (hval 0 61 v0 rfl rfl)
  have k0 := h0
  have alt0 := okWide_alt Try.underlying61 (hval 0 61 _ rfl rfl)
  have lt0 : ∀ x ∈ p0, x.block < W.heap.size := by obtain ⟨m, hm⟩ := k0; exact DataW.trod_lt m _ _ _ hm
  obtain ⟨l0, rfl, hcap0, hC0, hok0⟩ := opens_arg opens_rows h0
  obtain ⟨a1, len1, cap1, rfl⟩ := okWide_slice Try.underlying24 (hval 1 24 v1 rfl rfl)
  have k1 := h1
  have lt1 : ∀ x ∈ p1, x.block < W.heap.size := by obtain ⟨m, hm⟩ := k1; exact DataW.trod_lt m _ _ _ hm
  obtain ⟨z1, w1⟩ : ∃ zs, IsRow .u8 W a1 len1 cap1 zs := by
    obtain ⟨fuel, hf⟩ := h1
    rcases open_ints Try.underlying24 Try.underlying5 (by kernel_rfl) hf with ⟨hcs, _⟩ | ⟨x, l, c, zs, hcs, _, hl, hm, hz, _, hcell, hwz⟩
    · simp [Value.cells] at hcs
      obtain ⟨rfl, rfl, rfl⟩ := hcs
      exact ⟨[], .inl ⟨rfl, rfl, rfl, rfl⟩⟩
    · simp [Value.cells] at hcs
      obtain ⟨rfl, rfl, rfl⟩ := hcs
      exact ⟨zs, .inr ⟨_, rfl, hl, hm, by simpa using hz, hcell, hwz⟩⟩
  have y1 : len1 * 1 ≤ 140737488351232 := sized_ints hsz (j := 1) (t := 24) rfl rfl Try.underlying24 Try.underlying5 (by kernel_rfl) (by kernel_rfl) h1
  obtain ⟨l1, rfl, hr1, hm1, hwf1, hcap1⟩ := ReadsInt.ofRowC w1
  obtain ⟨a2, rfl, rfl, rfl, w2⟩ := open_int Try.underlying3 (hval 2 3 v2 rfl rfl) h2
  clear hA0 hval0 hsz0 hsz
  refine (walk W _ _ l0 hC0 hcap0 hok0 alt0 _ _ l1 (Kd.C_of_reads (d := (0 : Int)) (h1 := fun _ => rfl) hr1) hcap1 y1 hwf1 a2 w2).mono fun e W' ⟨he, bel⟩ => ?_
  subst he
  exact ⟨_, rfl, _, _, _, [], _, [], hW', trodAll_mk1 (shut_bool Try.underlying4 _), (trodAll_cons_mk (Below.trod laidOut (by kernel_rfl) (of_decide_eq_true (by kernel_rfl)) k0 bel lt0) (trodAll_cons_mk (Below.trod laidOut (by kernel_rfl) (of_decide_eq_true (by kernel_rfl)) k1 bel lt1) (trodAll_cons_mk (shut_int Try.underlying3 w2) trodAll_mk0))), rfl, bel.frame _, fun h => by cases h⟩
theorem over : Rows.bookKeepsRow.holds Try.pinned (OpenSpec.ofChange Rows.bookKeepsSpec) :=
  OpenClaim.holds_of_wide 6 Try.f6 rfl rfl rfl rfl rfl rfl rfl ⟨rfl, rfl, rfl, rfl, rfl⟩ rfl rfl rfl rfl rfl (by kernel_rfl) Try.func6 (by kernel_rfl)
    (of_decide_eq_true (by kernel_rfl)) (by unfold Func.isWrapper; first | (rw [if_pos (by decide +kernel)]; kernel_rfl) | (rw [if_neg (by decide +kernel)]; exact ⟨rfl, rfl⟩))
    (fun os started H enc _ => lifted os started H enc)
end Go.Proofs.Ytfcpnjoiloahcaa.BookKeeps
namespace Go.Proofs.Ytfcpnjoiloahcaa
/-- The statement. -/
theorem bookKeeps_holds : Rows.BookKeepsSaid := BookKeeps.over
#print axioms bookKeeps_holds
end Go.Proofs.Ytfcpnjoiloahcaa
