/- BookOnce: what is told of a job once is never told otherwise; the file has as many records as jobs. No condition. -/
import Derived.Test.YtfcpnjoiloahcaaM3
import Derived.Test.YtfcpnjoiloahcaaRows
import Derived.ProofKit
import Derived.OpenShut
import Derived.ShutString
import Derived.ChangeOld
import Derived.SizedLaws
import Derived.Test.YtfcpnjoiloahcaaWSized
import Derived.Carry
namespace Go.Proofs.Ytfcpnjoiloahcaa.BookOnce
open Go.ChangeShapes Go.WideShapes Go.ChangeAt Go.RowKit Go.Proofs.YtfcpnjoiloahcaaW.PrintWords Go.Proofs.YtfcpnjoiloahcaaW.PrintLast Go.Proofs.YtfcpnjoiloahcaaW.PrintMore Go.Proofs.Ytfcpnjoiloahcaa.B Go.Proofs.Ytfcpnjoiloahcaa.O Go.Proofs.Ytfcpnjoiloahcaa.Bk Go.Proofs.Ytfcpnjoiloahcaa.Ta Go.Proofs.Ytfcpnjoiloahcaa.Fs Go.Proofs.Ytfcpnjoiloahcaa.Sp Go.Proofs.Ytfcpnjoiloahcaa.Ls Go.Proofs.Ytfcpnjoiloahcaa.Gs Go.Proofs.Ytfcpnjoiloahcaa.Go1 Go.Proofs.Ytfcpnjoiloahcaa.S Go.Proofs.Ytfcpnjoiloahcaa.R
set_option linter.unusedVariables false
set_option linter.unusedSimpArgs false
set_option maxHeartbeats 8000000 in
set_option maxRecDepth 100000 in
theorem walk (w : World) (A : Option Addr) (c : Nat) (m : List ActT) (hC : kA.C w A m.length m) (hcap : m.length ≤ c) (hok : (∀ v ∈ m, AOk v) ∧ m.length ≤ 9223372036854775807) (hAlt : ∀ a, A = some a → a.block < w.heap.size) :
    Calls Try.prog 7 #[.slice A m.length c] w fun e w' => e = .returned (.bool true) ∧ Below w.heap.size w w' := by
  have HC := Aside0.mk hC
  have HOK := Aside0.mk hok.1
  have hml := hok.2
  clear hC hok hAlt
  have hmm := @run_makeMap Try.prog
  go_enter Try.func7, Try.ntmps7
  go_wp2_with (first
    | (go_at_call 15; refine (awake_calls _).mono ?_; rintro e w0 ⟨rfl, hb0⟩; have HB0 := Aside0.mk hb0; clear hb0)
    | (go_at_call 16; refine (f_new w 1048576 _ HB0.out (by decide) (by decide)).mono ?_; rintro e w1 ⟨g, rfl, h1, -⟩; have H1 := Aside0.mk h1.empty; clear h1)
    | (go_at_call 17; refine (Calls.mono (open_at (w := w1) H1.out Firm.emp [] 0 rfl rfl (by decide)) ?_); rintro e w2 ⟨gB, T, n, rfl, ho, hn, h2⟩; obtain ⟨rfl, rfl⟩ := ho.same opened_nil; have H2 := Aside0.mk (h2.unempty BookA.firm); clear h2 H1 ho hn))
  obtain ⟨gM, hgM⟩ : ∃ gM, w2.heap.size = gM := ⟨_, rfl⟩
  obtain ⟨wm, hwm⟩ : ∃ wm, w2.alloc (.map #[] 0) = wm := ⟨_, rfl⟩
  have H3 := Aside0.mk (show AtP w (fun _ => False) wm (Star (BookA gB g 1048576 (recs []) [] (tabH [] [])) (MapA gM 0 (.map []))) by
    rw [← hwm, ← hgM]
    exact (H2.out.more BookA.firm ((Below.refl _ _).alloc (Nat.le_refl _) _) (o1 := fun k => k = w2.heap.size) ⟨fun k => Iff.rfl, World.ownsMap_made w2 Try.prog 3 (plainElem (H := Unit) Try.prog 9)⟩ (fun k hk => by omega)).swap)
  have HN0 := Aside0.mk (show NewH [] [] from trivial)
  have HL0 := Aside0.mk (show (recs []).length ≤ 320 * 0 from Nat.le_refl _)
  have HA0 := Aside0.mk (show Agree (.map []) (tabH [] []) from Agree.nil)
  clear HB0 H2 hmm
  rw [hgM, hwm]
  clear hgM hwm
  go_loopw [32] (fun vi wr => ∃ (k : Nat) (h : List (Int × List Int)) (n : Nat) (D : Dat), k ≤ m.length ∧ k ≤ 41 ∧ vi = .int .i64 k ∧ n ≤ k ∧ Aside0 (NewH [] h) ∧ Aside0 ((recs h).length ≤ 320 * k) ∧ Aside0 (Agree D (tabH [] h)) ∧ Aside0 (AtP w (fun _ => False) wr (Star (BookA gB g 1048576 (recs h) [] (tabH [] h)) (MapA gM n D)))) (fun vi _ => m.length - (intOf vi).toNat)
  case atStart => exact ⟨0, [], 0, .map [], by omega, by omega, rfl, by omega, HN0, HL0, HA0, H3⟩
  case round =>
    clear HN0 HL0 HA0 H3
    obtain ⟨k, h, n, D, hk, hk41, rfl, hnk, HN, HL, HA, H⟩ := hrel
    have HW := Aside0.mk (show Below w.heap.size w wr from H.out.keep.below (Nat.le_refl _) (fun _ _ h => h))
    obtain ⟨nr, hnr⟩ : ∃ nr, (recs h).length = nr := ⟨_, rfl⟩
    have hnr1 : nr ≤ 13120 := by rw [← hnr]; have := HL.out; omega
    obtain ⟨nh, hnh⟩ : ∃ nh, (fr h).length = nh := ⟨_, rfl⟩
    have HNR := Aside0.mk hnr
    have HNH := Aside0.mk hnh
    have HALL := Aside0.mk (show AllR (recs h) (fr h) nr by rw [← hnr]; exact recs_all HN.out)
    have HYR := Aside0.mk (show By (recs h) from H.out.second.fok.all.2)
    have HSZ := Aside0.mk (show Maps.size D = nh by rw [HA.out.size, tabH_len, ← hnh, fr_len]; simp)
    clear hnr hnh
    have hcase : (k = m.length ∨ (k < m.length ∧ 40 < k) ∨ (k < m.length ∧ k ≤ 40 ∧ ∃ p, m[k]? = some p ∧ 300 < p.2.1.length)) ∨ (k < m.length ∧ k ≤ 40 ∧ ∃ p, m[k]? = some p ∧ p.2.1.length ≤ 300) := by
      by_cases h1 : k < m.length
      · by_cases h2 : 40 < k
        · exact .inl (.inr (.inl ⟨h1, h2⟩))
        · rcases Nat.lt_or_ge 300 (m[k].2.1.length) with h4 | h4
          · exact .inl (.inr (.inr ⟨h1, by omega, _, List.getElem?_eq_getElem h1, h4⟩))
          · exact .inr ⟨h1, by omega, _, List.getElem?_eq_getElem h1, h4⟩
      · exact .inl (.inl (by omega))
    rcases hcase with hc | ⟨hlt, h40, ⟨i, b, raw, falls, keep⟩, hp, hb3⟩
    · rcases hc with hc | ⟨hlt, h40⟩ | ⟨hlt, h40, ⟨i, b, raw, falls, keep⟩, hp, hb3⟩
      subst hc
      have HT := H
      clear H
      rotate_left
      obtain ⟨⟨i, b, raw, falls, keep⟩, hp⟩ : ∃ p, m[k]? = some p := ⟨_, List.getElem?_eq_getElem hlt⟩
      obtain ⟨ad, rfl⟩ : ∃ ad, A = some ad := by obtain ⟨ad, e, _⟩ := HC.out.2.2 (by omega); exact ⟨ad, e⟩
      obtain ⟨A3, c3, B3, d3, r0, r1, r2, r3, r4, hbc, hkc, hCb, hCk⟩ := act_cells (Kd.C_below HC.out HW.out) hp
      have HT := Aside0.mk (H.out.alloc (BookA.firm.star MapA.firm) (.cells #[.int .i64 i, .slice A3 b.length c3, .bool raw, .bool falls, .slice B3 keep.length d3] 50))
      have d1 : decide ((40 : Int) < k) = true := by simp; omega
      clear H hCb hCk hp
      rotate_left
      simp only at hb3
      obtain ⟨ad, rfl⟩ : ∃ ad, A = some ad := by obtain ⟨ad, e, _⟩ := HC.out.2.2 (by omega); exact ⟨ad, e⟩
      obtain ⟨A3, c3, B3, d3, r0, r1, r2, r3, r4, hbc, hkc, hCb, hCk⟩ := act_cells (Kd.C_below HC.out HW.out) hp
      have HT := Aside0.mk (H.out.alloc (BookA.firm.star MapA.firm) (.cells #[.int .i64 i, .slice A3 b.length c3, .bool raw, .bool falls, .slice B3 keep.length d3] 50))
      have d1 : decide ((40 : Int) < k) = false := by simp; omega
      have d2 : decide ((300 : Int) < b.length) = true := by simp; omega
      clear H hCb hCk hp
      rotate_left
      all_goals
        go_wp2_with (first
          | (go_at_call 26; refine (f_bytes HT.out.second (recs h) nr rfl HNR.out).mono ?_; rintro e wa ⟨A7, c7, rfl, hC7, hl7, -, hb7⟩; have H7 := Aside0.mk (HT.out.below (BookA.firm.star MapA.firm) hb7); have HC7 := Aside0.mk hC7; clear hC7 hb7 HT)
          | (go_at_call 13; refine (Gc.rall_calls A7 c7 (recs h) nr HNR.out wa HC7.out hl7 HYR.out (by omega)).mono ?_; rintro e wb ⟨v8, l8, m8, rfl, hall, hlm, hr8, hb8⟩; obtain ⟨e1, e2⟩ := HALL.out.same hall; subst e1; subst e2; obtain ⟨A8, c8, rfl, hl8, -⟩ := Kd.R_reads hr8; rw [HNH.out] at hl8; rw [HNH.out]; have H8 := Aside0.mk (H7.out.below (BookA.firm.star MapA.firm) hb8); have x8 := (m_owns H8.out.swap).len Try.underlying67 3; rw [HSZ.out] at x8; clear hall hr8 hb8 H7 HC7)
          | (go_at_call 26; refine (f_bytes H8.out.second (recs h) nr rfl HNR.out).mono ?_; rintro e wc ⟨A9, c9, rfl, -, -, -, hb9⟩; have H9 := Aside0.mk (H8.out.below (BookA.firm.star MapA.firm) hb9); clear hb9 H8))
        go_ret
        exact ⟨rfl, H9.out.keep.below (Nat.le_refl _) (fun _ _ h => h)⟩
    · obtain ⟨⟨hi0, hi1⟩, hby, -⟩ := HOK.out _ (List.mem_of_getElem? hp)
      simp only at hi0 hi1 hby hb3
      obtain ⟨ad, rfl⟩ : ∃ ad, A = some ad := by obtain ⟨ad, e, _⟩ := HC.out.2.2 (by omega); exact ⟨ad, e⟩
      obtain ⟨A3, c3, B3, d3, q0, q1, q2, q3, q4, hbc, hkc, hCb, hCk⟩ := act_cells HC.out hp
      have r0 := (HW.out.cell (World.block_lt_of_cell? w _ q0)).trans q0
      have r1 := (HW.out.cell (World.block_lt_of_cell? w _ q1)).trans q1
      have r2 := (HW.out.cell (World.block_lt_of_cell? w _ q2)).trans q2
      have r3 := (HW.out.cell (World.block_lt_of_cell? w _ q3)).trans q3
      have r4 := (HW.out.cell (World.block_lt_of_cell? w _ q4)).trans q4
      have HAL := Aside0.mk (C_lt hCb)
      have HBY := Aside0.mk hby
      obtain ⟨W5, hW5⟩ : ∃ W5, W5 = wr.alloc (.cells #[.int .i64 i, .slice A3 b.length c3, .bool raw, .bool falls, .slice B3 keep.length d3] 50) := ⟨_, rfl⟩
      have hb5 : Below wr.heap.size wr W5 := by rw [hW5]; exact (Below.refl _ _).alloc (Nat.le_refl _) _
      have hn5 : W5.heap[wr.heap.size]? = some (.cells #[.int .i64 i, .slice A3 b.length c3, .bool raw, .bool falls, .slice B3 keep.length d3] 50 (0, 0)) := by rw [hW5]; exact heap_alloc_new _ _
      obtain ⟨N2, hN2⟩ : ∃ N2 : Nat → Prop, N2 = fun k => (False ∨ w.heap.size ≤ k) ∧ k < wr.heap.size := ⟨_, rfl⟩
      have H5 := Aside0.mk (show AtP W5 N2 W5 (Star (BookA gB g 1048576 (recs h) [] (tabH [] h)) (MapA gM n D)) by rw [hN2]; exact H.out.rebase (BookA.firm.star MapA.firm) hb5)
      have HBK := Aside0.mk (show ∀ W (P : Assn), AtP W5 N2 W P → AtP w (fun _ => False) W P from fun W P hx => hx.back (fun k hk => by rw [hN2] at hk; exact hk.1) (H.out.keep.trans (Keep.of_below hb5)))
      have HX := Aside0.mk (show ∀ W, Keep N2 W5 W → W.cell? ⟨wr.heap.size, 0, none⟩ = some (.int .i64 i) ∧ W.cell? ⟨wr.heap.size, 1, none⟩ = some (.slice A3 b.length c3) from fun W hW => by
        have hh := (hW.block wr.heap.size (blk_lt hn5) (fun hx => by rw [hN2] at hx; have := hx.2; omega)).trans hn5
        exact ⟨by simp [World.cell?, hh], by simp [World.cell?, hh]⟩)
      have HAB := Aside0.mk (show ∀ a, A3 = some a → 0 < b.length → (W5.heap.size ≤ a.block ∨ ¬ N2 a.block ∧ a.block < W5.heap.size) ∧ a.block < W5.heap.size from fun a ha h0 => by
        have h1 := HAL.out h0 a ha
        have h2 := HW.out.size
        have h3 := hb5.size
        exact ⟨.inr ⟨fun hx => by rw [hN2] at hx; rcases hx.1 with hx | hx; exact hx.elim; omega, by omega⟩, by omega⟩)
      have HCW := Aside0.mk (show ∀ W, Keep N2 W5 W → kU8.C W A3 b.length b from fun W hW => Kd.C_below hCb ((HW.out.trans (hb5.mono HW.out.size)).trans (hW.below (Nat.le_trans HW.out.size hb5.size) (fun k hk hx => by rw [hN2] at hx; rcases hx.1 with hx | hx; exact hx.elim; omega))))
      obtain ⟨iu, hiu⟩ : ∃ u, IntKind.u64.wrap i = u := ⟨_, rfl⟩
      have hiu0 := (wrU64_range i).1
      rw [hiu] at hiu0
      obtain ⟨p, hpj⟩ : ∃ p : Nat, iu.tmod 16 = (p : Int) := ⟨(iu.tmod 16).toNat, by have := tmod_range hiu0 (show (0 : Int) < 16 by omega); omega⟩
      have hp16 : p < 16 := by have := (tmod_range hiu0 (show (0 : Int) < 16 by omega)).2; omega
      have y1 := wrI64 (p : Int) (by omega) (by omega)
      have d1 : decide ((40 : Int) < k) = false := by simp; omega
      have d2 : decide ((300 : Int) < b.length) = false := by simp; omega
      have hlay := layR_room (room := 1048576) (s := recs h) (t := tabH [] h) (j := (p : Int)) (b := b) (by omega) (by omega) (by rw [HNR.out]; omega) (by omega)
      clear q0 q1 q2 q3 q4 hkc hCb hCk hp hby hb5 hn5 hN2
      by_cases hg : getT (tabH [] h) p = none
      · rw [hg] at hlay
        have HLY := Aside0.mk (show layR 1048576 (recs h) (tabH [] h) p b = 0 from hlay)
        have HNW := Aside0.mk (newH_snoc (d := b) HN.out (j := (p : Int)) (by omega) (by omega) hg (by omega))
        have HRL := Aside0.mk (show (recs (h ++ [((p : Int), b)])).length ≤ 320 * (k + 1) by
          rw [recs_snoc, List.length_append]
          have := rec_len p b
          have := HL.out
          omega)
        have HRS := Aside0.mk (recs_snoc h p b)
        have HTS := Aside0.mk (tabH_snoc [] h p b)
        have HG := Aside0.mk hg
        have HTD := Aside0.mk ((m_owns H.out.swap).tidy kInt)
        clear hlay hg
        go_wp2_with (first
          | (go_at_call 23; rw [← hW5]; clear hW5; refine (commit_yes (w1 := W5) (s' := recs (h ++ [((p : Int), b)])) (t' := tabH [] (h ++ [((p : Int), b)])) H5.out (Below.refl _ _) MapA.firm p (by omega) (by omega) A3 b.length c3 b rfl (HCW.out _ (Keep.refl _ _)) HAB.out HBY.out (by omega) HLY.out HRS.out.symm HTS.out.symm).mono ?_; rintro e w6 ⟨rfl, h6⟩; obtain ⟨x0, x1⟩ := HX.out w6 h6.keep; obtain ⟨s7, x7⟩ := look_none (m_owns h6.swap) HA.out HG.out (by omega) (by omega); have x9 := Gc.C_str (c := c3) (HCW.out w6 h6.keep); have H6 := Aside0.mk h6; clear h6 H5)
          | (at_mapUpdate; refine wpList_mapUpdate_own _ rfl _ _ _ 67 rfl 3 9 kInt Try.underlying67 (plainElem (H := Unit) Try.prog 9) gM n D rfl (m_owns H6.out.swap) (by simp only [maxLen]; omega) _ _ (.int .i64 p) rfl rfl (keyI (by omega) (by omega)) _ [] (rdS_mk b (by omega)) ?_; intro w7 ho7 hg7; have H7 := Aside0.mk (m_turn H6.out.swap BookA.firm ho7 hg7).swap; clear ho7 hg7 H6))
        have H8 := Aside0.mk (HBK.out _ _ H7.out)
        have HAG := Aside0.mk (show Agree (D.put (.int .i64 p) (.lit (.string (strOfNums b).data.toList))) (tabH [] (h ++ [((p : Int), b)])) by rw [HTS.out]; exact HA.out.put HTD.out HG.out b)
        go_roundw
        case rel => exact ⟨k + 1, _, n + 1, _, by omega, by omega, by go_num, by omega, HNW, HRL, HAG, H8⟩
        case measure => simp [intOf]; omega
      · obtain ⟨v, hv⟩ : ∃ v, getT (tabH [] h) p = some v := Option.ne_none_iff_exists'.1 hg
        rw [hv] at hlay
        have HLY := Aside0.mk (show layR 1048576 (recs h) (tabH [] h) p b = 51 from hlay)
        have HRL := Aside0.mk (show (recs h).length ≤ 320 * (k + 1) by rw [HNR.out]; have := HL.out; rw [HNR.out] at this; omega)
        have HV := Aside0.mk hv
        clear hlay hg hv
        go_wp2_with (first
          | (go_at_call 23; rw [← hW5]; clear hW5; refine (commit_no (w1 := W5) H5.out (Below.refl _ _) MapA.firm p (by omega) (by omega) A3 b.length c3 b rfl (HCW.out _ (Keep.refl _ _)) HBY.out (by omega) 51 HLY.out (by decide)).mono ?_; rintro e w6 ⟨rfl, h6⟩; obtain ⟨x0, x1⟩ := HX.out w6 h6.keep; have x7 := look_some (m_owns h6.swap) HA.out HV.out (by omega) (by omega); have H6 := Aside0.mk h6; clear h6 H5)
          | (go_at_call 34; refine (bget_some H6.out.first p v v.length HV.out rfl).mono ?_; rintro e w7 ⟨A7, c7, rfl, hC7, -, hb7⟩; have H7 := Aside0.mk (H6.out.below (BookA.firm.star MapA.firm) hb7); have x9 := Gc.C_str (c := c7) hC7; clear hb7 hC7 H6))
        have H8 := Aside0.mk (HBK.out _ _ H7.out)
        go_roundw
        case rel => exact ⟨k + 1, h, n, D, by omega, by omega, by go_num, by omega, HN, HRL, HA, H8⟩
        case measure => simp [intOf]; omega
theorem own : ownKnob Try.prog.godebug = none := by kernel_rfl
theorem laidOut : laidOutB Try.prog = true := by kernel_rfl
def IsRow (k : IntKind) (w : World) (a : Option Addr) (len cap : Nat) (zs : List Int) : Prop :=
  (a = none ∧ len = 0 ∧ cap = 0 ∧ zs = []) ∨
  ∃ x, a = some x ∧ len ≤ cap ∧ cap ≤ maxLen ∧ zs.length = cap ∧ (∀ i, i < zs.length → w.cell? (x.add i) = some (.int k (zs.getD i 0))) ∧ ∀ n ∈ zs, (Lit.int k n).wf = true
set_option maxRecDepth 100000 in
theorem lifted (os : Os) (started : os.Started) (H : Type) (enc : TypeId × Value → H) :
    ReturnsInHanded {} Try.checked os 7 .any (Rows.bookOnceSpec.pre6 enc Try.prog Try.f7 Rows.bookOnceRow.domain false) (Rows.bookOnceSpec.post enc Try.prog Try.f7 false true false false) := by
  refine returnsInHanded_of_change_sized (C := Try.checked) own started (by kernel_rfl) Try.func7
    (ChangeSpec.witness6 (enc := enc) (C := Try.checked) false ⟨#[], #[.slice none 0 0], []⟩ 8 (by kernel_rfl) (by kernel_rfl) (by kernel_rfl) (by kernel_rfl)) ?_
  intro W base args ds gs before hval0 hW hcnd hsz0 _
  have hsz : (DataW.weightsEach Try.prog (Try.f7.params.toList ++ Rows.bookOnceSpec.plain.varTypes Try.prog) (ds ++ gs)).all (· ≤ reachBytes) = true := hsz0
  have hval : ∀ (j : Nat) t v, Try.f7.params[j]? = some t → args[j]? = some v → Value.okWide Try.prog W .any base t v := hval0
  have hW' := hW
  obtain ⟨p, q, hA0, hV, rfl, hfz, hnd⟩ := hW
  have hA : DataW.TrodAll enc Try.prog W 0 (fun _ => true) true Try.f7.params.toList args.toList ds p := hA0
  rw [Try.params7] at hA hval hsz
  obtain ⟨v0, vs0, d0, ds0, p0, q0, hargs, rfl, rfl, h0, r0⟩ := trodAll_cons hA
  obtain ⟨rfl, rfl, rfl⟩ := trodAll_nil r0
  obtain rfl : args = #[v0] := by cases args; simp_all
  obtain ⟨rfl, rfl⟩ := trodVars_none hV
  obtain ⟨a0, len0, cap0, rfl⟩ := okWide_slice Try.underlying35 (hval 0 35 v0 rfl rfl)
  have k0 := h0
  have alt0 := okWide_alt Try.underlying35 (hval 0 35 _ rfl rfl)
  have lt0 : ∀ x ∈ p0, x.block < W.heap.size := by obtain ⟨m, hm⟩ := k0; exact DataW.trod_lt m _ _ _ hm
  obtain ⟨l0, rfl, hcap0, hC0, hok0⟩ := opens_arg opens_acts h0
  clear hA0 hval0 hsz0 hsz
  refine (walk W _ _ l0 hC0 hcap0 hok0 alt0).mono fun e W' ⟨he, bel⟩ => ?_
  subst he
  exact ⟨_, rfl, _, _, _, [], _, [], hW', trodAll_mk1 (shut_bool Try.underlying4 _), (trodAll_cons_mk (Below.trod laidOut (by kernel_rfl) (of_decide_eq_true (by kernel_rfl)) k0 bel lt0) trodAll_mk0), rfl, bel.frame _, fun h => by cases h⟩
theorem over : Rows.bookOnceRow.holds Try.pinned (OpenSpec.ofChange Rows.bookOnceSpec) :=
  OpenClaim.holds_of_wide 7 Try.f7 rfl rfl rfl rfl rfl rfl rfl ⟨rfl, rfl, rfl, rfl, rfl⟩ rfl rfl rfl rfl rfl (by kernel_rfl) Try.func7 (by kernel_rfl)
    (of_decide_eq_true (by kernel_rfl)) (by unfold Func.isWrapper; first | (rw [if_pos (by decide +kernel)]; kernel_rfl) | (rw [if_neg (by decide +kernel)]; exact ⟨rfl, rfl⟩))
    (fun os started H enc _ => lifted os started H enc)
end Go.Proofs.Ytfcpnjoiloahcaa.BookOnce
namespace Go.Proofs.Ytfcpnjoiloahcaa
/-- The statement. -/
theorem bookOnce_holds : Rows.BookOnceSaid := BookOnce.over
#print axioms bookOnce_holds
end Go.Proofs.Ytfcpnjoiloahcaa
