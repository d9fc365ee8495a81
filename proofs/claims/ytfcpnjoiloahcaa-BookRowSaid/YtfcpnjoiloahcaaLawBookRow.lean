/- BookRow: the file's frames are the records in the order in which they were committed. No condition. -/
import Derived.Test.YtfcpnjoiloahcaaM3
import Derived.Test.YtfcpnjoiloahcaaRows
import Derived.ProofKit
import Derived.OpenShut
import Derived.ShutString
import Derived.ChangeOld
import Derived.SizedLaws
import Derived.Test.YtfcpnjoiloahcaaWSized
namespace Go.Proofs.Ytfcpnjoiloahcaa.BookRow
open Go.ChangeShapes Go.WideShapes Go.ChangeAt Go.RowKit Go.Proofs.YtfcpnjoiloahcaaW.PrintWords Go.Proofs.YtfcpnjoiloahcaaW.PrintLast Go.Proofs.YtfcpnjoiloahcaaW.PrintMore Go.Proofs.Ytfcpnjoiloahcaa.B Go.Proofs.Ytfcpnjoiloahcaa.O Go.Proofs.Ytfcpnjoiloahcaa.Bk Go.Proofs.Ytfcpnjoiloahcaa.Ta Go.Proofs.Ytfcpnjoiloahcaa.Fs Go.Proofs.Ytfcpnjoiloahcaa.Sp Go.Proofs.Ytfcpnjoiloahcaa.Ls Go.Proofs.Ytfcpnjoiloahcaa.Gs Go.Proofs.Ytfcpnjoiloahcaa.Go1 Go.Proofs.Ytfcpnjoiloahcaa.S Go.Proofs.Ytfcpnjoiloahcaa.R
set_option linter.unusedVariables false
set_option linter.unusedSimpArgs false
set_option maxHeartbeats 8000000 in
set_option maxRecDepth 100000 in
theorem walk (w : World) (A : Option Addr) (c : Nat) (m : List (List Int)) (hC : kL.C w A m.length m) (hcap : m.length ≤ c) (hok : (∀ v ∈ m, By v) ∧ m.length ≤ 9223372036854775807) (hAlt : ∀ a, A = some a → a.block < w.heap.size)
    (A1 : Option Addr) (c1 : Nat) (js : List Int) (hC1 : kU8.C w A1 js.length js) (hc1 : js.length ≤ c1) (hm1 : js.length * 1 ≤ 140737488351232) (hwf1 : ∀ x ∈ js, (Lit.int .u8 x).wf = true) :
    Calls Try.prog 9 #[.slice A m.length c, .slice A1 js.length c1] w fun e w' => e = .returned (.bool true) ∧ Below w.heap.size w w' := by
  have HYJ := Aside0.mk (show By js from fun x hx => wf_u8 (hwf1 x hx))
  have HC := Aside0.mk hC
  have HC1 := Aside0.mk hC1
  have HOK := Aside0.mk hok.1
  have hml := hok.2
  clear hwf1 hC hC1 hok hAlt
  go_enter Try.func9, Try.ntmps9
  go_wp2_with (first
    | (go_at_call 15; refine (awake_calls _).mono ?_; rintro e w0 ⟨rfl, hb0⟩; have HB0 := Aside0.mk hb0; clear hb0)
    | (go_at_call 16; refine (f_new w 1048576 _ HB0.out (by decide) (by decide)).mono ?_; rintro e w1 ⟨g, rfl, h1, -⟩; have H1 := Aside0.mk h1.empty; clear h1)
    | (go_at_call 17; refine (Calls.mono (open_at (w := w1) H1.out Firm.emp [] 0 rfl rfl (by decide)) ?_); rintro e w2 ⟨gB, T, n, rfl, ho, hn, h2⟩; obtain ⟨rfl, rfl⟩ := ho.same opened_nil; have H2 := Aside0.mk (h2.unempty BookA.firm); clear h2 H1 ho hn))
  have H3 := Aside0.mk (show AtP w (fun _ => False) w2 (Star (BookA gB g 1048576 (recs []) [] (tabH [] [])) (RowA kF 27 (.slice none 0 0) (fr []))) from
    (H2.out.more BookA.firm (Below.refl _ _) (RowA.nil kF 27 w2) (fun k h => h.elim)).swap)
  have HN0 := Aside0.mk (show NewH [] [] from trivial)
  have HL0 := Aside0.mk (show (recs []).length ≤ 520 * 0 from Nat.le_refl _)
  clear HB0 H2
  go_loopw [9, 28] (fun vw vi wr => ∃ (k : Nat) (h : List (Int × List Int)), k ≤ m.length ∧ k ≤ 16 ∧ vi = .int .i64 k ∧ Aside0 (NewH [] h) ∧ Aside0 ((recs h).length ≤ 520 * k) ∧ Aside0 (AtP w (fun _ => False) wr (Star (BookA gB g 1048576 (recs h) [] (tabH [] h)) (RowA kF 27 vw (fr h))))) (fun _ vi _ => m.length - (intOf vi).toNat)
  case atStart => exact ⟨0, [], by omega, by omega, rfl, HN0, HL0, H3⟩
  case round =>
    clear HN0 HL0 H3
    obtain ⟨k, h, hk, hk16, rfl, HN, HL, H⟩ := hrel
    have HW := Aside0.mk (show Below w.heap.size w wr from H.out.keep.below (Nat.le_refl _) (fun _ _ h => h))
    obtain ⟨o1, hRw, -, -⟩ := H.out.swap.row BookA.firm
    obtain ⟨Aw, cw, rfl, hcw, hCw⟩ := Kd.R_reads hRw
    have HCw := Aside0.mk hCw
    clear hRw hCw
    obtain ⟨nh, hnh⟩ : ∃ nh, (fr h).length = nh := ⟨_, rfl⟩
    have hnh16 : nh ≤ 16 := by
      rw [← hnh, fr_len]
      have h1 := tabH_len [] h
      have h2 := H.out.first.tok.len
      rw [h1] at h2
      simpa using h2
    rw [hnh] at HCw hcw H
    rw [hnh]
    have HNH := Aside0.mk hnh
    clear hnh
    have hcase : (k = m.length ∨ (k < m.length ∧ 15 < k) ∨ (k < m.length ∧ k ≤ 15 ∧ js.length ≤ k) ∨ (k < m.length ∧ k ≤ 15 ∧ k < js.length ∧ ∃ b, m[k]? = some b ∧ 500 < b.length)) ∨ (k < m.length ∧ k ≤ 15 ∧ k < js.length ∧ ∃ b, m[k]? = some b ∧ b.length ≤ 500) := by
      by_cases h1 : k < m.length
      · by_cases h2 : 15 < k
        · exact .inl (.inr (.inl ⟨h1, h2⟩))
        · by_cases h3 : k < js.length
          · rcases Nat.lt_or_ge 500 (m[k].length) with h4 | h4
            · exact .inl (.inr (.inr (.inr ⟨h1, by omega, h3, _, List.getElem?_eq_getElem h1, h4⟩)))
            · exact .inr ⟨h1, by omega, h3, _, List.getElem?_eq_getElem h1, h4⟩
          · exact .inl (.inr (.inr (.inl ⟨h1, by omega, by omega⟩)))
      · exact .inl (.inl (by omega))
    rcases hcase with hcase | hcase
    · obtain ⟨n, hn⟩ : ∃ n, (recs h).length = n := ⟨_, rfl⟩
      have hn1 : n ≤ 8320 := by rw [← hn]; have := HL.out; omega
      have HALL := Aside0.mk (show AllR (recs h) (fr h) n by rw [← hn]; exact recs_all HN.out)
      have HKT := Aside0.mk (show (keysT (tabH [] h)).length = nh by rw [keys_len, tabH_len, ← HNH.out, fr_len]; simp)
      have HNN := Aside0.mk hn
      have HYR := Aside0.mk (show By (recs h) from H.out.second.fok.all.2)
      clear hn
      rcases hcase with hc | hc | hc | hc
      subst hc
      rotate_left
      obtain ⟨hlt, h15⟩ := hc
      obtain ⟨b, hp⟩ : ∃ b, m[k]? = some b := ⟨_, List.getElem?_eq_getElem hlt⟩
      obtain ⟨ad, Ab, cb, rfl, q0, hbc, hCb⟩ := row_cells (Kd.C_below HC.out HW.out) hp
      have d1 : decide ((15 : Int) < k) = true := by simp; omega
      clear hCb hp
      rotate_left
      obtain ⟨hlt, h15, hjs⟩ := hc
      obtain ⟨b, hp⟩ : ∃ b, m[k]? = some b := ⟨_, List.getElem?_eq_getElem hlt⟩
      obtain ⟨ad, Ab, cb, rfl, q0, hbc, hCb⟩ := row_cells (Kd.C_below HC.out HW.out) hp
      have d1 : decide ((15 : Int) < k) = false := by simp; omega
      have d2 : decide (js.length ≤ k) = true := by simp; omega
      clear hCb hp
      rotate_left
      obtain ⟨hlt, h15, hjs, b, hp, hb5⟩ := hc
      obtain ⟨ad, Ab, cb, rfl, q0, hbc, hCb⟩ := row_cells (Kd.C_below HC.out HW.out) hp
      have d1 : decide ((15 : Int) < k) = false := by simp; omega
      have d2 : decide (js.length ≤ k) = false := by simp; omega
      have d3 : decide ((500 : Int) < b.length) = true := by simp; omega
      clear hCb hp
      rotate_left
      all_goals
        go_wp2_with (first
          | (go_at_call 26; refine (f_bytes H.out.second (recs h) n rfl HNN.out).mono ?_; rintro e wa ⟨A7, c7, rfl, hC7, hl7, -, hb7⟩; have H7 := Aside0.mk (H.out.below (BookA.firm.star RowA.firm) hb7); have HC7 := Aside0.mk hC7; have HCw7 := Aside0.mk (Kd.C_below HCw.out hb7); clear hC7 hb7 H HCw)
          | (go_at_call 13; refine (Gc.rall_calls A7 c7 (recs h) n HNN.out wa HC7.out hl7 HYR.out (by omega)).mono ?_; rintro e wb ⟨v8, l8, m8, rfl, hall, hlm, hr8, hb8⟩; obtain ⟨e1, e2⟩ := HALL.out.same hall; subst e1; subst e2; obtain ⟨A8, c8, rfl, hl8, hC8⟩ := Kd.R_reads hr8; have HC8 := Aside0.mk (Gc.kX_read hb8 hC8); rw [HNH.out] at hl8 HC8; rw [HNH.out]; have H8 := Aside0.mk (H7.out.below (BookA.firm.star RowA.firm) hb8); have HCw8 := Aside0.mk (Kd.C_below HCw7.out hb8); clear hall hr8 hC8 hb8 H7 HCw7 HC7)
          | (go_at_call 26; refine (f_bytes H8.out.second (recs h) n rfl HNN.out).mono ?_; rintro e wc ⟨A9, c9, rfl, -, -, -, hb9⟩; have H9 := Aside0.mk (H8.out.below (BookA.firm.star RowA.firm) hb9); have HC9 := Aside0.mk (Kd.C_below HC8.out hb9); have HCw9 := Aside0.mk (Kd.C_below HCw8.out hb9); clear hb9 H8 HCw8 HC8)
          | (go_at_call 14; refine (Gc.same_calls A8 Aw c8 cw (fr h) nh HNH.out (by omega) wc HC9.out HCw9.out).mono ?_; rintro e wd ⟨rfl, hb10⟩; have H10 := Aside0.mk (H9.out.below (BookA.firm.star RowA.firm) hb10); clear hb10 H9)
          | (go_at_call 32; refine (jobs_at H10.out.first (keysT (tabH [] h)) nh rfl HKT.out).mono ?_; rintro e we ⟨A11, c11, rfl, -, -, hb11⟩; have H11 := Aside0.mk (H10.out.below (BookA.firm.star RowA.firm) hb11); clear hb11 H10))
        go_ret
        exact ⟨rfl, H11.out.keep.below (Nat.le_refl _) (fun _ _ h => h)⟩
    · obtain ⟨hlt, h15, hjs, b, hp, hb5⟩ := hcase
      obtain ⟨ad, Ab, cb, rfl, q0, hbc, hCb⟩ := row_cells (Kd.C_below HC.out HW.out) hp
      obtain ⟨ad0, Ab0, cb0, e0, q00, hbc0, hCb0⟩ := row_cells HC.out hp
      injection e0 with e0
      subst e0
      obtain ⟨e1, e2, e3⟩ : Ab0 = Ab ∧ b.length = b.length ∧ cb0 = cb := by
        have h1 := (HW.out.cell (World.block_lt_of_cell? w _ q00)).trans q00
        rw [q0] at h1
        injection h1 with h1
        injection h1 with h1 h2 h3
        exact ⟨h1.symm, rfl, h3.symm⟩
      subst e1 e3
      have hby := HOK.out b (List.mem_of_getElem? hp)
      obtain ⟨x, hx⟩ : ∃ x, js[k]? = some x := ⟨_, List.getElem?_eq_getElem hjs⟩
      obtain ⟨ad1, rfl⟩ := C_some HC1.out (by omega)
      have q1 := C_cell (Kd.C_below HC1.out HW.out) hx
      have hxr := HYJ.out.at hx
      obtain ⟨j, hj⟩ : ∃ j : Int, x % 16 = j := ⟨_, rfl⟩
      have hj0 : 0 ≤ j ∧ j < 16 := by omega
      have y1 : x.tmod 16 = j := by rw [Int.tmod_eq_emod_of_nonneg hxr.1]; exact hj
      have d1 : decide ((15 : Int) < k) = false := by simp; omega
      have d2 : decide (js.length ≤ k) = false := by simp; omega
      have d3 : decide ((500 : Int) < b.length) = false := by simp; omega
      have HAL := Aside0.mk (C_lt hCb0)
      have HCb := Aside0.mk hCb
      have HBY := Aside0.mk hby
      have hrl := HL.out
      have HCB0 := Aside0.mk hCb0
      clear hp hx hby hCb hCb0 q00 hbc0 hj
      have hlay := layR_room (room := 1048576) (s := recs h) (t := tabH [] h) (b := b) hj0.1 hj0.2 (by omega) (by omega)
      by_cases hg : getT (tabH [] h) j = none
      · rw [hg] at hlay
        have HLY := Aside0.mk (show layR 1048576 (recs h) (tabH [] h) j b = 0 from hlay)
        have HNW := Aside0.mk (newH_snoc (d := b) HN.out hj0.1 hj0.2 hg (by omega))
        have HRL := Aside0.mk (show (recs (h ++ [(j, b)])).length ≤ 520 * (k + 1) by
          rw [recs_snoc, List.length_append]
          have := rec_len j b
          omega)
        have HRS := Aside0.mk (recs_snoc h j b)
        have HTS := Aside0.mk (tabH_snoc [] h j b)
        have HPO := Aside0.mk (put_one hj0.1 hj0.2)
        have HFS := Aside0.mk (fr_snoc h j b)
        clear hlay hg hrl
        go_wp2_with (first
          | (go_at_call 23; refine (commit_yes (w1 := wr) (s' := recs (h ++ [(j, b)])) (t' := tabH [] (h ++ [(j, b)])) H.out (Below.refl _ _) RowA.firm j (by omega) (by omega) Ab0 b.length cb0 b rfl HCb.out (fun a ha h0 => ⟨.inr ⟨id, HAL.out h0 a ha⟩, Nat.lt_of_lt_of_le (HAL.out h0 a ha) HW.out.size⟩) HBY.out (by omega) HLY.out HRS.out.symm HTS.out.symm).mono ?_; rintro e w3 ⟨rfl, h3⟩; have H3 := Aside0.mk h3; clear h3 H))
        obtain ⟨o2, hR3, hlt3, hback⟩ := H3.out.swap.row BookA.firm
        have HR3 := Aside0.mk hR3
        have HBACK := Aside0.mk hback
        have HLT3 := Aside0.mk hlt3
        have y2 := wrU64 j (by omega) (by omega)
        have HCB3 := Aside0.mk (Kd.C_below HCB0.out (H3.out.keep.below (Nat.le_refl _) (fun _ _ h => h)))
        clear hR3 hback hlt3
        have HLC := Aside0.mk (show (j :: b).length = b.length + 1 by simp)
        go_wp2_with (first
          | (go_at_call 29; refine (Lr.put_calls none 0 [] j _ (C_nil .u8 w3) (by simp) (by omega) (by omega)).mono ?_; rintro e w4 ⟨v4, rfl, ho4, hb4⟩; rw [HPO.out, List.nil_append] at ho4; have HO4 := Aside0.mk ho4; have HB4 := Aside0.mk hb4; clear ho4 hb4)
          | ((with_reducible refine gate_builtin (b := .append) (xs := #[.tmp 60, .tmp 61]) rfl ?_); at_builtin; refine Kd.R_append_rows (Kd.int .u8) (w0 := w3) w3.heap.size rfl (.tmp 60) (.tmp 61) 24 5 (.int .u8 0) 1 rfl Try.underlying24 infoU8 rfl (by decide) (by omega) v4 [j] b _ _ _ (fun _ => True) (fun _ => False) rfl rfl ?aO ?aR (fun _ _ h => h) (fun _ h => h.elim) ?aF ?aB ?aS ?aL ?_; (case aR => exact (Kd.C_below HCB3.out HB4.out)); (case aB => exact HB4.out); (case aF => exact (fun _ _ => trivial)); (case aO => exact HO4.out); (case aS => (exact HB4.out.size)); (case aL => (simp only [List.length_cons, List.length_nil]; omega)); (intro v5 w5 ho5 hb5 hg5 hat5; rw [List.singleton_append] at ho5; obtain ⟨A5, c5, rfl, hl5, -⟩ := Kd.R_reads ho5; rw [HLC.out] at ho5; (try rw [HLC.out]); have HO5 := Aside0.mk ho5; have HB5 := Aside0.mk hb5; clear ho5 hb5 hg5 hat5 hl5))
          | ((with_reducible refine gate_builtin (b := .append) (xs := #[.tmp 57, .tmp 64]) rfl ?_); at_builtin; refine Kd.R_append kF (w0 := w5) 0 rfl (.tmp 57) (.tmp 64) 22 27 (.agg #[.int .u8 0, .slice none 0 0]) 32 rfl Try.underlying22 Gc.infoF rfl (by decide) (by decide) (.slice Aw nh cw) (fr h) (1, j :: b) [.int .u8 1, .slice A5 (b.length + 1) c5] (fun k => o2 k ∨ w3.heap.size ≤ k) (fun k => w3.heap.size ≤ k) rfl rfl ⟨[_], [_], rfl, rfl, _, rfl, Kd.R_mono (Kd.R_lower (Kd.R_bound HO5.out) (Nat.zero_le _)) (fun i hi => hi.2.1)⟩ (fun i hi => ⟨.inr hi, fun e => by have := HLT3.out i (HR3.out.1 i e.symm); omega⟩) (fun i hi => .inr (Nat.le_trans HB5.out.size hi)) (Kd.R_mono (Kd.R_below HR3.out HB5.out) (fun k hk => .inl hk)) (Below.refl 0 _) (Nat.zero_le _) (by rw [HNH.out]; omega) ?_; intro v6 w6 ho6 hb6 hg6 hat6; have H6 := Aside0.mk (HBACK.out w6 v6 _ ho6 (((Keep.refl o2 w3).trans (Keep.of_below HB5.out)).grown hg6 (fun k hk _ => HR3.out.1 k hk))).swap; clear ho6 hb6 hg6 hat6))
        rw [← HFS.out] at H6
        go_roundw
        case rel => exact ⟨k + 1, h ++ [(j, b)], by omega, by omega, by go_num, HNW, HRL, H6⟩
        case measure => simp [intOf]; omega
      · obtain ⟨d, hd⟩ : ∃ d, getT (tabH [] h) j = some d := Option.ne_none_iff_exists'.1 hg
        rw [hd] at hlay
        have HLY := Aside0.mk (show layR 1048576 (recs h) (tabH [] h) j b = 51 from hlay)
        have HRL := Aside0.mk (show (recs h).length ≤ 520 * (k + 1) by omega)
        clear hlay hg hrl hd
        go_wp2_with (first
          | (go_at_call 23; refine (commit_no (w1 := wr) H.out (Below.refl _ _) RowA.firm j (by omega) (by omega) Ab0 b.length cb0 b rfl HCb.out HBY.out (by omega) 51 HLY.out (by decide)).mono ?_; rintro e w3 ⟨rfl, h3⟩; have H3 := Aside0.mk h3; clear h3 H))
        rw [← HNH.out] at H3
        rw [← HNH.out]
        go_roundw
        case rel => exact ⟨k + 1, h, by omega, by omega, by go_num, HN, HRL, H3⟩
        case measure => simp [intOf]; omega
theorem own : ownKnob Try.prog.godebug = none := by kernel_rfl
theorem laidOut : laidOutB Try.prog = true := by kernel_rfl
def IsRow (k : IntKind) (w : World) (a : Option Addr) (len cap : Nat) (zs : List Int) : Prop :=
  (a = none ∧ len = 0 ∧ cap = 0 ∧ zs = []) ∨
  ∃ x, a = some x ∧ len ≤ cap ∧ cap ≤ maxLen ∧ zs.length = cap ∧ (∀ i, i < zs.length → w.cell? (x.add i) = some (.int k (zs.getD i 0))) ∧ ∀ n ∈ zs, (Lit.int k n).wf = true
set_option maxRecDepth 100000 in
theorem lifted (os : Os) (started : os.Started) (H : Type) (enc : TypeId × Value → H) :
    ReturnsInHanded {} Try.checked os 9 .any (Rows.bookRowSpec.pre6 enc Try.prog Try.f9 Rows.bookRowRow.domain false) (Rows.bookRowSpec.post enc Try.prog Try.f9 false true false false) := by
  refine returnsInHanded_of_change_sized (C := Try.checked) own started (by kernel_rfl) Try.func9
    (ChangeSpec.witness6 (enc := enc) (C := Try.checked) false ⟨#[], #[.slice none 0 0, .slice none 0 0], []⟩ 8 (by kernel_rfl) (by kernel_rfl) (by kernel_rfl) (by kernel_rfl)) ?_
  intro W base args ds gs before hval0 hW hcnd hsz0 _
  have hsz : (DataW.weightsEach Try.prog (Try.f9.params.toList ++ Rows.bookRowSpec.plain.varTypes Try.prog) (ds ++ gs)).all (· ≤ reachBytes) = true := hsz0
  have hval : ∀ (j : Nat) t v, Try.f9.params[j]? = some t → args[j]? = some v → Value.okWide Try.prog W .any base t v := hval0
  have hW' := hW
  obtain ⟨p, q, hA0, hV, rfl, hfz, hnd⟩ := hW
  have hA : DataW.TrodAll enc Try.prog W 0 (fun _ => true) true Try.f9.params.toList args.toList ds p := hA0
  rw [Try.params9] at hA hval hsz
  obtain ⟨v0, vs0, d0, ds0, p0, q0, hargs, rfl, rfl, h0, r0⟩ := trodAll_cons hA
  obtain ⟨v1, vs1, d1, ds1, p1, q1, rfl, rfl, rfl, h1, r1⟩ := trodAll_cons r0
  obtain ⟨rfl, rfl, rfl⟩ := trodAll_nil r1
  obtain rfl : args = #[v0, v1] := by cases args; simp_all
  obtain ⟨rfl, rfl⟩ := trodVars_none hV
  obtain ⟨a0, len0, cap0, rfl⟩ := okWide_slice Try.underlying61 (hval 0 61 v0 rfl rfl)
  have k0 := h0
  have alt0 := okWide_alt Try.underlying61 (hval 0 61 _ rfl rfl)
  have lt0 : ∀ x ∈ p0, x.block < W.heap.size := by obtain ⟨m, hm⟩ := k0; exact DataW.trod_lt m _ _ _ hm
  obtain ⟨l0, rfl, hcap0, hC0, hok0⟩ := opens_arg opens_rows h0
  obtain ⟨a1, len1, cap1, rfl⟩ := okWide_slice Try.underlying24 (hval 1 24 v1 rfl rfl)
  have k1 := h1
  have lt1 : ∀ x ∈ p1, x.block < W.heap.size := by obtain ⟨m, hm⟩ := k1; exact DataW.trod_lt m _ _ _ hm
  obtain ⟨z1, w1⟩ : ∃ zs, IsRow .u8 W a1 len1 cap1 zs := by
    obtain ⟨fuel, hf⟩ := h1
    rcases open_ints Try.underlying24 Try.underlying5 (by kernel_rfl) hf with ⟨hcs, _⟩ | ⟨x, l, c, zs, hcs, _, hl, hm, hz, _, hcell, hwz⟩
    · simp [Value.cells] at hcs
      obtain ⟨rfl, rfl, rfl⟩ := hcs
      exact ⟨[], .inl ⟨rfl, rfl, rfl, rfl⟩⟩
    · simp [Value.cells] at hcs
      obtain ⟨rfl, rfl, rfl⟩ := hcs
      exact ⟨zs, .inr ⟨_, rfl, hl, hm, by simpa using hz, hcell, hwz⟩⟩
  have y1 : len1 * 1 ≤ 140737488351232 := sized_ints hsz (j := 1) (t := 24) rfl rfl Try.underlying24 Try.underlying5 (by kernel_rfl) (by kernel_rfl) h1
  obtain ⟨l1, rfl, hr1, hm1, hwf1, hcap1⟩ := ReadsInt.ofRowC w1
  clear hA0 hval0 hsz0 hsz
  refine (walk W _ _ l0 hC0 hcap0 hok0 alt0 _ _ l1 (Kd.C_of_reads (d := (0 : Int)) (h1 := fun _ => rfl) hr1) hcap1 y1 hwf1).mono fun e W' ⟨he, bel⟩ => ?_
  subst he
  exact ⟨_, rfl, _, _, _, [], _, [], hW', trodAll_mk1 (shut_bool Try.underlying4 _), (trodAll_cons_mk (Below.trod laidOut (by kernel_rfl) (of_decide_eq_true (by kernel_rfl)) k0 bel lt0) (trodAll_cons_mk (Below.trod laidOut (by kernel_rfl) (of_decide_eq_true (by kernel_rfl)) k1 bel lt1) trodAll_mk0)), rfl, bel.frame _, fun h => by cases h⟩
theorem over : Rows.bookRowRow.holds Try.pinned (OpenSpec.ofChange Rows.bookRowSpec) :=
  OpenClaim.holds_of_wide 9 Try.f9 rfl rfl rfl rfl rfl rfl rfl ⟨rfl, rfl, rfl, rfl, rfl⟩ rfl rfl rfl rfl rfl (by kernel_rfl) Try.func9 (by kernel_rfl)
    (of_decide_eq_true (by kernel_rfl)) (by unfold Func.isWrapper; first | (rw [if_pos (by decide +kernel)]; kernel_rfl) | (rw [if_neg (by decide +kernel)]; exact ⟨rfl, rfl⟩))
    (fun os started H enc _ => lifted os started H enc)
end Go.Proofs.Ytfcpnjoiloahcaa.BookRow
namespace Go.Proofs.Ytfcpnjoiloahcaa
/-- The statement. -/
theorem bookRow_holds : Rows.BookRowSaid := BookRow.over
#print axioms bookRow_holds
end Go.Proofs.Ytfcpnjoiloahcaa
