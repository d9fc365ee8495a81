/- BookOpens: any bytes in a file; records, and others, with bytes turned. No condition. -/
import Derived.Test.YtfcpnjoiloahcaaM4
import Derived.Test.YtfcpnjoiloahcaaRows
import Derived.ProofKit
import Derived.OpenShut
import Derived.ShutString
import Derived.ChangeOld
import Derived.SizedLaws
import Derived.Test.YtfcpnjoiloahcaaWSized
namespace Go.Proofs.Ytfcpnjoiloahcaa.BookOpens
open Go.ChangeShapes Go.WideShapes Go.ChangeAt Go.RowKit Go.Proofs.YtfcpnjoiloahcaaW.PrintWords Go.Proofs.YtfcpnjoiloahcaaW.PrintLast Go.Proofs.YtfcpnjoiloahcaaW.PrintMore Go.Proofs.Ytfcpnjoiloahcaa.B Go.Proofs.Ytfcpnjoiloahcaa.O Go.Proofs.Ytfcpnjoiloahcaa.Bk Go.Proofs.Ytfcpnjoiloahcaa.Mk Go.Proofs.Ytfcpnjoiloahcaa.Ta Go.Proofs.Ytfcpnjoiloahcaa.Fs Go.Proofs.Ytfcpnjoiloahcaa.Sp Go.Proofs.Ytfcpnjoiloahcaa.Ls Go.Proofs.Ytfcpnjoiloahcaa.Gs Go.Proofs.Ytfcpnjoiloahcaa.S Go.Proofs.Ytfcpnjoiloahcaa.R Go.Proofs.Ytfcpnjoiloahcaa.Go1
set_option linter.unusedVariables false
set_option linter.unusedSimpArgs false
theorem tabs_first {W0 w : World} {N : Nat → Prop} {P Q F G : Assn} (h : AtP W0 N w (Star (Star P F) (Star Q G))) : AtP W0 N w (Star P (Star Q (Star G F))) :=
  h.first.right (fun o ho => star_assoc (star_swap ho))
/-- A row of bytes becomes a file's. -/
theorem row_file {W0 w : World} {N : Nat → Prop} {R : Assn} {v : Value} {s : List Int} {room : Int} (h : AtP W0 N w (Star (RowA kU8 5 v s) R)) (hR : Firm R) (hok : FOk room s []) :
    AtP W0 N (w.alloc (.cells #[.int .i64 room, v, .slice none 0 0] 43)) (Star (FileM w.heap.size room s []) R) := by
  refine h.step hR (fun own hp => ⟨⟨fun k => own k ∨ k = w.heap.size, ⟨⟨v, .slice none 0 0, own, fun _ => False, heap_alloc_new _ _, ?_, Kd.R_nil _ _ _ _ _, fun _ _ h => h, fun k hk => ?_, .inr rfl, fun k hk => ?_⟩, hok⟩, fun k hk => hk.imp id (fun e => by omega)⟩, Keep.of_below ((Below.refl _ _).alloc (Nat.le_refl _) _)⟩)
  · exact (Buf.of_R (Kd.R_alloc hp.1 _)).mono (fun k hk _ => hk.1)
  · rcases hk with hk | hk
    · exact ⟨.inl hk, by have := hp.2 k hk; omega⟩
    · exact hk.elim
  · rw [World.size_alloc]
    rcases hk with hk | hk
    · have := hp.2 k hk; omega
    · omega
theorem put_small {n : Nat} (h : n < 128) : putl n = [(n : Int)] := by rw [putl, if_pos h]
set_option maxHeartbeats 8000000 in
set_option maxRecDepth 100000 in
theorem walk (w : World) (A : Option Addr) (c : Nat) (m : List (Int × List Int)) (hC : kF.C w A m.length m) (hcap : m.length ≤ c) (hok : (∀ v ∈ m, FrOk v) ∧ m.length ≤ 9223372036854775807) (_ : ∀ a, A = some a → a.block < w.heap.size)
    (A1 : Option Addr) (c1 : Nat) (js : List Int) (hC1 : kU8.C w A1 js.length js) (hc1 : js.length ≤ c1) (hm1 : js.length * 1 ≤ 140737488351232) (hwf1 : ∀ x ∈ js, (Lit.int .u8 x).wf = true)
    (A2 : Option Addr) (c2 : Nat) (at1 : List Int) (hC2 : (Kd.int .i64).C w A2 at1.length at1) (hc2 : at1.length ≤ c2) (hm2 : at1.length * 8 ≤ 140737488351232) (hwf2 : ∀ x ∈ at1, (Lit.int .i64 x).wf = true)
    (A4 : Option Addr) (c4 : Nat) (bt : List Int) (hC4 : kU8.C w A4 bt.length bt) (hc4 : bt.length ≤ c4) (hm4 : bt.length * 1 ≤ 140737488351232) (hwf4 : ∀ x ∈ bt, (Lit.int .u8 x).wf = true)
    (A5 : Option Addr) (c5 : Nat) (mo : List Int) (hC5 : kU8.C w A5 mo.length mo) (hc5 : mo.length ≤ c5) (hm5 : mo.length * 1 ≤ 140737488351232) (hwf5 : ∀ x ∈ mo, (Lit.int .u8 x).wf = true) :
    Calls Try.prog 5 #[.slice A m.length c, .slice A1 js.length c1, .slice A2 at1.length c2, .slice A4 bt.length c4, .slice A5 mo.length c5] w fun e w' => e = .returned (.bool true) ∧ Below w.heap.size w w' := by
  have HYJ := Aside0.mk (show By js from fun x hx => wf_u8 (hwf1 x hx))
  have HYB := Aside0.mk (show By bt from fun x hx => wf_u8 (hwf4 x hx))
  have HYM := Aside0.mk (show By mo from fun x hx => wf_u8 (hwf5 x hx))
  have HC := Aside0.mk hC
  have HC1 := Aside0.mk hC1
  have HC2 := Aside0.mk hC2
  have HC4 := Aside0.mk hC4
  have HC5 := Aside0.mk hC5
  have HOK := Aside0.mk hok.1
  have hml := hok.2
  have mixed : Try.prog.follows .mixedOrders = true := by kernel_rfl
  clear hwf1 hwf2 hwf4 hwf5 hC hC1 hC2 hC4 hC5 hok
  by_cases h1 : 20 < m.length
  · have e1 : decide ((20 : Int) < m.length) = true := by simp; omega
    go_enter Try.func5, Try.ntmps5
    go_wp2_with (first | (go_at_call 15; refine (awake_calls _).mono ?_; rintro e w1 ⟨rfl, hb1⟩))
    go_ret
    exact ⟨rfl, hb1⟩
  have e1 : decide ((20 : Int) < m.length) = false := by simp; omega
  by_cases h2 : 500 < mo.length
  · have e2 : decide ((500 : Int) < mo.length) = true := by simp; omega
    go_enter Try.func5, Try.ntmps5
    go_wp2_with (first | (go_at_call 15; refine (awake_calls _).mono ?_; rintro e w1 ⟨rfl, hb1⟩))
    go_ret
    exact ⟨rfl, hb1⟩
  have e2 : decide ((500 : Int) < mo.length) = false := by simp; omega
  go_enter Try.func5, Try.ntmps5
  go_wp2_with (first | (go_at_call 15; refine (awake_calls _).mono ?_; rintro e w1 ⟨rfl, hb1⟩; have HB1 := Aside0.mk hb1; clear hb1))
  have HR1 := Aside0.mk (Kd.R_nil kU8 5 w1 w.heap.size (fun _ => True))
  have HX1 := Aside0.mk (show By [] from fun x hx => by cases hx)
  go_loopw [11, 33] (fun vx vi wr => ∃ (k : Nat) (xs : List Int), k ≤ m.length ∧ vi = .int .i64 k ∧ Aside0 (By xs) ∧ xs.length ≤ 220 * k ∧ Aside0 (kU8.R 5 wr w.heap.size (fun _ => True) vx xs) ∧ Aside0 (Below w.heap.size w wr)) (fun _ vi _ => m.length - (intOf vi).toNat)
  case atStart => exact ⟨0, [], by omega, rfl, HX1, by simp, HR1, HB1⟩
  case round =>
    clear HR1 HB1 HX1
    obtain ⟨k, xs, hk, rfl, HX, hxl, HR, HB⟩ := hrel
    have hzw := HB.out.size
    obtain ⟨A11, c11, rfl, hc11, -⟩ := Kd.R_reads HR.out
    by_cases hgo : k < m.length
    · obtain ⟨⟨kd, bb⟩, hp⟩ : ∃ p, m[k]? = some p := ⟨_, List.getElem?_eq_getElem hgo⟩
      obtain ⟨⟨hk0, hk1⟩, hbby⟩ := HOK.out _ (List.mem_of_getElem? hp)
      simp only at hk0 hk1 hbby
      obtain ⟨ad, A6, c6, rfl, q0, q1, hcc, hCb⟩ := Gc.F_get (Kd.C_below HC.out HB.out) hp
      have HBB := Aside0.mk hbby
      obtain ⟨W, hW⟩ : ∃ W, W = wr.alloc (.cells #[.int .u8 kd, .slice A6 bb.length c6] 27) := ⟨_, rfl⟩
      have hwk : Below wr.heap.size wr W := by rw [hW]; exact (Below.refl _ _).alloc (Nat.le_refl _) _
      have hwn : W.heap[wr.heap.size]? = some (.cells #[.int .u8 kd, .slice A6 bb.length c6] 27 (0, 0)) := by rw [hW]; exact heap_alloc_new _ _
      have HCb := Aside0.mk (Kd.C_below hCb hwk)
      have HWB := Aside0.mk (HB.out.trans (hwk.mono hzw))
      clear hp hbby hCb
      by_cases h200 : 200 < bb.length
      · have e200 : decide ((200 : Int) < bb.length) = true := by simp; omega
        go_wp2_with fail
        go_ret
        exact ⟨rfl, by rw [← hW]; exact HWB.out⟩
      have e200 : decide ((200 : Int) < bb.length) = false := by simp; omega
      by_cases hjl : k < js.length
      · have ejl : decide (k < js.length) = true := by simp; omega
        obtain ⟨y, hy⟩ : ∃ y, js[k]? = some y := ⟨_, List.getElem?_eq_getElem hjl⟩
        have hyr := HYJ.out.at hy
        obtain ⟨ad1, rfl⟩ := C_some HC1.out (by omega)
        have qj := C_cell (Kd.C_below HC1.out HWB.out) hy
        obtain ⟨j, hj⟩ : ∃ j : Nat, y.tmod 20 = (j : Int) := ⟨(y.tmod 20).toNat, by have := tmod_range (a := y) (b := 20) (by omega) (by omega); omega⟩
        have hj20 : j < 20 := by have := tmod_range (a := y) (b := 20) (by omega) (by omega); omega
        have y5 : y % 20 = (j : Int) := by rw [← hj, Int.tmod_eq_emod_of_nonneg (by omega)]
        have y6 := wrU64 (j : Int) (by omega) (by omega)
        have HPS := Aside0.mk (put_small (n := j) (by omega))
        have HX12 := Aside0.mk (show ∀ W', Keep (fun k => W.drew.heap.size ≤ k) W.drew W' → (W'.cell? ⟨wr.heap.size, 1, none⟩ = some (.slice A6 bb.length c6) ∧ W'.cell? (ad1.add k) = some (.int .u8 y)) ∧ kU8.C W' A6 bb.length bb ∧ W'.heap[wr.heap.size]? = some (.cells #[.int .u8 kd, .slice A6 bb.length c6] 27 (0, 0)) from fun W' hW' => by
          have hb : Below W.heap.size W W' := (Below.refl W.heap.size W).drew.trans (hW'.below (Nat.le_refl _) (fun i hi h => by have h2 : W.heap.size ≤ i := h; omega))
          have h := (hb.block wr.heap.size (blk_lt hwn)).trans hwn
          exact ⟨⟨by simp [World.cell?, h], pw_cell_below hb qj⟩, Kd.C_below HCb.out hb, h⟩)
        clear hy
        go_wp2_with fail
        rw [← hW]
        clear hW qj
        have hkk : k < js.length := hjl
        refine re_start [11] (fun k => W.drew.heap.size ≤ k) (by kernel_rfl) (n := 12) (l := #[false, false, false, false, false, false, false, false, false, false, false, false]) (by kernel_rfl) (by kernel_rfl) ?_
        refine re_take (fuel := 11) 0 rfl (by kernel_rfl) (listed' := #[true, false, false, false, false, false, false, false, false, false, false, false]) (by kernel_rfl) (fun _ _ _ h => h) (by kernel_rfl) (fun w' hR => by go_simp; first | done | with_reducible rfl) rfl ?_
        try simp only [Act.put, List.setIfInBounds_toArray, List.set_cons_zero, List.set_cons_succ]
        refine re_take (fuel := 10) 1 rfl (by kernel_rfl) (listed' := #[true, true, false, false, false, false, false, false, false, false, false, false]) (by kernel_rfl) (fun _ _ _ h => h) (by kernel_rfl) (fun w' hR => by go_simp; first | done | with_reducible rfl) rfl ?_
        try simp only [Act.put, List.setIfInBounds_toArray, List.set_cons_zero, List.set_cons_succ]
        refine re_take (fuel := 9) 2 rfl (by kernel_rfl) (listed' := #[true, true, true, false, false, false, false, false, false, false, false, false]) (by kernel_rfl) (fun _ _ _ h => h) (by kernel_rfl) (fun w' hR => by go_simp; first | done | with_reducible rfl) rfl ?_
        try simp only [Act.put, List.setIfInBounds_toArray, List.set_cons_zero, List.set_cons_succ]
        refine re_take (fuel := 8) 3 rfl (by kernel_rfl) (listed' := #[true, true, true, true, false, false, false, false, false, false, false, false]) (by kernel_rfl) (fun _ _ _ h => h) (by kernel_rfl) (fun w' hR => by obtain ⟨⟨x0, x1⟩, -⟩ := HX12.out w' hR; go_simp; first | done | with_reducible rfl) rfl ?_
        try simp only [Act.put, List.setIfInBounds_toArray, List.set_cons_zero, List.set_cons_succ]
        refine re_take (fuel := 7) 4 rfl (by kernel_rfl) (listed' := #[true, true, true, true, true, false, false, false, false, false, false, false]) (by kernel_rfl) (fun _ _ _ h => h) (by kernel_rfl) (fun w' hR => by go_simp; first | done | with_reducible rfl) rfl ?_
        try simp only [Act.put, List.setIfInBounds_toArray, List.set_cons_zero, List.set_cons_succ]
        refine re_take (fuel := 6) 5 rfl (by kernel_rfl) (listed' := #[true, true, true, true, true, true, false, false, false, false, false, false]) (by kernel_rfl) (fun _ _ _ h => h) (by kernel_rfl) (fun w' hR => by go_simp; first | done | with_reducible rfl) rfl ?_
        try simp only [Act.put, List.setIfInBounds_toArray, List.set_cons_zero, List.set_cons_succ]
        refine re_take (fuel := 5) 7 rfl (by kernel_rfl) (listed' := #[true, true, true, true, true, true, false, true, false, false, false, false]) (by kernel_rfl) (fun _ _ _ h => h) (by kernel_rfl) (fun w' hR => by go_simp; first | done | with_reducible rfl) rfl ?_
        try simp only [Act.put, List.setIfInBounds_toArray, List.set_cons_zero, List.set_cons_succ]
        refine re_take (fuel := 4) 8 rfl (by kernel_rfl) (listed' := #[true, true, true, true, true, true, false, true, true, false, false, false]) (by kernel_rfl) (fun _ _ _ h => h) (by kernel_rfl) (fun w' hR => by obtain ⟨⟨x0, x1⟩, -⟩ := HX12.out w' hR; go_simp; first | done | with_reducible rfl) rfl ?_
        try simp only [Act.put, List.setIfInBounds_toArray, List.set_cons_zero, List.set_cons_succ]
        refine re_step (fuel := 3) 6 rfl (by kernel_rfl) (listed' := #[true, true, true, true, true, true, true, true, true, false, false, false]) (by kernel_rfl) (by kernel_rfl) (fun K' hK => ?_)
        go_wp2_with (first | (go_at_call 29; refine (Lr.put_calls none 0 [] (j : Int) _ (C_nil .u8 _) (by simp) (by omega) (by omega)).mono ?_; rintro e w6 ⟨v6, rfl, ho6, hb6⟩; rw [Int.toNat_natCast, HPS.out, List.nil_append] at ho6; have HO6 := Aside0.mk ho6; have HB6 := Aside0.mk hb6; clear ho6 hb6))
        refine hK.out _ _ (Keep.of_below HB6.out) ?_
        clear hK K'
        try simp only [Act.put, List.setIfInBounds_toArray, List.set_cons_zero, List.set_cons_succ]
        refine re_step (fuel := 2) 9 rfl (by kernel_rfl) (listed' := #[true, true, true, true, true, true, true, true, true, true, false, false]) (by kernel_rfl) (by kernel_rfl) (fun K' hK => ?_)
        obtain ⟨v7, w7, hr7, ho7, hg7, -⟩ := run_append_rows (P := Try.prog) 24 24 5 1 W.drew.heap.size Try.underlying24 Gc.infoU8 (by decide) v6 [(j : Int)] bb A6 bb.length c6 HO6.out (HX12.out w6 (Keep.of_below HB6.out)).2.1 HB6.out.size (by simp; omega); rw [List.singleton_append] at ho7; obtain ⟨A7, c7, rfl, hl7, hC7⟩ := Kd.R_reads ho7; have HC7 := Aside0.mk hC7; have HO7 := Aside0.mk ho7; have HK7 := Aside0.mk (show Keep (fun k => W.drew.heap.size ≤ k) w6 w7 from grown_keep hg7 (fun i hi => (Kd.R_base HO6.out i hi))); refine wp_append (.tmp 52) (.tmp 54) 24 24 rfl _ _ _ rfl rfl hr7 ?_; clear hr7 ho7 hg7 hC7
        refine hK.out _ _ HK7.out ?_
        clear hK K'
        try simp only [Act.put, List.setIfInBounds_toArray, List.set_cons_zero, List.set_cons_succ]
        refine re_take (fuel := 1) 10 rfl (by kernel_rfl) (listed' := #[true, true, true, true, true, true, true, true, true, true, true, false]) (by kernel_rfl) (fun _ _ _ h => h) (by kernel_rfl) (fun w' hR => by go_simp; first | done | with_reducible rfl) rfl ?_
        try simp only [Act.put, List.setIfInBounds_toArray, List.set_cons_zero, List.set_cons_succ]
        refine re_free (fuel := 0) 11 rfl (by kernel_rfl) (listed' := #[true, true, true, true, true, true, true, true, true, true, true, true]) (by kernel_rfl) (by kernel_rfl) (fun K' hK => ?_)
        obtain ⟨⟨x0, x1⟩, x2, x3⟩ := HX12.out w7 ((Keep.of_below HB6.out).trans HK7.out); have x4 := blk_frozen x3 0; have x5 := blk_frozen x3 1; have x6 : w7.cell? ⟨wr.heap.size, 0, none⟩ = some (.int .u8 kd) := (by simp [World.cell?, x3]); clear x2 x3; go_wp2_with fail
        refine hK.out _ _ trivial ?_
        clear hK K'
        try simp only [Act.put, List.setIfInBounds_toArray, List.set_cons_zero, List.set_cons_succ]
        refine re_done (by kernel_rfl) ?_
        have HOLD := Aside0.mk (show Below W.heap.size W w7 from (Below.refl W.heap.size W).drew.trans (((Keep.of_below HB6.out).trans HK7.out).below (Nat.le_refl _) (fun i hi h => by have h2 : W.heap.size ≤ i := h; omega)))
        have HA7 := Aside0.mk (fun a (ha : A7 = some a) => R_at (a := a) (by rw [← ha]; exact HO7.out))
        have HL7 := Aside0.mk (show ((j : Int) :: bb).length = bb.length + 1 by simp)
        have hwl : wr.heap.size < W.heap.size := blk_lt hwn
        rw [HL7.out] at HC7
        go_wp2_with fail
        obtain ⟨W8, hW8⟩ : ∃ W8, W8 = (w7.setCell ⟨wr.heap.size, 0, none⟩ (.int .u8 1)).setCell ⟨wr.heap.size, 1, none⟩ (.slice A7 (bb.length + 1) c7) := ⟨_, rfl⟩
        have HB8 := Aside0.mk (show Below wr.heap.size wr W8 by
          rw [hW8]
          exact ((hwk.trans (HOLD.out.mono (by omega))).setCell (p := ⟨wr.heap.size, 0, none⟩) (Nat.le_refl _) _).setCell (p := ⟨wr.heap.size, 1, none⟩) (Nat.le_refl _) _)
        have HCQ := Aside0.mk (show kU8.C W8 A7 (bb.length + 1) ((j : Int) :: bb) by
          rw [hW8]
          have hne : ∀ a, A7 = some a → a.block ≠ wr.heap.size := fun a ha => by
            have h2 : W.heap.size ≤ a.block := (HA7.out a ha).1
            omega
          exact C_blk HC7.out (fun a ha => (Below.heap_setCell _ _ _ _ (by show a.block ≠ wr.heap.size; exact hne a ha)).trans (Below.heap_setCell _ _ _ _ (by show a.block ≠ wr.heap.size; exact hne a ha))))
        have HBQ := Aside0.mk (show By ((j : Int) :: bb) from fun x hx => by
          rcases List.mem_cons.1 hx with rfl | hx
          · omega
          · exact HBB.out x hx)
        have HNQ := HL7
        have hjl : ((j : Int) :: bb).length ≤ 202 := by rw [HL7.out]; omega
        rw [← hW8]
        clear hW8 HOLD HA7 HC7 HK7 HO7 HO6 HB6 x4 x5
        obtain ⟨fl, hfl⟩ : ∃ fl, layL 1 ((j : Int) :: bb) = fl := ⟨_, rfl⟩
        obtain ⟨n, hn⟩ : ∃ n, fl.length = n := ⟨_, rfl⟩
        have hnl : n = 6 + (putl ((j : Int) :: bb).length).length + ((j : Int) :: bb).length := by rw [← hn, ← hfl, lay_len]
        have hpl := (putl_three (n := ((j : Int) :: bb).length) (by omega)).2
        have hn600 : n ≤ 212 := by omega
        have HFL := Aside0.mk hfl
        have HN := Aside0.mk hn
        have HXF := Aside0.mk (show By (xs ++ fl) from By.append HX.out (by rw [← hfl]; exact lay_by (by decide) HBQ.out))
        have HRW := Aside0.mk (Kd.R_below HR.out HB8.out)
        have HWW := Aside0.mk (HB.out.trans (HB8.out.mono HB.out.size))
        clear hfl hn hnl hpl
        go_wp2_with (first
          | (go_at_call 11; refine (Gc.rlay_n 1 (by decide) (by decide) A7 c7 ((j : Int) :: bb) (bb.length + 1) HNQ.out fl n HFL.out HN.out _ HCQ.out HBQ.out (by omega)).mono ?_; rintro e w2 ⟨A12, c12, rfl, -, hC12, -, hb⟩; have HB2 := Aside0.mk (HWW.out.trans (hb.mono HWW.out.size)); have HC12 := Aside0.mk hC12; have HR2 := Aside0.mk (Kd.R_below HRW.out hb); clear hb hC12)
          | ((with_reducible refine gate_builtin (b := .append) (xs := #[.tmp 57, .tmp 62]) rfl ?_); at_builtin; refine Kd.R_append_rows (Kd.int .u8) (w0 := w) w.heap.size rfl (.tmp 57) (.tmp 62) 24 5 (.int .u8 0) 1 rfl Try.underlying24 infoU8 rfl (by decide) (by omega) (.slice A11 xs.length c11) xs fl _ _ _ (fun _ => True) (fun _ => False) rfl rfl ?aO ?aR (fun _ _ h => h) (fun _ h => h.elim) ?aF ?aB ?aS ?aL ?_; (case aR => exact HC12.out); (case aB => exact HB2.out); (case aF => exact (fun _ _ => trivial)); (case aO => exact HR2.out); (case aS => (exact HB2.out.size)); (case aL => omega); (intro v3 w3 ho3 hb3 hg hat; have HO3 := Aside0.mk ho3; have HB3 := Aside0.mk hb3; clear ho3 hb3 hg hat)))
        go_roundw
        case rel => exact ⟨k + 1, xs ++ fl, by omega, by go_num, HXF, by rw [List.length_append, HN.out]; omega, HO3, HB3⟩
        case measure => simp [intOf]; omega
      · have ejl : decide (k < js.length) = false := by simp; omega
        have HB8 := Aside0.mk hwk
        obtain ⟨kq, hkq⟩ : ∃ kq, kq = kd := ⟨_, rfl⟩
        obtain ⟨bq, hbq⟩ : ∃ bq, bq = bb := ⟨_, rfl⟩
        obtain ⟨nq, hnq⟩ : ∃ nq, nq = bb.length := ⟨_, rfl⟩
        obtain ⟨Aq, hAq⟩ : ∃ Aq, Aq = A6 := ⟨_, rfl⟩
        obtain ⟨cq, hcq⟩ : ∃ cq, cq = c6 := ⟨_, rfl⟩
        have hkq0 : 0 ≤ kq := by omega
        have hkq1 : kq < 256 := by omega
        have HBQ := Aside0.mk (show By bq by rw [hbq]; exact HBB.out)
        have HNQ := Aside0.mk (show bq.length = nq by rw [hbq, hnq])
        have hqn : bq.length ≤ 202 := by rw [hbq]; omega
        have hqn2 : nq ≤ 202 := by omega
        have HCQ := Aside0.mk (show kU8.C W Aq nq bq by rw [hbq, hnq, hAq]; exact HCb.out)
        go_wp2_with fail
        rw [← hW]
        clear hW
        rw [← hkq, ← hnq, ← hAq, ← hcq]
        clear hkq hnq hAq hcq hbq
        obtain ⟨fl, hfl⟩ : ∃ fl, layL kq bq = fl := ⟨_, rfl⟩
        obtain ⟨n, hn⟩ : ∃ n, fl.length = n := ⟨_, rfl⟩
        have hnl : n = 6 + (putl bq.length).length + bq.length := by rw [← hn, ← hfl, lay_len]
        have hpl := (putl_three (n := bq.length) (by omega)).2
        have hn600 : n ≤ 212 := by omega
        have HFL := Aside0.mk hfl
        have HN := Aside0.mk hn
        have HXF := Aside0.mk (show By (xs ++ fl) from By.append HX.out (by rw [← hfl]; exact lay_by ⟨hkq0, hkq1⟩ HBQ.out))
        have HRW := Aside0.mk (Kd.R_below HR.out HB8.out)
        have HWW := Aside0.mk (HB.out.trans (HB8.out.mono HB.out.size))
        clear hfl hn hnl hpl
        go_wp2_with (first
          | (go_at_call 11; refine (Gc.rlay_n kq hkq0 hkq1 Aq cq bq nq HNQ.out fl n HFL.out HN.out _ HCQ.out HBQ.out (by omega)).mono ?_; rintro e w2 ⟨A12, c12, rfl, -, hC12, -, hb⟩; have HB2 := Aside0.mk (HWW.out.trans (hb.mono HWW.out.size)); have HC12 := Aside0.mk hC12; have HR2 := Aside0.mk (Kd.R_below HRW.out hb); clear hb hC12)
          | ((with_reducible refine gate_builtin (b := .append) (xs := #[.tmp 57, .tmp 62]) rfl ?_); at_builtin; refine Kd.R_append_rows (Kd.int .u8) (w0 := w) w.heap.size rfl (.tmp 57) (.tmp 62) 24 5 (.int .u8 0) 1 rfl Try.underlying24 infoU8 rfl (by decide) (by omega) (.slice A11 xs.length c11) xs fl _ _ _ (fun _ => True) (fun _ => False) rfl rfl ?aO ?aR (fun _ _ h => h) (fun _ h => h.elim) ?aF ?aB ?aS ?aL ?_; (case aR => exact HC12.out); (case aB => exact HB2.out); (case aF => exact (fun _ _ => trivial)); (case aO => exact HR2.out); (case aS => (exact HB2.out.size)); (case aL => omega); (intro v3 w3 ho3 hb3 hg hat; have HO3 := Aside0.mk ho3; have HB3 := Aside0.mk hb3; clear ho3 hb3 hg hat)))
        go_roundw
        case rel => exact ⟨k + 1, xs ++ fl, by omega, by go_num, HXF, by rw [List.length_append, HN.out]; omega, HO3, HB3⟩
        case measure => simp [intOf]; omega
    · have hke : k = m.length := by omega
      subst hke
      obtain ⟨n, hn⟩ : ∃ n, xs.length = n := ⟨_, rfl⟩
      have hn1 : n ≤ 4400 := by omega
      rw [hn] at HR hc11
      rw [hn]
      have HN := Aside0.mk hn
      clear hn hxl hzw
      obtain ⟨Ab, hAb⟩ : ∃ Ab, A11 = Ab := ⟨_, rfl⟩
      obtain ⟨cb, hcb⟩ : ∃ cb, c11 = cb := ⟨_, rfl⟩
      subst hAb hcb
      obtain ⟨wo, rfl⟩ : ∃ wo, wo = wr := ⟨_, rfl⟩
      go_wp2_with fail
      go_loopw [14] (fun vi wr => ∃ (k : Nat) (ys : List Int), k ≤ 3 ∧ vi = .int .i64 k ∧ Aside0 (ys.length = n ∧ By ys) ∧ Aside0 (kU8.R 5 wr w.heap.size (fun _ => True) (.slice A11 n c11) ys) ∧ Aside0 (Below w.heap.size w wr)) (fun vi _ => 3 - (intOf vi).toNat)
      case atStart => exact ⟨0, xs, by omega, rfl, ⟨HN.out, HX.out⟩, HR, HB⟩
      case round =>
        clear HR HB HX HN
        obtain ⟨k, ys, hk, rfl, HY, HR, HB⟩ := hrel
        by_cases hgo : k < at1.length ∧ k < bt.length ∧ k < 3 ∧ 0 < n
        · obtain ⟨g1, g2, g3, g4⟩ := hgo
          have d1 : decide ((k : Int) < at1.length) = true := by simp; omega
          have d2 : decide ((k : Int) < bt.length) = true := by simp; omega
          have d3 : decide ((k : Int) < 3) = true := by simp; omega
          have d4 : decide ((0 : Int) < n) = true := by simp; omega
          obtain ⟨x, hx⟩ : ∃ x, at1[k]? = some x := ⟨_, List.getElem?_eq_getElem g1⟩
          obtain ⟨y, hy⟩ : ∃ y, bt[k]? = some y := ⟨_, List.getElem?_eq_getElem g2⟩
          have hyr := HYB.out.at hy
          obtain ⟨ad1, rfl⟩ := C_some HC2.out (by omega)
          obtain ⟨ad2, rfl⟩ := C_some HC4.out (by omega)
          have q1 := C_cell (Kd.C_below HC2.out HB.out) hx
          have q2 := C_cell (Kd.C_below HC4.out HB.out) hy
          obtain ⟨iu, hiu⟩ : ∃ u, IntKind.u64.wrap x = u := ⟨_, rfl⟩
          have hiu0 := (wrU64_range x).1
          rw [hiu] at hiu0
          have hpr := tmod_range hiu0 (show (0 : Int) < (n : Int) by omega)
          obtain ⟨p, hp⟩ : ∃ p : Nat, iu.tmod (n : Int) = (p : Int) := ⟨(iu.tmod (n : Int)).toNat, by omega⟩
          rw [hp] at hpr
          have hpn : p < n := by omega
          have y2 := wrU64 (n : Int) (by omega) (by omega)
          have y3 := wrI64 (p : Int) (by omega) (by omega)
          have y4 : ((n : Int) = 0) = False := by simp; omega
          have y6 : (n = 0) = False := by simp; omega
          obtain ⟨j, hj⟩ : ∃ j : Nat, y.tmod 9 = (j : Int) := ⟨(y.tmod 9).toNat, by have := tmod_range (a := y) (b := 9) (by omega) (by omega); omega⟩
          have hj8 : j < 9 := by have := tmod_range (a := y) (b := 9) (by omega) (by omega); omega
          have y5 : y % 9 = (j : Int) := by rw [← hj, Int.tmod_eq_emod_of_nonneg (by omega)]
          have hpl : p < ys.length := by rw [HY.out.1]; exact hpn
          obtain ⟨gb, rfl, hgb, hgl⟩ := R_head0 HR.out (by omega)
          obtain ⟨z, hz, hcz, hfz⟩ := R_at_ HR.out hpl
          have HZR := Aside0.mk (HY.out.2.at hz)
          have HSET := Aside0.mk (fun x : Int => R_set HR.out p hpl x)
          have HF := Aside0.mk (show ∀ W, Keep (fun _ => False) wr.drew W → (W.cell? ⟨gb, p, none⟩ = some (.int .u8 z) ∧ W.frozen? ⟨gb, p, none⟩ = false) ∧ W.cell? (ad1.add k) = some (.int .i64 x) ∧ W.cell? (ad2.add k) = some (.int .u8 y) from fun W hW =>
            ⟨⟨(World.cell?_of_block (a := ⟨gb, p, none⟩) (hW.block gb hgl (fun h => h))).trans hcz, (World.frozen?_of_block (a := ⟨gb, p, none⟩) (hW.block gb hgl (fun h => h))).trans hfz⟩, pw_cell_below ((Below.refl wr.heap.size wr).drew.trans (hW.below (Nat.le_refl _) (fun _ _ h => h))) q1, pw_cell_below ((Below.refl wr.heap.size wr).drew.trans (hW.below (Nat.le_refl _) (fun _ _ h => h))) q2⟩)
          have HCUR := Aside0.mk (Keep.refl (fun _ => False) wr.drew)
          have p9 : (p : Int) < (n : Int) := by omega
          clear hx hy hz hcz hfz hpl q1 q2 hiu0 hpr
          go_wp2_with fail
          refine re_start [21] (fun _ => False) (by kernel_rfl) (n := 22) (l := #[false, false, false, false, false, false, false, false, false, false, false, false, false, false, false, false, false, false, false, false, false, false]) (by kernel_rfl) (by kernel_rfl) ?_
          refine re_take (fuel := 21) 0 rfl (by kernel_rfl) (listed' := #[true, false, false, false, false, false, false, false, false, false, false, false, false, false, false, false, false, false, false, false, false, false]) (by kernel_rfl) (fun _ _ _ h => h) (by kernel_rfl) (fun w' hR => by go_simp; first | done | with_reducible rfl) rfl ?_
          try simp only [Act.put, List.setIfInBounds_toArray, List.set_cons_zero, List.set_cons_succ]
          refine re_take (fuel := 20) 1 rfl (by kernel_rfl) (listed' := #[true, true, false, false, false, false, false, false, false, false, false, false, false, false, false, false, false, false, false, false, false, false]) (by kernel_rfl) (fun _ _ _ h => h) (by kernel_rfl) (fun w' hR => by go_simp; first | done | with_reducible rfl) rfl ?_
          try simp only [Act.put, List.setIfInBounds_toArray, List.set_cons_zero, List.set_cons_succ]
          refine re_take (fuel := 19) 2 rfl (by kernel_rfl) (listed' := #[true, true, true, false, false, false, false, false, false, false, false, false, false, false, false, false, false, false, false, false, false, false]) (by kernel_rfl) (fun _ _ _ h => h) (by kernel_rfl) (fun w' hR => by go_simp; first | done | with_reducible rfl) rfl ?_
          try simp only [Act.put, List.setIfInBounds_toArray, List.set_cons_zero, List.set_cons_succ]
          refine re_take (fuel := 18) 3 rfl (by kernel_rfl) (listed' := #[true, true, true, true, false, false, false, false, false, false, false, false, false, false, false, false, false, false, false, false, false, false]) (by kernel_rfl) (fun _ _ _ h => h) (by kernel_rfl) (fun w' hR => by go_simp; first | done | with_reducible rfl) rfl ?_
          try simp only [Act.put, List.setIfInBounds_toArray, List.set_cons_zero, List.set_cons_succ]
          refine re_take (fuel := 17) 4 rfl (by kernel_rfl) (listed' := #[true, true, true, true, true, false, false, false, false, false, false, false, false, false, false, false, false, false, false, false, false, false]) (by kernel_rfl) (fun _ _ _ h => h) (by kernel_rfl) (fun w' hR => by obtain ⟨⟨x0, x1⟩, x2, x3⟩ := HF.out w' (HCUR.out.trans hR); go_simp; first | done | with_reducible rfl) rfl ?_
          try simp only [Act.put, List.setIfInBounds_toArray, List.set_cons_zero, List.set_cons_succ]
          refine re_take (fuel := 16) 5 rfl (by kernel_rfl) (listed' := #[true, true, true, true, true, true, false, false, false, false, false, false, false, false, false, false, false, false, false, false, false, false]) (by kernel_rfl) (fun _ _ _ h => h) (by kernel_rfl) (fun w' hR => by go_simp; first | done | with_reducible rfl) rfl ?_
          try simp only [Act.put, List.setIfInBounds_toArray, List.set_cons_zero, List.set_cons_succ]
          refine re_take (fuel := 15) 6 rfl (by kernel_rfl) (listed' := #[true, true, true, true, true, true, true, false, false, false, false, false, false, false, false, false, false, false, false, false, false, false]) (by kernel_rfl) (fun _ _ _ h => h) (by kernel_rfl) (fun w' hR => by go_simp; first | done | with_reducible rfl) rfl ?_
          try simp only [Act.put, List.setIfInBounds_toArray, List.set_cons_zero, List.set_cons_succ]
          refine re_take (fuel := 14) 7 rfl (by kernel_rfl) (listed' := #[true, true, true, true, true, true, true, true, false, false, false, false, false, false, false, false, false, false, false, false, false, false]) (by kernel_rfl) (fun _ _ _ h => h) (by kernel_rfl) (fun w' hR => by go_simp; first | done | with_reducible rfl) rfl ?_
          try simp only [Act.put, List.setIfInBounds_toArray, List.set_cons_zero, List.set_cons_succ]
          refine re_take (fuel := 13) 8 rfl (by kernel_rfl) (listed' := #[true, true, true, true, true, true, true, true, true, false, false, false, false, false, false, false, false, false, false, false, false, false]) (by kernel_rfl) (fun _ _ _ h => h) (by kernel_rfl) (fun w' hR => by go_simp; first | done | with_reducible rfl) rfl ?_
          try simp only [Act.put, List.setIfInBounds_toArray, List.set_cons_zero, List.set_cons_succ]
          refine re_take (fuel := 12) 9 rfl (by kernel_rfl) (listed' := #[true, true, true, true, true, true, true, true, true, true, false, false, false, false, false, false, false, false, false, false, false, false]) (by kernel_rfl) (fun _ _ _ h => h) (by kernel_rfl) (fun w' hR => by go_simp; first | done | with_reducible rfl) rfl ?_
          try simp only [Act.put, List.setIfInBounds_toArray, List.set_cons_zero, List.set_cons_succ]
          refine re_take (fuel := 11) 10 rfl (by kernel_rfl) (listed' := #[true, true, true, true, true, true, true, true, true, true, true, false, false, false, false, false, false, false, false, false, false, false]) (by kernel_rfl) (fun _ _ _ h => h) (by kernel_rfl) (fun w' hR => by go_simp; first | done | with_reducible rfl) rfl ?_
          try simp only [Act.put, List.setIfInBounds_toArray, List.set_cons_zero, List.set_cons_succ]
          refine re_take (fuel := 10) 11 rfl (by kernel_rfl) (listed' := #[true, true, true, true, true, true, true, true, true, true, true, true, false, false, false, false, false, false, false, false, false, false]) (by kernel_rfl) (fun _ _ _ h => h) (by kernel_rfl) (fun w' hR => by go_simp; first | done | with_reducible rfl) rfl ?_
          try simp only [Act.put, List.setIfInBounds_toArray, List.set_cons_zero, List.set_cons_succ]
          refine re_take (fuel := 9) 12 rfl (by kernel_rfl) (listed' := #[true, true, true, true, true, true, true, true, true, true, true, true, true, false, false, false, false, false, false, false, false, false]) (by kernel_rfl) (fun _ _ _ h => h) (by kernel_rfl) (fun w' hR => by obtain ⟨⟨x0, x1⟩, x2, x3⟩ := HF.out w' (HCUR.out.trans hR); go_simp; first | done | with_reducible rfl) rfl ?_
          try simp only [Act.put, List.setIfInBounds_toArray, List.set_cons_zero, List.set_cons_succ]
          refine re_take (fuel := 8) 13 rfl (by kernel_rfl) (listed' := #[true, true, true, true, true, true, true, true, true, true, true, true, true, true, false, false, false, false, false, false, false, false]) (by kernel_rfl) (fun _ _ _ h => h) (by kernel_rfl) (fun w' hR => by go_simp; first | done | with_reducible rfl) rfl ?_
          try simp only [Act.put, List.setIfInBounds_toArray, List.set_cons_zero, List.set_cons_succ]
          refine re_take (fuel := 7) 14 rfl (by kernel_rfl) (listed' := #[true, true, true, true, true, true, true, true, true, true, true, true, true, true, true, false, false, false, false, false, false, false]) (by kernel_rfl) (fun _ _ _ h => h) (by kernel_rfl) (fun w' hR => by go_simp; first | done | with_reducible rfl) rfl ?_
          try simp only [Act.put, List.setIfInBounds_toArray, List.set_cons_zero, List.set_cons_succ]
          refine re_take (fuel := 6) 15 rfl (by kernel_rfl) (listed' := #[true, true, true, true, true, true, true, true, true, true, true, true, true, true, true, true, false, false, false, false, false, false]) (by kernel_rfl) (fun _ _ _ h => h) (by kernel_rfl) (fun w' hR => by go_simp; first | done | with_reducible rfl) rfl ?_
          try simp only [Act.put, List.setIfInBounds_toArray, List.set_cons_zero, List.set_cons_succ]
          refine re_take (fuel := 5) 16 rfl (by kernel_rfl) (listed' := #[true, true, true, true, true, true, true, true, true, true, true, true, true, true, true, true, true, false, false, false, false, false]) (by kernel_rfl) (fun _ _ _ h => h) (by kernel_rfl) (fun w' hR => by obtain ⟨⟨x0, x1⟩, x2, x3⟩ := HF.out w' (HCUR.out.trans hR); go_simp; first | done | with_reducible rfl) rfl ?_
          try simp only [Act.put, List.setIfInBounds_toArray, List.set_cons_zero, List.set_cons_succ]
          refine re_take (fuel := 4) 17 rfl (by kernel_rfl) (listed' := #[true, true, true, true, true, true, true, true, true, true, true, true, true, true, true, true, true, true, false, false, false, false]) (by kernel_rfl) (fun _ _ _ h => h) (by kernel_rfl) (fun w' hR => by go_simp; first | done | with_reducible rfl) rfl ?_
          try simp only [Act.put, List.setIfInBounds_toArray, List.set_cons_zero, List.set_cons_succ]
          refine re_take (fuel := 3) 18 rfl (by kernel_rfl) (listed' := #[true, true, true, true, true, true, true, true, true, true, true, true, true, true, true, true, true, true, true, false, false, false]) (by kernel_rfl) (fun _ _ _ h => h) (by kernel_rfl) (fun w' hR => by go_simp; first | done | with_reducible rfl) rfl ?_
          try simp only [Act.put, List.setIfInBounds_toArray, List.set_cons_zero, List.set_cons_succ]
          refine re_take (fuel := 2) 19 rfl (by kernel_rfl) (listed' := #[true, true, true, true, true, true, true, true, true, true, true, true, true, true, true, true, true, true, true, true, false, false]) (by kernel_rfl) (fun _ _ _ h => h) (by kernel_rfl) (fun w' hR => by go_simp; first | done | with_reducible rfl) rfl ?_
          try simp only [Act.put, List.setIfInBounds_toArray, List.set_cons_zero, List.set_cons_succ]
          refine re_take (fuel := 1) 20 rfl (by kernel_rfl) (listed' := #[true, true, true, true, true, true, true, true, true, true, true, true, true, true, true, true, true, true, true, true, true, false]) (by kernel_rfl) (fun _ _ _ h => h) (by kernel_rfl) (fun w' hR => by go_simp; first | done | with_reducible rfl) rfl ?_
          try simp only [Act.put, List.setIfInBounds_toArray, List.set_cons_zero, List.set_cons_succ]
          refine re_free (fuel := 0) 21 rfl (by kernel_rfl) (listed' := #[true, true, true, true, true, true, true, true, true, true, true, true, true, true, true, true, true, true, true, true, true, true]) (by kernel_rfl) (by kernel_rfl) (fun K' hK => ?_)
          obtain ⟨⟨x0, x1⟩, x2, x3⟩ := HF.out wr.drew (Keep.refl _ _); go_wp2_with fail
          refine hK.out _ _ trivial ?_
          clear hK K'
          try simp only [Act.put, List.setIfInBounds_toArray, List.set_cons_zero, List.set_cons_succ]
          refine re_done (by kernel_rfl) ?_
          have hxr := xor8_range z ((2 : Int) ^ j % 256)
          generalize hyy : Go.bits .xor .u8 z ((2 : Int) ^ j % 256) = yy at hxr ⊢
          clear hyy
          have HR5 := Aside0.mk (show kU8.R 5 (wr.setCell ⟨gb, p, none⟩ (.int .u8 yy)).drew w.heap.size (fun _ => True) (.slice (some ⟨gb, 0, none⟩) n c11) (ys.set p yy) from Kd.R_below (HSET.out yy) (Below.refl _ _).drew)
          have HB5 := Aside0.mk (show Below w.heap.size w (wr.setCell ⟨gb, p, none⟩ (.int .u8 yy)).drew from (HB.out.setCell (p := ⟨gb, p, none⟩) hgb (.int .u8 yy)).drew)
          have HY5 := Aside0.mk (show (ys.set p yy).length = n ∧ By (ys.set p yy) from ⟨by rw [List.length_set, HY.out.1], fun v hv => by
            rcases List.mem_or_eq_of_mem_set hv with h | h
            · exact HY.out.2 v h
            · rw [h]; exact hxr⟩)
          clear HSET HF HCUR
          go_wp2_with fail
          go_roundw
          case rel => exact ⟨k + 1, ys.set p yy, by omega, by go_num, HY5, HR5, HB5⟩
          case measure => simp [intOf]; omega
        · go_upto_region 16 with fail
          go_cut [83] (fun s83 wx => s83 = .bool false ∧ wr = wx)
          case first =>
            by_cases g1 : k < at1.length
            · have d1 : decide ((k : Int) < at1.length) = true := by simp; omega
              by_cases g2 : k < bt.length
              · have d2 : decide ((k : Int) < bt.length) = true := by simp; omega
                by_cases g3 : k < 3
                · have d3 : decide ((k : Int) < 3) = true := by simp; omega
                  have d4 : decide (0 < n) = false := by simp; omega
                  go_wp2_with fail
                  go_meet
                  exact ⟨rfl, rfl⟩
                · have d3 : decide ((k : Int) < 3) = false := by simp; omega
                  go_wp2_with fail
                  go_meet
                  exact ⟨rfl, rfl⟩
              · have d2 : decide ((k : Int) < bt.length) = false := by simp; omega
                go_wp2_with fail
                go_meet
                exact ⟨rfl, rfl⟩
            · have d1 : decide ((k : Int) < at1.length) = false := by simp; omega
              go_wp2_with fail
              go_meet
              exact ⟨rfl, rfl⟩
          case rest =>
            obtain ⟨rfl, rfl⟩ := hcut
            obtain ⟨X, hX⟩ : ∃ X, ys ++ mo = X := ⟨_, rfl⟩
            obtain ⟨nx, hnx⟩ : ∃ nx, X.length = nx := ⟨_, rfl⟩
            have hnxb : nx ≤ 4900 := by rw [← hnx, ← hX, List.length_append, HY.out.1]; omega
            have hbx : By X := by rw [← hX]; exact By.append HY.out.2 HYM.out
            have HBX := Aside0.mk hbx
            have HXX := Aside0.mk hX
            have HNX := Aside0.mk hnx
            have HFN := Aside0.mk (show FOk 1048576 [] [] from ⟨by decide, by decide, by decide, fun x hx => (by cases hx), trivial⟩)
            have HFX := Aside0.mk (show FOk 1048576 X [] from ⟨by decide, by decide, by rw [hnx]; omega, hbx, trivial⟩)
            have HWE := Aside0.mk (show wErr 1048576 (over [] []).length 0 nx = 0 by
              show (if (0 : Int) < 0 ∨ ((0 : Nat) : Int) < 0 then (2 : Int) else if (1048576 : Int) < 0 + nx then 50 else 0) = 0
              rw [if_neg (by omega), if_neg (by omega)])
            have HWQ := Aside0.mk (show wrQ 1048576 [] [] 0 X = [(0, X)] by
              unfold wrQ
              rw [hnx, if_pos HWE.out]
              rfl)
            have HOV := Aside0.mk (show over [((0 : Int), X)] [] = X by
              have h := laid_end [] X
              exact h)
            clear hX hnx hgo hbx
            go_wp2_with (first
              | ((with_reducible refine gate_builtin (b := .append) (xs := #[.tmp 107, .tmp 108]) rfl ?_); at_builtin; refine Kd.R_append_rows (Kd.int .u8) (w0 := w) w.heap.size rfl (.tmp 107) (.tmp 108) 24 5 (.int .u8 0) 1 rfl Try.underlying24 infoU8 rfl (by decide) (by omega) (.slice A11 n c11) ys mo _ _ _ (fun _ => True) (fun _ => False) rfl rfl ?aO ?aR (fun _ _ h => h) (fun _ h => h.elim) ?aF ?aB ?aS ?aL ?_; (case aR => exact (Kd.C_below HC5.out HB.out)); (case aB => exact HB.out); (case aF => exact (fun _ _ => trivial)); (case aO => exact HR.out); (case aS => (exact HB.out.size)); (case aL => (rw [HY.out.1]; omega)); (intro v3 w3 ho3 hb3 hg hat; obtain ⟨Ax, cx, hvx, hcx, hCx⟩ := Kd.R_reads ho3; rw [HXX.out, HNX.out] at hvx hcx hCx; rw [HXX.out] at ho3; subst hvx; have H3 := Aside0.mk (show AtP w (fun _ => False) w3 (RowA kU8 5 (.slice Ax nx cx) X) from ⟨fun k => w.heap.size ≤ k ∧ k < w3.heap.size, ⟨Kd.R_mono (Kd.R_lower (Kd.R_bound ho3) (Nat.zero_le _)) (fun k hk => ⟨hk.2.1, hk.2.2.1⟩), fun k hk => hk.2⟩, fun k hk => .inr hk.1, Keep.of_below hb3⟩); clear ho3 hb3 hg hat hCx))
              | (go_at_call 16; refine (Fd.new_calls 1048576 _ (by decide) (by decide)).mono ?_; rintro e w4 ⟨rfl, h4, hb4⟩; have H4 := Aside0.mk (H3.out.more RowA.firm hb4 (P := FileA w3.heap.size 1048576 [] []) (o1 := fun k => k = w3.heap.size) ⟨h4, HFN.out⟩ (fun k hk => by omega)); clear h4 hb4 H3)
              | (go_at_call 30; obtain ⟨o9, hr9, -, -⟩ := H4.out.swap.row FileA.firm; obtain ⟨Ax', cx', e9, -, hC9⟩ := Kd.R_reads hr9; injection e9 with e9a e9b e9c; rw [← e9a, HNX.out] at hC9; refine (f_write (w1 := w4) H4.out (Below.refl _ _) RowA.firm (by decide) 0 (by decide) (by decide) Ax nx cx X HNX.out hC9 HBX.out 0 HWE.out).mono ?_; rintro e w5 ⟨rfl, h5⟩; rw [HWQ.out] at h5; have H5 := Aside0.mk h5; clear h5 hr9 hC9 e9a e9b e9c H4)
              | (go_at_call 31; refine (f_sync H5.out RowA.firm X HOV.out).mono ?_; rintro e w6 ⟨rfl, h6⟩; have H6 := Aside0.mk h6; clear h6 H5)
              | (go_at_call 17; refine (open_at H6.out RowA.firm X nx rfl HNX.out (by omega)).mono ?_; rintro e w7 ⟨gB, T, nn, rfl, ho, hnn, h7⟩; have H7 := Aside0.mk h7; have HO := Aside0.mk ho; clear h7 ho H6)
              | (go_at_call 18; refine (mopen_at (row_file H7.out.swap BookA.firm HFX.out) BookA.firm X nx rfl HNX.out (by omega)).mono ?_; rintro e w9 ⟨gM, T3, n3, rfl, ho3, -, h9⟩; obtain ⟨z1, z2⟩ := HO.out.same ho3; subst z1; subst z2; have H9 := Aside0.mk h9.swap; clear h9 ho3 H7))
            obtain ⟨gm, hgm⟩ : ∃ gm, gm = w7.heap.size := ⟨_, rfl⟩
            rw [← hgm] at H9
            obtain ⟨gf, hgf⟩ : ∃ gf, gf = w3.heap.size := ⟨_, rfl⟩
            rw [← hgf] at H9
            obtain ⟨s2, hs2⟩ : ∃ s2, X.take nn = s2 := ⟨_, rfl⟩
            rw [hs2] at H9
            obtain ⟨n2, hn2⟩ : ∃ n2, s2.length = n2 := ⟨_, rfl⟩
            have hfm2 : Firm (Star (BookA gB gf 1048576 s2 [] T) (BookM gM gm 1048576 s2 [] T)) := BookA.firm.star BookM.firm
            obtain ⟨A9, c9, hsf, -⟩ := m_safe H9.out.swap.second
            rw [hn2] at hsf
            have HN2 := Aside0.mk hn2
            have HF := Aside0.mk (show ∀ W, Keep (fun _ => False) w9.drew W → AtP w (fun _ => False) W (Star (BookA gB gf 1048576 s2 [] T) (BookM gM gm 1048576 s2 [] T)) from fun W hW => (H9.out.drew hfm2).below hfm2 (hW.below (Nat.le_refl _) (fun _ _ => id)))
            have HSF := Aside0.mk (show ∀ W, Keep (fun _ => False) w9.drew W → W.cell? ⟨gm, 1, none⟩ = some (.slice A9 n2 c9) from fun W hW => (((Below.refl w9.heap.size w9).drew.trans (hW.below (Nat.le_refl _) (fun _ _ => id))).cell (World.block_lt_of_cell? w9 _ hsf)).trans hsf)
            have HKR0 := Aside0.mk (Keep.refl (fun _ => False) w9.drew)
            rw [← hgm, ← hgf]
            clear hn2 hsf hs2 hgm hgf
            refine rk_start (fun _ => False) (by kernel_rfl) (n := 27) (l := #[false, false, false, false, false, false, false, false, false, false, false, false, false, false, false, false, false, false, false, false, false, false, false, false, false, false, false]) (by kernel_rfl) (by kernel_rfl) ?_
            refine rk_take (fuel := 26) 0 rfl (by kernel_rfl) (listed' := #[true, false, false, false, false, false, false, false, false, false, false, false, false, false, false, false, false, false, false, false, false, false, false, false, false, false, false]) (by kernel_rfl) (fun _ _ _ h => h) (by kernel_rfl) (fun w' hR => by go_simp; first | done | with_reducible rfl) rfl ?_
            try simp only [Act.put, List.setIfInBounds_toArray, List.set_cons_zero, List.set_cons_succ]
            refine rk_take (fuel := 25) 1 rfl (by kernel_rfl) (listed' := #[true, true, false, false, false, false, false, false, false, false, false, false, false, false, false, false, false, false, false, false, false, false, false, false, false, false, false]) (by kernel_rfl) (fun _ _ _ h => h) (by kernel_rfl) (fun w' hR => by go_simp; first | done | with_reducible rfl) rfl ?_
            try simp only [Act.put, List.setIfInBounds_toArray, List.set_cons_zero, List.set_cons_succ]
            refine rk_take (fuel := 24) 2 rfl (by kernel_rfl) (listed' := #[true, true, true, false, false, false, false, false, false, false, false, false, false, false, false, false, false, false, false, false, false, false, false, false, false, false, false]) (by kernel_rfl) (fun _ _ _ h => h) (by kernel_rfl) (fun w' hR => by go_simp; first | done | with_reducible rfl) rfl ?_
            try simp only [Act.put, List.setIfInBounds_toArray, List.set_cons_zero, List.set_cons_succ]
            refine rk_take (fuel := 23) 3 rfl (by kernel_rfl) (listed' := #[true, true, true, true, false, false, false, false, false, false, false, false, false, false, false, false, false, false, false, false, false, false, false, false, false, false, false]) (by kernel_rfl) (fun _ _ _ h => h) (by kernel_rfl) (fun w' hR => by go_simp; first | done | with_reducible rfl) rfl ?_
            try simp only [Act.put, List.setIfInBounds_toArray, List.set_cons_zero, List.set_cons_succ]
            refine rk_take (fuel := 22) 4 rfl (by kernel_rfl) (listed' := #[true, true, true, true, true, false, false, false, false, false, false, false, false, false, false, false, false, false, false, false, false, false, false, false, false, false, false]) (by kernel_rfl) (fun _ _ _ h => h) (by kernel_rfl) (fun w' hR => by go_simp; first | done | with_reducible rfl) rfl ?_
            try simp only [Act.put, List.setIfInBounds_toArray, List.set_cons_zero, List.set_cons_succ]
            refine rk_step (fuel := 21) 5 rfl (by kernel_rfl) (listed' := #[true, true, true, true, true, true, false, false, false, false, false, false, false, false, false, false, false, false, false, false, false, false, false, false, false, false, false]) (by kernel_rfl) (by kernel_rfl) (fun K' hK => ?_)
            go_wp2_with (first | (go_at_call 25; refine (shows_true (tabs_first (HF.out _ HKR0.out)) (FileM.firm.star FileA.firm)).mono ?_; rintro e wa ⟨rfl, hba⟩; have HKA := Aside0.mk (Keep.of_below (S := fun _ => False) hba); clear hba))
            refine hK.out _ _ HKA.out ?_
            clear hK K'
            try simp only [Act.put, List.setIfInBounds_toArray, List.set_cons_zero, List.set_cons_succ]
            refine rk_take (fuel := 20) 6 rfl (by kernel_rfl) (listed' := #[true, true, true, true, true, true, true, false, false, false, false, false, false, false, false, false, false, false, false, false, false, false, false, false, false, false, false]) (by kernel_rfl) (fun _ _ _ h => h) (by kernel_rfl) (fun w' hR => by go_simp; first | done | with_reducible rfl) rfl ?_
            try simp only [Act.put, List.setIfInBounds_toArray, List.set_cons_zero, List.set_cons_succ]
            refine rk_take (fuel := 19) 7 rfl (by kernel_rfl) (listed' := #[true, true, true, true, true, true, true, true, false, false, false, false, false, false, false, false, false, false, false, false, false, false, false, false, false, false, false]) (by kernel_rfl) (fun _ _ _ h => h) (by kernel_rfl) (fun w' hR => by go_simp; first | done | with_reducible rfl) rfl ?_
            try simp only [Act.put, List.setIfInBounds_toArray, List.set_cons_zero, List.set_cons_succ]
            refine rk_take (fuel := 18) 8 rfl (by kernel_rfl) (listed' := #[true, true, true, true, true, true, true, true, true, false, false, false, false, false, false, false, false, false, false, false, false, false, false, false, false, false, false]) (by kernel_rfl) (fun _ _ _ h => h) (by kernel_rfl) (fun w' hR => by go_simp; first | done | with_reducible rfl) rfl ?_
            try simp only [Act.put, List.setIfInBounds_toArray, List.set_cons_zero, List.set_cons_succ]
            refine rk_take (fuel := 17) 11 rfl (by kernel_rfl) (listed' := #[true, true, true, true, true, true, true, true, true, false, false, true, false, false, false, false, false, false, false, false, false, false, false, false, false, false, false]) (by kernel_rfl) (fun _ _ _ h => h) (by kernel_rfl) (fun w' hR => by go_simp; first | done | with_reducible rfl) rfl ?_
            try simp only [Act.put, List.setIfInBounds_toArray, List.set_cons_zero, List.set_cons_succ]
            refine rk_step (fuel := 16) 9 rfl (by kernel_rfl) (listed' := #[true, true, true, true, true, true, true, true, true, true, false, true, false, false, false, false, false, false, false, false, false, false, false, false, false, false, false]) (by kernel_rfl) (by kernel_rfl) (fun K' hK => ?_)
            go_wp2_with (first | (go_at_call 26; refine (f_bytes (HF.out _ HKA.out).second s2 n2 rfl HN2.out).mono ?_; rintro e wb ⟨A7, c7, rfl, hC7, -, -, hbb⟩; have HC7 := Aside0.mk hC7; have HKB9 := Aside0.mk (Keep.of_below (S := fun _ => False) hbb); clear hC7 hbb))
            refine hK.out _ _ HKB9.out ?_
            clear hK K'
            try simp only [Act.put, List.setIfInBounds_toArray, List.set_cons_zero, List.set_cons_succ]
            refine rk_take (fuel := 15) 10 rfl (by kernel_rfl) (listed' := #[true, true, true, true, true, true, true, true, true, true, true, true, false, false, false, false, false, false, false, false, false, false, false, false, false, false, false]) (by kernel_rfl) (fun _ _ _ h => h) (by kernel_rfl) (fun w' hR => by have x0 := Gc.C_str (c := c7) (Kd.C_below HC7.out (hR.below (Nat.le_refl _) (fun _ _ h => h))); go_simp; first | done | with_reducible rfl) rfl ?_
            try simp only [Act.put, List.setIfInBounds_toArray, List.set_cons_zero, List.set_cons_succ]
            refine rk_step (fuel := 14) 12 rfl (by kernel_rfl) (listed' := #[true, true, true, true, true, true, true, true, true, true, true, true, true, false, false, false, false, false, false, false, false, false, false, false, false, false, false]) (by kernel_rfl) (by kernel_rfl) (fun K' hK => ?_)
            go_wp2_with (first | (go_at_call 27; refine (m_bytes (HF.out _ (HKA.out.trans HKB9.out)).swap.second s2 n2 rfl HN2.out).mono ?_; rintro e wc ⟨A8, c8, rfl, hC8, -, -, hbc⟩; have HC8 := Aside0.mk hC8; have HKC := Aside0.mk (Keep.of_below (S := fun _ => False) hbc); clear hC8 hbc))
            refine hK.out _ _ HKC.out ?_
            clear hK K'
            try simp only [Act.put, List.setIfInBounds_toArray, List.set_cons_zero, List.set_cons_succ]
            refine rk_take (fuel := 13) 13 rfl (by kernel_rfl) (listed' := #[true, true, true, true, true, true, true, true, true, true, true, true, true, true, false, false, false, false, false, false, false, false, false, false, false, false, false]) (by kernel_rfl) (fun _ _ _ h => h) (by kernel_rfl) (fun w' hR => by have x0 := Gc.C_str (c := c8) (Kd.C_below HC8.out (hR.below (Nat.le_refl _) (fun _ _ h => h))); go_simp; first | done | with_reducible rfl) rfl ?_
            try simp only [Act.put, List.setIfInBounds_toArray, List.set_cons_zero, List.set_cons_succ]
            refine rk_take (fuel := 12) 14 rfl (by kernel_rfl) (listed' := #[true, true, true, true, true, true, true, true, true, true, true, true, true, true, true, false, false, false, false, false, false, false, false, false, false, false, false]) (by kernel_rfl) (fun _ _ _ h => h) (by kernel_rfl) (fun w' hR => by go_simp; first | done | with_reducible rfl) rfl ?_
            try simp only [Act.put, List.setIfInBounds_toArray, List.set_cons_zero, List.set_cons_succ]
            refine rk_take (fuel := 11) 15 rfl (by kernel_rfl) (listed' := #[true, true, true, true, true, true, true, true, true, true, true, true, true, true, true, true, false, false, false, false, false, false, false, false, false, false, false]) (by kernel_rfl) (fun _ _ _ h => h) (by kernel_rfl) (fun w' hR => by go_simp; first | done | with_reducible rfl) rfl ?_
            try simp only [Act.put, List.setIfInBounds_toArray, List.set_cons_zero, List.set_cons_succ]
            refine rk_take (fuel := 10) 16 rfl (by kernel_rfl) (listed' := #[true, true, true, true, true, true, true, true, true, true, true, true, true, true, true, true, true, false, false, false, false, false, false, false, false, false, false]) (by kernel_rfl) (fun _ _ _ h => h) (by kernel_rfl) (fun w' hR => by go_simp; first | done | with_reducible rfl) rfl ?_
            try simp only [Act.put, List.setIfInBounds_toArray, List.set_cons_zero, List.set_cons_succ]
            refine rk_take (fuel := 9) 17 rfl (by kernel_rfl) (listed' := #[true, true, true, true, true, true, true, true, true, true, true, true, true, true, true, true, true, true, false, false, false, false, false, false, false, false, false]) (by kernel_rfl) (fun _ _ _ h => h) (by kernel_rfl) (fun w' hR => by go_simp; first | done | with_reducible rfl) rfl ?_
            try simp only [Act.put, List.setIfInBounds_toArray, List.set_cons_zero, List.set_cons_succ]
            refine rk_take (fuel := 8) 19 rfl (by kernel_rfl) (listed' := #[true, true, true, true, true, true, true, true, true, true, true, true, true, true, true, true, true, true, false, true, false, false, false, false, false, false, false]) (by kernel_rfl) (fun _ _ _ h => h) (by kernel_rfl) (fun w' hR => by go_simp; first | done | with_reducible rfl) rfl ?_
            try simp only [Act.put, List.setIfInBounds_toArray, List.set_cons_zero, List.set_cons_succ]
            refine rk_take (fuel := 7) 20 rfl (by kernel_rfl) (listed' := #[true, true, true, true, true, true, true, true, true, true, true, true, true, true, true, true, true, true, false, true, true, false, false, false, false, false, false]) (by kernel_rfl) (fun _ _ _ h => h) (by kernel_rfl) (fun w' hR => by go_simp; first | done | with_reducible rfl) rfl ?_
            try simp only [Act.put, List.setIfInBounds_toArray, List.set_cons_zero, List.set_cons_succ]
            refine rk_take (fuel := 6) 21 rfl (by kernel_rfl) (listed' := #[true, true, true, true, true, true, true, true, true, true, true, true, true, true, true, true, true, true, false, true, true, true, false, false, false, false, false]) (by kernel_rfl) (fun _ _ _ h => h) (by kernel_rfl) (fun w' hR => by go_simp; first | done | with_reducible rfl) rfl ?_
            try simp only [Act.put, List.setIfInBounds_toArray, List.set_cons_zero, List.set_cons_succ]
            refine rk_take (fuel := 5) 22 rfl (by kernel_rfl) (listed' := #[true, true, true, true, true, true, true, true, true, true, true, true, true, true, true, true, true, true, false, true, true, true, true, false, false, false, false]) (by kernel_rfl) (fun _ _ _ h => h) (by kernel_rfl) (fun w' hR => by have x0 := HSF.out w' ((HKA.out.trans HKB9.out).trans (HKC.out.trans hR)); go_simp; first | done | with_reducible rfl) rfl ?_
            try simp only [Act.put, List.setIfInBounds_toArray, List.set_cons_zero, List.set_cons_succ]
            refine rk_take (fuel := 4) 23 rfl (by kernel_rfl) (listed' := #[true, true, true, true, true, true, true, true, true, true, true, true, true, true, true, true, true, true, false, true, true, true, true, true, false, false, false]) (by kernel_rfl) (fun _ _ _ h => h) (by kernel_rfl) (fun w' hR => by go_simp; first | done | with_reducible rfl) rfl ?_
            try simp only [Act.put, List.setIfInBounds_toArray, List.set_cons_zero, List.set_cons_succ]
            refine rk_step (fuel := 3) 18 rfl (by kernel_rfl) (listed' := #[true, true, true, true, true, true, true, true, true, true, true, true, true, true, true, true, true, true, true, true, true, true, true, true, false, false, false]) (by kernel_rfl) (by kernel_rfl) (fun K' hK => ?_)
            go_wp2_with (first | (go_at_call 28; refine (f_sure (HF.out _ ((HKA.out.trans HKB9.out).trans HKC.out)).second).mono ?_; rintro e wd ⟨rfl, rfl⟩; (try rw [HN2.out])))
            refine hK.out _ _ (Keep.refl _ _) ?_
            clear hK K'
            try simp only [Act.put, List.setIfInBounds_toArray, List.set_cons_zero, List.set_cons_succ]
            refine rk_take (fuel := 2) 24 rfl (by kernel_rfl) (listed' := #[true, true, true, true, true, true, true, true, true, true, true, true, true, true, true, true, true, true, true, true, true, true, true, true, true, false, false]) (by kernel_rfl) (fun _ _ _ h => h) (by kernel_rfl) (fun w' hR => by go_simp; first | done | with_reducible rfl) rfl ?_
            try simp only [Act.put, List.setIfInBounds_toArray, List.set_cons_zero, List.set_cons_succ]
            refine rk_take (fuel := 1) 25 rfl (by kernel_rfl) (listed' := #[true, true, true, true, true, true, true, true, true, true, true, true, true, true, true, true, true, true, true, true, true, true, true, true, true, true, false]) (by kernel_rfl) (fun _ _ _ h => h) (by kernel_rfl) (fun w' hR => by go_simp; first | done | with_reducible rfl) rfl ?_
            try simp only [Act.put, List.setIfInBounds_toArray, List.set_cons_zero, List.set_cons_succ]
            refine rk_take (fuel := 0) 26 rfl (by kernel_rfl) (listed' := #[true, true, true, true, true, true, true, true, true, true, true, true, true, true, true, true, true, true, true, true, true, true, true, true, true, true, true]) (by kernel_rfl) (fun _ _ _ h => h) (by kernel_rfl) (fun w' hR => by go_simp; first | done | with_reducible rfl) rfl ?_
            try simp only [Act.put, List.setIfInBounds_toArray, List.set_cons_zero, List.set_cons_succ]
            refine rk_done (by kernel_rfl) ?_
            go_wp2
            go_ret
            exact ⟨rfl, (HF.out _ ((HKA.out.trans HKB9.out).trans HKC.out)).keep.below (Nat.le_refl _) (fun _ _ h => h)⟩
theorem own : ownKnob Try.prog.godebug = none := by kernel_rfl
theorem laidOut : laidOutB Try.prog = true := by kernel_rfl
def IsRow (k : IntKind) (w : World) (a : Option Addr) (len cap : Nat) (zs : List Int) : Prop :=
  (a = none ∧ len = 0 ∧ cap = 0 ∧ zs = []) ∨
  ∃ x, a = some x ∧ len ≤ cap ∧ cap ≤ maxLen ∧ zs.length = cap ∧ (∀ i, i < zs.length → w.cell? (x.add i) = some (.int k (zs.getD i 0))) ∧ ∀ n ∈ zs, (Lit.int k n).wf = true
set_option maxRecDepth 100000 in
theorem lifted (os : Os) (started : os.Started) (H : Type) (enc : TypeId × Value → H) :
    ReturnsInHanded {} Try.checked os 5 .any (Rows.bookOpensSpec.pre6 enc Try.prog Try.f5 Rows.bookOpensRow.domain false) (Rows.bookOpensSpec.post enc Try.prog Try.f5 false true false false) := by
  refine returnsInHanded_of_change_sized (C := Try.checked) own started (by kernel_rfl) Try.func5
    (ChangeSpec.witness6 (enc := enc) (C := Try.checked) false ⟨#[], #[.slice none 0 0, .slice none 0 0, .slice none 0 0, .slice none 0 0, .slice none 0 0], []⟩ 8 (by kernel_rfl) (by kernel_rfl) (by kernel_rfl) (by kernel_rfl)) ?_
  intro W base args ds gs before hval0 hW hcnd hsz0 _
  have hsz : (DataW.weightsEach Try.prog (Try.f5.params.toList ++ Rows.bookOpensSpec.plain.varTypes Try.prog) (ds ++ gs)).all (· ≤ reachBytes) = true := hsz0
  have hval : ∀ (j : Nat) t v, Try.f5.params[j]? = some t → args[j]? = some v → Value.okWide Try.prog W .any base t v := hval0
  have hW' := hW
  obtain ⟨p, q, hA0, hV, rfl, hfz, hnd⟩ := hW
  have hA : DataW.TrodAll enc Try.prog W 0 (fun _ => true) true Try.f5.params.toList args.toList ds p := hA0
  rw [Try.params5] at hA hval hsz
  obtain ⟨v0, vs0, d0, ds0, p0, q0, hargs, rfl, rfl, h0, r0⟩ := trodAll_cons hA
  obtain ⟨v1, vs1, d1, ds1, p1, q1, rfl, rfl, rfl, h1, r1⟩ := trodAll_cons r0
  obtain ⟨v2, vs2, d2, ds2, p2, q2, rfl, rfl, rfl, h2, r2⟩ := trodAll_cons r1
  obtain ⟨v3, vs3, d3, ds3, p3, q3, rfl, rfl, rfl, h3, r3⟩ := trodAll_cons r2
  obtain ⟨v4, vs4, d4, ds4, p4, q4, rfl, rfl, rfl, h4, r4⟩ := trodAll_cons r3
  obtain ⟨rfl, rfl, rfl⟩ := trodAll_nil r4
  obtain rfl : args = #[v0, v1, v2, v3, v4] := by cases args; simp_all
  obtain ⟨rfl, rfl⟩ := trodVars_none hV
  obtain ⟨a0, len0, cap0, rfl⟩ := okWide_slice Try.underlying22 (hval 0 22 v0 rfl rfl)
  have k0 := h0
  have alt0 := okWide_alt Try.underlying22 (hval 0 22 _ rfl rfl)
  have lt0 : ∀ x ∈ p0, x.block < W.heap.size := by obtain ⟨m, hm⟩ := k0; exact DataW.trod_lt m _ _ _ hm
  obtain ⟨l0, rfl, hcap0, hC0, hok0⟩ := opens_arg opens_frames h0
  obtain ⟨a1, len1, cap1, rfl⟩ := okWide_slice Try.underlying24 (hval 1 24 v1 rfl rfl)
  have k1 := h1
  have lt1 : ∀ x ∈ p1, x.block < W.heap.size := by obtain ⟨m, hm⟩ := k1; exact DataW.trod_lt m _ _ _ hm
  obtain ⟨z1, w1⟩ : ∃ zs, IsRow .u8 W a1 len1 cap1 zs := by
    obtain ⟨fuel, hf⟩ := h1
    rcases open_ints Try.underlying24 Try.underlying5 (by kernel_rfl) hf with ⟨hcs, _⟩ | ⟨x, l, c, zs, hcs, _, hl, hm, hz, _, hcell, hwz⟩
    · simp [Value.cells] at hcs
      obtain ⟨rfl, rfl, rfl⟩ := hcs
      exact ⟨[], .inl ⟨rfl, rfl, rfl, rfl⟩⟩
    · simp [Value.cells] at hcs
      obtain ⟨rfl, rfl, rfl⟩ := hcs
      exact ⟨zs, .inr ⟨_, rfl, hl, hm, by simpa using hz, hcell, hwz⟩⟩
  have y1 : len1 * 1 ≤ 140737488351232 := sized_ints hsz (j := 1) (t := 24) rfl rfl Try.underlying24 Try.underlying5 (by kernel_rfl) (by kernel_rfl) h1
  obtain ⟨l1, rfl, hr1, hm1, hwf1, hcap1⟩ := ReadsInt.ofRowC w1
  obtain ⟨a2, len2, cap2, rfl⟩ := okWide_slice Try.underlying23 (hval 2 23 v2 rfl rfl)
  have k2 := h2
  have lt2 : ∀ x ∈ p2, x.block < W.heap.size := by obtain ⟨m, hm⟩ := k2; exact DataW.trod_lt m _ _ _ hm
  obtain ⟨z2, w2⟩ : ∃ zs, IsRow .i64 W a2 len2 cap2 zs := by
    obtain ⟨fuel, hf⟩ := h2
    rcases open_ints Try.underlying23 Try.underlying3 (by kernel_rfl) hf with ⟨hcs, _⟩ | ⟨x, l, c, zs, hcs, _, hl, hm, hz, _, hcell, hwz⟩
    · simp [Value.cells] at hcs
      obtain ⟨rfl, rfl, rfl⟩ := hcs
      exact ⟨[], .inl ⟨rfl, rfl, rfl, rfl⟩⟩
    · simp [Value.cells] at hcs
      obtain ⟨rfl, rfl, rfl⟩ := hcs
      exact ⟨zs, .inr ⟨_, rfl, hl, hm, by simpa using hz, hcell, hwz⟩⟩
  have y2 : len2 * 8 ≤ 140737488351232 := sized_ints hsz (j := 2) (t := 23) rfl rfl Try.underlying23 Try.underlying3 (by kernel_rfl) (by kernel_rfl) h2
  obtain ⟨l2, rfl, hr2, hm2, hwf2, hcap2⟩ := ReadsInt.ofRowC w2
  obtain ⟨a3, len3, cap3, rfl⟩ := okWide_slice Try.underlying24 (hval 3 24 v3 rfl rfl)
  have k3 := h3
  have lt3 : ∀ x ∈ p3, x.block < W.heap.size := by obtain ⟨m, hm⟩ := k3; exact DataW.trod_lt m _ _ _ hm
  obtain ⟨z3, w3⟩ : ∃ zs, IsRow .u8 W a3 len3 cap3 zs := by
    obtain ⟨fuel, hf⟩ := h3
    rcases open_ints Try.underlying24 Try.underlying5 (by kernel_rfl) hf with ⟨hcs, _⟩ | ⟨x, l, c, zs, hcs, _, hl, hm, hz, _, hcell, hwz⟩
    · simp [Value.cells] at hcs
      obtain ⟨rfl, rfl, rfl⟩ := hcs
      exact ⟨[], .inl ⟨rfl, rfl, rfl, rfl⟩⟩
    · simp [Value.cells] at hcs
      obtain ⟨rfl, rfl, rfl⟩ := hcs
      exact ⟨zs, .inr ⟨_, rfl, hl, hm, by simpa using hz, hcell, hwz⟩⟩
  have y3 : len3 * 1 ≤ 140737488351232 := sized_ints hsz (j := 3) (t := 24) rfl rfl Try.underlying24 Try.underlying5 (by kernel_rfl) (by kernel_rfl) h3
  obtain ⟨l3, rfl, hr3, hm3, hwf3, hcap3⟩ := ReadsInt.ofRowC w3
  obtain ⟨a4, len4, cap4, rfl⟩ := okWide_slice Try.underlying24 (hval 4 24 v4 rfl rfl)
  have k4 := h4
  have lt4 : ∀ x ∈ p4, x.block < W.heap.size := by obtain ⟨m, hm⟩ := k4; exact DataW.trod_lt m _ _ _ hm
  obtain ⟨z4, w4⟩ : ∃ zs, IsRow .u8 W a4 len4 cap4 zs := by
    obtain ⟨fuel, hf⟩ := h4
    rcases open_ints Try.underlying24 Try.underlying5 (by kernel_rfl) hf with ⟨hcs, _⟩ | ⟨x, l, c, zs, hcs, _, hl, hm, hz, _, hcell, hwz⟩
    · simp [Value.cells] at hcs
      obtain ⟨rfl, rfl, rfl⟩ := hcs
      exact ⟨[], .inl ⟨rfl, rfl, rfl, rfl⟩⟩
    · simp [Value.cells] at hcs
      obtain ⟨rfl, rfl, rfl⟩ := hcs
      exact ⟨zs, .inr ⟨_, rfl, hl, hm, by simpa using hz, hcell, hwz⟩⟩
  have y4 : len4 * 1 ≤ 140737488351232 := sized_ints hsz (j := 4) (t := 24) rfl rfl Try.underlying24 Try.underlying5 (by kernel_rfl) (by kernel_rfl) h4
  obtain ⟨l4, rfl, hr4, hm4, hwf4, hcap4⟩ := ReadsInt.ofRowC w4
  clear hA0 hval0 hsz0 hsz
  refine (walk W _ _ l0 hC0 hcap0 hok0 alt0 _ _ l1 (Kd.C_of_reads (d := (0 : Int)) (h1 := fun _ => rfl) hr1) hcap1 y1 hwf1 _ _ l2 (Kd.C_of_reads (d := (0 : Int)) (h1 := fun _ => rfl) hr2) hcap2 y2 hwf2 _ _ l3 (Kd.C_of_reads (d := (0 : Int)) (h1 := fun _ => rfl) hr3) hcap3 y3 hwf3 _ _ l4 (Kd.C_of_reads (d := (0 : Int)) (h1 := fun _ => rfl) hr4) hcap4 y4 hwf4).mono fun e W' ⟨he, bel⟩ => ?_
  subst he
  exact ⟨_, rfl, _, _, _, [], _, [], hW', trodAll_mk1 (shut_bool Try.underlying4 _), (trodAll_cons_mk (Below.trod laidOut (by kernel_rfl) (of_decide_eq_true (by kernel_rfl)) k0 bel lt0) (trodAll_cons_mk (Below.trod laidOut (by kernel_rfl) (of_decide_eq_true (by kernel_rfl)) k1 bel lt1) (trodAll_cons_mk (Below.trod laidOut (by kernel_rfl) (of_decide_eq_true (by kernel_rfl)) k2 bel lt2) (trodAll_cons_mk (Below.trod laidOut (by kernel_rfl) (of_decide_eq_true (by kernel_rfl)) k3 bel lt3) (trodAll_cons_mk (Below.trod laidOut (by kernel_rfl) (of_decide_eq_true (by kernel_rfl)) k4 bel lt4) trodAll_mk0))))), rfl, bel.frame _, fun h => by cases h⟩
theorem over : Rows.bookOpensRow.holds Try.pinned (OpenSpec.ofChange Rows.bookOpensSpec) :=
  OpenClaim.holds_of_wide 5 Try.f5 rfl rfl rfl rfl rfl rfl rfl ⟨rfl, rfl, rfl, rfl, rfl⟩ rfl rfl rfl rfl rfl (by kernel_rfl) Try.func5 (by kernel_rfl)
    (of_decide_eq_true (by kernel_rfl)) (by unfold Func.isWrapper; first | (rw [if_pos (by decide +kernel)]; kernel_rfl) | (rw [if_neg (by decide +kernel)]; exact ⟨rfl, rfl⟩))
    (fun os started H enc _ => lifted os started H enc)
end Go.Proofs.Ytfcpnjoiloahcaa.BookOpens
namespace Go.Proofs.Ytfcpnjoiloahcaa
/-- The statement. -/
theorem bookOpens_holds : Rows.BookOpensSaid := BookOpens.over
#print axioms bookOpens_holds
end Go.Proofs.Ytfcpnjoiloahcaa
