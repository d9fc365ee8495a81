/- FrameRows: frames one behind the other, with bytes turned, and any behind. No condition. -/
import Derived.Test.YtfcpnjoiloahcaaRows
import Derived.ProofKit
import Derived.OpenShut
import Derived.ShutString
import Derived.ChangeOld
import Derived.SizedLaws
import Derived.Test.YtfcpnjoiloahcaaWSized
import Derived.Test.YtfcpnjoiloahcaaGt
import Derived.Test.YtfcpnjoiloahcaaV
import Derived.Test.YtfcpnjoiloahcaaE
namespace Go.Proofs.Ytfcpnjoiloahcaa.FrameRows
open Go.ChangeShapes Go.WideShapes Go.ChangeAt Go.RowKit Go.Proofs.YtfcpnjoiloahcaaW.PrintWords Go.Proofs.YtfcpnjoiloahcaaW.PrintLast Go.Proofs.YtfcpnjoiloahcaaW.PrintMore Go.Proofs.Ytfcpnjoiloahcaa.B Go.Proofs.Ytfcpnjoiloahcaa.Gs Go.Proofs.Ytfcpnjoiloahcaa.Gc Go.Proofs.Ytfcpnjoiloahcaa.O Go.Proofs.Ytfcpnjoiloahcaa.Go1 Go.Proofs.Ytfcpnjoiloahcaa.R Go.Proofs.Ytfcpnjoiloahcaa.S Go.Proofs.Ytfcpnjoiloahcaa.Ls
set_option linter.unusedVariables false
set_option linter.unusedSimpArgs false
theorem lays_snoc {m : List (Int × List Int)} {j : Nat} {k : Int} {b : List Int} (hj : m[j]? = some (k, b)) : laysL (m.take (j + 1)) = laysL (m.take j) ++ layL k b := by
  obtain ⟨hl, he⟩ := List.getElem?_eq_some_iff.1 hj
  rw [List.take_succ_eq_append_getElem hl, he]
  simp [laysL]
theorem lays_by {m : List (Int × List Int)} (h : ∀ p ∈ m, FrOk p) : By (laysL m) := by
  intro x hx
  simp only [laysL, List.mem_flatten, List.mem_map] at hx
  obtain ⟨l, ⟨p, hp, rfl⟩, hx⟩ := hx
  exact lay_by (h p hp).1 (h p hp).2 x hx
set_option maxHeartbeats 4000000 in
set_option maxRecDepth 100000 in
theorem walk (w : World) (A : Option Addr) (c : Nat) (m : List (Int × List Int)) (hC : kF.C w A m.length m) (hc : m.length ≤ c) (hok : (∀ v ∈ m, FrOk v) ∧ m.length ≤ 9223372036854775807) (_ : ∀ a, A = some a → a.block < w.heap.size)
    (A1 : Option Addr) (c1 : Nat) (at1 : List Int) (hC1 : (Kd.int .i64).C w A1 at1.length at1) (hc1 : at1.length ≤ c1) (hm1 : at1.length * 8 ≤ 140737488351232) (hwf1 : ∀ x ∈ at1, (Lit.int .i64 x).wf = true)
    (A2 : Option Addr) (c2 : Nat) (bt : List Int) (hC2 : kU8.C w A2 bt.length bt) (hc2 : bt.length ≤ c2) (hm2 : bt.length * 1 ≤ 140737488351232) (hwf2 : ∀ x ∈ bt, (Lit.int .u8 x).wf = true)
    (A3 : Option Addr) (c3 : Nat) (mo : List Int) (hC3 : kU8.C w A3 mo.length mo) (hc3 : mo.length ≤ c3) (hm3 : mo.length * 1 ≤ 140737488351232) (hwf3 : ∀ x ∈ mo, (Lit.int .u8 x).wf = true) :
    Calls Try.prog 3 #[.slice A m.length c, .slice A1 at1.length c1, .slice A2 bt.length c2, .slice A3 mo.length c3] w fun e w' => e = .returned (.bool true) ∧ Below w.heap.size w w' := by
  have HYB := Aside0.mk (show By bt from fun x hx => wf_u8 (hwf2 x hx))
  have HYM := Aside0.mk (show By mo from fun x hx => wf_u8 (hwf3 x hx))
  have HC := Aside0.mk hC
  have HC1 := Aside0.mk hC1
  have HC2 := Aside0.mk hC2
  have HC3 := Aside0.mk hC3
  have HOK := Aside0.mk hok.1
  have hml := hok.2
  clear hwf1 hwf2 hwf3 hC hC1 hC2 hC3 hok hm1 hm2 hm3
  by_cases h1 : 20 < m.length
  · have e1 : decide ((20 : Int) < m.length) = true := by simp; omega
    go_enter Try.func3, Try.ntmps3
    go_wp2_with (first | (go_at_call 10; refine (awake_calls _).mono ?_; rintro e w1 ⟨rfl, hb1⟩))
    go_ret
    exact ⟨rfl, hb1⟩
  have e1 : decide ((20 : Int) < m.length) = false := by simp; omega
  by_cases h2 : 1000 < mo.length
  · have e2 : decide ((1000 : Int) < mo.length) = true := by simp; omega
    go_enter Try.func3, Try.ntmps3
    go_wp2_with (first | (go_at_call 10; refine (awake_calls _).mono ?_; rintro e w1 ⟨rfl, hb1⟩))
    go_ret
    exact ⟨rfl, hb1⟩
  have e2 : decide ((1000 : Int) < mo.length) = false := by simp; omega
  go_enter Try.func3, Try.ntmps3
  go_wp2_with (first | (go_at_call 10; refine (awake_calls _).mono ?_; rintro e w1 ⟨rfl, hb1⟩; have HB1 := Aside0.mk hb1; clear hb1))
  have HR1 := Aside0.mk (Kd.R_nil kU8 5 w1 w.heap.size (fun _ => True))
  go_loopw [9, 29] (fun vx vi wr => ∃ (k : Nat) (xs : List Int), k ≤ m.length ∧ vi = .int .i64 k ∧ Aside0 (xs = laysL (m.take k)) ∧ xs.length ≤ 510 * k ∧ Aside0 (kU8.R 5 wr w.heap.size (fun _ => True) vx xs) ∧ Aside0 (Below w.heap.size w wr)) (fun _ vi _ => m.length - (intOf vi).toNat)
  case atStart => exact ⟨0, [], by omega, rfl, ⟨rfl⟩, by simp, HR1, HB1⟩
  case round =>
    clear HR1 HB1
    obtain ⟨k, xs, hk, rfl, HX, hxl, HR, HB⟩ := hrel
    have hzw := HB.out.size
    by_cases hgo : k < m.length
    · obtain ⟨⟨kd, bb⟩, hp⟩ : ∃ p, m[k]? = some p := ⟨_, List.getElem?_eq_getElem hgo⟩
      obtain ⟨⟨hk0, hk1⟩, hbby⟩ := HOK.out _ (List.mem_of_getElem? hp)
      simp only at hk0 hk1 hbby
      obtain ⟨ad, A5, c5, rfl, q0, q1, hcc, hCb⟩ := F_get (Kd.C_below HC.out HB.out) hp
      have HLS := Aside0.mk (lays_snoc hp)
      have HBB := Aside0.mk hbby
      obtain ⟨W, hW⟩ : ∃ W, W = wr.alloc (.cells #[.int .u8 kd, .slice A5 bb.length c5] 27) := ⟨_, rfl⟩
      have hwk : Below wr.heap.size wr W := by rw [hW]; exact (Below.refl _ _).alloc (Nat.le_refl _) _
      have HCb := Aside0.mk (Kd.C_below hCb hwk)
      have HWB := Aside0.mk (HB.out.trans (hwk.mono hzw))
      have HRW := Aside0.mk (Kd.R_below HR.out hwk)
      clear hp hbby hCb hwk
      by_cases h500 : 500 < bb.length
      · have e500 : decide ((500 : Int) < bb.length) = true := by simp; omega
        go_wp2_with fail
        go_ret
        exact ⟨rfl, by rw [← hW]; exact HWB.out⟩
      have e500 : decide ((500 : Int) < bb.length) = false := by simp; omega
      obtain ⟨fl, hfl⟩ : ∃ fl, layL kd bb = fl := ⟨_, rfl⟩
      obtain ⟨n, hn⟩ : ∃ n, fl.length = n := ⟨_, rfl⟩
      have hnl : n = 6 + (putl bb.length).length + bb.length := by rw [← hn, ← hfl, lay_len]
      have hpl := (putl_three (n := bb.length) (by omega)).2
      have hn600 : n ≤ 509 := by omega
      have HFL := Aside0.mk hfl
      have HN := Aside0.mk hn
      clear hfl hn hnl hpl
      go_wp2_with fail
      rw [← hW]
      clear hW
      go_wp2_with (first
        | (go_at_call 11; refine (rlay_n kd hk0 hk1 A5 c5 bb bb.length rfl fl n HFL.out HN.out _ HCb.out HBB.out (by omega)).mono ?_; rintro e w2 ⟨A6, c6, rfl, -, hC6, -, hb⟩; have HB2 := Aside0.mk (HWB.out.trans (hb.mono HWB.out.size)); have HC6 := Aside0.mk hC6; have HR2 := Aside0.mk (Kd.R_below HRW.out hb); clear hb hC6)
        | ((with_reducible refine gate_builtin (b := .append) (xs := #[.tmp 37, .tmp 42]) rfl ?_); at_builtin; refine Kd.R_append_rows (Kd.int .u8) (w0 := w) w.heap.size rfl (.tmp 37) (.tmp 42) 24 5 (.int .u8 0) 1 rfl Try.underlying24 infoU8 rfl (by decide) (by omega) u9 xs fl _ _ _ (fun _ => True) (fun _ => False) rfl rfl ?aO ?aR (fun _ _ h => h) (fun _ h => h.elim) ?aF ?aB ?aS ?aL ?_; (case aR => exact HC6.out); (case aB => exact HB2.out); (case aF => exact (fun _ _ => trivial)); (case aO => exact HR2.out); (case aS => (exact HB2.out.size)); (case aL => omega); (intro v3 w3 ho3 hb3 hg hat; have HO3 := Aside0.mk ho3; have HB3 := Aside0.mk hb3; clear ho3 hb3 hg hat)))
      go_roundw
      case rel => exact ⟨k + 1, xs ++ fl, by omega, by go_num, ⟨by rw [HLS.out, HX.out, HFL.out]⟩, by rw [List.length_append, HN.out]; omega, HO3, HB3⟩
      case measure => simp [intOf]; omega
    · have hke : k = m.length := by omega
      subst hke
      rw [List.take_length] at HX
      obtain ⟨Ab, cb, rfl, hcb, -⟩ := Kd.R_reads HR.out
      obtain ⟨n, hn⟩ : ∃ n, xs.length = n := ⟨_, rfl⟩
      have HYX := Aside0.mk (show By xs by rw [HX.out]; exact lays_by HOK.out)
      have hn1 : n ≤ 10200 := by omega
      rw [hn] at HR hcb
      rw [hn]
      have HN := Aside0.mk hn
      clear hn hxl HX hzw
      obtain ⟨wo, rfl⟩ : ∃ wo, wo = wr := ⟨_, rfl⟩
      go_wp2_with fail
      go_loopw [12] (fun vi wr => ∃ (k : Nat) (ys : List Int), k ≤ 4 ∧ vi = .int .i64 k ∧ Aside0 (ys.length = n ∧ By ys) ∧ Aside0 (kU8.R 5 wr w.heap.size (fun _ => True) (.slice Ab n cb) ys) ∧ Aside0 (Below w.heap.size w wr)) (fun vi _ => 4 - (intOf vi).toNat)
      case atStart => exact ⟨0, xs, by omega, rfl, ⟨HN.out, HYX.out⟩, HR, HB⟩
      case round =>
        clear HR HB HYX HN
        obtain ⟨k, ys, hk, rfl, HY, HR, HB⟩ := hrel
        by_cases hgo : k < at1.length ∧ k < bt.length ∧ k < 4 ∧ 0 < n
        · obtain ⟨g1, g2, g3, g4⟩ := hgo
          have d1 : decide ((k : Int) < at1.length) = true := by simp; omega
          have d2 : decide ((k : Int) < bt.length) = true := by simp; omega
          have d3 : decide ((k : Int) < 4) = true := by simp; omega
          have d4 : decide ((0 : Int) < n) = true := by simp; omega
          obtain ⟨x, hx⟩ : ∃ x, at1[k]? = some x := ⟨_, List.getElem?_eq_getElem g1⟩
          obtain ⟨y, hy⟩ : ∃ y, bt[k]? = some y := ⟨_, List.getElem?_eq_getElem g2⟩
          have hyr := HYB.out.at hy
          obtain ⟨ad1, rfl⟩ := C_some HC1.out (by omega)
          obtain ⟨ad2, rfl⟩ := C_some HC2.out (by omega)
          have q1 := C_cell (Kd.C_below HC1.out HB.out) hx
          have q2 := C_cell (Kd.C_below HC2.out HB.out) hy
          obtain ⟨iu, hiu⟩ : ∃ u, IntKind.u64.wrap x = u := ⟨_, rfl⟩
          have hiu0 := (wrU64_range x).1
          rw [hiu] at hiu0
          have hpr := tmod_range hiu0 (show (0 : Int) < (n : Int) by omega)
          obtain ⟨p, hp⟩ : ∃ p : Nat, iu.tmod (n : Int) = (p : Int) := ⟨(iu.tmod (n : Int)).toNat, by omega⟩
          rw [hp] at hpr
          have hpn : p < n := by omega
          have y2 := wrU64 (n : Int) (by omega) (by omega)
          have y3 := wrI64 (p : Int) (by omega) (by omega)
          have y4 : ((n : Int) = 0) = False := by simp; omega
          have y6 : (n = 0) = False := by simp; omega
          obtain ⟨j, hj⟩ : ∃ j : Nat, y.tmod 9 = (j : Int) := ⟨(y.tmod 9).toNat, by have := tmod_range (a := y) (b := 9) (by omega) (by omega); omega⟩
          have hj8 : j < 9 := by have := tmod_range (a := y) (b := 9) (by omega) (by omega); omega
          have y5 : y % 9 = (j : Int) := by rw [← hj, Int.tmod_eq_emod_of_nonneg (by omega)]
          have hpl : p < ys.length := by rw [HY.out.1]; exact hpn
          obtain ⟨gb, rfl, hgb, hgl⟩ := R_head0 HR.out (by omega)
          obtain ⟨z, hz, hcz, hfz⟩ := R_at_ HR.out hpl
          have HZR := Aside0.mk (HY.out.2.at hz)
          have HSET := Aside0.mk (fun x : Int => R_set HR.out p hpl x)
          have HF := Aside0.mk (show ∀ W, Keep (fun _ => False) wr.drew W → (W.cell? ⟨gb, p, none⟩ = some (.int .u8 z) ∧ W.frozen? ⟨gb, p, none⟩ = false) ∧ W.cell? (ad1.add k) = some (.int .i64 x) ∧ W.cell? (ad2.add k) = some (.int .u8 y) from fun W hW =>
            ⟨⟨(World.cell?_of_block (a := ⟨gb, p, none⟩) (hW.block gb hgl (fun h => h))).trans hcz, (World.frozen?_of_block (a := ⟨gb, p, none⟩) (hW.block gb hgl (fun h => h))).trans hfz⟩, pw_cell_below ((Below.refl wr.heap.size wr).drew.trans (hW.below (Nat.le_refl _) (fun _ _ h => h))) q1, pw_cell_below ((Below.refl wr.heap.size wr).drew.trans (hW.below (Nat.le_refl _) (fun _ _ h => h))) q2⟩)
          have HCUR := Aside0.mk (Keep.refl (fun _ => False) wr.drew)
          have p9 : (p : Int) < (n : Int) := by omega
          clear hx hy hz hcz hfz hpl q1 q2 hiu0 hpr
          go_wp2_with fail
          refine re_start [21] (fun _ => False) (by kernel_rfl) (n := 22) (l := #[false, false, false, false, false, false, false, false, false, false, false, false, false, false, false, false, false, false, false, false, false, false]) (by kernel_rfl) (by kernel_rfl) ?_
          refine re_take (fuel := 21) 0 rfl (by kernel_rfl) (listed' := #[true, false, false, false, false, false, false, false, false, false, false, false, false, false, false, false, false, false, false, false, false, false]) (by kernel_rfl) (fun _ _ _ h => h) (by kernel_rfl) (fun w' hR => by go_simp; first | done | with_reducible rfl) rfl ?_
          try simp only [Act.put, List.setIfInBounds_toArray, List.set_cons_zero, List.set_cons_succ]
          refine re_take (fuel := 20) 1 rfl (by kernel_rfl) (listed' := #[true, true, false, false, false, false, false, false, false, false, false, false, false, false, false, false, false, false, false, false, false, false]) (by kernel_rfl) (fun _ _ _ h => h) (by kernel_rfl) (fun w' hR => by go_simp; first | done | with_reducible rfl) rfl ?_
          try simp only [Act.put, List.setIfInBounds_toArray, List.set_cons_zero, List.set_cons_succ]
          refine re_take (fuel := 19) 2 rfl (by kernel_rfl) (listed' := #[true, true, true, false, false, false, false, false, false, false, false, false, false, false, false, false, false, false, false, false, false, false]) (by kernel_rfl) (fun _ _ _ h => h) (by kernel_rfl) (fun w' hR => by go_simp; first | done | with_reducible rfl) rfl ?_
          try simp only [Act.put, List.setIfInBounds_toArray, List.set_cons_zero, List.set_cons_succ]
          refine re_take (fuel := 18) 3 rfl (by kernel_rfl) (listed' := #[true, true, true, true, false, false, false, false, false, false, false, false, false, false, false, false, false, false, false, false, false, false]) (by kernel_rfl) (fun _ _ _ h => h) (by kernel_rfl) (fun w' hR => by go_simp; first | done | with_reducible rfl) rfl ?_
          try simp only [Act.put, List.setIfInBounds_toArray, List.set_cons_zero, List.set_cons_succ]
          refine re_take (fuel := 17) 4 rfl (by kernel_rfl) (listed' := #[true, true, true, true, true, false, false, false, false, false, false, false, false, false, false, false, false, false, false, false, false, false]) (by kernel_rfl) (fun _ _ _ h => h) (by kernel_rfl) (fun w' hR => by obtain ⟨⟨x0, x1⟩, x2, x3⟩ := HF.out w' (HCUR.out.trans hR); go_simp; first | done | with_reducible rfl) rfl ?_
          try simp only [Act.put, List.setIfInBounds_toArray, List.set_cons_zero, List.set_cons_succ]
          refine re_take (fuel := 16) 5 rfl (by kernel_rfl) (listed' := #[true, true, true, true, true, true, false, false, false, false, false, false, false, false, false, false, false, false, false, false, false, false]) (by kernel_rfl) (fun _ _ _ h => h) (by kernel_rfl) (fun w' hR => by go_simp; first | done | with_reducible rfl) rfl ?_
          try simp only [Act.put, List.setIfInBounds_toArray, List.set_cons_zero, List.set_cons_succ]
          refine re_take (fuel := 15) 6 rfl (by kernel_rfl) (listed' := #[true, true, true, true, true, true, true, false, false, false, false, false, false, false, false, false, false, false, false, false, false, false]) (by kernel_rfl) (fun _ _ _ h => h) (by kernel_rfl) (fun w' hR => by go_simp; first | done | with_reducible rfl) rfl ?_
          try simp only [Act.put, List.setIfInBounds_toArray, List.set_cons_zero, List.set_cons_succ]
          refine re_take (fuel := 14) 7 rfl (by kernel_rfl) (listed' := #[true, true, true, true, true, true, true, true, false, false, false, false, false, false, false, false, false, false, false, false, false, false]) (by kernel_rfl) (fun _ _ _ h => h) (by kernel_rfl) (fun w' hR => by go_simp; first | done | with_reducible rfl) rfl ?_
          try simp only [Act.put, List.setIfInBounds_toArray, List.set_cons_zero, List.set_cons_succ]
          refine re_take (fuel := 13) 8 rfl (by kernel_rfl) (listed' := #[true, true, true, true, true, true, true, true, true, false, false, false, false, false, false, false, false, false, false, false, false, false]) (by kernel_rfl) (fun _ _ _ h => h) (by kernel_rfl) (fun w' hR => by go_simp; first | done | with_reducible rfl) rfl ?_
          try simp only [Act.put, List.setIfInBounds_toArray, List.set_cons_zero, List.set_cons_succ]
          refine re_take (fuel := 12) 9 rfl (by kernel_rfl) (listed' := #[true, true, true, true, true, true, true, true, true, true, false, false, false, false, false, false, false, false, false, false, false, false]) (by kernel_rfl) (fun _ _ _ h => h) (by kernel_rfl) (fun w' hR => by go_simp; first | done | with_reducible rfl) rfl ?_
          try simp only [Act.put, List.setIfInBounds_toArray, List.set_cons_zero, List.set_cons_succ]
          refine re_take (fuel := 11) 10 rfl (by kernel_rfl) (listed' := #[true, true, true, true, true, true, true, true, true, true, true, false, false, false, false, false, false, false, false, false, false, false]) (by kernel_rfl) (fun _ _ _ h => h) (by kernel_rfl) (fun w' hR => by go_simp; first | done | with_reducible rfl) rfl ?_
          try simp only [Act.put, List.setIfInBounds_toArray, List.set_cons_zero, List.set_cons_succ]
          refine re_take (fuel := 10) 11 rfl (by kernel_rfl) (listed' := #[true, true, true, true, true, true, true, true, true, true, true, true, false, false, false, false, false, false, false, false, false, false]) (by kernel_rfl) (fun _ _ _ h => h) (by kernel_rfl) (fun w' hR => by go_simp; first | done | with_reducible rfl) rfl ?_
          try simp only [Act.put, List.setIfInBounds_toArray, List.set_cons_zero, List.set_cons_succ]
          refine re_take (fuel := 9) 12 rfl (by kernel_rfl) (listed' := #[true, true, true, true, true, true, true, true, true, true, true, true, true, false, false, false, false, false, false, false, false, false]) (by kernel_rfl) (fun _ _ _ h => h) (by kernel_rfl) (fun w' hR => by obtain ⟨⟨x0, x1⟩, x2, x3⟩ := HF.out w' (HCUR.out.trans hR); go_simp; first | done | with_reducible rfl) rfl ?_
          try simp only [Act.put, List.setIfInBounds_toArray, List.set_cons_zero, List.set_cons_succ]
          refine re_take (fuel := 8) 13 rfl (by kernel_rfl) (listed' := #[true, true, true, true, true, true, true, true, true, true, true, true, true, true, false, false, false, false, false, false, false, false]) (by kernel_rfl) (fun _ _ _ h => h) (by kernel_rfl) (fun w' hR => by go_simp; first | done | with_reducible rfl) rfl ?_
          try simp only [Act.put, List.setIfInBounds_toArray, List.set_cons_zero, List.set_cons_succ]
          refine re_take (fuel := 7) 14 rfl (by kernel_rfl) (listed' := #[true, true, true, true, true, true, true, true, true, true, true, true, true, true, true, false, false, false, false, false, false, false]) (by kernel_rfl) (fun _ _ _ h => h) (by kernel_rfl) (fun w' hR => by go_simp; first | done | with_reducible rfl) rfl ?_
          try simp only [Act.put, List.setIfInBounds_toArray, List.set_cons_zero, List.set_cons_succ]
          refine re_take (fuel := 6) 15 rfl (by kernel_rfl) (listed' := #[true, true, true, true, true, true, true, true, true, true, true, true, true, true, true, true, false, false, false, false, false, false]) (by kernel_rfl) (fun _ _ _ h => h) (by kernel_rfl) (fun w' hR => by go_simp; first | done | with_reducible rfl) rfl ?_
          try simp only [Act.put, List.setIfInBounds_toArray, List.set_cons_zero, List.set_cons_succ]
          refine re_take (fuel := 5) 16 rfl (by kernel_rfl) (listed' := #[true, true, true, true, true, true, true, true, true, true, true, true, true, true, true, true, true, false, false, false, false, false]) (by kernel_rfl) (fun _ _ _ h => h) (by kernel_rfl) (fun w' hR => by obtain ⟨⟨x0, x1⟩, x2, x3⟩ := HF.out w' (HCUR.out.trans hR); go_simp; first | done | with_reducible rfl) rfl ?_
          try simp only [Act.put, List.setIfInBounds_toArray, List.set_cons_zero, List.set_cons_succ]
          refine re_take (fuel := 4) 17 rfl (by kernel_rfl) (listed' := #[true, true, true, true, true, true, true, true, true, true, true, true, true, true, true, true, true, true, false, false, false, false]) (by kernel_rfl) (fun _ _ _ h => h) (by kernel_rfl) (fun w' hR => by go_simp; first | done | with_reducible rfl) rfl ?_
          try simp only [Act.put, List.setIfInBounds_toArray, List.set_cons_zero, List.set_cons_succ]
          refine re_take (fuel := 3) 18 rfl (by kernel_rfl) (listed' := #[true, true, true, true, true, true, true, true, true, true, true, true, true, true, true, true, true, true, true, false, false, false]) (by kernel_rfl) (fun _ _ _ h => h) (by kernel_rfl) (fun w' hR => by go_simp; first | done | with_reducible rfl) rfl ?_
          try simp only [Act.put, List.setIfInBounds_toArray, List.set_cons_zero, List.set_cons_succ]
          refine re_take (fuel := 2) 19 rfl (by kernel_rfl) (listed' := #[true, true, true, true, true, true, true, true, true, true, true, true, true, true, true, true, true, true, true, true, false, false]) (by kernel_rfl) (fun _ _ _ h => h) (by kernel_rfl) (fun w' hR => by go_simp; first | done | with_reducible rfl) rfl ?_
          try simp only [Act.put, List.setIfInBounds_toArray, List.set_cons_zero, List.set_cons_succ]
          refine re_take (fuel := 1) 20 rfl (by kernel_rfl) (listed' := #[true, true, true, true, true, true, true, true, true, true, true, true, true, true, true, true, true, true, true, true, true, false]) (by kernel_rfl) (fun _ _ _ h => h) (by kernel_rfl) (fun w' hR => by go_simp; first | done | with_reducible rfl) rfl ?_
          try simp only [Act.put, List.setIfInBounds_toArray, List.set_cons_zero, List.set_cons_succ]
          refine re_free (fuel := 0) 21 rfl (by kernel_rfl) (listed' := #[true, true, true, true, true, true, true, true, true, true, true, true, true, true, true, true, true, true, true, true, true, true]) (by kernel_rfl) (by kernel_rfl) (fun K' hK => ?_)
          obtain ⟨⟨x0, x1⟩, x2, x3⟩ := HF.out wr.drew (Keep.refl _ _); go_wp2_with fail
          refine hK.out _ _ trivial ?_
          clear hK K'
          try simp only [Act.put, List.setIfInBounds_toArray, List.set_cons_zero, List.set_cons_succ]
          refine re_done (by kernel_rfl) ?_
          have hxr := xor8_range z ((2 : Int) ^ j % 256)
          generalize hyy : Go.bits .xor .u8 z ((2 : Int) ^ j % 256) = yy at hxr ⊢
          clear hyy
          have HR5 := Aside0.mk (show kU8.R 5 (wr.setCell ⟨gb, p, none⟩ (.int .u8 yy)).drew w.heap.size (fun _ => True) (.slice (some ⟨gb, 0, none⟩) n cb) (ys.set p yy) from Kd.R_below (HSET.out yy) (Below.refl _ _).drew)
          have HB5 := Aside0.mk (show Below w.heap.size w (wr.setCell ⟨gb, p, none⟩ (.int .u8 yy)).drew from (HB.out.setCell (p := ⟨gb, p, none⟩) hgb (.int .u8 yy)).drew)
          have HY5 := Aside0.mk (show (ys.set p yy).length = n ∧ By (ys.set p yy) from ⟨by rw [List.length_set, HY.out.1], fun v hv => by
            rcases List.mem_or_eq_of_mem_set hv with h | h
            · exact HY.out.2 v h
            · rw [h]; exact hxr⟩)
          clear HSET HF HCUR
          go_wp2_with fail
          go_roundw
          case rel => exact ⟨k + 1, ys.set p yy, by omega, by go_num, HY5, HR5, HB5⟩
          case measure => simp [intOf]; omega
        · go_upto_region 14 with fail
          go_cut [63] (fun s63 wx => s63 = .bool false ∧ wr = wx)
          case first =>
            by_cases g1 : k < at1.length
            · have d1 : decide ((k : Int) < at1.length) = true := by simp; omega
              by_cases g2 : k < bt.length
              · have d2 : decide ((k : Int) < bt.length) = true := by simp; omega
                by_cases g3 : k < 4
                · have d3 : decide ((k : Int) < 4) = true := by simp; omega
                  have d4 : decide (0 < n) = false := by simp; omega
                  go_wp2_with fail
                  go_meet
                  exact ⟨rfl, rfl⟩
                · have d3 : decide ((k : Int) < 4) = false := by simp; omega
                  go_wp2_with fail
                  go_meet
                  exact ⟨rfl, rfl⟩
              · have d2 : decide ((k : Int) < bt.length) = false := by simp; omega
                go_wp2_with fail
                go_meet
                exact ⟨rfl, rfl⟩
            · have d1 : decide ((k : Int) < at1.length) = false := by simp; omega
              go_wp2_with fail
              go_meet
              exact ⟨rfl, rfl⟩
          case rest =>
            obtain ⟨rfl, rfl⟩ := hcut
            obtain ⟨X, hX⟩ : ∃ X, ys ++ mo = X := ⟨_, rfl⟩
            obtain ⟨nx, hnx⟩ : ∃ nx, X.length = nx := ⟨_, rfl⟩
            have hnxb : nx ≤ 11200 := by rw [← hnx, ← hX, List.length_append, HY.out.1]; omega
            have HBX := Aside0.mk (show By X by rw [← hX]; exact By.append HY.out.2 HYM.out)
            have HXX := Aside0.mk hX
            have HNX := Aside0.mk hnx
            clear hX hnx hgo
            go_wp2_with (first
              | ((with_reducible refine gate_builtin (b := .append) (xs := #[.tmp 87, .tmp 88]) rfl ?_); at_builtin; refine Kd.R_append_rows (Kd.int .u8) (w0 := w) w.heap.size rfl (.tmp 87) (.tmp 88) 24 5 (.int .u8 0) 1 rfl Try.underlying24 infoU8 rfl (by decide) (by omega) (.slice Ab n cb) ys mo _ _ _ (fun _ => True) (fun _ => False) rfl rfl ?aO ?aR (fun _ _ h => h) (fun _ h => h.elim) ?aF ?aB ?aS ?aL ?_; (case aR => exact (Kd.C_below HC3.out HB.out)); (case aB => exact HB.out); (case aF => exact (fun _ _ => trivial)); (case aO => exact HR.out); (case aS => (exact HB.out.size)); (case aL => (rw [HY.out.1]; omega)); (intro v3 w3 ho3 hb3 hg hat; obtain ⟨Ax, cx, hvx, hcx, hCx⟩ := Kd.R_reads ho3; rw [HXX.out, HNX.out] at hvx hcx hCx; subst hvx; have HCX := Aside0.mk hCx; have HB3 := Aside0.mk hb3; clear ho3 hb3 hg hat hCx))
              | (go_at_call 12; refine (all_calls Ax cx X nx HNX.out _ HCX.out hcx HBX.out (by omega)).mono ?_; rintro e wg ⟨vg, l1, m1, rfl, hall, hlm, hrg, hbg⟩; obtain ⟨Ag, cg, rfl, hcg, hCg⟩ := Kd.R_reads hrg; have HCG := Aside0.mk hCg; have HALL := Aside0.mk hall; have HLM := Aside0.mk hlm; have HBG := Aside0.mk (HB3.out.trans (hbg.mono HB3.out.size)); have HCXG := Aside0.mk (Kd.C_below HCX.out hbg); clear hrg hbg hCg hall hlm)
              | (go_at_call 13; refine (rall_calls Ax cx X nx HNX.out _ HCXG.out hcx HBX.out (by omega)).mono ?_; rintro e wh ⟨vh, l2, m2, rfl, hall2, -, hrh, hbh⟩; obtain ⟨el, em⟩ := AllR.same HALL.out hall2; subst el em; obtain ⟨Ah, ch, rfl, hch, hCh⟩ := Kd.R_reads hrh; have HCH := Aside0.mk (kX_read hbh hCh); have HCG2 := Aside0.mk (Kd.C_below HCG.out hbh); have HBH := Aside0.mk (HBG.out.trans (hbh.mono HBG.out.size)); clear hrh hbh hCh hall2)
              | (go_at_call 14; refine (same_calls Ag Ah cg ch l1 l1.length rfl (by have := HALL.out.lays HBX.out; have h2 := HLM.out; have h3 := HNX.out; omega) _ HCG2.out HCH.out).mono ?_; rintro e wk ⟨rfl, hbk⟩; have HBK := Aside0.mk (HBH.out.trans (hbk.mono HBH.out.size)); clear hbk))
            go_ret
            exact ⟨rfl, HBK.out⟩
theorem own : ownKnob Try.prog.godebug = none := by kernel_rfl
theorem laidOut : laidOutB Try.prog = true := by kernel_rfl
def IsRow (k : IntKind) (w : World) (a : Option Addr) (len cap : Nat) (zs : List Int) : Prop :=
  (a = none ∧ len = 0 ∧ cap = 0 ∧ zs = []) ∨
  ∃ x, a = some x ∧ len ≤ cap ∧ cap ≤ maxLen ∧ zs.length = cap ∧ (∀ i, i < zs.length → w.cell? (x.add i) = some (.int k (zs.getD i 0))) ∧ ∀ n ∈ zs, (Lit.int k n).wf = true
set_option maxRecDepth 100000 in
theorem lifted (os : Os) (started : os.Started) (H : Type) (enc : TypeId × Value → H) :
    ReturnsInHanded {} Try.checked os 3 .any (Rows.frameRowsSpec.pre6 enc Try.prog Try.f3 Rows.frameRowsRow.domain false) (Rows.frameRowsSpec.post enc Try.prog Try.f3 false true false false) := by
  refine returnsInHanded_of_change_sized (C := Try.checked) own started (by kernel_rfl) Try.func3
    (ChangeSpec.witness6 (enc := enc) (C := Try.checked) false ⟨#[], #[.slice none 0 0, .slice none 0 0, .slice none 0 0, .slice none 0 0], []⟩ 8 (by kernel_rfl) (by kernel_rfl) (by kernel_rfl) (by kernel_rfl)) ?_
  intro W base args ds gs before hval0 hW hcnd hsz0 _
  have hsz : (DataW.weightsEach Try.prog (Try.f3.params.toList ++ Rows.frameRowsSpec.plain.varTypes Try.prog) (ds ++ gs)).all (· ≤ reachBytes) = true := hsz0
  have hval : ∀ (j : Nat) t v, Try.f3.params[j]? = some t → args[j]? = some v → Value.okWide Try.prog W .any base t v := hval0
  have hW' := hW
  obtain ⟨p, q, hA0, hV, rfl, hfz, hnd⟩ := hW
  have hA : DataW.TrodAll enc Try.prog W 0 (fun _ => true) true Try.f3.params.toList args.toList ds p := hA0
  rw [Try.params3] at hA hval hsz
  obtain ⟨v0, vs0, d0, ds0, p0, q0, hargs, rfl, rfl, h0, r0⟩ := trodAll_cons hA
  obtain ⟨v1, vs1, d1, ds1, p1, q1, rfl, rfl, rfl, h1, r1⟩ := trodAll_cons r0
  obtain ⟨v2, vs2, d2, ds2, p2, q2, rfl, rfl, rfl, h2, r2⟩ := trodAll_cons r1
  obtain ⟨v3, vs3, d3, ds3, p3, q3, rfl, rfl, rfl, h3, r3⟩ := trodAll_cons r2
  obtain ⟨rfl, rfl, rfl⟩ := trodAll_nil r3
  obtain rfl : args = #[v0, v1, v2, v3] := by cases args; simp_all
  obtain ⟨rfl, rfl⟩ := trodVars_none hV
  obtain ⟨a0, len0, cap0, rfl⟩ := okWide_slice Try.underlying22 (hval 0 22 v0 rfl rfl)
  have k0 := h0
  have alt0 := okWide_alt Try.underlying22 (hval 0 22 _ rfl rfl)
  have lt0 : ∀ x ∈ p0, x.block < W.heap.size := by obtain ⟨m, hm⟩ := k0; exact DataW.trod_lt m _ _ _ hm
  obtain ⟨l0, rfl, hcap0, hC0, hok0⟩ := opens_arg opens_frames h0
  obtain ⟨a1, len1, cap1, rfl⟩ := okWide_slice Try.underlying23 (hval 1 23 v1 rfl rfl)
  have k1 := h1
  have lt1 : ∀ x ∈ p1, x.block < W.heap.size := by obtain ⟨m, hm⟩ := k1; exact DataW.trod_lt m _ _ _ hm
  obtain ⟨z1, w1⟩ : ∃ zs, IsRow .i64 W a1 len1 cap1 zs := by
    obtain ⟨fuel, hf⟩ := h1
    rcases open_ints Try.underlying23 Try.underlying3 (by kernel_rfl) hf with ⟨hcs, _⟩ | ⟨x, l, c, zs, hcs, _, hl, hm, hz, _, hcell, hwz⟩
    · simp [Value.cells] at hcs
      obtain ⟨rfl, rfl, rfl⟩ := hcs
      exact ⟨[], .inl ⟨rfl, rfl, rfl, rfl⟩⟩
    · simp [Value.cells] at hcs
      obtain ⟨rfl, rfl, rfl⟩ := hcs
      exact ⟨zs, .inr ⟨_, rfl, hl, hm, by simpa using hz, hcell, hwz⟩⟩
  have y1 : len1 * 8 ≤ 140737488351232 := sized_ints hsz (j := 1) (t := 23) rfl rfl Try.underlying23 Try.underlying3 (by kernel_rfl) (by kernel_rfl) h1
  obtain ⟨l1, rfl, hr1, hm1, hwf1, hcap1⟩ := ReadsInt.ofRowC w1
  obtain ⟨a2, len2, cap2, rfl⟩ := okWide_slice Try.underlying24 (hval 2 24 v2 rfl rfl)
  have k2 := h2
  have lt2 : ∀ x ∈ p2, x.block < W.heap.size := by obtain ⟨m, hm⟩ := k2; exact DataW.trod_lt m _ _ _ hm
  obtain ⟨z2, w2⟩ : ∃ zs, IsRow .u8 W a2 len2 cap2 zs := by
    obtain ⟨fuel, hf⟩ := h2
    rcases open_ints Try.underlying24 Try.underlying5 (by kernel_rfl) hf with ⟨hcs, _⟩ | ⟨x, l, c, zs, hcs, _, hl, hm, hz, _, hcell, hwz⟩
    · simp [Value.cells] at hcs
      obtain ⟨rfl, rfl, rfl⟩ := hcs
      exact ⟨[], .inl ⟨rfl, rfl, rfl, rfl⟩⟩
    · simp [Value.cells] at hcs
      obtain ⟨rfl, rfl, rfl⟩ := hcs
      exact ⟨zs, .inr ⟨_, rfl, hl, hm, by simpa using hz, hcell, hwz⟩⟩
  have y2 : len2 * 1 ≤ 140737488351232 := sized_ints hsz (j := 2) (t := 24) rfl rfl Try.underlying24 Try.underlying5 (by kernel_rfl) (by kernel_rfl) h2
  obtain ⟨l2, rfl, hr2, hm2, hwf2, hcap2⟩ := ReadsInt.ofRowC w2
  obtain ⟨a3, len3, cap3, rfl⟩ := okWide_slice Try.underlying24 (hval 3 24 v3 rfl rfl)
  have k3 := h3
  have lt3 : ∀ x ∈ p3, x.block < W.heap.size := by obtain ⟨m, hm⟩ := k3; exact DataW.trod_lt m _ _ _ hm
  obtain ⟨z3, w3⟩ : ∃ zs, IsRow .u8 W a3 len3 cap3 zs := by
    obtain ⟨fuel, hf⟩ := h3
    rcases open_ints Try.underlying24 Try.underlying5 (by kernel_rfl) hf with ⟨hcs, _⟩ | ⟨x, l, c, zs, hcs, _, hl, hm, hz, _, hcell, hwz⟩
    · simp [Value.cells] at hcs
      obtain ⟨rfl, rfl, rfl⟩ := hcs
      exact ⟨[], .inl ⟨rfl, rfl, rfl, rfl⟩⟩
    · simp [Value.cells] at hcs
      obtain ⟨rfl, rfl, rfl⟩ := hcs
      exact ⟨zs, .inr ⟨_, rfl, hl, hm, by simpa using hz, hcell, hwz⟩⟩
  have y3 : len3 * 1 ≤ 140737488351232 := sized_ints hsz (j := 3) (t := 24) rfl rfl Try.underlying24 Try.underlying5 (by kernel_rfl) (by kernel_rfl) h3
  obtain ⟨l3, rfl, hr3, hm3, hwf3, hcap3⟩ := ReadsInt.ofRowC w3
  clear hA0 hval0 hsz0 hsz
  refine (walk W _ _ l0 hC0 hcap0 hok0 alt0 _ _ l1 (Kd.C_of_reads (d := (0 : Int)) (h1 := fun _ => rfl) hr1) hcap1 y1 hwf1 _ _ l2 (Kd.C_of_reads (d := (0 : Int)) (h1 := fun _ => rfl) hr2) hcap2 y2 hwf2 _ _ l3 (Kd.C_of_reads (d := (0 : Int)) (h1 := fun _ => rfl) hr3) hcap3 y3 hwf3).mono fun e W' ⟨he, bel⟩ => ?_
  subst he
  exact ⟨_, rfl, _, _, _, [], _, [], hW', trodAll_mk1 (shut_bool Try.underlying4 _), (trodAll_cons_mk (Below.trod laidOut (by kernel_rfl) (of_decide_eq_true (by kernel_rfl)) k0 bel lt0) (trodAll_cons_mk (Below.trod laidOut (by kernel_rfl) (of_decide_eq_true (by kernel_rfl)) k1 bel lt1) (trodAll_cons_mk (Below.trod laidOut (by kernel_rfl) (of_decide_eq_true (by kernel_rfl)) k2 bel lt2) (trodAll_cons_mk (Below.trod laidOut (by kernel_rfl) (of_decide_eq_true (by kernel_rfl)) k3 bel lt3) trodAll_mk0)))), rfl, bel.frame _, fun h => by cases h⟩
theorem over : Rows.frameRowsRow.holds Try.pinned (OpenSpec.ofChange Rows.frameRowsSpec) :=
  OpenClaim.holds_of_wide 3 Try.f3 rfl rfl rfl rfl rfl rfl rfl ⟨rfl, rfl, rfl, rfl, rfl⟩ rfl rfl rfl rfl rfl (by kernel_rfl) Try.func3 (by kernel_rfl)
    (of_decide_eq_true (by kernel_rfl)) (by unfold Func.isWrapper; first | (rw [if_pos (by decide +kernel)]; kernel_rfl) | (rw [if_neg (by decide +kernel)]; exact ⟨rfl, rfl⟩))
    (fun os started H enc _ => lifted os started H enc)
end Go.Proofs.Ytfcpnjoiloahcaa.FrameRows
namespace Go.Proofs.Ytfcpnjoiloahcaa
/-- The statement. -/
theorem frameRows_holds : Rows.FrameRowsSaid := FrameRows.over
#print axioms frameRows_holds
end Go.Proofs.Ytfcpnjoiloahcaa
