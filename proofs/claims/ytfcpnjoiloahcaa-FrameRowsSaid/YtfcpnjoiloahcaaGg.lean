/- What taking all frames comes to. -/
import Derived.Test.YtfcpnjoiloahcaaGa
import Derived.Test.YtfcpnjoiloahcaaGo
namespace Go.Proofs.Ytfcpnjoiloahcaa.Gc
open Go.RowKit Go.Proofs.YtfcpnjoiloahcaaW.PrintWords Go.Proofs.YtfcpnjoiloahcaaW.PrintLast Go.Proofs.YtfcpnjoiloahcaaW.PrintMore Go.Proofs.Ytfcpnjoiloahcaa.B Go.Proofs.Ytfcpnjoiloahcaa.Ls Go.Proofs.Ytfcpnjoiloahcaa.Gs Go.Proofs.Ytfcpnjoiloahcaa.Go1 Go.Proofs.Ytfcpnjoiloahcaa.S
set_option linter.unusedVariables false
set_option linter.unusedSimpArgs false
theorem infoF : (Try.prog.info? 27).map (fun i => (i.zero, i.size, i.bytes)) = some (some (.agg #[.int .u8 0, .slice none 0 0]), 2, 32) := by kernel_rfl
set_option maxHeartbeats 4000000 in
set_option maxRecDepth 100000 in
theorem all_calls (A : Option Addr) (c : Nat) (b : List Int) (n0 : Nat) (hn0 : b.length = n0) (w : World) (hC : kU8.C w A n0 b) (hc : n0 ≤ c) (hby : By b) (hl : n0 ≤ 1000000) :
    Calls Try.prog 12 #[.slice A n0 c] w fun e w' => ∃ (v : Value) (l : List (Int × List Int)) (m : Nat), e = .returned (.tuple #[v, .int .i64 m]) ∧ AllR b l m ∧ l.length ≤ m ∧ kF.R 27 w' w.heap.size (fun _ => True) v l ∧ Below w.heap.size w w' := by
  have HC := Aside0.mk hC
  have HBY := Aside0.mk hby
  have HN0 := Aside0.mk hn0
  obtain ⟨i5, hi5, -, hi5s, -⟩ := info_ex infoU8
  have HSL := Aside0.mk (fun (j : Int) (h0 : 0 ≤ j) (h1 : j ≤ b.length) => sl_from kU8 24 5 .i64 Try.underlying24 hi5 A c b hi5s j h0 h1 (by rw [hn0]; exact hc))
  have HR0 := Aside0.mk (Kd.R_nil kF 27 w w.heap.size (fun _ => True))
  have HB0 := Aside0.mk (Below.refl w.heap.size w)
  have HL0 := Aside0.mk (show ∀ l' m', AllR (b.drop 0) l' m' → AllR b ([] ++ l') (0 + m') from fun l' m' h => by simpa using h)
  clear hC hby hn0 hi5s
  go_enter Try.func12, Try.ntmps12
  go_wp2_with fail
  go_loopw [4, 5] (fun vo vi wr => ∃ (l : List (Int × List Int)) (n : Nat), n ≤ n0 ∧ vi = .int .i64 n ∧ l.length ≤ n ∧ Aside0 (kF.R 27 wr w.heap.size (fun _ => True) vo l) ∧ Aside0 (Below w.heap.size w wr) ∧ Aside0 (∀ l' m', AllR (b.drop n) l' m' → AllR b (l ++ l') (n + m'))) (fun _ vi _ => n0 - (intOf vi).toNat)
  case atStart => exact ⟨[], 0, by omega, rfl, by simp, HR0, HB0, HL0⟩
  case round =>
    clear HR0 HB0 HL0
    obtain ⟨l, n, hn, rfl, hln, HR, HB, HL⟩ := hrel
    obtain ⟨A1, hrun, hC1, -, hl1⟩ := HSL.out (n : Int) (by omega) (by rw [HN0.out]; omega)
    rw [Int.toNat_natCast] at hrun hC1 hl1
    have h0 := HC.out
    rw [← HN0.out] at h0
    have hC2 := hC1 _ h0
    rw [HN0.out] at hrun
    have hbd := HBY.out.drop n
    have hbl : (b.drop n).length = n0 - n := by rw [List.length_drop, HN0.out]
    obtain ⟨bd, hbd'⟩ : ∃ bd, b.drop n = bd := ⟨_, rfl⟩
    rw [hbd'] at hrun hC2 hbd hbl hl1
    obtain ⟨nd, hnd⟩ : ∃ nd, bd.length = nd := ⟨_, rfl⟩
    rw [hnd] at hrun hC2 hbl hl1
    obtain ⟨k, body, sz, er, ht⟩ : ∃ k body sz er, takeL bd = (k, body, sz, er) := ⟨_, _, _, _, rfl⟩
    have HC2 := Aside0.mk (Kd.C_below hC2 HB.out)
    have HBD := Aside0.mk hbd
    have HT := Aside0.mk ht
    have HND := Aside0.mk hnd
    have HBD' := Aside0.mk hbd'
    obtain ⟨Ao, co, rfl, hco⟩ := Kd.R_reads HR.out
    have hcap := hl1
    clear h0 hC1 hC2 hbd hbl hbd' hnd hl1 hco
    have hnd0 : nd ≤ n0 := by
      have h := congrArg List.length HBD'.out
      rw [List.length_drop, HN0.out, HND.out] at h
      omega
    by_cases her : er = 0
    case neg =>
      have heb : (er != 0) = true := bne_iff_ne.mpr her
      have HST := Aside0.mk (show AllR b (l ++ []) (n + 0) from HL.out [] 0 (by rw [HBD'.out]; exact AllR.stop (by rw [HT.out]; exact her)))
      clear her
      go_wp2_with (first | (go_at_call 36; refine (take_n A1 (c - n) bd nd HND.out k body sz er HT.out _ HC2.out hcap HBD.out (by omega)).mono ?_; rintro e w2 ⟨A2, c2, rfl, -, -, -, hb⟩; have HB2 := Aside0.mk hb; clear hb))
      go_ret2
      rw [List.append_nil, Nat.add_zero] at HST
      exact ⟨_, l, n, rfl, HST.out, hln, Kd.R_below HR.out HB2.out, HB.out.trans (HB2.out.mono HB.out.size)⟩
    subst her
    have heb : ((0 : Int) != 0) = false := by decide
    obtain ⟨hf1, hf2, hf3, -, -, hf6⟩ := take_form HBD.out HT.out
    obtain ⟨s, rfl⟩ : ∃ s : Nat, sz = s := ⟨sz.toNat, by omega⟩
    have hs6 : 6 ≤ s := by rw [lay_len] at hf2; omega
    rw [HND.out, Int.toNat_natCast] at hf6
    have hns : n + s ≤ n0 := by
      have h := congrArg List.length HBD'.out
      rw [List.length_drop, HN0.out, HND.out] at h
      omega
    have HST := Aside0.mk (show ∀ l' m', AllR (b.drop (n + s)) l' m' → AllR b ((l ++ [(k, body)]) ++ l') ((n + s) + m') from fun l' m' h => by
      have h2 := HL.out ((k, body) :: l') (s + m') (by rw [HBD'.out]; exact AllR.step HT.out (by rw [← HBD'.out, List.drop_drop]; exact h))
      rw [List.append_assoc, Nat.add_assoc]
      exact h2)
    clear hf1 hf2 hf6
    go_wp2_with (first
      | (go_at_call 36; refine (take_n A1 (c - n) bd nd HND.out k body s 0 HT.out _ HC2.out hcap HBD.out (by omega)).mono ?_; rintro e w2 ⟨A2, c2, rfl, ho2, -, -, hb⟩; have HO2 := Aside0.mk ho2; have HB2 := Aside0.mk hb; have HRR := Aside0.mk (Kd.R_below HR.out hb); have HWW := Aside0.mk (HB.out.trans (hb.mono HB.out.size)); clear hb ho2)
      | ((with_reducible refine gate_builtin (b := .append) (xs := #[.tmp 23, .tmp 27]) rfl ?_); at_builtin; refine Kd.R_append kF (w0 := w) w.heap.size rfl (.tmp 23) (.tmp 27) 22 27 (.agg #[.int .u8 0, .slice none 0 0]) 32 rfl Try.underlying22 infoF rfl (by decide) (by decide) (.slice Ao l.length co) l (k, body) [.int .u8 k, .slice A2 body.length c2] (fun _ => True) (fun i => wr.heap.size ≤ i) rfl rfl ⟨[_], [_], rfl, rfl, _, rfl, Kd.R_mono (Kd.R_lower (Kd.R_bound HO2.out) HB.out.size) (fun i hi => hi.2.1)⟩ (fun i hi => ⟨trivial, fun e => by have := own_lt (Kd.R_own HR.out).choose_spec i e.symm; omega⟩) (fun _ _ => trivial) HRR.out HWW.out HWW.out.size (by omega) ?_; intro v3 w3 ho3 hb3 hg hat; have HO3 := Aside0.mk ho3; have HB3 := Aside0.mk hb3; clear ho3 hb3 hg hat))
    go_roundw
    case rel => exact ⟨l ++ [(k, body)], n + s, hns, by go_num, by simp; omega, HO3, HB3, HST⟩
    case measure => simp [intOf]; omega
end Go.Proofs.Ytfcpnjoiloahcaa.Gc
