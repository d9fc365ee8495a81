/- The fixed fact of the statements on frames. -/
import Derived.Test.YtfcpnjoiloahcaaGf
import Derived.Lib.SlBytesConst
namespace Go.Proofs.Ytfcpnjoiloahcaa.Gc
open Go.RowKit Go.Proofs.YtfcpnjoiloahcaaW.PrintWords Go.Proofs.YtfcpnjoiloahcaaW.PrintLast Go.Proofs.YtfcpnjoiloahcaaW.PrintMore Go.Proofs.Ytfcpnjoiloahcaa.B Go.Proofs.Ytfcpnjoiloahcaa.Ls Go.Proofs.Ytfcpnjoiloahcaa.Gs Go.Proofs.Ytfcpnjoiloahcaa.S
set_option linter.unusedVariables false
set_option linter.unusedSimpArgs false
theorem C_str {w : World} {A : Option Addr} {n c : Nat} {xs : List Int} (h : kU8.C w A n xs) : (convert 24 9 (.slice A n c)).run Try.prog w = .ok (.string (strOfNums xs)) w :=
  Kd.C_string (P := Try.prog) Try.underlying24 Try.underlying5 Try.underlying9 (c := c) h
/-- The same with the answers spelled. -/
theorem take_n (A : Option Addr) (c : Nat) (b : List Int) (n : Nat) (hn : b.length = n) (k : Int) (body : List Int) (sz er : Int) (ht : takeL b = (k, body, sz, er)) (w : World) (hC : kU8.C w A n b) (hc : n ≤ c) (hby : By b) (hl : n ≤ 1000000) :
    Calls Try.prog 36 #[.slice A n c] w fun e w' => ∃ A2 c2, e = .returned (.tuple #[.int .u8 k, .slice A2 body.length c2, .int .i64 sz, .int .i64 er]) ∧ kU8.R 5 w' w.heap.size (fun _ => True) (.slice A2 body.length c2) body ∧ kU8.C w' A2 body.length body ∧ body.length ≤ c2 ∧ Below w.heap.size w w' := by
  subst hn
  refine (take_calls A c b w hC hc hby hl).mono ?_
  rw [ht]
  rintro e w' ⟨v, rfl, ho, hb⟩
  obtain ⟨A2, c2, rfl, hl2, hC2⟩ := Kd.R_reads ho
  exact ⟨A2, c2, rfl, ho, hC2, hl2, hb⟩
theorem lay_n (k : Int) (hk0 : 0 ≤ k) (hk1 : k < 256) (A : Option Addr) (c : Nat) (b : List Int) (m : Nat) (hm : b.length = m) (fl : List Int) (n : Nat) (hf : layL k b = fl) (hn : fl.length = n) (w : World) (hC : kU8.C w A m b) (hc : m ≤ c) (hby : By b) (hl : m ≤ 65536) :
    Calls Try.prog 35 #[.int .u8 k, .slice A m c] w fun e w' => ∃ A2 c2, e = .returned (.tuple #[.slice A2 n c2, .int .i64 0]) ∧ kU8.R 5 w' w.heap.size (fun _ => True) (.slice A2 n c2) fl ∧ kU8.C w' A2 n fl ∧ n ≤ c2 ∧ Below w.heap.size w w' := by
  subst hm
  subst hf
  subst hn
  refine (lay_calls k hk0 hk1 A c b w hC hc hby hl).mono ?_
  rintro e w' ⟨v, rfl, ho, hb⟩
  obtain ⟨A2, c2, rfl, hl2, hC2⟩ := Kd.R_reads ho
  exact ⟨A2, c2, rfl, ho, hC2, hl2, hb⟩
theorem rlay_n (k : Int) (hk0 : 0 ≤ k) (hk1 : k < 256) (A : Option Addr) (c : Nat) (b : List Int) (m : Nat) (hm : b.length = m) (fl : List Int) (n : Nat) (hf : layL k b = fl) (hn : fl.length = n) (w : World) (hC : kU8.C w A m b) (hby : By b) (hl : m ≤ 1000000) :
    Calls Try.prog 11 #[.int .u8 k, .slice A m c] w fun e w' => ∃ A2 c2, e = .returned (.slice A2 n c2) ∧ kU8.R 5 w' w.heap.size (fun _ => True) (.slice A2 n c2) fl ∧ kU8.C w' A2 n fl ∧ n ≤ c2 ∧ Below w.heap.size w w' := by
  subst hm
  subst hf
  subst hn
  refine (rlay_calls k hk0 hk1 A c b w hC hby hl).mono ?_
  rintro e w' ⟨v, rfl, ho, hb⟩
  obtain ⟨A2, c2, rfl, hl2, hC2⟩ := Kd.R_reads ho
  exact ⟨A2, c2, rfl, ho, hC2, hl2, hb⟩
set_option maxHeartbeats 4000000 in
set_option maxRecDepth 100000 in
theorem awake_calls (w : World) : Calls Try.prog 10 #[] w fun e w' => e = .returned (.bool true) ∧ Below w.heap.size w w' := by
  have hq1 : ((strOfNums [111, 1, 1]).toList == [111, 1, 1]) = true := by decide +kernel
  have hq2 : ((strOfNums [97]).toList == [97]) = true := by decide +kernel
  have hb1 : By [97] := by intro x hx; simp at hx; omega
  obtain ⟨fl, hfl⟩ : ∃ fl, layL 1 [97] = fl := ⟨_, rfl⟩
  have h8 : fl.length = 8 := by rw [← hfl, lay_len, show [(97 : Int)].length = 1 from rfl, putl_lt (by decide)]; rfl
  have ht : takeL fl = (1, [97], 8, 0) := by
    have h := take_lay (k := 1) (b := [97]) (rest := []) (by decide)
    rw [List.append_nil, hfl, h8] at h
    exact h
  have h3 : fl.take 3 = [111, 1, 1] := by rw [← hfl, layL, show [(97 : Int)].length = 1 from rfl, putl_lt (by decide)]; rfl
  have hfb : By fl := by rw [← hfl]; exact lay_by (by decide) hb1
  have HFL := Aside0.mk hfl
  have H8 := Aside0.mk h8
  have HT := Aside0.mk ht
  have H3 := Aside0.mk h3
  have HFB := Aside0.mk hfb
  have hcv := Lib.run_convert_bytes_const (P := Try.prog) w 24 5 #[.int .u8 97] 1 1 Try.underlying24 Try.underlying5
  obtain ⟨i5, hi5, -, hi5s, -⟩ := info_ex infoU8
  clear hfl h8 ht h3 hfb hi5s
  go_enter Try.func10, Try.ntmps10
  go_wp2_with (first
    | (go_at_call 35; refine (lay_n 1 (by decide) (by decide) (some ⟨w.heap.size, 0, none⟩) 1 [97] 1 rfl fl 8 HFL.out H8.out _ (C_litM .u8 5 w [97] (1, 2) (by decide)) (by decide) hb1 (by decide)).mono ?_; rintro e w1 ⟨A1, c1, rfl, -, hC1, hc1, hb⟩; have HC1 := Aside0.mk hC1; have HB1 := Aside0.mk (((Below.refl w.heap.size w).alloc (Nat.le_refl _) (.cells #[.int .u8 97] 5 (1, 2))).trans (hb.mono (by simp))); clear hC1 hb)
    | (go_at_call 36; refine (take_n A1 c1 fl 8 H8.out 1 [97] 8 0 HT.out _ HC1.out hc1 HFB.out (by decide)).mono ?_; rintro e w2 ⟨A2, c2, rfl, -, hC2, -, hb⟩; have HB2 := Aside0.mk (HB1.out.trans (hb.mono HB1.out.size)); have hrun : ∀ W : World, (Instr.slice 24 (.slice A1 8 c1) none (some (.int .i64 3)) none).run Try.prog W = .ok (.slice A1 3 c1) W := (fun W => cut_to (P := Try.prog) 24 5 .i64 Try.underlying24 hi5 A1 8 c1 3 (by decide) (by decide) hc1 W); have hs1 := C_str (n := 1) (c := c2) hC2; have hC3 : kU8.C w2 A1 3 [111, 1, 1] := (by rw [← H3.out]; have h0 := HC1.out; rw [← H8.out] at h0; have h := Kd.C_take (m := 3) (Kd.C_below h0 hb) (by rw [H8.out]; decide); rwa [show (fl.take 3).length = 3 by rw [H3.out]; rfl] at h); have hs2 := C_str (c := c1) hC3; clear hC2 hb hC3))
  go_ret
  exact ⟨rfl, HB2.out⟩
end Go.Proofs.Ytfcpnjoiloahcaa.Gc
