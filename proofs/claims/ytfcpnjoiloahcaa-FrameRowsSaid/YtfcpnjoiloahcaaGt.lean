/- What taking all frames comes to in the reference; two lists of frames. -/
import Derived.Test.YtfcpnjoiloahcaaGr
import Derived.Test.YtfcpnjoiloahcaaGg
namespace Go.Proofs.Ytfcpnjoiloahcaa.Gc
open Go.RowKit Go.Proofs.YtfcpnjoiloahcaaW.PrintWords Go.Proofs.YtfcpnjoiloahcaaW.PrintLast Go.Proofs.YtfcpnjoiloahcaaW.PrintMore Go.Proofs.Ytfcpnjoiloahcaa.B Go.Proofs.Ytfcpnjoiloahcaa.Ls Go.Proofs.Ytfcpnjoiloahcaa.Gs Go.Proofs.Ytfcpnjoiloahcaa.Go1 Go.Proofs.Ytfcpnjoiloahcaa.S Go.Proofs.Ytfcpnjoiloahcaa.R
set_option linter.unusedVariables false
set_option linter.unusedSimpArgs false
/-- A frame whose bytes were there in the world w0. -/
abbrev kX (w0 : World) : Kd (Int × List Int) := Kd.pair (Kd.int .u8) (Kd.fixed (Kd.slice 5 kU8) w0)
theorem kX_read {w0 w : World} (hb : Below w0.heap.size w0 w) {A : Option Addr} {n : Nat} {l : List (Int × List Int)} (h : (kX w0).C w A n l) : kF.C w A n l := by
  refine Kd.C_read (d := kF) (dm := kX w0) rfl ?_ h
  rintro ⟨k, b⟩ cs ⟨c0, c1, rfl, h0, A, c, hA, h1, h2⟩
  exact ⟨c0, c1, rfl, h0, A, c, hA, h1, Kd.C_below h2 hb⟩
theorem rtake_n (A : Option Addr) (c : Nat) (b : List Int) (n : Nat) (hn : b.length = n) (k : Int) (body : List Int) (sz er : Int) (ht : takeL b = (k, body, sz, er)) (w : World) (hC : kU8.C w A n b) (hc : n ≤ c) (hby : By b) (hl : n ≤ 1000000) :
    Calls Try.prog 38 #[.slice A n c] w fun e w' => ∃ A2 c2, e = .returned (.tuple #[.int .u8 k, .slice A2 body.length c2, .int .i64 sz, .int .i64 er]) ∧ body.length ≤ c2 ∧ (∀ W, kU8.C W A n b → kU8.C W A2 body.length body) ∧ Below w.heap.size w w' := by
  subst hn
  refine (rtake_calls A c b w hC hc hby hl).mono ?_
  rw [ht]
  rintro e w' ⟨A2, c2, rfl, h1, h2, hb⟩
  exact ⟨A2, c2, rfl, h1, h2, hb⟩
set_option maxHeartbeats 4000000 in
set_option maxRecDepth 100000 in
theorem rall_calls (A : Option Addr) (c : Nat) (b : List Int) (n0 : Nat) (hn0 : b.length = n0) (w : World) (hC : kU8.C w A n0 b) (hc : n0 ≤ c) (hby : By b) (hl : n0 ≤ 1000000) :
    Calls Try.prog 13 #[.slice A n0 c] w fun e w' => ∃ (v : Value) (l : List (Int × List Int)) (m : Nat), e = .returned (.tuple #[v, .int .i64 m]) ∧ AllR b l m ∧ l.length ≤ m ∧ (kX w).R 27 w' w.heap.size (fun _ => True) v l ∧ Below w.heap.size w w' := by
  have HC := Aside0.mk hC
  have HBY := Aside0.mk hby
  have HN0 := Aside0.mk hn0
  obtain ⟨i5, hi5, -, hi5s, -⟩ := info_ex infoU8
  have HSL := Aside0.mk (fun (j : Int) (h0 : 0 ≤ j) (h1 : j ≤ b.length) => sl_from kU8 24 5 .i64 Try.underlying24 hi5 A c b hi5s j h0 h1 (by rw [hn0]; exact hc))
  have HR0 := Aside0.mk (Kd.R_nil (kX w) 27 w w.heap.size (fun _ => True))
  have HB0 := Aside0.mk (Below.refl w.heap.size w)
  have HL0 := Aside0.mk (show ∀ l' m', AllR (b.drop 0) l' m' → AllR b ([] ++ l') (0 + m') from fun l' m' h => by simpa using h)
  clear hC hby hn0 hi5s
  go_enter Try.func13, Try.ntmps13
  go_wp2_with fail
  go_loopw [4, 5] (fun vo vi wr => ∃ (l : List (Int × List Int)) (n : Nat), n ≤ n0 ∧ vi = .int .i64 n ∧ l.length ≤ n ∧ Aside0 ((kX w).R 27 wr w.heap.size (fun _ => True) vo l) ∧ Aside0 (Below w.heap.size w wr) ∧ Aside0 (∀ l' m', AllR (b.drop n) l' m' → AllR b (l ++ l') (n + m'))) (fun _ vi _ => n0 - (intOf vi).toNat)
  case atStart => exact ⟨[], 0, by omega, rfl, by simp, HR0, HB0, HL0⟩
  case round =>
    clear HR0 HB0 HL0
    obtain ⟨l, n, hn, rfl, hln, HR, HB, HL⟩ := hrel
    obtain ⟨A1, hrun, hC1, -, hl1⟩ := HSL.out (n : Int) (by omega) (by rw [HN0.out]; omega)
    rw [Int.toNat_natCast] at hrun hC1 hl1
    have h0 := HC.out
    rw [← HN0.out] at h0
    have hC2 := hC1 _ h0
    rw [HN0.out] at hrun
    have hbd := HBY.out.drop n
    have hbl : (b.drop n).length = n0 - n := by rw [List.length_drop, HN0.out]
    obtain ⟨bd, hbd'⟩ : ∃ bd, b.drop n = bd := ⟨_, rfl⟩
    rw [hbd'] at hrun hC2 hbd hbl hl1
    obtain ⟨nd, hnd⟩ : ∃ nd, bd.length = nd := ⟨_, rfl⟩
    rw [hnd] at hrun hC2 hbl hl1
    obtain ⟨k, body, sz, er, ht⟩ : ∃ k body sz er, takeL bd = (k, body, sz, er) := ⟨_, _, _, _, rfl⟩
    have HC0 := Aside0.mk hC2
    have HC2 := Aside0.mk (Kd.C_below hC2 HB.out)
    have HBD := Aside0.mk hbd
    have HT := Aside0.mk ht
    have HND := Aside0.mk hnd
    have HBD' := Aside0.mk hbd'
    obtain ⟨Ao, co, rfl, hco⟩ := Kd.R_reads HR.out
    have hcap := hl1
    clear h0 hC1 hC2 hbd hbl hbd' hnd hl1 hco
    have hnd0 : nd ≤ n0 := by
      have h := congrArg List.length HBD'.out
      rw [List.length_drop, HN0.out, HND.out] at h
      omega
    by_cases her : er = 0
    case neg =>
      have heb : (er != 0) = true := bne_iff_ne.mpr her
      have HST := Aside0.mk (show AllR b (l ++ []) (n + 0) from HL.out [] 0 (by rw [HBD'.out]; exact AllR.stop (by rw [HT.out]; exact her)))
      clear her
      go_wp2_with (first | (go_at_call 38; refine (rtake_n A1 (c - n) bd nd HND.out k body sz er HT.out _ HC2.out hcap HBD.out (by omega)).mono ?_; rintro e w2 ⟨A2, c2, rfl, -, -, hb⟩; have HB2 := Aside0.mk hb; clear hb))
      go_ret2
      rw [List.append_nil, Nat.add_zero] at HST
      exact ⟨_, l, n, rfl, HST.out, hln, Kd.R_below HR.out HB2.out, HB.out.trans (HB2.out.mono HB.out.size)⟩
    subst her
    have heb : ((0 : Int) != 0) = false := by decide
    obtain ⟨hf1, hf2, hf3, -, -, hf6⟩ := take_form HBD.out HT.out
    obtain ⟨s, rfl⟩ : ∃ s : Nat, sz = s := ⟨sz.toNat, by omega⟩
    have hs6 : 6 ≤ s := by rw [lay_len] at hf2; omega
    rw [HND.out, Int.toNat_natCast] at hf6
    have hns : n + s ≤ n0 := by
      have h := congrArg List.length HBD'.out
      rw [List.length_drop, HN0.out, HND.out] at h
      omega
    have HST := Aside0.mk (show ∀ l' m', AllR (b.drop (n + s)) l' m' → AllR b ((l ++ [(k, body)]) ++ l') ((n + s) + m') from fun l' m' h => by
      have h2 := HL.out ((k, body) :: l') (s + m') (by rw [HBD'.out]; exact AllR.step HT.out (by rw [← HBD'.out, List.drop_drop]; exact h))
      rw [List.append_assoc, Nat.add_assoc]
      exact h2)
    clear hf1 hf2 hf6
    go_wp2_with (first
      | (go_at_call 38; refine (rtake_n A1 (c - n) bd nd HND.out k body s 0 HT.out _ HC2.out hcap HBD.out (by omega)).mono ?_; rintro e w2 ⟨A2, c2, rfl, hl2, hto, hb⟩; have HO2 := Aside0.mk (And.intro hl2 (hto w HC0.out)); have HB2 := Aside0.mk hb; have HRR := Aside0.mk (Kd.R_below HR.out hb); have HWW := Aside0.mk (HB.out.trans (hb.mono HB.out.size)); clear hb hl2 hto)
      | ((with_reducible refine gate_builtin (b := .append) (xs := #[.tmp 23, .tmp 27]) rfl ?_); at_builtin; refine Kd.R_append (kX w) (w0 := w) w.heap.size rfl (.tmp 23) (.tmp 27) 22 27 (.agg #[.int .u8 0, .slice none 0 0]) 32 rfl Try.underlying22 infoF rfl (show 0 < 2 by decide) (by decide) (.slice Ao l.length co) l (k, body) [.int .u8 k, .slice A2 body.length c2] (fun _ => True) (fun i => wr.heap.size ≤ i) rfl rfl ⟨[_], [_], rfl, rfl, A2, c2, rfl, HO2.out.1, HO2.out.2⟩ (fun i hi => ⟨trivial, fun e => by have := own_lt (Kd.R_own HR.out).choose_spec i e.symm; omega⟩) (fun _ _ => trivial) HRR.out HWW.out HWW.out.size (by omega) ?_; intro v3 w3 ho3 hb3 hg hat; have HO3 := Aside0.mk ho3; have HB3 := Aside0.mk hb3; clear ho3 hb3 hg hat))
    go_roundw
    case rel => exact ⟨l ++ [(k, body)], n + s, hns, by go_num, by simp; omega, HO3, HB3, HST⟩
    case measure => simp [intOf]; omega
theorem F_get {w : World} {A : Option Addr} {n : Nat} {m : List (Int × List Int)} (h : kF.C w A n m) {j : Nat} {k : Int} {b : List Int} (hj : m[j]? = some (k, b)) :
    ∃ (ad : Addr) (A2 : Option Addr) (c2 : Nat), A = some ad ∧ w.cell? (ad.add (j * 2)) = some (.int .u8 k) ∧ w.cell? ⟨(ad.add (j * 2)).block, (ad.add (j * 2)).off + 1, none⟩ = some (.slice A2 b.length c2) ∧ b.length ≤ c2 ∧ kU8.C w A2 b.length b := by
  have hl := (List.getElem?_eq_some_iff.1 hj).1
  obtain ⟨ad, e, hc⟩ := h.2.2 (by have := h.1; omega)
  obtain ⟨cs, h1, h2, h3⟩ := hc j _ hj
  obtain ⟨A2, c2, rfl, h4, h5⟩ := frame_K h2
  have g0 := h3 0 _ rfl
  have g1 := h3 1 _ rfl
  have hs : kF.sz = 2 := rfl
  rw [hs] at g0 g1
  rw [← Go.Proofs.YtfcpnjoiloahcaaW.PrintWords.add_add] at g1
  exact ⟨ad, A2, c2, e, g0, g1, h4, h5⟩
set_option maxHeartbeats 4000000 in
set_option maxRecDepth 100000 in
/-- The same frames twice. -/
theorem same_calls (A A' : Option Addr) (c c' : Nat) (l : List (Int × List Int)) (n : Nat) (hn : l.length = n) (hn1 : n ≤ 1000000) (w : World) (hC : kF.C w A n l) (hC' : kF.C w A' n l) :
    Calls Try.prog 14 #[.slice A n c, .slice A' n c'] w fun e w' => e = .returned (.bool true) ∧ Below w.heap.size w w' := by
  have HC := Aside0.mk hC
  have HC' := Aside0.mk hC'
  have HN := Aside0.mk hn
  have HB0 := Aside0.mk (Below.refl w.heap.size w)
  clear hC hC' hn
  go_enter Try.func14, Try.ntmps14
  go_wp2_with fail
  go_loopw [5] (fun vi wr => ∃ k : Nat, k ≤ n ∧ vi = .int .i64 k ∧ Aside0 (Below w.heap.size w wr)) (fun vi _ => n - (intOf vi).toNat)
  case atStart => exact ⟨0, by omega, rfl, HB0⟩
  case round =>
    clear HB0
    obtain ⟨k, hk, rfl, HB⟩ := hrel
    by_cases hgo : k < n
    · obtain ⟨⟨kd, bb⟩, hp⟩ : ∃ p, l[k]? = some p := ⟨_, List.getElem?_eq_getElem (by rw [HN.out]; exact hgo)⟩
      obtain ⟨ad, A3, c3, rfl, q0, q1, -, hCb⟩ := F_get (Kd.C_below HC.out HB.out) hp
      obtain ⟨ad', A4, c4, rfl, q2, q3, -, hCb'⟩ := F_get (Kd.C_below HC'.out HB.out) hp
      have z1 := C_str (c := c3) hCb
      have z2 := C_str (c := c4) hCb'
      have hkk : (kd != kd) = false := by simp
      have HCB := Aside0.mk hCb
      have HCB' := Aside0.mk hCb'
      have HCUR := Aside0.mk (Keep.refl (fun _ => False) wr.drew)
      have HWR := Aside0.mk (show ∀ W, Keep (fun _ => False) wr.drew W → Below wr.heap.size wr W from fun W hW => (Below.refl wr.heap.size wr).drew.trans (hW.below (Nat.le_refl _) (fun _ _ h => h)))
      have HQ := Aside0.mk (And.intro q0 (And.intro q1 (And.intro q2 q3)))
      clear hp hCb hCb' q0 q1 q2 q3 z1 z2
      go_wp2_with fail
      refine rk_start (fun _ => False) (by kernel_rfl) (n := 26) (l := #[false, false, false, false, false, false, false, false, false, false, false, false, false, false, false, false, false, false, false, false, false, false, false, false, false, false]) (by kernel_rfl) (by kernel_rfl) ?_
      refine rk_take (fuel := 25) 0 rfl (by kernel_rfl) (listed' := #[true, false, false, false, false, false, false, false, false, false, false, false, false, false, false, false, false, false, false, false, false, false, false, false, false, false]) (by kernel_rfl) (fun _ _ _ h => h) (by kernel_rfl) (fun w' hR => by go_simp; first | done | with_reducible rfl) rfl ?_
      try simp only [Act.put, List.setIfInBounds_toArray, List.set_cons_zero, List.set_cons_succ]
      refine rk_take (fuel := 24) 1 rfl (by kernel_rfl) (listed' := #[true, true, false, false, false, false, false, false, false, false, false, false, false, false, false, false, false, false, false, false, false, false, false, false, false, false]) (by kernel_rfl) (fun _ _ _ h => h) (by kernel_rfl) (fun w' hR => by go_simp; first | done | with_reducible rfl) rfl ?_
      try simp only [Act.put, List.setIfInBounds_toArray, List.set_cons_zero, List.set_cons_succ]
      refine rk_take (fuel := 23) 2 rfl (by kernel_rfl) (listed' := #[true, true, true, false, false, false, false, false, false, false, false, false, false, false, false, false, false, false, false, false, false, false, false, false, false, false]) (by kernel_rfl) (fun _ _ _ h => h) (by kernel_rfl) (fun w' hR => by go_simp; first | done | with_reducible rfl) rfl ?_
      try simp only [Act.put, List.setIfInBounds_toArray, List.set_cons_zero, List.set_cons_succ]
      refine rk_take (fuel := 22) 3 rfl (by kernel_rfl) (listed' := #[true, true, true, true, false, false, false, false, false, false, false, false, false, false, false, false, false, false, false, false, false, false, false, false, false, false]) (by kernel_rfl) (fun _ _ _ h => h) (by kernel_rfl) (fun w' hR => by go_simp; first | done | with_reducible rfl) rfl ?_
      try simp only [Act.put, List.setIfInBounds_toArray, List.set_cons_zero, List.set_cons_succ]
      refine rk_take (fuel := 21) 4 rfl (by kernel_rfl) (listed' := #[true, true, true, true, true, false, false, false, false, false, false, false, false, false, false, false, false, false, false, false, false, false, false, false, false, false]) (by kernel_rfl) (fun _ _ _ h => h) (by kernel_rfl) (fun w' hR => by have x0 := pw_cell_below (HWR.out w' (HCUR.out.trans hR)) HQ.out.1; go_simp; first | done | with_reducible rfl) rfl ?_
      try simp only [Act.put, List.setIfInBounds_toArray, List.set_cons_zero, List.set_cons_succ]
      refine rk_take (fuel := 20) 5 rfl (by kernel_rfl) (listed' := #[true, true, true, true, true, true, false, false, false, false, false, false, false, false, false, false, false, false, false, false, false, false, false, false, false, false]) (by kernel_rfl) (fun _ _ _ h => h) (by kernel_rfl) (fun w' hR => by go_simp; first | done | with_reducible rfl) rfl ?_
      try simp only [Act.put, List.setIfInBounds_toArray, List.set_cons_zero, List.set_cons_succ]
      refine rk_take (fuel := 19) 6 rfl (by kernel_rfl) (listed' := #[true, true, true, true, true, true, true, false, false, false, false, false, false, false, false, false, false, false, false, false, false, false, false, false, false, false]) (by kernel_rfl) (fun _ _ _ h => h) (by kernel_rfl) (fun w' hR => by go_simp; first | done | with_reducible rfl) rfl ?_
      try simp only [Act.put, List.setIfInBounds_toArray, List.set_cons_zero, List.set_cons_succ]
      refine rk_take (fuel := 18) 7 rfl (by kernel_rfl) (listed' := #[true, true, true, true, true, true, true, true, false, false, false, false, false, false, false, false, false, false, false, false, false, false, false, false, false, false]) (by kernel_rfl) (fun _ _ _ h => h) (by kernel_rfl) (fun w' hR => by go_simp; first | done | with_reducible rfl) rfl ?_
      try simp only [Act.put, List.setIfInBounds_toArray, List.set_cons_zero, List.set_cons_succ]
      refine rk_take (fuel := 17) 8 rfl (by kernel_rfl) (listed' := #[true, true, true, true, true, true, true, true, true, false, false, false, false, false, false, false, false, false, false, false, false, false, false, false, false, false]) (by kernel_rfl) (fun _ _ _ h => h) (by kernel_rfl) (fun w' hR => by go_simp; first | done | with_reducible rfl) rfl ?_
      try simp only [Act.put, List.setIfInBounds_toArray, List.set_cons_zero, List.set_cons_succ]
      refine rk_take (fuel := 16) 9 rfl (by kernel_rfl) (listed' := #[true, true, true, true, true, true, true, true, true, true, false, false, false, false, false, false, false, false, false, false, false, false, false, false, false, false]) (by kernel_rfl) (fun _ _ _ h => h) (by kernel_rfl) (fun w' hR => by have x0 := pw_cell_below (HWR.out w' (HCUR.out.trans hR)) HQ.out.2.2.1; go_simp; first | done | with_reducible rfl) rfl ?_
      try simp only [Act.put, List.setIfInBounds_toArray, List.set_cons_zero, List.set_cons_succ]
      refine rk_take (fuel := 15) 10 rfl (by kernel_rfl) (listed' := #[true, true, true, true, true, true, true, true, true, true, true, false, false, false, false, false, false, false, false, false, false, false, false, false, false, false]) (by kernel_rfl) (fun _ _ _ h => h) (by kernel_rfl) (fun w' hR => by go_simp; first | done | with_reducible rfl) rfl ?_
      try simp only [Act.put, List.setIfInBounds_toArray, List.set_cons_zero, List.set_cons_succ]
      refine rk_take (fuel := 14) 11 rfl (by kernel_rfl) (listed' := #[true, true, true, true, true, true, true, true, true, true, true, true, false, false, false, false, false, false, false, false, false, false, false, false, false, false]) (by kernel_rfl) (fun _ _ _ h => h) (by kernel_rfl) (fun w' hR => by go_simp; first | done | with_reducible rfl) rfl ?_
      try simp only [Act.put, List.setIfInBounds_toArray, List.set_cons_zero, List.set_cons_succ]
      refine rk_take (fuel := 13) 12 rfl (by kernel_rfl) (listed' := #[true, true, true, true, true, true, true, true, true, true, true, true, true, false, false, false, false, false, false, false, false, false, false, false, false, false]) (by kernel_rfl) (fun _ _ _ h => h) (by kernel_rfl) (fun w' hR => by go_simp; first | done | with_reducible rfl) rfl ?_
      try simp only [Act.put, List.setIfInBounds_toArray, List.set_cons_zero, List.set_cons_succ]
      refine rk_take (fuel := 12) 13 rfl (by kernel_rfl) (listed' := #[true, true, true, true, true, true, true, true, true, true, true, true, true, true, false, false, false, false, false, false, false, false, false, false, false, false]) (by kernel_rfl) (fun _ _ _ h => h) (by kernel_rfl) (fun w' hR => by go_simp; first | done | with_reducible rfl) rfl ?_
      try simp only [Act.put, List.setIfInBounds_toArray, List.set_cons_zero, List.set_cons_succ]
      refine rk_take (fuel := 11) 14 rfl (by kernel_rfl) (listed' := #[true, true, true, true, true, true, true, true, true, true, true, true, true, true, true, false, false, false, false, false, false, false, false, false, false, false]) (by kernel_rfl) (fun _ _ _ h => h) (by kernel_rfl) (fun w' hR => by go_simp; first | done | with_reducible rfl) rfl ?_
      try simp only [Act.put, List.setIfInBounds_toArray, List.set_cons_zero, List.set_cons_succ]
      refine rk_take (fuel := 10) 15 rfl (by kernel_rfl) (listed' := #[true, true, true, true, true, true, true, true, true, true, true, true, true, true, true, true, false, false, false, false, false, false, false, false, false, false]) (by kernel_rfl) (fun _ _ _ h => h) (by kernel_rfl) (fun w' hR => by go_simp; first | done | with_reducible rfl) rfl ?_
      try simp only [Act.put, List.setIfInBounds_toArray, List.set_cons_zero, List.set_cons_succ]
      refine rk_take (fuel := 9) 16 rfl (by kernel_rfl) (listed' := #[true, true, true, true, true, true, true, true, true, true, true, true, true, true, true, true, true, false, false, false, false, false, false, false, false, false]) (by kernel_rfl) (fun _ _ _ h => h) (by kernel_rfl) (fun w' hR => by have x0 := pw_cell_below (HWR.out w' (HCUR.out.trans hR)) HQ.out.2.1; go_simp; first | done | with_reducible rfl) rfl ?_
      try simp only [Act.put, List.setIfInBounds_toArray, List.set_cons_zero, List.set_cons_succ]
      refine rk_take (fuel := 8) 17 rfl (by kernel_rfl) (listed' := #[true, true, true, true, true, true, true, true, true, true, true, true, true, true, true, true, true, true, false, false, false, false, false, false, false, false]) (by kernel_rfl) (fun _ _ _ h => h) (by kernel_rfl) (fun w' hR => by have x0 := C_str (c := c3) (Kd.C_below HCB.out (HWR.out w' (HCUR.out.trans hR))); go_simp; first | done | with_reducible rfl) rfl ?_
      try simp only [Act.put, List.setIfInBounds_toArray, List.set_cons_zero, List.set_cons_succ]
      refine rk_take (fuel := 7) 18 rfl (by kernel_rfl) (listed' := #[true, true, true, true, true, true, true, true, true, true, true, true, true, true, true, true, true, true, true, false, false, false, false, false, false, false]) (by kernel_rfl) (fun _ _ _ h => h) (by kernel_rfl) (fun w' hR => by go_simp; first | done | with_reducible rfl) rfl ?_
      try simp only [Act.put, List.setIfInBounds_toArray, List.set_cons_zero, List.set_cons_succ]
      refine rk_take (fuel := 6) 19 rfl (by kernel_rfl) (listed' := #[true, true, true, true, true, true, true, true, true, true, true, true, true, true, true, true, true, true, true, true, false, false, false, false, false, false]) (by kernel_rfl) (fun _ _ _ h => h) (by kernel_rfl) (fun w' hR => by go_simp; first | done | with_reducible rfl) rfl ?_
      try simp only [Act.put, List.setIfInBounds_toArray, List.set_cons_zero, List.set_cons_succ]
      refine rk_take (fuel := 5) 20 rfl (by kernel_rfl) (listed' := #[true, true, true, true, true, true, true, true, true, true, true, true, true, true, true, true, true, true, true, true, true, false, false, false, false, false]) (by kernel_rfl) (fun _ _ _ h => h) (by kernel_rfl) (fun w' hR => by go_simp; first | done | with_reducible rfl) rfl ?_
      try simp only [Act.put, List.setIfInBounds_toArray, List.set_cons_zero, List.set_cons_succ]
      refine rk_take (fuel := 4) 21 rfl (by kernel_rfl) (listed' := #[true, true, true, true, true, true, true, true, true, true, true, true, true, true, true, true, true, true, true, true, true, true, false, false, false, false]) (by kernel_rfl) (fun _ _ _ h => h) (by kernel_rfl) (fun w' hR => by go_simp; first | done | with_reducible rfl) rfl ?_
      try simp only [Act.put, List.setIfInBounds_toArray, List.set_cons_zero, List.set_cons_succ]
      refine rk_take (fuel := 3) 22 rfl (by kernel_rfl) (listed' := #[true, true, true, true, true, true, true, true, true, true, true, true, true, true, true, true, true, true, true, true, true, true, true, false, false, false]) (by kernel_rfl) (fun _ _ _ h => h) (by kernel_rfl) (fun w' hR => by have x0 := pw_cell_below (HWR.out w' (HCUR.out.trans hR)) HQ.out.2.2.2; go_simp; first | done | with_reducible rfl) rfl ?_
      try simp only [Act.put, List.setIfInBounds_toArray, List.set_cons_zero, List.set_cons_succ]
      refine rk_take (fuel := 2) 23 rfl (by kernel_rfl) (listed' := #[true, true, true, true, true, true, true, true, true, true, true, true, true, true, true, true, true, true, true, true, true, true, true, true, false, false]) (by kernel_rfl) (fun _ _ _ h => h) (by kernel_rfl) (fun w' hR => by have x0 := C_str (c := c4) (Kd.C_below HCB'.out (HWR.out w' (HCUR.out.trans hR))); go_simp; first | done | with_reducible rfl) rfl ?_
      try simp only [Act.put, List.setIfInBounds_toArray, List.set_cons_zero, List.set_cons_succ]
      refine rk_take (fuel := 1) 24 rfl (by kernel_rfl) (listed' := #[true, true, true, true, true, true, true, true, true, true, true, true, true, true, true, true, true, true, true, true, true, true, true, true, true, false]) (by kernel_rfl) (fun _ _ _ h => h) (by kernel_rfl) (fun w' hR => by go_simp; first | done | with_reducible rfl) rfl ?_
      try simp only [Act.put, List.setIfInBounds_toArray, List.set_cons_zero, List.set_cons_succ]
      refine rk_take (fuel := 0) 25 rfl (by kernel_rfl) (listed' := #[true, true, true, true, true, true, true, true, true, true, true, true, true, true, true, true, true, true, true, true, true, true, true, true, true, true]) (by kernel_rfl) (fun _ _ _ h => h) (by kernel_rfl) (fun w' hR => by go_simp; first | done | with_reducible rfl) rfl ?_
      try simp only [Act.put, List.setIfInBounds_toArray, List.set_cons_zero, List.set_cons_succ]
      refine rk_done (by kernel_rfl) ?_
      go_wp2
      go_roundw
      case rel => exact ⟨k + 1, by omega, by go_num, ⟨HB.out.drew⟩⟩
      case measure => simp [intOf]; omega
    · have hke : k = n := by omega
      subst hke
      go_wp2_with fail
      go_ret
      exact ⟨rfl, HB.out⟩
end Go.Proofs.Ytfcpnjoiloahcaa.Gc
