/- What taking a frame comes to in the reference. -/
import Derived.Test.YtfcpnjoiloahcaaGf
import Derived.Test.YtfcpnjoiloahcaaGa
import Derived.Test.YtfcpnjoiloahcaaGo
import Derived.Test.YtfcpnjoiloahcaaS
namespace Go.Proofs.Ytfcpnjoiloahcaa.Gc
open Go.RowKit Go.Proofs.YtfcpnjoiloahcaaW.PrintWords Go.Proofs.YtfcpnjoiloahcaaW.PrintLast Go.Proofs.YtfcpnjoiloahcaaW.PrintMore Go.Proofs.Ytfcpnjoiloahcaa.B Go.Proofs.Ytfcpnjoiloahcaa.Ls Go.Proofs.Ytfcpnjoiloahcaa.Gs Go.Proofs.Ytfcpnjoiloahcaa.S Go.Proofs.Ytfcpnjoiloahcaa.R
set_option linter.unusedVariables false
set_option linter.unusedSimpArgs false
set_option maxHeartbeats 8000000 in
set_option maxRecDepth 100000 in
theorem rtake_calls (A : Option Addr) (c : Nat) (b : List Int) (w : World) (hC : kU8.C w A b.length b) (hc : b.length ≤ c) (hby : By b) (hl : b.length ≤ 1000000) :
    Calls Try.prog 38 #[.slice A b.length c] w fun e w' => ∃ A2 c2, e = .returned (.tuple #[.int .u8 (takeL b).1, .slice A2 (takeL b).2.1.length c2, .int .i64 (takeL b).2.2.1, .int .i64 (takeL b).2.2.2]) ∧ (takeL b).2.1.length ≤ c2 ∧ (∀ W, kU8.C W A b.length b → kU8.C W A2 (takeL b).2.1.length (takeL b).2.1) ∧ Below w.heap.size w w' := by
  have HC := Aside0.mk hC
  have HBY := Aside0.mk hby
  by_cases hb2 : b.length < 2
  · have ht : takeL b = (0, [], 0, 3) := by
      match b, hb2 with
      | [], _ => rfl
      | [_], _ => rfl
      | _ :: _ :: _, h => simp at h; omega
    have HT := Aside0.mk ht
    clear ht hC hby
    go_enter Try.func38, Try.ntmps38
    go_wp2
    refine bodyPost_ret (results_tmp4 rfl _ _ _) rfl ?_
    rw [HT.out]
    exact ⟨none, 0, rfl, Nat.le_refl _, fun W _ => Kd.C_nil _ _, Below.refl _ _⟩
  obtain ⟨m, k, r, hbr⟩ : ∃ m k r, b = m :: k :: r := by
    match b, hb2 with
    | [], h => simp at h
    | [_], h => simp at h
    | m :: k :: r, _ => exact ⟨m, k, r, rfl⟩
  obtain ⟨ad, rfl⟩ := C_some hC (by omega)
  have hrl : b.length = r.length + 2 := by rw [hbr]; rfl
  have q0 : w.cell? (ad.add 0) = some (.int .u8 m) := C_cell hC (by rw [hbr]; rfl)
  have q1 : w.cell? (ad.add 1) = some (.int .u8 k) := C_cell hC (by rw [hbr]; rfl)
  have ea : ad.add 0 = ad := by simp [Addr.add]
  have q0' : w.cell? ad = some (.int .u8 m) := by rw [← ea]; exact q0
  have hmk := hby m (by rw [hbr]; simp)
  have hkk := hby k (by rw [hbr]; simp)
  obtain ⟨l10, h10⟩ : ∃ l, r.take 10 = l := ⟨_, rfl⟩
  obtain ⟨n, left, cd, hn⟩ : ∃ n left cd, num l10 0 = (n, left, cd) := ⟨_, _, _, rfl⟩
  have HT := Aside0.mk (takeL_eq (m := m) (k := k) h10 hn)
  rw [← hbr] at HT
  by_cases hm : m = 111
  case neg =>
    have hmb : (m != 111) = true := bne_iff_ne.mpr hm
    have ht := HT.out
    rw [if_pos hm] at ht
    have HT := Aside0.mk ht
    clear ht hm hC hby hbr h10 hn
    go_enter Try.func38, Try.ntmps38
    go_wp2
    refine bodyPost_ret (results_tmp4 rfl _ _ _) rfl ?_
    rw [HT.out]
    exact ⟨none, 0, rfl, Nat.le_refl _, fun W _ => Kd.C_nil _ _, Below.refl _ _⟩
  subst hm
  have ht := HT.out
  rw [if_neg (by simp)] at ht
  have HT := Aside0.mk ht
  clear ht
  have hnl := num_left l10 0
  have hnr := num_range l10 0 (by rw [← h10]; exact (fun x hx => hby x (by rw [hbr]; exact List.mem_cons_of_mem _ (List.mem_cons_of_mem _ (List.mem_of_mem_take hx)))))
  rw [hn] at hnl hnr
  obtain ⟨hn0, hn1⟩ := hnr
  simp only at hnl hn0 hn1
  have hl10 : l10.length = min 10 r.length := by rw [← h10, List.length_take]
  obtain ⟨e, he⟩ : ∃ e, min b.length 12 = e := ⟨_, rfl⟩
  have hel : e = 2 + l10.length := by omega
  have HE := Aside0.mk he
  obtain ⟨i5, hi5, -, hi5s, -⟩ := info_ex infoU8
  obtain ⟨A1, hrun1, hCm1, hA1, hcp1⟩ := sl_mid kU8 24 5 .i64 .i64 Try.underlying24 hi5 (some ad) c b hi5s 2 (e : Int) (by decide) (by omega) (by omega) hc
  have hd : (b.take (e : Int).toNat).drop (2 : Int).toNat = l10 := by
    rw [Int.toNat_natCast, show (2 : Int).toNat = 2 from rfl, ← h10, hbr, show e = (e - 2) + 1 + 1 by omega, List.take_succ_cons, List.take_succ_cons]
    show r.take (e - 2) = r.take 10
    rcases Nat.le_total r.length 10 with h | h
    · rw [List.take_of_length_le (by omega), List.take_of_length_le h]
    · rw [show e - 2 = 10 by omega]
  rw [hd] at hrun1 hCm1 hcp1
  have HC1 := Aside0.mk (hCm1 _ hC)
  have hl10b : l10.length ≤ 10 := by omega
  have HBY10 := Aside0.mk (show By l10 by rw [← h10]; exact fun x hx => hby x (by rw [hbr]; exact List.mem_cons_of_mem _ (List.mem_cons_of_mem _ (List.mem_of_mem_take hx))))
  have HN := Aside0.mk hn
  have hb2' : 2 ≤ b.length := by omega
  have he12 : e ≤ 12 := by omega
  have hle : left.length ≤ e := by omega
  have hmb : ((111 : Int) != 111) = false := by decide
  have HBR := Aside0.mk (And.intro hbr (And.intro hrl (And.intro hel hl10)))
  have HRB := Aside0.mk (show By r from fun x hx => hby x (by rw [hbr]; exact List.mem_cons_of_mem _ (List.mem_cons_of_mem _ hx)))
  clear hd hCm1 hn h10 he hbr hC hby hrl hel hl10
  have hadl : ad.block < w.heap.size := World.block_lt_of_cell? w _ q0'
  obtain ⟨W, hW⟩ : ∃ W, W = w.alloc (.cells #[.slice A1 l10.length (c - 2), .int .i64 0] 95) := ⟨_, rfl⟩
  have HR1 := Aside0.mk (show Rdr 95 W w.heap.size ad.block l10 0 from ⟨A1, c - 2, by rw [hW]; exact heap_alloc_new _ _, by simpa using hcp1, fun a e => by
    obtain ⟨a0, h1, h2⟩ := hA1 a e
    injection h1 with h1
    rw [h2, h1], by rw [hW]; exact Kd.C_alloc HC1.out _, by omega⟩)
  have HBW := Aside0.mk (show Below w.heap.size w W by rw [hW]; exact (Below.refl _ _).alloc (Nat.le_refl _) _)
  clear hA1 hcp1 hmk
  go_enter Try.func38, Try.ntmps38
  go_upto_if 21 with fail
  go_cut [6] (fun s6 wx => s6 = .int .i64 (e : Int) ∧ w = wx)
  case first =>
    by_cases h12 : 12 < b.length
    · have h12' : decide ((12 : Int) < (b.length : Int)) = true := by simp; omega
      have he : (12 : Int) = (e : Int) := by have := HE.out; omega
      go_wp2
      go_meet
      exact ⟨by rw [← he], rfl⟩
    · have h12' : decide ((12 : Int) < (b.length : Int)) = false := by simp; omega
      have he : b.length = e := by have := HE.out; omega
      go_wp2
      go_meet
      exact ⟨by rw [← he], rfl⟩
  case rest =>
  obtain ⟨rfl, rfl⟩ := hcut
  clear HE
  by_cases hcd : cd = 0
  case neg =>
    have hcb : (cd != 0) = true := bne_iff_ne.mpr hcd
    have ht := HT.out
    rw [if_pos hcd] at ht
    have HT := Aside0.mk ht
    clear ht hcd
    go_wp2_with (first | (go_at_call 60; rw [← hW]; refine (Lr.num_calls w.heap.size ad.block l10 0 _ HR1.out HBY10.out).mono ?_; rw [HN.out]; rintro e2 w2 ⟨rfl, hr2, hk2, hs2⟩; obtain ⟨q2, -⟩ := hr2.code; obtain ⟨A4, c4, q4, -, -, -, -, -, -⟩ := hr2.left; have HR2 := Aside0.mk hr2; have HB2 := Aside0.mk (Keep.below_then HBW.out hk2 HBW.out.size (fun i hi e => by omega)); clear hr2 hk2 hs2))
    have HCUR := Aside0.mk (Keep.refl (fun _ => False) w2.drew)
    have HQ2 := Aside0.mk (show ∀ W, Keep (fun _ => False) w2.drew W → W.cell? ⟨w.heap.size, 1, none⟩ = some (.int .i64 cd) from fun W hW => (by
      have h2 : W.heap[w.heap.size]? = w2.heap[w.heap.size]? := hW.block _ (World.block_lt_of_cell? w2 _ q2) (fun h => h)
      simpa [World.cell?, h2] using q2))
    clear q4
    refine rk_start (fun _ => False) (by kernel_rfl) (n := 8) (l := #[false, false, false, false, false, false, false, false]) (by kernel_rfl) (by kernel_rfl) ?_
    refine rk_take (fuel := 7) 0 rfl (by kernel_rfl) (listed' := #[true, false, false, false, false, false, false, false]) (by kernel_rfl) (fun _ _ _ h => h) (by kernel_rfl) (fun w' hR => by go_simp; first | done | with_reducible rfl) rfl ?_
    try simp only [Act.put, List.setIfInBounds_toArray, List.set_cons_zero, List.set_cons_succ]
    refine rk_take (fuel := 6) 1 rfl (by kernel_rfl) (listed' := #[true, true, false, false, false, false, false, false]) (by kernel_rfl) (fun _ _ _ h => h) (by kernel_rfl) (fun w' hR => by go_simp; first | done | with_reducible rfl) rfl ?_
    try simp only [Act.put, List.setIfInBounds_toArray, List.set_cons_zero, List.set_cons_succ]
    refine rk_take (fuel := 5) 2 rfl (by kernel_rfl) (listed' := #[true, true, true, false, false, false, false, false]) (by kernel_rfl) (fun _ _ _ h => h) (by kernel_rfl) (fun w' hR => by go_simp; first | done | with_reducible rfl) rfl ?_
    try simp only [Act.put, List.setIfInBounds_toArray, List.set_cons_zero, List.set_cons_succ]
    refine rk_take (fuel := 4) 3 rfl (by kernel_rfl) (listed' := #[true, true, true, true, false, false, false, false]) (by kernel_rfl) (fun _ _ _ h => h) (by kernel_rfl) (fun w' hR => by have x0 := HQ2.out w' (HCUR.out.trans hR); go_simp; first | done | with_reducible rfl) rfl ?_
    try simp only [Act.put, List.setIfInBounds_toArray, List.set_cons_zero, List.set_cons_succ]
    refine rk_take (fuel := 3) 4 rfl (by kernel_rfl) (listed' := #[true, true, true, true, true, false, false, false]) (by kernel_rfl) (fun _ _ _ h => h) (by kernel_rfl) (fun w' hR => by go_simp; first | done | with_reducible rfl) rfl ?_
    try simp only [Act.put, List.setIfInBounds_toArray, List.set_cons_zero, List.set_cons_succ]
    refine rk_take (fuel := 2) 5 rfl (by kernel_rfl) (listed' := #[true, true, true, true, true, true, false, false]) (by kernel_rfl) (fun _ _ _ h => h) (by kernel_rfl) (fun w' hR => by go_simp; first | done | with_reducible rfl) rfl ?_
    try simp only [Act.put, List.setIfInBounds_toArray, List.set_cons_zero, List.set_cons_succ]
    refine rk_take (fuel := 1) 6 rfl (by kernel_rfl) (listed' := #[true, true, true, true, true, true, true, false]) (by kernel_rfl) (fun _ _ _ h => h) (by kernel_rfl) (fun w' hR => by go_simp; first | done | with_reducible rfl) rfl ?_
    try simp only [Act.put, List.setIfInBounds_toArray, List.set_cons_zero, List.set_cons_succ]
    refine rk_take (fuel := 0) 7 rfl (by kernel_rfl) (listed' := #[true, true, true, true, true, true, true, true]) (by kernel_rfl) (fun _ _ _ h => h) (by kernel_rfl) (fun w' hR => by go_simp; first | done | with_reducible rfl) rfl ?_
    try simp only [Act.put, List.setIfInBounds_toArray, List.set_cons_zero, List.set_cons_succ]
    refine rk_done (by kernel_rfl) ?_
    go_wp2
    refine bodyPost_ret (results_tmp4 rfl _ _ _) rfl ?_
    rw [HT.out]
    exact ⟨none, 0, rfl, Nat.le_refl _, fun W _ => Kd.C_nil _ _, HB2.out.drew⟩
  subst hcd
  have hcb : ((0 : Int) != 0) = false := by decide
  have ht := HT.out
  rw [if_neg (by simp)] at ht
  have HT := Aside0.mk ht
  clear ht
  by_cases h64 : 65536 < n
  · have ht := HT.out
    rw [if_pos h64] at ht
    have HT := Aside0.mk ht
    clear ht
    go_wp2_with (first | (go_at_call 60; rw [← hW]; refine (Lr.num_calls w.heap.size ad.block l10 0 _ HR1.out HBY10.out).mono ?_; rw [HN.out]; rintro e2 w2 ⟨rfl, hr2, hk2, hs2⟩; obtain ⟨q2, -⟩ := hr2.code; obtain ⟨A4, c4, q4, -, -, -, -, -, -⟩ := hr2.left; have HR2 := Aside0.mk hr2; have HB2 := Aside0.mk (Keep.below_then HBW.out hk2 HBW.out.size (fun i hi e => by omega)); clear hr2 hk2 hs2))
    refine bodyPost_ret (results_tmp4 rfl _ _ _) rfl ?_
    rw [HT.out]
    exact ⟨none, 0, rfl, Nat.le_refl _, fun W _ => Kd.C_nil _ _, HB2.out⟩
  have ht := HT.out
  rw [if_neg h64] at ht
  have HT := Aside0.mk ht
  clear ht
  obtain ⟨nn, rfl⟩ : ∃ nn : Nat, n = nn := ⟨n.toNat, by omega⟩
  obtain ⟨u, hu⟩ : ∃ u, l10.length - left.length = u := ⟨_, rfl⟩
  rw [hu, Int.toNat_natCast] at HT
  obtain ⟨a, ha⟩ : ∃ a : Nat, a = 2 + u := ⟨_, rfl⟩
  have hea : e = a + left.length := by have := HBR.out; omega
  subst hea
  have hab : a ≤ 12 := by have := HBR.out; omega
  have hlf : left.length ≤ 12 := by omega
  have hnn : nn ≤ 65536 := by omega
  have hat : (a : Int) + (left.length : Int) - (left.length : Int) = (a : Int) := by omega
  have HA := Aside0.mk (And.intro ha hu)
  push_cast at hrun1
  clear ha hu
  by_cases hsl : b.length < a + 4 + nn
  · have ht := HT.out
    rw [if_pos (by have h1 := HBR.out; have h2 := HA.out; omega)] at ht
    have HT := Aside0.mk ht
    have hsd : decide ((b.length : Int) < (a : Int) + 4 + (nn : Int)) = true := by simp; omega
    clear hsl hle hn1 hn0 hnl
    clear ht
    go_wp2_with (first | (go_at_call 60; rw [← hW]; refine (Lr.num_calls w.heap.size ad.block l10 0 _ HR1.out HBY10.out).mono ?_; rw [HN.out]; rintro e2 w2 ⟨rfl, hr2, hk2, hs2⟩; obtain ⟨q2, -⟩ := hr2.code; obtain ⟨A4, c4, q4, -, -, -, -, -, -⟩ := hr2.left; have HR2 := Aside0.mk hr2; have HB2 := Aside0.mk (Keep.below_then HBW.out hk2 HBW.out.size (fun i hi e => by omega)); clear hr2 hk2 hs2))
    refine bodyPost_ret (results_tmp4 rfl _ _ _) rfl ?_
    rw [HT.out]
    exact ⟨none, 0, rfl, Nat.le_refl _, fun W _ => Kd.C_nil _ _, HB2.out⟩
  have hbr := HBR.out.1
  have hrl := HBR.out.2.1
  obtain ⟨ha, hu⟩ := HA.out
  have hle2 : a + 4 + nn ≤ b.length := by omega
  obtain ⟨body, hbody⟩ : ∃ body, (r.drop (u + 4)).take nn = body := ⟨_, rfl⟩
  have hbl : body.length = nn := by rw [← hbody, List.length_take, List.length_drop]; omega
  have hbb : (b.take ((a : Int) + 4 + (nn : Int)).toNat).drop ((a : Int) + 4).toNat = body := by
    rw [← hbody, hbr, show ((a : Int) + 4 + (nn : Int)).toNat = (u + 4 + nn) + 1 + 1 by omega, show ((a : Int) + 4).toNat = (u + 4) + 1 + 1 by omega, List.take_succ_cons, List.take_succ_cons, List.drop_succ_cons, List.drop_succ_cons, List.drop_take]
    congr 1
    omega
  obtain ⟨A2, hrun2, hCm2, -, -⟩ := sl_mid kU8 24 5 .i64 .i64 Try.underlying24 hi5 (some ad) c b hi5s ((a : Int) + 4) ((a : Int) + 4 + (nn : Int)) (by omega) (by omega) (by omega) hc
  rw [hbb] at hrun2 hCm2
  have HCB := Aside0.mk (hCm2 _ HC.out)
  obtain ⟨y0, y1, y2, y3, hys⟩ : ∃ y0 y1 y2 y3, (r.drop u).take 4 = [y0, y1, y2, y3] := by
    have h4 : ((r.drop u).take 4).length = 4 := by rw [List.length_take, List.length_drop]; omega
    match (r.drop u).take 4, h4 with
    | [y0, y1, y2, y3], _ => exact ⟨y0, y1, y2, y3, rfl⟩
  have hyb : By [y0, y1, y2, y3] := by rw [← hys]; exact (HRB.out.drop _).take _
  have hb4 : (b.take ((a : Int) + 4).toNat).drop (a : Int).toNat = [y0, y1, y2, y3] := by
    rw [← hys, hbr, show ((a : Int) + 4).toNat = (u + 4) + 1 + 1 by omega, show (a : Int).toNat = u + 1 + 1 by omega, List.take_succ_cons, List.take_succ_cons, List.drop_succ_cons, List.drop_succ_cons, List.drop_take]
    congr 1
    omega
  obtain ⟨A3, hrun3, hCm3, -, -⟩ := sl_mid kU8 24 5 .i64 .i64 Try.underlying24 hi5 (some ad) c b hi5s (a : Int) ((a : Int) + 4) (by omega) (by omega) (by omega) hc
  rw [hb4] at hrun3 hCm3
  simp only [List.length_cons, List.length_nil, Nat.zero_add, Nat.reduceAdd] at hrun3
  have hC3 := hCm3 _ HC.out
  obtain ⟨ad3, rfl⟩ := C_some hC3 (by simp)
  have HC3 := Aside0.mk (show kU8.C w (some ad3) 4 [y0, y1, y2, y3] from hC3)
  have HBYB := Aside0.mk (show By body by rw [← hbody]; exact (HRB.out.drop _).take _)
  have hsd : decide ((b.length : Int) < (a : Int) + 4 + (nn : Int)) = false := by simp; omega
  have ht := HT.out
  rw [if_neg (by omega), hbody, hys] at ht
  have HTT := Aside0.mk ht
  have hbodyb : body.length ≤ 65536 := by omega
  have hq1 : w.cell? ⟨ad.block, ad.off + 1, none⟩ = some (.int .u8 k) := q1
  have HQ := Aside0.mk hq1
  have hq1l : (⟨ad.block, ad.off + 1, none⟩ : Addr).block < w.heap.size := World.block_lt_of_cell? w _ q1
  have q1k : ∀ W, Below w.heap.size w W → W.cell? ⟨ad.block, ad.off + 1, none⟩ = some (.int .u8 k) := fun W hW => (hW.cell (p := ⟨ad.block, ad.off + 1, none⟩) hq1l).trans HQ.out
  have HQK := Aside0.mk q1k
  clear q1 hq1 q1k
  obtain ⟨res, hres⟩ : ∃ res, (check k body == [y0, y1, y2, y3]) = res := ⟨_, rfl⟩
  have hst : ((strOfNums (check k body)).toList == (strOfNums [y0, y1, y2, y3]).toList) = res := by rw [str_beq _ _ (check_by k body) hyb, hres]
  have HRES := Aside0.mk hres
  obtain ⟨hkk0, hkk1⟩ := hkk
  have hb1l : (1 : Int) < (b.length : Int) := by omega
  have HSZ := Aside0.mk (show 2 + (u : Int) + 4 + (nn : Int) = (a : Int) + 4 + (nn : Int) by omega)
  have HBL := Aside0.mk hbl
  have hCm2' : ∀ W, kU8.C W (some ad) b.length b → kU8.C W A2 body.length body := hCm2
  have HCM2 := Aside0.mk hCm2'
  have hcp2 : body.length ≤ c - ((a : Int) + 4).toNat := by omega
  clear ht hbr hrl ha hu hle2 hbody hbl hbb hCm2 hCm2' hys hyb hb4 hCm3 hC3 hi5 hi5s hsl hle hn1 hn0 hnl q0 HT hres
  have hb14 : body.length ≤ 140737488355300 := by omega
  cases res with
  | false =>
    have hne : check k body ≠ [y0, y1, y2, y3] := by have := HRES.out; rw [beq_eq_false_iff_ne] at this; exact this
    have ht := HTT.out
    rw [if_pos hne] at ht
    have HT := Aside0.mk ht
    clear ht hne
    go_wp2_with (first | (go_at_call 60; rw [← hW]; refine (Lr.num_calls w.heap.size ad.block l10 0 _ HR1.out HBY10.out).mono ?_; rw [HN.out]; rintro e2 w2 ⟨rfl, hr2, hk2, hs2⟩; obtain ⟨q2, -⟩ := hr2.code; obtain ⟨A4, c4, q4, -, -, -, -, -, -⟩ := hr2.left; have HR2 := Aside0.mk hr2; have HB2 := Aside0.mk (Keep.below_then HBW.out hk2 HBW.out.size (fun i hi e => by omega)); clear hr2 hk2 hs2))
    have HCUR := Aside0.mk (Keep.refl (fun _ => False) w2.drew)
    have HW5 := Aside0.mk (show ∀ W, Keep (fun _ => False) w2.drew W → Below w.heap.size w W from fun W hW => HB2.out.drew.trans (hW.below (Nat.le_trans HB2.out.size (Nat.le_refl _)) (fun _ _ h => h)))
    have HCB2 := Aside0.mk (show kU8.C w2.drew A2 body.length body from Kd.C_below HCB.out HB2.out.drew)
    clear q2 q4
    refine rk_start (fun _ => False) (by kernel_rfl) (n := 13) (l := #[false, false, false, false, false, false, false, false, false, false, false, false, false]) (by kernel_rfl) (by kernel_rfl) ?_
    refine rk_take (fuel := 12) 0 rfl (by kernel_rfl) (listed' := #[true, false, false, false, false, false, false, false, false, false, false, false, false]) (by kernel_rfl) (fun _ _ _ h => h) (by kernel_rfl) (fun w' hR => by go_simp; first | done | with_reducible rfl) rfl ?_
    try simp only [Act.put, List.setIfInBounds_toArray, List.set_cons_zero, List.set_cons_succ]
    refine rk_take (fuel := 11) 1 rfl (by kernel_rfl) (listed' := #[true, true, false, false, false, false, false, false, false, false, false, false, false]) (by kernel_rfl) (fun _ _ _ h => h) (by kernel_rfl) (fun w' hR => by go_simp; first | done | with_reducible rfl) rfl ?_
    try simp only [Act.put, List.setIfInBounds_toArray, List.set_cons_zero, List.set_cons_succ]
    refine rk_take (fuel := 10) 2 rfl (by kernel_rfl) (listed' := #[true, true, true, false, false, false, false, false, false, false, false, false, false]) (by kernel_rfl) (fun _ _ _ h => h) (by kernel_rfl) (fun w' hR => by have x0 := HQK.out w' (HW5.out w' (HCUR.out.trans hR)); go_simp; first | done | with_reducible rfl) rfl ?_
    try simp only [Act.put, List.setIfInBounds_toArray, List.set_cons_zero, List.set_cons_succ]
    refine rk_take (fuel := 9) 3 rfl (by kernel_rfl) (listed' := #[true, true, true, true, false, false, false, false, false, false, false, false, false]) (by kernel_rfl) (fun _ _ _ h => h) (by kernel_rfl) (fun w' hR => by go_simp; first | done | with_reducible rfl) rfl ?_
    try simp only [Act.put, List.setIfInBounds_toArray, List.set_cons_zero, List.set_cons_succ]
    refine rk_take (fuel := 8) 6 rfl (by kernel_rfl) (listed' := #[true, true, true, true, false, false, true, false, false, false, false, false, false]) (by kernel_rfl) (fun _ _ _ h => h) (by kernel_rfl) (fun w' hR => by go_simp; first | done | with_reducible rfl) rfl ?_
    try simp only [Act.put, List.setIfInBounds_toArray, List.set_cons_zero, List.set_cons_succ]
    refine rk_take (fuel := 7) 7 rfl (by kernel_rfl) (listed' := #[true, true, true, true, false, false, true, true, false, false, false, false, false]) (by kernel_rfl) (fun _ _ _ h => h) (by kernel_rfl) (fun w' hR => by go_simp; first | done | with_reducible rfl) rfl ?_
    try simp only [Act.put, List.setIfInBounds_toArray, List.set_cons_zero, List.set_cons_succ]
    refine rk_take (fuel := 6) 8 rfl (by kernel_rfl) (listed' := #[true, true, true, true, false, false, true, true, true, false, false, false, false]) (by kernel_rfl) (fun _ _ _ h => h) (by kernel_rfl) (fun w' hR => by go_simp; first | done | with_reducible rfl) rfl ?_
    try simp only [Act.put, List.setIfInBounds_toArray, List.set_cons_zero, List.set_cons_succ]
    refine rk_take (fuel := 5) 9 rfl (by kernel_rfl) (listed' := #[true, true, true, true, false, false, true, true, true, true, false, false, false]) (by kernel_rfl) (fun _ _ _ h => h) (by kernel_rfl) (fun w' hR => by have y3 := wrI64 ((a : Int) + 4) (by omega) (by omega); go_simp; first | done | with_reducible rfl) rfl ?_
    try simp only [Act.put, List.setIfInBounds_toArray, List.set_cons_zero, List.set_cons_succ]
    refine rk_take (fuel := 4) 10 rfl (by kernel_rfl) (listed' := #[true, true, true, true, false, false, true, true, true, true, true, false, false]) (by kernel_rfl) (fun _ _ _ h => h) (by kernel_rfl) (fun w' hR => by go_simp; first | done | with_reducible rfl) rfl ?_
    try simp only [Act.put, List.setIfInBounds_toArray, List.set_cons_zero, List.set_cons_succ]
    refine rk_take (fuel := 3) 11 rfl (by kernel_rfl) (listed' := #[true, true, true, true, false, false, true, true, true, true, true, true, false]) (by kernel_rfl) (fun _ _ _ h => h) (by kernel_rfl) (fun w' hR => by have x0 := fun cp => C_str (c := cp) (Kd.C_below HC3.out (HW5.out w' (HCUR.out.trans hR))); go_simp; first | done | with_reducible rfl) rfl ?_
    try simp only [Act.put, List.setIfInBounds_toArray, List.set_cons_zero, List.set_cons_succ]
    refine rk_step (fuel := 2) 4 rfl (by kernel_rfl) (listed' := #[true, true, true, true, true, false, true, true, true, true, true, true, false]) (by kernel_rfl) (by kernel_rfl) (fun K' hK => ?_)
    go_wp2_with (first | (go_at_call 37; refine (check_calls k hkk0 hkk1 A2 _ body body.length rfl w2.drew HCB2.out hb14 HBYB.out).mono ?_; rintro e6 w6 ⟨g6, rfl, hC6, hb6⟩; have HC6 := Aside0.mk hC6; have HB7 := Aside0.mk (show Below w2.heap.size w2 w6 from (Below.refl w2.heap.size w2).drew.trans hb6); have HB6 := Aside0.mk (HB2.out.trans (HB7.out.mono HB2.out.size)); have HK6 := Aside0.mk (Keep.of_below (S := fun _ => False) hb6); clear hb6 hC6))
    refine hK.out _ _ HK6.out ?_
    clear hK K'
    try simp only [Act.put, List.setIfInBounds_toArray, List.set_cons_zero, List.set_cons_succ]
    refine rk_take (fuel := 1) 5 rfl (by kernel_rfl) (listed' := #[true, true, true, true, true, true, true, true, true, true, true, true, false]) (by kernel_rfl) (fun _ _ _ h => h) (by kernel_rfl) (fun w' hR => by have x0 := C_str (c := 4) (Kd.C_below HC6.out (hR.below (Nat.le_refl _) (fun _ _ h => h))); go_simp; first | done | with_reducible rfl) rfl ?_
    try simp only [Act.put, List.setIfInBounds_toArray, List.set_cons_zero, List.set_cons_succ]
    refine rk_take (fuel := 0) 12 rfl (by kernel_rfl) (listed' := #[true, true, true, true, true, true, true, true, true, true, true, true, true]) (by kernel_rfl) (fun _ _ _ h => h) (by kernel_rfl) (fun w' hR => by go_simp; first | done | with_reducible rfl) rfl ?_
    try simp only [Act.put, List.setIfInBounds_toArray, List.set_cons_zero, List.set_cons_succ]
    refine rk_done (by kernel_rfl) ?_
    go_wp2
    refine bodyPost_ret (results_tmp4 rfl _ _ _) rfl ?_
    rw [HT.out]
    exact ⟨none, 0, rfl, Nat.le_refl _, fun W _ => Kd.C_nil _ _, HB6.out⟩
  | true =>
    have heq : check k body = [y0, y1, y2, y3] := by have := HRES.out; rw [beq_iff_eq] at this; exact this
    have ht := HTT.out
    rw [if_neg (by rw [heq]; simp)] at ht
    have HT := Aside0.mk ht
    clear ht heq
    go_wp2_with (first | (go_at_call 60; rw [← hW]; refine (Lr.num_calls w.heap.size ad.block l10 0 _ HR1.out HBY10.out).mono ?_; rw [HN.out]; rintro e2 w2 ⟨rfl, hr2, hk2, hs2⟩; obtain ⟨q2, -⟩ := hr2.code; obtain ⟨A4, c4, q4, -, -, -, -, -, -⟩ := hr2.left; have HR2 := Aside0.mk hr2; have HB2 := Aside0.mk (Keep.below_then HBW.out hk2 HBW.out.size (fun i hi e => by omega)); clear hr2 hk2 hs2))
    have HCUR := Aside0.mk (Keep.refl (fun _ => False) w2.drew)
    have HW5 := Aside0.mk (show ∀ W, Keep (fun _ => False) w2.drew W → Below w.heap.size w W from fun W hW => HB2.out.drew.trans (hW.below (Nat.le_trans HB2.out.size (Nat.le_refl _)) (fun _ _ h => h)))
    have HCB2 := Aside0.mk (show kU8.C w2.drew A2 body.length body from Kd.C_below HCB.out HB2.out.drew)
    clear q2 q4
    refine rk_start (fun _ => False) (by kernel_rfl) (n := 13) (l := #[false, false, false, false, false, false, false, false, false, false, false, false, false]) (by kernel_rfl) (by kernel_rfl) ?_
    refine rk_take (fuel := 12) 0 rfl (by kernel_rfl) (listed' := #[true, false, false, false, false, false, false, false, false, false, false, false, false]) (by kernel_rfl) (fun _ _ _ h => h) (by kernel_rfl) (fun w' hR => by go_simp; first | done | with_reducible rfl) rfl ?_
    try simp only [Act.put, List.setIfInBounds_toArray, List.set_cons_zero, List.set_cons_succ]
    refine rk_take (fuel := 11) 1 rfl (by kernel_rfl) (listed' := #[true, true, false, false, false, false, false, false, false, false, false, false, false]) (by kernel_rfl) (fun _ _ _ h => h) (by kernel_rfl) (fun w' hR => by go_simp; first | done | with_reducible rfl) rfl ?_
    try simp only [Act.put, List.setIfInBounds_toArray, List.set_cons_zero, List.set_cons_succ]
    refine rk_take (fuel := 10) 2 rfl (by kernel_rfl) (listed' := #[true, true, true, false, false, false, false, false, false, false, false, false, false]) (by kernel_rfl) (fun _ _ _ h => h) (by kernel_rfl) (fun w' hR => by have x0 := HQK.out w' (HW5.out w' (HCUR.out.trans hR)); go_simp; first | done | with_reducible rfl) rfl ?_
    try simp only [Act.put, List.setIfInBounds_toArray, List.set_cons_zero, List.set_cons_succ]
    refine rk_take (fuel := 9) 3 rfl (by kernel_rfl) (listed' := #[true, true, true, true, false, false, false, false, false, false, false, false, false]) (by kernel_rfl) (fun _ _ _ h => h) (by kernel_rfl) (fun w' hR => by go_simp; first | done | with_reducible rfl) rfl ?_
    try simp only [Act.put, List.setIfInBounds_toArray, List.set_cons_zero, List.set_cons_succ]
    refine rk_take (fuel := 8) 6 rfl (by kernel_rfl) (listed' := #[true, true, true, true, false, false, true, false, false, false, false, false, false]) (by kernel_rfl) (fun _ _ _ h => h) (by kernel_rfl) (fun w' hR => by go_simp; first | done | with_reducible rfl) rfl ?_
    try simp only [Act.put, List.setIfInBounds_toArray, List.set_cons_zero, List.set_cons_succ]
    refine rk_take (fuel := 7) 7 rfl (by kernel_rfl) (listed' := #[true, true, true, true, false, false, true, true, false, false, false, false, false]) (by kernel_rfl) (fun _ _ _ h => h) (by kernel_rfl) (fun w' hR => by go_simp; first | done | with_reducible rfl) rfl ?_
    try simp only [Act.put, List.setIfInBounds_toArray, List.set_cons_zero, List.set_cons_succ]
    refine rk_take (fuel := 6) 8 rfl (by kernel_rfl) (listed' := #[true, true, true, true, false, false, true, true, true, false, false, false, false]) (by kernel_rfl) (fun _ _ _ h => h) (by kernel_rfl) (fun w' hR => by go_simp; first | done | with_reducible rfl) rfl ?_
    try simp only [Act.put, List.setIfInBounds_toArray, List.set_cons_zero, List.set_cons_succ]
    refine rk_take (fuel := 5) 9 rfl (by kernel_rfl) (listed' := #[true, true, true, true, false, false, true, true, true, true, false, false, false]) (by kernel_rfl) (fun _ _ _ h => h) (by kernel_rfl) (fun w' hR => by have y3 := wrI64 ((a : Int) + 4) (by omega) (by omega); go_simp; first | done | with_reducible rfl) rfl ?_
    try simp only [Act.put, List.setIfInBounds_toArray, List.set_cons_zero, List.set_cons_succ]
    refine rk_take (fuel := 4) 10 rfl (by kernel_rfl) (listed' := #[true, true, true, true, false, false, true, true, true, true, true, false, false]) (by kernel_rfl) (fun _ _ _ h => h) (by kernel_rfl) (fun w' hR => by go_simp; first | done | with_reducible rfl) rfl ?_
    try simp only [Act.put, List.setIfInBounds_toArray, List.set_cons_zero, List.set_cons_succ]
    refine rk_take (fuel := 3) 11 rfl (by kernel_rfl) (listed' := #[true, true, true, true, false, false, true, true, true, true, true, true, false]) (by kernel_rfl) (fun _ _ _ h => h) (by kernel_rfl) (fun w' hR => by have x0 := fun cp => C_str (c := cp) (Kd.C_below HC3.out (HW5.out w' (HCUR.out.trans hR))); go_simp; first | done | with_reducible rfl) rfl ?_
    try simp only [Act.put, List.setIfInBounds_toArray, List.set_cons_zero, List.set_cons_succ]
    refine rk_step (fuel := 2) 4 rfl (by kernel_rfl) (listed' := #[true, true, true, true, true, false, true, true, true, true, true, true, false]) (by kernel_rfl) (by kernel_rfl) (fun K' hK => ?_)
    go_wp2_with (first | (go_at_call 37; refine (check_calls k hkk0 hkk1 A2 _ body body.length rfl w2.drew HCB2.out hb14 HBYB.out).mono ?_; rintro e6 w6 ⟨g6, rfl, hC6, hb6⟩; have HC6 := Aside0.mk hC6; have HB7 := Aside0.mk (show Below w2.heap.size w2 w6 from (Below.refl w2.heap.size w2).drew.trans hb6); have HB6 := Aside0.mk (HB2.out.trans (HB7.out.mono HB2.out.size)); have HK6 := Aside0.mk (Keep.of_below (S := fun _ => False) hb6); clear hb6 hC6))
    refine hK.out _ _ HK6.out ?_
    clear hK K'
    try simp only [Act.put, List.setIfInBounds_toArray, List.set_cons_zero, List.set_cons_succ]
    refine rk_take (fuel := 1) 5 rfl (by kernel_rfl) (listed' := #[true, true, true, true, true, true, true, true, true, true, true, true, false]) (by kernel_rfl) (fun _ _ _ h => h) (by kernel_rfl) (fun w' hR => by have x0 := C_str (c := 4) (Kd.C_below HC6.out (hR.below (Nat.le_refl _) (fun _ _ h => h))); go_simp; first | done | with_reducible rfl) rfl ?_
    try simp only [Act.put, List.setIfInBounds_toArray, List.set_cons_zero, List.set_cons_succ]
    refine rk_take (fuel := 0) 12 rfl (by kernel_rfl) (listed' := #[true, true, true, true, true, true, true, true, true, true, true, true, true]) (by kernel_rfl) (fun _ _ _ h => h) (by kernel_rfl) (fun w' hR => by go_simp; first | done | with_reducible rfl) rfl ?_
    try simp only [Act.put, List.setIfInBounds_toArray, List.set_cons_zero, List.set_cons_succ]
    refine rk_done (by kernel_rfl) ?_
    have q1z := HQK.out _ HB6.out
    go_wp2
    refine bodyPost_ret (results_tmp4 rfl _ _ _) rfl ?_
    rw [HT.out]
    refine ⟨A2, _, ?_, hcp2, HCM2.out, HB6.out⟩
    rw [HSZ.out]
    rfl
end Go.Proofs.Ytfcpnjoiloahcaa.Gc
