/- What taking a frame comes to. -/
import Derived.Test.YtfcpnjoiloahcaaGe
import Derived.Test.YtfcpnjoiloahcaaLd
import Derived.Stop.BytesEq
import Derived.Test.YtfcpnjoiloahcaaK
namespace Go.Proofs.Ytfcpnjoiloahcaa.Gc
open Go.RowKit Go.Proofs.YtfcpnjoiloahcaaW.PrintWords Go.Proofs.YtfcpnjoiloahcaaW.PrintLast Go.Proofs.YtfcpnjoiloahcaaW.PrintMore Go.Proofs.Ytfcpnjoiloahcaa.B Go.Proofs.Ytfcpnjoiloahcaa.Ls Go.Proofs.Ytfcpnjoiloahcaa.Gs Go.Proofs.Ytfcpnjoiloahcaa.S Go.Proofs.Ytfcpnjoiloahcaa.R
set_option linter.unusedVariables false
set_option linter.unusedSimpArgs false
set_option maxRecDepth 100000
theorem results_tmp4 {fn : Func} {t u v x : Tmp} (h : fn.results = #[.tmp t, .tmp u, .tmp v, .tmp x]) (tmps : Array Value) (P : Program) (w : World) :
    (results fn tmps).run P w = .ok (.tuple #[tmps.getD t undef, tmps.getD u undef, tmps.getD v undef, tmps.getD x undef]) w := by
  simp [results, h]
theorem cell_of (x : Int) (h0 : 0 ≤ x) (h1 : x < 256) : Extern.Stop.cell (UInt8.ofNat x.toNat) = .int .u8 x := by
  simp only [Extern.Stop.cell, UInt8.toNat_ofNat']
  congr 1
  show ((x.toNat % 2 ^ 8 : Nat) : Int) = x
  omega
/-- Four bytes against four. -/
theorem eq_four (W : World) (xs ys : List Int) (hx : By xs) (hy : By ys) (lx : xs.length = 4) (ly : ys.length = 4) :
    (Op.equalIn 10000 104 (.agg (xs.map (Value.int .u8)).toArray) (.agg (ys.map (Value.int .u8)).toArray)).run Try.prog W = .ok (xs == ys) W := by
  have e : ∀ l : List Int, By l → (l.map fun n => UInt8.ofNat n.toNat).map Extern.Stop.cell = l.map (Value.int .u8) := fun l hl => by
    rw [List.map_map]
    exact List.map_congr_left (fun x hx => cell_of x (hl x hx).1 (hl x hx).2)
  rw [← e xs hx, ← e ys hy]
  have h := run_equalIn_bytes (P := Try.prog) W 9998 104 5 4 Try.underlying104 Try.underlying5 (fun w => by
    obtain ⟨i5, hi5, -, hi5s, -⟩ := info_ex infoU8
    simp [sizeOf, typeInfo, hi5, hi5s]) (xs.map fun n => UInt8.ofNat n.toNat) (ys.map fun n => UInt8.ofNat n.toNat) (by simpa using lx) (by simpa using ly)
  rw [h]
  congr 1
  rw [Bool.eq_iff_iff, beq_iff_eq, beq_iff_eq]
  exact ⟨fun h => str_inj xs ys hx hy (by unfold strOfNums; rw [h]), fun h => by rw [h]⟩
theorem takeL_eq {m k : Int} {r l10 left : List Int} {n cd : Int} (h10 : r.take 10 = l10) (hn : num l10 0 = (n, left, cd)) : takeL (m :: k :: r) =
    if m ≠ 111 then (0, [], 0, 7) else if cd ≠ 0 then (0, [], 0, cd) else if 65536 < n then (0, [], 0, 4) else
    if (r.length : Int) < (l10.length - left.length : Nat) + 4 + n then (0, [], 0, 3) else
    if check k ((r.drop (l10.length - left.length + 4)).take n.toNat) ≠ (r.drop (l10.length - left.length)).take 4 then (0, [], 0, 6) else
    (k, (r.drop (l10.length - left.length + 4)).take n.toNat, 2 + (l10.length - left.length : Nat) + 4 + n, 0) := by
  simp only [takeL, h10, hn]
theorem numGo_left (l0 : List Int) : ∀ (l : List Int) (i : Nat) (n : Int), l.length ≤ l0.length → (numGo l0 l i n).2.1.length ≤ l0.length
  | [], _, _, _ => by simp [numGo]
  | x :: r, i, n, h => by
    rw [List.length_cons] at h
    rw [numGo]
    split
    · exact Nat.le_refl _
    · split
      · show r.length ≤ _; omega
      · exact numGo_left l0 r _ _ (by omega)
theorem num_left (l : List Int) (c : Int) : (num l c).2.1.length ≤ l.length := by
  unfold num
  split
  · exact numGo_left l l 0 0 (Nat.le_refl _)
  · exact Nat.le_refl _
set_option maxHeartbeats 8000000 in
set_option maxRecDepth 100000 in
theorem take_calls (A : Option Addr) (c : Nat) (b : List Int) (w : World) (hC : kU8.C w A b.length b) (hc : b.length ≤ c) (hby : By b) (hl : b.length ≤ 1000000) :
    Calls Try.prog 36 #[.slice A b.length c] w fun e w' => ∃ v, e = .returned (.tuple #[.int .u8 (takeL b).1, v, .int .i64 (takeL b).2.2.1, .int .i64 (takeL b).2.2.2]) ∧ kU8.R 5 w' w.heap.size (fun _ => True) v (takeL b).2.1 ∧ Below w.heap.size w w' := by
  have HC := Aside0.mk hC
  have HBY := Aside0.mk hby
  by_cases hb2 : b.length < 2
  · have ht : takeL b = (0, [], 0, 3) := by
      match b, hb2 with
      | [], _ => rfl
      | [_], _ => rfl
      | _ :: _ :: _, h => simp at h; omega
    have HT := Aside0.mk ht
    clear ht hC hby
    go_enter Try.func36, Try.ntmps36
    go_wp2
    refine bodyPost_ret (results_tmp4 rfl _ _ _) rfl ?_
    rw [HT.out]
    exact ⟨_, rfl, Kd.R_nil _ _ _ _ _, Below.refl _ _⟩
  obtain ⟨m, k, r, hbr⟩ : ∃ m k r, b = m :: k :: r := by
    match b, hb2 with
    | [], h => simp at h
    | [_], h => simp at h
    | m :: k :: r, _ => exact ⟨m, k, r, rfl⟩
  obtain ⟨ad, rfl⟩ := C_some hC (by omega)
  have hrl : b.length = r.length + 2 := by rw [hbr]; rfl
  have q0 : w.cell? (ad.add 0) = some (.int .u8 m) := C_cell hC (by rw [hbr]; rfl)
  have q1 : w.cell? (ad.add 1) = some (.int .u8 k) := C_cell hC (by rw [hbr]; rfl)
  have ea : ad.add 0 = ad := by simp [Addr.add]
  have q0' : w.cell? ad = some (.int .u8 m) := by rw [← ea]; exact q0
  have hmk := hby m (by rw [hbr]; simp)
  have hkk := hby k (by rw [hbr]; simp)
  obtain ⟨l10, h10⟩ : ∃ l, r.take 10 = l := ⟨_, rfl⟩
  obtain ⟨n, left, cd, hn⟩ : ∃ n left cd, num l10 0 = (n, left, cd) := ⟨_, _, _, rfl⟩
  have HT := Aside0.mk (takeL_eq (m := m) (k := k) h10 hn)
  rw [← hbr] at HT
  by_cases hm : m = 111
  case neg =>
    have hmb : (m != 111) = true := bne_iff_ne.mpr hm
    have ht := HT.out
    rw [if_pos hm] at ht
    have HT := Aside0.mk ht
    clear ht hm hC hby hbr h10 hn
    go_enter Try.func36, Try.ntmps36
    go_wp2
    refine bodyPost_ret (results_tmp4 rfl _ _ _) rfl ?_
    rw [HT.out]
    exact ⟨_, rfl, Kd.R_nil _ _ _ _ _, Below.refl _ _⟩
  subst hm
  have ht := HT.out
  rw [if_neg (by simp)] at ht
  have HT := Aside0.mk ht
  clear ht
  have hnl := num_left l10 0
  have hnr := num_range l10 0 (by rw [← h10]; exact (fun x hx => hby x (by rw [hbr]; exact List.mem_cons_of_mem _ (List.mem_cons_of_mem _ (List.mem_of_mem_take hx)))))
  rw [hn] at hnl hnr
  obtain ⟨hn0, hn1⟩ := hnr
  simp only at hnl hn0 hn1
  have hl10 : l10.length = min 10 r.length := by rw [← h10, List.length_take]
  obtain ⟨e, he⟩ : ∃ e, min b.length 12 = e := ⟨_, rfl⟩
  have hel : e = 2 + l10.length := by omega
  have hmin : (if (12 : Int) < (b.length : Int) then 12 else (b.length : Int)) = (e : Int) := by split <;> omega
  obtain ⟨i5, hi5, -, hi5s, -⟩ := info_ex infoU8
  obtain ⟨A1, hrun1, hCm1, -, -⟩ := sl_mid kU8 24 5 .i64 .i64 Try.underlying24 hi5 (some ad) c b hi5s 2 (e : Int) (by decide) (by omega) (by omega) hc
  have hd : (b.take (e : Int).toNat).drop (2 : Int).toNat = l10 := by
    rw [Int.toNat_natCast, show (2 : Int).toNat = 2 from rfl, ← h10, hbr, show e = (e - 2) + 1 + 1 by omega, List.take_succ_cons, List.take_succ_cons]
    show r.take (e - 2) = r.take 10
    rcases Nat.le_total r.length 10 with h | h
    · rw [List.take_of_length_le (by omega), List.take_of_length_le h]
    · rw [show e - 2 = 10 by omega]
  rw [hd] at hrun1 hCm1
  have HC1 := Aside0.mk (hCm1 _ hC)
  have hl10b : l10.length ≤ 10 := by omega
  have HBY10 := Aside0.mk (show By l10 by rw [← h10]; exact fun x hx => hby x (by rw [hbr]; exact List.mem_cons_of_mem _ (List.mem_cons_of_mem _ (List.mem_of_mem_take hx))))
  have HN := Aside0.mk hn
  have hb2' : 2 ≤ b.length := by omega
  have he12 : e ≤ 12 := by omega
  have hle : left.length ≤ e := by omega
  have hmb : ((111 : Int) != 111) = false := by decide
  have HBR := Aside0.mk (And.intro hbr (And.intro hrl (And.intro hel hl10)))
  have HRB := Aside0.mk (show By r from fun x hx => hby x (by rw [hbr]; exact List.mem_cons_of_mem _ (List.mem_cons_of_mem _ hx)))
  clear hd hCm1 hn h10 he hbr hC hby hrl hel hl10
  by_cases hcd : cd = 0
  case neg =>
    have hcb : (cd != 0) = true := bne_iff_ne.mpr hcd
    have ht := HT.out
    rw [if_pos hcd] at ht
    have HT := Aside0.mk ht
    clear ht hcd
    go_enter Try.func36, Try.ntmps36
    go_wp2_with (first
      | (go_at_call 55; refine (Lc.new_calls A1 (c - 2) l10 _ HC1.out (by omega)).mono ?_; rintro e1 w1 ⟨g, b1, rfl, hr1, hb1, hg1, hbb, hbl⟩; have HR1 := Aside0.mk hr1; have HB1 := Aside0.mk hb1; clear hr1 hb1)
      | (go_at_call 56; refine (Lc.num_calls g b1 l10 0 _ HR1.out HBY10.out).mono ?_; rw [HN.out]; rintro e2 w2 ⟨rfl, hr2, hk2, hs2⟩; have HR2 := Aside0.mk hr2; have HK2 := Aside0.mk hk2; clear hr2 hk2)
      | (go_at_call 57; refine (Lc.code_calls g b1 left cd _ HR2.out).mono ?_; rintro e3 w3 ⟨rfl, rfl⟩))
    refine bodyPost_ret (results_tmp4 rfl _ _ _) rfl ?_
    rw [HT.out]
    exact ⟨_, rfl, Kd.R_nil _ _ _ _ _, Keep.below_then HB1.out HK2.out HB1.out.size (fun i hi e => by omega)⟩
  subst hcd
  have hcb : ((0 : Int) != 0) = false := by decide
  have ht := HT.out
  rw [if_neg (by simp)] at ht
  have HT := Aside0.mk ht
  clear ht
  by_cases h64 : 65536 < n
  · have ht := HT.out
    rw [if_pos h64] at ht
    have HT := Aside0.mk ht
    clear ht
    go_enter Try.func36, Try.ntmps36
    go_wp2_with (first
      | (go_at_call 55; refine (Lc.new_calls A1 (c - 2) l10 _ HC1.out (by omega)).mono ?_; rintro e1 w1 ⟨g, b1, rfl, hr1, hb1, hg1, hbb, hbl⟩; have HR1 := Aside0.mk hr1; have HB1 := Aside0.mk hb1; clear hr1 hb1)
      | (go_at_call 56; refine (Lc.num_calls g b1 l10 0 _ HR1.out HBY10.out).mono ?_; rw [HN.out]; rintro e2 w2 ⟨rfl, hr2, hk2, hs2⟩; have HR2 := Aside0.mk hr2; have HK2 := Aside0.mk hk2; clear hr2 hk2)
      | (go_at_call 57; refine (Lc.code_calls g b1 left 0 _ HR2.out).mono ?_; rintro e3 w3 ⟨rfl, rfl⟩))
    refine bodyPost_ret (results_tmp4 rfl _ _ _) rfl ?_
    rw [HT.out]
    exact ⟨_, rfl, Kd.R_nil _ _ _ _ _, Keep.below_then HB1.out HK2.out HB1.out.size (fun i hi e => by omega)⟩
  have ht := HT.out
  rw [if_neg h64] at ht
  have HT := Aside0.mk ht
  clear ht
  obtain ⟨nn, rfl⟩ : ∃ nn : Nat, n = nn := ⟨n.toNat, by omega⟩
  obtain ⟨u, hu⟩ : ∃ u, l10.length - left.length = u := ⟨_, rfl⟩
  rw [hu, Int.toNat_natCast] at HT
  obtain ⟨a, ha⟩ : ∃ a : Nat, a = 2 + u := ⟨_, rfl⟩
  have hea : e = a + left.length := by have := HBR.out; omega
  subst hea
  have hab : a ≤ 12 := by have := HBR.out; omega
  have hlf : left.length ≤ 12 := by omega
  have hnn : nn ≤ 65536 := by omega
  push_cast at hrun1 hmin
  have HA := Aside0.mk (And.intro ha hu)
  clear ha hu
  by_cases hsl : b.length < a + 4 + nn
  · have ht := HT.out
    rw [if_pos (by have h1 := HBR.out; have h2 := HA.out; omega)] at ht
    have HT := Aside0.mk ht
    have hsd : decide ((b.length : Int) < (a : Int) + 4 + (nn : Int)) = true := by simp; omega
    clear hsl hle hn1 hn0 hnl
    clear ht
    go_enter Try.func36, Try.ntmps36
    go_wp2_with (first
      | (go_at_call 55; refine (Lc.new_calls A1 (c - 2) l10 _ HC1.out (by omega)).mono ?_; rintro e1 w1 ⟨g, b1, rfl, hr1, hb1, hg1, hbb, hbl⟩; have HR1 := Aside0.mk hr1; have HB1 := Aside0.mk hb1; clear hr1 hb1)
      | (go_at_call 56; refine (Lc.num_calls g b1 l10 0 _ HR1.out HBY10.out).mono ?_; rw [HN.out]; rintro e2 w2 ⟨rfl, hr2, hk2, hs2⟩; have HR2 := Aside0.mk hr2; have HK2 := Aside0.mk hk2; clear hr2 hk2)
      | (go_at_call 57; refine (Lc.code_calls g b1 left 0 _ HR2.out).mono ?_; rintro e3 w3 ⟨rfl, rfl⟩)
      | (go_at_call 58; refine (Lc.left_calls g b1 left 0 _ HR2.out).mono ?_; rintro e4 w4 ⟨rfl, rfl⟩))
    refine bodyPost_ret (results_tmp4 rfl _ _ _) rfl ?_
    rw [HT.out]
    exact ⟨_, rfl, Kd.R_nil _ _ _ _ _, Keep.below_then HB1.out HK2.out HB1.out.size (fun i hi e => by omega)⟩
  have hbr := HBR.out.1
  have hrl := HBR.out.2.1
  obtain ⟨ha, hu⟩ := HA.out
  have hle2 : a + 4 + nn ≤ b.length := by omega
  obtain ⟨body, hbody⟩ : ∃ body, (r.drop (u + 4)).take nn = body := ⟨_, rfl⟩
  have hbl : body.length = nn := by rw [← hbody, List.length_take, List.length_drop]; omega
  have hbb : (b.take ((a : Int) + 4 + (nn : Int)).toNat).drop ((a : Int) + 4).toNat = body := by
    rw [← hbody, hbr, show ((a : Int) + 4 + (nn : Int)).toNat = (u + 4 + nn) + 1 + 1 by omega, show ((a : Int) + 4).toNat = (u + 4) + 1 + 1 by omega, List.take_succ_cons, List.take_succ_cons, List.drop_succ_cons, List.drop_succ_cons, List.drop_take]
    congr 1
    omega
  obtain ⟨A2, hrun2, hCm2, -, -⟩ := sl_mid kU8 24 5 .i64 .i64 Try.underlying24 hi5 (some ad) c b hi5s ((a : Int) + 4) ((a : Int) + 4 + (nn : Int)) (by omega) (by omega) (by omega) hc
  rw [hbb] at hrun2 hCm2
  have HCB := Aside0.mk (hCm2 _ HC.out)
  obtain ⟨y0, y1, y2, y3, hys⟩ : ∃ y0 y1 y2 y3, (r.drop u).take 4 = [y0, y1, y2, y3] := by
    have h4 : ((r.drop u).take 4).length = 4 := by rw [List.length_take, List.length_drop]; omega
    match (r.drop u).take 4, h4 with
    | [y0, y1, y2, y3], _ => exact ⟨y0, y1, y2, y3, rfl⟩
  have hyb : By [y0, y1, y2, y3] := by rw [← hys]; exact (HRB.out.drop _).take _
  have hb4 : (b.take ((a : Int) + 4).toNat).drop (a : Int).toNat = [y0, y1, y2, y3] := by
    rw [← hys, hbr, show ((a : Int) + 4).toNat = (u + 4) + 1 + 1 by omega, show (a : Int).toNat = u + 1 + 1 by omega, List.take_succ_cons, List.take_succ_cons, List.drop_succ_cons, List.drop_succ_cons, List.drop_take]
    congr 1
    omega
  obtain ⟨A3, hrun3, hCm3, -, -⟩ := sl_mid kU8 24 5 .i64 .i64 Try.underlying24 hi5 (some ad) c b hi5s (a : Int) ((a : Int) + 4) (by omega) (by omega) (by omega) hc
  rw [hb4] at hrun3 hCm3
  simp only [List.length_cons, List.length_nil, Nat.zero_add, Nat.reduceAdd] at hrun3
  have hC3 := hCm3 _ HC.out
  obtain ⟨ad3, rfl⟩ := C_some hC3 (by simp)
  have HC3 := Aside0.mk hC3
  have harr : ∀ (cp : Nat) (W : World), (Instr.arrayAt 104 (.slice (some ad3) 4 cp)).run Try.prog W = .ok (.pointer (some ad3)) W := fun cp W => by
    simp [Instr.arrayAt, run_underlying Try.underlying104]
  have HBYB := Aside0.mk (show By body by rw [← hbody]; exact (HRB.out.drop _).take _)
  have hsd : decide ((b.length : Int) < (a : Int) + 4 + (nn : Int)) = false := by simp; omega
  have ht := HT.out
  rw [if_neg (by omega), hbody, hys] at ht
  have HTT := Aside0.mk ht
  have hbodyb : body.length ≤ 65536 := by omega
  have hq1 : w.cell? ⟨ad.block, ad.off + 1, none⟩ = some (.int .u8 k) := q1
  have HQ := Aside0.mk hq1
  have hq1l : (⟨ad.block, ad.off + 1, none⟩ : Addr).block < w.heap.size := World.block_lt_of_cell? w _ q1
  have q1k : ∀ W, Below w.heap.size w W → W.cell? ⟨ad.block, ad.off + 1, none⟩ = some (.int .u8 k) := fun W hW => (hW.cell (p := ⟨ad.block, ad.off + 1, none⟩) hq1l).trans HQ.out
  have HQK := Aside0.mk q1k
  clear q1 hq1 q1k
  have hEQ := fun W => eq_four W (check k body) [y0, y1, y2, y3] (check_by k body) hyb rfl rfl
  have HE := Aside0.mk (show fourV k body = .agg #[.int .u8 (sumL (k :: body) % 256), .int .u8 (sumL (k :: body) / 256 % 256), .int .u8 (sumL (k :: body) / 65536 % 256), .int .u8 (sumL (k :: body) / 16777216)] from rfl)
  rw [check_eq] at hEQ
  obtain ⟨hkk0, hkk1⟩ := hkk
  have HSZ := Aside0.mk (show 2 + (u : Int) + 4 + (nn : Int) = (a : Int) + 4 + (nn : Int) by omega)
  have HCHK := Aside0.mk (check_eq k body)
  generalize sumL (k :: body) = sn at hEQ HE HCHK
  simp only [List.map_cons, List.map_nil] at hEQ
  clear ht hbr hrl ha hu hle2 hbody hbl hbb hCm2 hys hyb hb4 hCm3 hC3 hi5 hi5s hsl hle hn1 hn0 hnl q0 HT
  obtain ⟨res, hres⟩ : ∃ res, ([sn % 256, sn / 256 % 256, sn / 65536 % 256, sn / 16777216] == [y0, y1, y2, y3]) = res := ⟨_, rfl⟩
  rw [hres] at hEQ
  have HRES := Aside0.mk hres
  clear hres
  have hb1l : (1 : Int) < (b.length : Int) := by omega
  cases res with
  | false =>
    have hne : check k body ≠ [y0, y1, y2, y3] := fun e => by
      rw [HCHK.out] at e
      have := HRES.out
      rw [e] at this
      simp at this
    have ht := HTT.out
    rw [if_pos hne] at ht
    have HT := Aside0.mk ht
    clear ht hne
    go_enter Try.func36, Try.ntmps36
    go_wp2_with (first
      | (go_at_call 55; refine (Lc.new_calls A1 (c - 2) l10 _ HC1.out (by omega)).mono ?_; rintro e1 w1 ⟨g, b1, rfl, hr1, hb1, hg1, hbb, hbl⟩; have HR1 := Aside0.mk hr1; have HB1 := Aside0.mk hb1; clear hr1 hb1)
      | (go_at_call 56; refine (Lc.num_calls g b1 l10 0 _ HR1.out HBY10.out).mono ?_; rw [HN.out]; rintro e2 w2 ⟨rfl, hr2, hk2, hs2⟩; have HR2 := Aside0.mk hr2; have HB2 := Aside0.mk (Keep.below_then HB1.out hk2 HB1.out.size (fun i hi e => by omega)); clear hr2 hk2 hs2)
      | (go_at_call 57; refine (Lc.code_calls g b1 left 0 _ HR2.out).mono ?_; rintro e3 w3 ⟨rfl, rfl⟩)
      | (go_at_call 58; refine (Lc.left_calls g b1 left 0 _ HR2.out).mono ?_; rintro e4 w4 ⟨rfl, rfl⟩)
      | ((with_reducible refine gate_builtin (b := .append) (xs := #[.tmp 50, .tmp 55]) rfl ?_); at_builtin; refine Kd.R_append_rows (Kd.int .u8) (w0 := w2) w2.heap.size rfl (.tmp 50) (.tmp 55) 24 5 (.int .u8 0) 1 rfl Try.underlying24 infoU8 rfl (by decide) (by omega) (.slice (some ⟨w2.heap.size, 0, none⟩) 0 0) ([] : List Int) body _ _ _ (fun _ => True) (fun _ => False) rfl rfl ?aO ?aR (fun _ _ h => h) (fun _ h => h.elim) ?aF ?aB ?aS ?aL ?_; (case aR => exact Kd.C_alloc (Kd.C_below HCB.out HB2.out) _); (case aB => exact (Below.refl _ _).alloc (Nat.le_refl _) _); (case aF => exact (fun _ _ => trivial)); (case aO => exact R_lit0 kU8 5 w2); (case aS => simp); (case aL => (simp only [List.length_nil]; omega)); (intro v5 w5 ho5 hb5 hg hat; rw [List.nil_append] at ho5; obtain ⟨A5, c5, rfl, hlc5, hC5⟩ := Kd.R_reads ho5; have HO5 := Aside0.mk (Kd.R_lower (base' := w.heap.size) ho5 HB2.out.size); have HB5 := Aside0.mk (HB2.out.trans (hb5.mono HB2.out.size)); have HC5 := Aside0.mk hC5; clear ho5 hb5 hg hat hC5)))
    have HCUR := Aside0.mk (Keep.refl (fun _ => False) w5.drew)
    have HW5 := Aside0.mk (show ∀ W, Keep (fun _ => False) w5.drew W → Below w.heap.size w W from fun W hW => HB5.out.drew.trans (hW.below (Nat.le_trans HB5.out.size (Nat.le_refl _)) (fun _ _ h => h)))
    have HARR := Aside0.mk (show ∀ W, Below w.heap.size w W → W.cell? (ad3.add 0) = some (.int .u8 y0) ∧ W.cell? ad3 = some (.int .u8 y0) ∧ W.cell? ⟨ad3.block, ad3.off + 1, none⟩ = some (.int .u8 y1) ∧ W.cell? ⟨ad3.block, ad3.off + 2, none⟩ = some (.int .u8 y2) ∧ W.cell? ⟨ad3.block, ad3.off + 3, none⟩ = some (.int .u8 y3) from fun W hW => by
      have h := Kd.C_below HC3.out hW
      have e0 : ad3.add 0 = ad3 := by simp [Addr.add]
      refine ⟨C_cell h (j := 0) rfl, ?_, C_cell h (j := 1) rfl, C_cell h (j := 2) rfl, C_cell h (j := 3) rfl⟩
      rw [← e0]
      exact C_cell h (j := 0) rfl)
    refine rk_start (fun _ => False) (by kernel_rfl) (n := 13) (l := #[false, false, false, false, false, false, false, false, false, false, false, false, false]) (by kernel_rfl) (by kernel_rfl) ?_
    refine rk_take (fuel := 12) 0 rfl (by kernel_rfl) (listed' := #[true, false, false, false, false, false, false, false, false, false, false, false, false]) (by kernel_rfl) (fun _ _ _ h => h) (by kernel_rfl) (fun w' hR => by go_simp; first | done | with_reducible rfl) rfl ?_
    try simp only [Act.put, List.setIfInBounds_toArray, List.set_cons_zero, List.set_cons_succ]
    refine rk_take (fuel := 11) 1 rfl (by kernel_rfl) (listed' := #[true, true, false, false, false, false, false, false, false, false, false, false, false]) (by kernel_rfl) (fun _ _ _ h => h) (by kernel_rfl) (fun w' hR => by go_simp; first | done | with_reducible rfl) rfl ?_
    try simp only [Act.put, List.setIfInBounds_toArray, List.set_cons_zero, List.set_cons_succ]
    refine rk_take (fuel := 10) 2 rfl (by kernel_rfl) (listed' := #[true, true, true, false, false, false, false, false, false, false, false, false, false]) (by kernel_rfl) (fun _ _ _ h => h) (by kernel_rfl) (fun w' hR => by have x0 := HQK.out w' (HW5.out w' (HCUR.out.trans hR)); go_simp; first | done | with_reducible rfl) rfl ?_
    try simp only [Act.put, List.setIfInBounds_toArray, List.set_cons_zero, List.set_cons_succ]
    refine rk_take (fuel := 9) 3 rfl (by kernel_rfl) (listed' := #[true, true, true, true, false, false, false, false, false, false, false, false, false]) (by kernel_rfl) (fun _ _ _ h => h) (by kernel_rfl) (fun w' hR => by go_simp; first | done | with_reducible rfl) rfl ?_
    try simp only [Act.put, List.setIfInBounds_toArray, List.set_cons_zero, List.set_cons_succ]
    refine rk_take (fuel := 8) 5 rfl (by kernel_rfl) (listed' := #[true, true, true, true, false, true, false, false, false, false, false, false, false]) (by kernel_rfl) (fun _ _ _ h => h) (by kernel_rfl) (fun w' hR => by go_simp; first | done | with_reducible rfl) rfl ?_
    try simp only [Act.put, List.setIfInBounds_toArray, List.set_cons_zero, List.set_cons_succ]
    refine rk_take (fuel := 7) 6 rfl (by kernel_rfl) (listed' := #[true, true, true, true, false, true, true, false, false, false, false, false, false]) (by kernel_rfl) (fun _ _ _ h => h) (by kernel_rfl) (fun w' hR => by go_simp; first | done | with_reducible rfl) rfl ?_
    try simp only [Act.put, List.setIfInBounds_toArray, List.set_cons_zero, List.set_cons_succ]
    refine rk_take (fuel := 6) 7 rfl (by kernel_rfl) (listed' := #[true, true, true, true, false, true, true, true, false, false, false, false, false]) (by kernel_rfl) (fun _ _ _ h => h) (by kernel_rfl) (fun w' hR => by go_simp; first | done | with_reducible rfl) rfl ?_
    try simp only [Act.put, List.setIfInBounds_toArray, List.set_cons_zero, List.set_cons_succ]
    refine rk_take (fuel := 5) 8 rfl (by kernel_rfl) (listed' := #[true, true, true, true, false, true, true, true, true, false, false, false, false]) (by kernel_rfl) (fun _ _ _ h => h) (by kernel_rfl) (fun w' hR => by have y3 := wrI64 ((a : Int) + 4) (by omega) (by omega); go_simp; first | done | with_reducible rfl) rfl ?_
    try simp only [Act.put, List.setIfInBounds_toArray, List.set_cons_zero, List.set_cons_succ]
    refine rk_take (fuel := 4) 9 rfl (by kernel_rfl) (listed' := #[true, true, true, true, false, true, true, true, true, true, false, false, false]) (by kernel_rfl) (fun _ _ _ h => h) (by kernel_rfl) (fun w' hR => by go_simp; first | done | with_reducible rfl) rfl ?_
    try simp only [Act.put, List.setIfInBounds_toArray, List.set_cons_zero, List.set_cons_succ]
    refine rk_take (fuel := 3) 10 rfl (by kernel_rfl) (listed' := #[true, true, true, true, false, true, true, true, true, true, true, false, false]) (by kernel_rfl) (fun _ _ _ h => h) (by kernel_rfl) (fun w' hR => by go_simp; first | done | with_reducible rfl) rfl ?_
    try simp only [Act.put, List.setIfInBounds_toArray, List.set_cons_zero, List.set_cons_succ]
    refine rk_take (fuel := 2) 11 rfl (by kernel_rfl) (listed' := #[true, true, true, true, false, true, true, true, true, true, true, true, false]) (by kernel_rfl) (fun _ _ _ h => h) (by kernel_rfl) (fun w' hR => by obtain ⟨x0, x1, x2, x3, x4⟩ := HARR.out w' (HW5.out w' (HCUR.out.trans hR)); go_simp; first | done | with_reducible rfl) rfl ?_
    try simp only [Act.put, List.setIfInBounds_toArray, List.set_cons_zero, List.set_cons_succ]
    refine rk_step (fuel := 1) 4 rfl (by kernel_rfl) (listed' := #[true, true, true, true, true, true, true, true, true, true, true, true, false]) (by kernel_rfl) (by kernel_rfl) (fun K' hK => ?_)
    go_wp2_with (first | (go_at_call 54; refine (four_calls k hkk0 hkk1 A5 c5 body _ (Kd.C_drew HC5.out) hlc5 HBYB.out).mono ?_; rw [HE.out]; rintro e6 w6 ⟨rfl, hb6⟩; have HB7 := Aside0.mk (show Below w5.heap.size w5 w6 from (Below.refl w5.heap.size w5).drew.trans hb6); have HB6 := Aside0.mk (HB5.out.trans (HB7.out.mono HB5.out.size)); have HK6 := Aside0.mk (Keep.of_below (S := fun _ => False) hb6); clear hb6))
    refine hK.out _ _ HK6.out ?_
    clear hK K'
    try simp only [Act.put, List.setIfInBounds_toArray, List.set_cons_zero, List.set_cons_succ]
    refine rk_take (fuel := 0) 12 rfl (by kernel_rfl) (listed' := #[true, true, true, true, true, true, true, true, true, true, true, true, true]) (by kernel_rfl) (fun _ _ _ h => h) (by kernel_rfl) (fun w' hR => by go_simp; first | done | with_reducible rfl) rfl ?_
    try simp only [Act.put, List.setIfInBounds_toArray, List.set_cons_zero, List.set_cons_succ]
    refine rk_done (by kernel_rfl) ?_
    go_wp2
    refine bodyPost_ret (results_tmp4 rfl _ _ _) rfl ?_
    rw [HT.out]
    exact ⟨_, rfl, Kd.R_nil _ _ _ _ _, HB6.out⟩
  | true =>
    have heq : check k body = [y0, y1, y2, y3] := by
      rw [HCHK.out]
      exact beq_iff_eq.mp HRES.out
    have ht := HTT.out
    rw [if_neg (by rw [heq]; simp)] at ht
    have HT := Aside0.mk ht
    clear ht heq
    go_enter Try.func36, Try.ntmps36
    go_wp2_with (first
      | (go_at_call 55; refine (Lc.new_calls A1 (c - 2) l10 _ HC1.out (by omega)).mono ?_; rintro e1 w1 ⟨g, b1, rfl, hr1, hb1, hg1, hbb, hbl⟩; have HR1 := Aside0.mk hr1; have HB1 := Aside0.mk hb1; clear hr1 hb1)
      | (go_at_call 56; refine (Lc.num_calls g b1 l10 0 _ HR1.out HBY10.out).mono ?_; rw [HN.out]; rintro e2 w2 ⟨rfl, hr2, hk2, hs2⟩; have HR2 := Aside0.mk hr2; have HB2 := Aside0.mk (Keep.below_then HB1.out hk2 HB1.out.size (fun i hi e => by omega)); clear hr2 hk2 hs2)
      | (go_at_call 57; refine (Lc.code_calls g b1 left 0 _ HR2.out).mono ?_; rintro e3 w3 ⟨rfl, rfl⟩)
      | (go_at_call 58; refine (Lc.left_calls g b1 left 0 _ HR2.out).mono ?_; rintro e4 w4 ⟨rfl, rfl⟩)
      | ((with_reducible refine gate_builtin (b := .append) (xs := #[.tmp 50, .tmp 55]) rfl ?_); at_builtin; refine Kd.R_append_rows (Kd.int .u8) (w0 := w2) w2.heap.size rfl (.tmp 50) (.tmp 55) 24 5 (.int .u8 0) 1 rfl Try.underlying24 infoU8 rfl (by decide) (by omega) (.slice (some ⟨w2.heap.size, 0, none⟩) 0 0) ([] : List Int) body _ _ _ (fun _ => True) (fun _ => False) rfl rfl ?aO ?aR (fun _ _ h => h) (fun _ h => h.elim) ?aF ?aB ?aS ?aL ?_; (case aR => exact Kd.C_alloc (Kd.C_below HCB.out HB2.out) _); (case aB => exact (Below.refl _ _).alloc (Nat.le_refl _) _); (case aF => exact (fun _ _ => trivial)); (case aO => exact R_lit0 kU8 5 w2); (case aS => simp); (case aL => (simp only [List.length_nil]; omega)); (intro v5 w5 ho5 hb5 hg hat; rw [List.nil_append] at ho5; obtain ⟨A5, c5, rfl, hlc5, hC5⟩ := Kd.R_reads ho5; have HO5 := Aside0.mk (Kd.R_lower (base' := w.heap.size) ho5 HB2.out.size); have HB5 := Aside0.mk (HB2.out.trans (hb5.mono HB2.out.size)); have HC5 := Aside0.mk hC5; clear ho5 hb5 hg hat hC5)))
    have HCUR := Aside0.mk (Keep.refl (fun _ => False) w5.drew)
    have HW5 := Aside0.mk (show ∀ W, Keep (fun _ => False) w5.drew W → Below w.heap.size w W from fun W hW => HB5.out.drew.trans (hW.below (Nat.le_trans HB5.out.size (Nat.le_refl _)) (fun _ _ h => h)))
    have HARR := Aside0.mk (show ∀ W, Below w.heap.size w W → W.cell? (ad3.add 0) = some (.int .u8 y0) ∧ W.cell? ad3 = some (.int .u8 y0) ∧ W.cell? ⟨ad3.block, ad3.off + 1, none⟩ = some (.int .u8 y1) ∧ W.cell? ⟨ad3.block, ad3.off + 2, none⟩ = some (.int .u8 y2) ∧ W.cell? ⟨ad3.block, ad3.off + 3, none⟩ = some (.int .u8 y3) from fun W hW => by
      have h := Kd.C_below HC3.out hW
      have e0 : ad3.add 0 = ad3 := by simp [Addr.add]
      refine ⟨C_cell h (j := 0) rfl, ?_, C_cell h (j := 1) rfl, C_cell h (j := 2) rfl, C_cell h (j := 3) rfl⟩
      rw [← e0]
      exact C_cell h (j := 0) rfl)
    refine rk_start (fun _ => False) (by kernel_rfl) (n := 13) (l := #[false, false, false, false, false, false, false, false, false, false, false, false, false]) (by kernel_rfl) (by kernel_rfl) ?_
    refine rk_take (fuel := 12) 0 rfl (by kernel_rfl) (listed' := #[true, false, false, false, false, false, false, false, false, false, false, false, false]) (by kernel_rfl) (fun _ _ _ h => h) (by kernel_rfl) (fun w' hR => by go_simp; first | done | with_reducible rfl) rfl ?_
    try simp only [Act.put, List.setIfInBounds_toArray, List.set_cons_zero, List.set_cons_succ]
    refine rk_take (fuel := 11) 1 rfl (by kernel_rfl) (listed' := #[true, true, false, false, false, false, false, false, false, false, false, false, false]) (by kernel_rfl) (fun _ _ _ h => h) (by kernel_rfl) (fun w' hR => by go_simp; first | done | with_reducible rfl) rfl ?_
    try simp only [Act.put, List.setIfInBounds_toArray, List.set_cons_zero, List.set_cons_succ]
    refine rk_take (fuel := 10) 2 rfl (by kernel_rfl) (listed' := #[true, true, true, false, false, false, false, false, false, false, false, false, false]) (by kernel_rfl) (fun _ _ _ h => h) (by kernel_rfl) (fun w' hR => by have x0 := HQK.out w' (HW5.out w' (HCUR.out.trans hR)); go_simp; first | done | with_reducible rfl) rfl ?_
    try simp only [Act.put, List.setIfInBounds_toArray, List.set_cons_zero, List.set_cons_succ]
    refine rk_take (fuel := 9) 3 rfl (by kernel_rfl) (listed' := #[true, true, true, true, false, false, false, false, false, false, false, false, false]) (by kernel_rfl) (fun _ _ _ h => h) (by kernel_rfl) (fun w' hR => by go_simp; first | done | with_reducible rfl) rfl ?_
    try simp only [Act.put, List.setIfInBounds_toArray, List.set_cons_zero, List.set_cons_succ]
    refine rk_take (fuel := 8) 5 rfl (by kernel_rfl) (listed' := #[true, true, true, true, false, true, false, false, false, false, false, false, false]) (by kernel_rfl) (fun _ _ _ h => h) (by kernel_rfl) (fun w' hR => by go_simp; first | done | with_reducible rfl) rfl ?_
    try simp only [Act.put, List.setIfInBounds_toArray, List.set_cons_zero, List.set_cons_succ]
    refine rk_take (fuel := 7) 6 rfl (by kernel_rfl) (listed' := #[true, true, true, true, false, true, true, false, false, false, false, false, false]) (by kernel_rfl) (fun _ _ _ h => h) (by kernel_rfl) (fun w' hR => by go_simp; first | done | with_reducible rfl) rfl ?_
    try simp only [Act.put, List.setIfInBounds_toArray, List.set_cons_zero, List.set_cons_succ]
    refine rk_take (fuel := 6) 7 rfl (by kernel_rfl) (listed' := #[true, true, true, true, false, true, true, true, false, false, false, false, false]) (by kernel_rfl) (fun _ _ _ h => h) (by kernel_rfl) (fun w' hR => by go_simp; first | done | with_reducible rfl) rfl ?_
    try simp only [Act.put, List.setIfInBounds_toArray, List.set_cons_zero, List.set_cons_succ]
    refine rk_take (fuel := 5) 8 rfl (by kernel_rfl) (listed' := #[true, true, true, true, false, true, true, true, true, false, false, false, false]) (by kernel_rfl) (fun _ _ _ h => h) (by kernel_rfl) (fun w' hR => by have y3 := wrI64 ((a : Int) + 4) (by omega) (by omega); go_simp; first | done | with_reducible rfl) rfl ?_
    try simp only [Act.put, List.setIfInBounds_toArray, List.set_cons_zero, List.set_cons_succ]
    refine rk_take (fuel := 4) 9 rfl (by kernel_rfl) (listed' := #[true, true, true, true, false, true, true, true, true, true, false, false, false]) (by kernel_rfl) (fun _ _ _ h => h) (by kernel_rfl) (fun w' hR => by go_simp; first | done | with_reducible rfl) rfl ?_
    try simp only [Act.put, List.setIfInBounds_toArray, List.set_cons_zero, List.set_cons_succ]
    refine rk_take (fuel := 3) 10 rfl (by kernel_rfl) (listed' := #[true, true, true, true, false, true, true, true, true, true, true, false, false]) (by kernel_rfl) (fun _ _ _ h => h) (by kernel_rfl) (fun w' hR => by go_simp; first | done | with_reducible rfl) rfl ?_
    try simp only [Act.put, List.setIfInBounds_toArray, List.set_cons_zero, List.set_cons_succ]
    refine rk_take (fuel := 2) 11 rfl (by kernel_rfl) (listed' := #[true, true, true, true, false, true, true, true, true, true, true, true, false]) (by kernel_rfl) (fun _ _ _ h => h) (by kernel_rfl) (fun w' hR => by obtain ⟨x0, x1, x2, x3, x4⟩ := HARR.out w' (HW5.out w' (HCUR.out.trans hR)); go_simp; first | done | with_reducible rfl) rfl ?_
    try simp only [Act.put, List.setIfInBounds_toArray, List.set_cons_zero, List.set_cons_succ]
    refine rk_step (fuel := 1) 4 rfl (by kernel_rfl) (listed' := #[true, true, true, true, true, true, true, true, true, true, true, true, false]) (by kernel_rfl) (by kernel_rfl) (fun K' hK => ?_)
    go_wp2_with (first | (go_at_call 54; refine (four_calls k hkk0 hkk1 A5 c5 body _ (Kd.C_drew HC5.out) hlc5 HBYB.out).mono ?_; rw [HE.out]; rintro e6 w6 ⟨rfl, hb6⟩; have HB7 := Aside0.mk (show Below w5.heap.size w5 w6 from (Below.refl w5.heap.size w5).drew.trans hb6); have HB6 := Aside0.mk (HB5.out.trans (HB7.out.mono HB5.out.size)); have HK6 := Aside0.mk (Keep.of_below (S := fun _ => False) hb6); clear hb6))
    refine hK.out _ _ HK6.out ?_
    clear hK K'
    try simp only [Act.put, List.setIfInBounds_toArray, List.set_cons_zero, List.set_cons_succ]
    refine rk_take (fuel := 0) 12 rfl (by kernel_rfl) (listed' := #[true, true, true, true, true, true, true, true, true, true, true, true, true]) (by kernel_rfl) (fun _ _ _ h => h) (by kernel_rfl) (fun w' hR => by go_simp; first | done | with_reducible rfl) rfl ?_
    try simp only [Act.put, List.setIfInBounds_toArray, List.set_cons_zero, List.set_cons_succ]
    refine rk_done (by kernel_rfl) ?_
    have q1z := HQK.out _ HB6.out
    go_wp2
    refine bodyPost_ret (results_tmp4 rfl _ _ _) rfl ?_
    rw [HT.out]
    refine ⟨_, ?_, Kd.R_below HO5.out HB7.out, HB6.out⟩
    rw [HSZ.out]
    rfl
end Go.Proofs.Ytfcpnjoiloahcaa.Gc
